/- block.once: the first requests of each client and number: walked. -/
import Derived.Test.YtnomgkmeomlccaaMkOd
import Derived.LoopTactic
set_option linter.unusedVariables false
set_option linter.unusedSimpArgs false
namespace Go.Proofs.Ytnomgkmeomlccaa.Blk
open Go.RowKit Go.Sort Rd Api Own Mv App Num Dig
open Del (Dl kp kp_none kp_yes kp_no kp_lt dl_of grown_setCells)

def rkey (x : Rq) : Int × Int := (x.c, x.s)
/-- is one of the client and number ahead of it? -/
def seen (l : List Rq) (j : Nat) : Bool := match l[j]? with
  | some x => decide (rkey x ∈ (l.take j).map rkey)
  | none => false
theorem seen_at {l : List Rq} {j : Nat} {x : Rq} (h : l[j]? = some x) : seen l j = decide (rkey x ∈ (l.take j).map rkey) := by unfold seen; rw [h]
/-- the first ones of each client and number -/
def firsts (l : List Rq) : List Rq := kp (seen l) l l.length
theorem own_emptyR (W : World) (e : TypeId) : OwnR fR 3 (W.alloc (.cells #[] e)) 0 e (.slice (some ⟨W.heap.size, 0, none⟩) 0 0) [] :=
  ⟨rfl, .inr ⟨W.heap.size, 0, #[], rfl, Nat.zero_le _, blk_new W _, Nat.le_refl _, by unfold maxLen; omega, rfl, rfl⟩⟩
set_option maxHeartbeats 4000000 in
set_option maxRecDepth 100000 in
theorem clone_any (W : World) (A : Option Addr) (c : Nat) (l : List Rq) (h : Sl rqN W A c l) (hnil : A = none → c = 0) (hlen : l.length ≤ 1000) (n : Nat) (hn : n = l.length) :
    Calls Try.prog 92 #[.slice A n c] W fun e w' => ∃ v', e = .returned v' ∧ OwnR fR 3 w' 0 47 v' l ∧ (∀ k, v'.ownBlock = some k → W.heap.size ≤ k) ∧ Below W.heap.size W w' := by
  subst hn
  cases A with
  | none =>
    obtain rfl := hnil rfl
    have hy : l = [] := List.eq_nil_of_length_eq_zero (by have := h.le; omega)
    subst hy
    have hnl := fun W1 a n c => Go.run_eql_slice_nil (P := Try.prog) W1 33 47 a n c Try.underlying33
    go_enter Try.func92, Try.ntmps92
    go_wp2
    go_ret
    exact ⟨_, rfl, OwnR.nil _ _ _ _ _, fun k hk => (by simp [Value.ownBlock] at hk), Below.refl _ _⟩
  | some ad =>
    have HR := Sd.mk (h.row.below (below_one W (.cells #[] 47)))
    have HE := Sd.mk (own_emptyR W 47)
    have HB := Sd.mk (below_one W (.cells #[] 47))
    clear h
    have hnl := fun W1 a n c => Go.run_eql_slice_nil (P := Try.prog) W1 33 47 a n c Try.underlying33
    go_enter Try.func92, Try.ntmps92
    go_wp2_with (first
      | (at_builtin; refine appends_at (d := rqN) (f := fR) (n := 3) (fun _ _ _ => Iff.rfl) rfl (fun _ => rfl) fR_one rfl (.tmp 5) (.tmp 6) 33 47 (.agg #[.int .i64 0, .int .i64 0, .string ByteArray.empty]) 32 rfl Try.underlying33 info_rq rfl (by decide) (.slice (some ⟨W.heap.size, 0, none⟩) 0 0) [] l (some ad) c rfl rfl HR.out (fun e => by cases e) HE.out (by simp; omega) (by simp; omega) ?_; intro v1 w1 hown hg hob; have HO := Sd.mk hown; have HG := Sd.mk hg; have HQ := Sd.mk hob; clear hown hg hob))
    go_ret
    refine ⟨v1, rfl, by have := HO.out; simpa using this, ?_, below_grown HB.out HG.out (by simp) (fun k e => by simp [Value.ownBlock] at e; omega)⟩
    intro k hk
    rcases HQ.out with e | e
    · rw [hk] at e; simp [Value.ownBlock] at e; omega
    · rw [hk] at e; simp at e; omega
theorem Ms.row {b Bv g : Nat} {ks : List (Int × Int)} {W W1 : World} (h : Ms b Bv ks W) (hg : W.grownBy W1 (some g)) (ht : ∃ cur, W.heap[g]? = some (.cells cur 47 (0, 0))) : Ms b Bv ks W1 := by
  obtain ⟨cur, ht⟩ := ht
  obtain ⟨es, ck, hb, hr⟩ := h.mc.h
  refine ⟨⟨es, ck, blk_grown hb hg (fun e => ?_), hr⟩, blk_grown h.cell hg (fun e => ?_)⟩
  · rw [Option.some.inj e, hb] at ht; cases ht
  · rw [Option.some.inj e, h.cell] at ht; simp at ht
/-- a list of requests that a call has made of its own -/
structure Ro (w : World) (v : Value) (l : List Rq) (W : World) : Prop where
  own : OwnR fR 3 W 0 47 v l
  new : ∀ k, v.ownBlock = some k → w.heap.size ≤ k
  bel : RowKit.Below w.heap.size w W
theorem Ro.below {w W W1 : World} {v : Value} {l : List Rq} (h : Ro w v l W) (hb : RowKit.Below W.heap.size W W1) : Ro w v l W1 := ⟨h.own.below hb, h.new, below_then h.bel hb⟩
set_option maxHeartbeats 1000000 in
theorem dels_any {w W : World} {b Bv : Nat} {A : Option Addr} {m c : Nat} {l : List Rq} (hl : l.length ≤ 1000) (hI : ∀ x ∈ l, IsI64 x.c ∧ IsI64 x.s) (hm : m = l.length) (hs : Ms b Bv [] W) (hb : w.heap.size ≤ b) (ho : Ro w (.slice A m c) l W) :
    Calls Try.prog 91 #[.slice A m c, .func (.func 93) #[] #[.pointer (some ⟨Bv, 0, none⟩)]] W fun e w' => ∃ v, e = .returned v ∧ Ro w v (firsts l) w' := by
  rcases dl_of (f := fR) (k := 3) (fun _ => rfl) ho.own ho.new ho.bel (seen l) with ⟨rfl, rfl, rfl, rfl⟩ | ⟨gv, rfl, h1, h2, h3, hd⟩
  · exact (delnil_reqs _ W).mono fun e w' ⟨he, hw⟩ => ⟨_, he, OwnR.nil _ _ _ _ _, fun k hk => by simp [Value.ownBlock] at hk, by rw [hw]; exact ho.bel⟩
  · have hgv := ho.new gv rfl
    have hne : some b ≠ some gv := fun e => by
      obtain ⟨es, ck, hbb, -⟩ := hs.mc.h
      obtain ⟨cur, hg⟩ := hd.ty
      rw [← Option.some.inj e, hbb] at hg
      cases hg
    refine (del_reqs (C := fun j W => Ms b Bv ((l.take j).map rkey) W) (row := some b) (dec := seen l) (ss := l) (cap := .pointer (some ⟨Bv, 0, none⟩)) ?_ hne (fun i e => by obtain rfl := Option.some.inj e; exact hb) (fun j W hC i e => by obtain rfl := Option.some.inj e; obtain ⟨es, ck, hbb, -⟩ := hC.mc.h; exact blk_lt' hbb) (fun j W W' hC hg ht => hC.row hg ht) m hm h2 h3 hd (by simpa using hs)).mono ?_
    · intro j x W1 hx hC
      have hxI := hI x (List.mem_of_getElem? hx)
      refine (once1_any hC x hxI.1 hxI.2 (by rw [List.length_map, List.length_take]; omega) (seen l j) (seen_at hx).symm).mono ?_
      rintro e w' ⟨he, hms, hg⟩
      refine ⟨he, ?_, hg⟩
      rw [List.take_add_one, hx, List.map_append]
      exact hms
    · rintro e w' ⟨p, he, hp, hpm, hown, hC, hbe⟩
      exact ⟨_, he, by rw [firsts, ← hm]; exact hown, fun k hk => by simp [Value.ownBlock] at hk; omega, hbe⟩
set_option maxHeartbeats 4000000 in
set_option maxRecDepth 100000 in
theorem once_any (w : World) (A : Option Addr) (c : Nat) (l : List Rq) (h : Sl rqN w A c l) (hnil : A = none → c = 0) (hlen : l.length ≤ 1000) (hI : ∀ x ∈ l, IsI64 x.c ∧ IsI64 x.s) (n : Nat) (hn : n = l.length) :
    Calls Try.prog 60 #[.slice A n c] w fun e w' => ∃ v, e = .returned v ∧ Ro w v (firsts l) w' := by
  have b0 := below_one w (.map #[] 0)
  have b1 := below_one (w.alloc (.map #[] 0)) (.cells #[.map (some w.heap.size)] 137)
  have HB := Sd.mk (below_then b0 b1)
  have HM := Sd.mk (show Ms w.heap.size (w.heap.size + 1) [] ((w.alloc (.map #[] 0)).alloc (.cells #[.map (some w.heap.size)] 137)) from ⟨⟨#[], 0, blk_keep (blk_new w _) b1, ⟨by simp, by simp, by simp⟩, by simp, by simp⟩, blk_new1 _ _ _⟩)
  have HC := Sd.mk (clone_any _ A c l (h.below (below_then b0 b1)) hnil hlen n hn)
  have HI := Sd.mk hI
  clear h b0 b1 hI hn
  have hmm := @run_makeMap Try.prog
  go_enter Try.func60, Try.ntmps60
  go_upto_region 2 with (fail)
  generalize hk1 : w.heap.size + 1 = Bv at HM ⊢
  generalize (w.alloc _).alloc _ = W1 at HM HB HC ⊢
  go_wp2_with (first
    | (go_at_call 92; (with_reducible refine HC.out.mono ?_); rintro e w2 ⟨v', rfl, ho, hq, hb⟩; obtain ⟨A6, c6, rfl⟩ := OwnR.slice ho; have HD := Sd.mk (dels_any (w := w) hlen HI.out rfl (HM.out.below hb) (Nat.le_refl _) ⟨ho, fun k hk => Nat.le_trans HB.out.size (hq k hk), below_then HB.out hb⟩); clear ho hq hb)
    | (go_at_call 91; (refine HD.out.mono ?_); rintro e w3 ⟨v, rfl, ho⟩; have HO := Sd.mk ho; clear ho))
  go_ret
  exact ⟨v, rfl, HO.out⟩
end Go.Proofs.Ytnomgkmeomlccaa.Blk

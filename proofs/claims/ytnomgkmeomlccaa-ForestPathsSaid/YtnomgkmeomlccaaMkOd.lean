/- slices.DeleteFunc on requests; block.once: walked. block.once: the first requests of each client and number: walked. -/
import Derived.Test.YtnomgkmeomlccaaMet
import Derived.Test.YtnomgkmeomlccaaDel
import Derived.Test.YtnomgkmeomlccaaApp
import Derived.LoopTactic
set_option linter.unusedVariables false
set_option linter.unusedSimpArgs false
namespace Go.Proofs.Ytnomgkmeomlccaa.Blk
open Go.RowKit Go.Sort Rd Api Own Mv App Num Dig
open Del (Dl kp kp_none kp_yes kp_no kp_lt dl_of grown_setCells)

theorem zeroRq (w : World) : (zeroValue 47).run Try.prog w = .ok (.agg #[.int .i64 0, .int .i64 0, .string ByteArray.empty]) w := by kernel_rfl
open Del (run_clear_k)
set_option maxHeartbeats 8000000 in
set_option maxRecDepth 100000 in
theorem idx_reqs {C : Nat → World → Prop} {row : Option Nat} {W0 : World} {B0 g c sz : Nat} {dec : Nat → Bool} {ss : List Rq} {cap : Value} (hclo : ∀ (j : Nat) (x : Rq) (W : World), ss[j]? = some x → C j W → Calls Try.prog 93 #[.agg #[.int .i64 x.c, .int .i64 x.s, .string x.b], cap] W fun e w' => e = .returned (.bool (dec j)) ∧ C (j + 1) w' ∧ W.grownBy w' row) (hr : row ≠ some g) (hB : ∀ i, row = some i → B0 ≤ i) (m : Nat) (hm : m = ss.length) (hc : m ≤ c) (hc2 : c ≤ 9223372036854775807) {w : World} (h : Dl fR 3 W0 B0 g 47 sz dec ss 0 w) (hC : C 0 w) :
    Calls Try.prog 120 #[.slice (some ⟨g, 0, none⟩) m c, .func (.func 93) #[] #[cap]] w fun e w' => Dl fR 3 W0 B0 g 47 sz dec ss 0 w' ∧ ((e = .returned (.int .i64 (-1)) ∧ (∀ i, i < m → dec i = false) ∧ C m w') ∨ ∃ k, e = .returned (.int .i64 (k : Nat)) ∧ k < m ∧ dec k = true ∧ (∀ i, i < k → dec i = false) ∧ C (k + 1) w') := by
  have HCL := Sd.mk hclo
  have HM := Sd.mk hm
  have HRB := Sd.mk (⟨hr, hB⟩ : row ≠ some g ∧ ∀ i, row = some i → B0 ≤ i)
  have HD := Sd.mk h
  have HC := Sd.mk hC
  clear hclo hr hB hm h hC
  go_enter Try.func120, Try.ntmps120
  go_wp2
  go_loopg [5, 8] m (fun gk v5 v8 wr => ∃ i, i + gk = m ∧ v8 = .int .i64 (i : Nat) ∧ Sd (∀ j, j < i → dec j = false) ∧ Sd (C i wr) ∧ Sd (Dl fR 3 W0 B0 g 47 sz dec ss 0 wr))
  case atStart => exact ⟨0, by omega, rfl, ⟨fun j hj => by omega⟩, HC, HD⟩
  case round =>
    clear HC HD
    obtain ⟨i, hi, rfl, HA, HC, HD⟩ := hrel
    by_cases hlt : i < m
    · have hii : (i : Int) < m := by omega
      obtain ⟨x, hx⟩ : ∃ x, ss[i]? = some x := ⟨ss[i]'(by rw [← HM.out]; exact hlt), List.getElem?_eq_getElem _⟩
      have HX := Sd.mk hx
      have c0 : wr.cell? ⟨g, i * 3, none⟩ = some _ := HD.out.high i x (Nat.zero_le _) hx 0 _ rfl
      have c1 := HD.out.high i x (Nat.zero_le _) hx 1 _ rfl
      have c2 := HD.out.high i x (Nat.zero_le _) hx 2 _ rfl
      obtain ⟨r, hr⟩ : ∃ r, dec i = r := ⟨_, rfl⟩
      have HR := Sd.mk hr
      have HCX := Sd.mk (show Calls Try.prog 93 #[.agg #[.int .i64 x.c, .int .i64 x.s, .string x.b], cap] wr fun e w' => e = .returned (.bool r) ∧ C (i + 1) w' ∧ wr.grownBy w' row from by have := HCL.out i x wr hx HC.out; rwa [hr] at this)
      clear hx hr
      cases r with
      | true =>
        go_wp2_with (first
          | (go_at_call 93; (with_reducible refine HCX.out.mono ?_); rintro e w2 ⟨rfl, hC2, hg2⟩; have HC2 := Sd.mk hC2; have HD2 := Sd.mk (HD.out.grown hg2 HRB.out.1 HRB.out.2); clear hC2 hg2))
        go_ret
        exact ⟨HD2.out, .inr ⟨i, rfl, hlt, HR.out, HA.out, HC2.out⟩⟩
      | false =>
        have HA2 := Sd.mk (show ∀ j, j < i + 1 → dec j = false from fun j hj => by
          rcases Nat.lt_or_ge j i with h | h
          · exact HA.out j h
          · rw [show j = i by omega]; exact HR.out)
        go_wp2_with (first
          | (go_at_call 93; (with_reducible refine HCX.out.mono ?_); rintro e w2 ⟨rfl, hC2, hg2⟩; have HC2 := Sd.mk hC2; have HD2 := Sd.mk (HD.out.grown hg2 HRB.out.1 HRB.out.2); clear hC2 hg2))
        go_roundg (gk - 1)
        case measure => omega
        case rel => exact ⟨i + 1, by omega, by go_num, HA2, HC2, HD2⟩
    · have hii : decide (i < m) = false := decide_eq_false (by omega)
      obtain rfl : i = m := by omega
      go_wp2
      go_ret
      exact ⟨HD.out, .inl ⟨rfl, HA.out, HC.out⟩⟩
set_option maxHeartbeats 8000000 in
set_option maxRecDepth 100000 in
theorem del_reqs {C : Nat → World → Prop} {row : Option Nat} {W0 : World} {B0 g c : Nat} {dec : Nat → Bool} {ss : List Rq} {cap : Value} (hclo : ∀ (j : Nat) (x : Rq) (W : World), ss[j]? = some x → C j W → Calls Try.prog 93 #[.agg #[.int .i64 x.c, .int .i64 x.s, .string x.b], cap] W fun e w' => e = .returned (.bool (dec j)) ∧ C (j + 1) w' ∧ W.grownBy w' row) (hr : row ≠ some g) (hB : ∀ i, row = some i → B0 ≤ i) (hrl : ∀ j W, C j W → ∀ i, row = some i → i < W.heap.size) (hCs : ∀ j W W', C j W → W.grownBy W' (some g) → (∃ cur, W.heap[g]? = some (.cells cur 47 (0, 0))) → C j W') (m : Nat) (hm : m = ss.length) (hc : m ≤ c) (hc2 : c ≤ 9223372036854775807) {w : World} (h : Dl fR 3 W0 B0 g 47 (c * 3) dec ss 0 w) (hC : C 0 w) :
    Calls Try.prog 91 #[.slice (some ⟨g, 0, none⟩) m c, .func (.func 93) #[] #[cap]] w fun e w' => ∃ p, e = .returned (.slice (some ⟨g, 0, none⟩) p c) ∧ p = (kp dec ss m).length ∧ p ≤ m ∧ OwnR fR 3 w' 0 47 (.slice (some ⟨g, 0, none⟩) p c) (kp dec ss m) ∧ C m w' ∧ RowKit.Below B0 W0 w' := by
  have HI := Sd.mk (idx_reqs hclo hr hB m hm hc hc2 h hC)
  have HCL := Sd.mk hclo
  have HM := Sd.mk hm
  have HRB := Sd.mk (⟨hr, hB⟩ : row ≠ some g ∧ ∀ i, row = some i → B0 ≤ i)
  have HRL := Sd.mk hrl
  have HCS := Sd.mk hCs
  clear hclo hr hB hm h hC hrl hCs
  go_enter Try.func91, Try.ntmps91
  go_upto_region 2 with (first
    | (go_at_call 120; (with_reducible refine HI.out.mono ?_); rintro e w1 ⟨hd1, (⟨rfl, ha, hC1⟩ | ⟨k, rfl, hk, hdk, ha, hC1⟩)⟩))
  · have HA := Sd.mk (kp_none (ss := ss) ha)
    have HD1 := Sd.mk hd1
    have HC1 := Sd.mk hC1
    clear ha hd1 hC1 HI
    go_wp2
    go_ret
    have hd2 := HD1.out.upto (j := m) (fun i hi => by
      cases e : dec i with
      | false => rfl
      | true => exact absurd (congrArg List.length HA.out) (by have := kp_lt (dec := dec) (ss := ss) (j := m) (by rw [HM.out]; exact Nat.le_refl _) i hi e; rw [List.length_take, ← HM.out]; omega))
    exact ⟨m, rfl, by rw [HA.out, List.length_take, ← HM.out]; omega, Nat.le_refl _, by have := hd2.own (fun _ => rfl) (p := m) (by rw [HA.out, List.length_take, ← HM.out]; omega) hc hc2 []; exact this, HC1.out, HD1.out.bel⟩
  · have HD1 := Sd.mk ((hd1.upto (j := k) ha).skip hdk)
    have HC1 := Sd.mk hC1
    have HK1 := Sd.mk (show (kp dec ss (k + 1)).length = k by rw [kp_yes hdk, kp_none ha, List.length_take, ← HM.out]; omega)
    have dk : ((k : Int) == -1) = false := by rw [beq_eq_false_iff_ne]; intro h; omega
    clear hd1 hC1 ha hdk HI
    go_wp2
    go_loopg [5, 6, 7] (m - (k + 1)) (fun gk v5 v6 v7 wr => ∃ p j, j + gk = m ∧ p < j ∧ v5 = .int .i64 (p : Nat) ∧ v6 = .int .i64 (j : Nat) ∧ Sd ((kp dec ss j).length = p) ∧ Sd (C j wr) ∧ Sd (Dl fR 3 W0 B0 g 47 (c * 3) dec ss j wr))
    case atStart => exact ⟨k, k + 1, by omega, by omega, rfl, by go_num, HK1, HC1, HD1⟩
    case round =>
      clear HD1 HC1 HK1
      obtain ⟨p, j, hj, hpj, rfl, rfl, HK, HC, HD⟩ := hrel
      by_cases hlt : j < m
      · have hji : (j : Int) < m := by omega
        obtain ⟨x, hx⟩ : ∃ x, ss[j]? = some x := ⟨ss[j]'(by rw [← HM.out]; exact hlt), List.getElem?_eq_getElem _⟩
        have HX := Sd.mk hx
        have c0 : wr.cell? ⟨g, j * 3, none⟩ = some _ := HD.out.high j x (Nat.le_refl _) hx 0 _ rfl
        have c1 := HD.out.high j x (Nat.le_refl _) hx 1 _ rfl
        have c2 := HD.out.high j x (Nat.le_refl _) hx 2 _ rfl
        obtain ⟨r, hr⟩ : ∃ r, dec j = r := ⟨_, rfl⟩
        have HR := Sd.mk hr
        clear hx hr
        go_upto_region 8 with (fail)
        have HBL := Sd.mk (below_one wr (.cells #[.int .i64 x.c, .int .i64 x.s, .string x.b] 47))
        have X0 := Sd.mk (blk_new wr (.cells #[.int .i64 x.c, .int .i64 x.s, .string x.b] 47))
        have HD1 := Sd.mk (HD.out.keepB (HBL.out.block _ HD.out.lt) (HD.out.bel.trans (HBL.out.mono (Nat.le_trans HD.out.ge (Nat.le_of_lt HD.out.lt)))))
        have HC1 := Sd.mk (HCS.out j wr _ HC.out ⟨HBL.out.os, HBL.out.tape, HBL.out.output, HBL.out.size, fun i hi _ => HBL.out.block i hi⟩ HD.out.ty)
        have HBV := Sd.mk (show row ≠ some wr.heap.size from fun e => Nat.lt_irrefl _ (HRL.out j wr HC.out _ e))
        clear c0 c1 c2 HC HD HBL
        generalize wr.heap.size = Bv at X0 HBV ⊢
        generalize wr.alloc _ = W1 at X0 HD1 HC1 ⊢
        have HCX := Sd.mk (show Calls Try.prog 93 #[.agg #[.int .i64 x.c, .int .i64 x.s, .string x.b], cap] W1 fun e w' => e = .returned (.bool r) ∧ C (j + 1) w' ∧ W1.grownBy w' row from by have := HCL.out j x W1 HX.out HC1.out; rwa [HR.out] at this)
        have q0 := blk_at X0.out 0 _ rfl
        have q1 := blk_at X0.out 1 _ rfl
        have q2 := blk_at X0.out 2 _ rfl
        cases r with
        | true =>
          have HK2 := Sd.mk (show (kp dec ss (j + 1)).length = p by rw [kp_yes HR.out]; exact HK.out)
          go_wp2_with (first
            | (go_at_call 93; (with_reducible refine HCX.out.mono ?_); rintro e w2 ⟨rfl, hC2, hg2⟩; have HC2 := Sd.mk hC2; have HD3 := Sd.mk ((HD1.out.grown hg2 HRB.out.1 HRB.out.2).skip HR.out); clear hC2 hg2))
          go_roundg (gk - 1)
          case measure => omega
          case rel => exact ⟨p, j + 1, by omega, by omega, rfl, by go_num, HK2, HC2, HD3⟩
        | false =>
          have HK2 := Sd.mk (show (kp dec ss (j + 1)).length = p + 1 by rw [kp_no HR.out HX.out, List.length_append, HK.out]; rfl)
          go_upto_region 9 with (first
            | (go_at_call 93; (with_reducible refine HCX.out.mono ?_); rintro e w2 ⟨rfl, hC2, hg2⟩; have HC2 := Sd.mk hC2; have HD2 := Sd.mk (HD1.out.grown hg2 HRB.out.1 HRB.out.2); have X2 := Sd.mk (blk_grown X0.out hg2 HBV.out); clear hC2 hg2))
          clear q0 q1 q2 X0 HBV HCX HC1 HD1
          have HD3 := Sd.mk (HD2.out.keep (fun _ => rfl) HX.out HR.out HK.out (by omega))
          have HC3 := Sd.mk (HCS.out (j + 1) w2 (w2.setCells g (p * 3) (fR x)) HC2.out (grown_setCells HD2.out.lt _ _) HD2.out.ty)
          have hpm := HD2.out.fit
          rw [← HM.out] at hpm
          obtain ⟨u0, o0⟩ := Option.isSome_iff_exists.1 (HD2.out.mid (p * 3) (by omega))
          obtain ⟨u1, o1⟩ := Option.isSome_iff_exists.1 (HD2.out.mid (p * 3 + 1) (by omega))
          obtain ⟨u2, o2⟩ := Option.isSome_iff_exists.1 (HD2.out.mid (p * 3 + 2) (by omega))
          have f0 := HD2.out.frz (p * 3)
          have f1 := HD2.out.frz (p * 3 + 1)
          have f2 := HD2.out.frz (p * 3 + 2)
          have q0 := blk_at X2.out 0 _ rfl
          have q1 := blk_at X2.out 1 _ rfl
          have q2 := blk_at X2.out 2 _ rfl
          have hpl : p < m := by omega
          have hpi : (p : Int) < m := by omega
          clear hpm HD2 X2 HC2
          go_wp2
          go_roundg (gk - 1)
          case measure => omega
          case rel => exact ⟨p + 1, j + 1, by omega, by omega, by go_num, by go_num, HK2, HC3, HD3⟩
      · have hji : decide (j < m) = false := decide_eq_false (by omega)
        obtain rfl : j = m := by omega
        have hpl : p < j := by omega
        have hpl2 : p ≤ j := by omega
        have hpc : p ≤ c := by omega
        obtain ⟨vs, hvl, hcl⟩ := Del.run_clear_k (P := Try.prog) wr 33 47 _ Try.underlying33 zeroRq 3 rfl (fun v hv => by simp [Value.cells] at hv; rcases hv with rfl | rfl | rfl <;> rfl) (by omega) g (p * 3) (j - p) (c - p) (by omega) (fun t ht => HD.out.mid (p * 3 + t) (by have := Nat.mul_le_mul_right 3 hc; omega)) (fun t ht => HD.out.frz (p * 3 + t))
        have HOW := Sd.mk (HD.out.own (fun _ => rfl) HK.out hpc hc2 vs)
        have HC3 := Sd.mk (HCS.out j wr (wr.setCells g (p * 3) vs) HC.out (grown_setCells HD.out.lt _ _) HD.out.ty)
        have HBE := Sd.mk (below_setCells HD.out.ge vs (p * 3) wr HD.out.bel)
        clear hvl HC HD
        go_wp2
        go_ret
        exact ⟨p, rfl, HK.out.symm, hpl2, HOW.out, HC3.out, HBE.out⟩
set_option maxHeartbeats 1000000 in
theorem idxnil_reqs (fv : Value) (w : World) : Calls Try.prog 120 #[.slice none 0 0, fv] w fun e w' => e = .returned (.int .i64 (-1)) ∧ w' = w := by
  go_enter Try.func120, Try.ntmps120
  go_wp2
  refine wp_loop_rounds 1 ?_
  rw [rounds_succ]
  go_wp2
  go_ret
  exact ⟨rfl, rfl⟩
set_option maxHeartbeats 1000000 in
theorem delnil_reqs (fv : Value) (w : World) : Calls Try.prog 91 #[.slice none 0 0, fv] w fun e w' => e = .returned (.slice none 0 0) ∧ w' = w := by
  go_enter Try.func91, Try.ntmps91
  go_wp2_with (first
    | (go_at_call 120; (with_reducible refine (idxnil_reqs _ _).mono ?_); rintro e w1 ⟨rfl, rfl⟩))
  go_ret
  exact ⟨rfl, rfl⟩

end Go.Proofs.Ytnomgkmeomlccaa.Blk
set_option linter.unusedVariables false
set_option linter.unusedSimpArgs false
namespace Go.Proofs.Ytnomgkmeomlccaa.Blk
open Go.RowKit Go.Sort Rd Api Own Mv App Num Dig
open Del (Dl kp kp_none kp_yes kp_no kp_lt dl_of grown_setCells)

def rkey (x : Rq) : Int × Int := (x.c, x.s)
/-- is one of the client and number ahead of it? -/
def seen (l : List Rq) (j : Nat) : Bool := match l[j]? with
  | some x => decide (rkey x ∈ (l.take j).map rkey)
  | none => false
theorem seen_at {l : List Rq} {j : Nat} {x : Rq} (h : l[j]? = some x) : seen l j = decide (rkey x ∈ (l.take j).map rkey) := by unfold seen; rw [h]
/-- the first ones of each client and number -/
def firsts (l : List Rq) : List Rq := kp (seen l) l l.length
theorem own_emptyR (W : World) (e : TypeId) : OwnR fR 3 (W.alloc (.cells #[] e)) 0 e (.slice (some ⟨W.heap.size, 0, none⟩) 0 0) [] :=
  ⟨rfl, .inr ⟨W.heap.size, 0, #[], rfl, Nat.zero_le _, blk_new W _, Nat.le_refl _, by unfold maxLen; omega, rfl, rfl⟩⟩
set_option maxHeartbeats 4000000 in
set_option maxRecDepth 100000 in
theorem clone_any (W : World) (A : Option Addr) (c : Nat) (l : List Rq) (h : Sl rqN W A c l) (hnil : A = none → c = 0) (hlen : l.length ≤ 1000) (n : Nat) (hn : n = l.length) :
    Calls Try.prog 92 #[.slice A n c] W fun e w' => ∃ v', e = .returned v' ∧ OwnR fR 3 w' 0 47 v' l ∧ (∀ k, v'.ownBlock = some k → W.heap.size ≤ k) ∧ Below W.heap.size W w' := by
  subst hn
  cases A with
  | none =>
    obtain rfl := hnil rfl
    have hy : l = [] := List.eq_nil_of_length_eq_zero (by have := h.le; omega)
    subst hy
    have hnl := fun W1 a n c => Go.run_eql_slice_nil (P := Try.prog) W1 33 47 a n c Try.underlying33
    go_enter Try.func92, Try.ntmps92
    go_wp2
    go_ret
    exact ⟨_, rfl, OwnR.nil _ _ _ _ _, fun k hk => (by simp [Value.ownBlock] at hk), Below.refl _ _⟩
  | some ad =>
    have HR := Sd.mk (h.row.below (below_one W (.cells #[] 47)))
    have HE := Sd.mk (own_emptyR W 47)
    have HB := Sd.mk (below_one W (.cells #[] 47))
    clear h
    have hnl := fun W1 a n c => Go.run_eql_slice_nil (P := Try.prog) W1 33 47 a n c Try.underlying33
    go_enter Try.func92, Try.ntmps92
    go_wp2_with (first
      | (at_builtin; refine appends_at (d := rqN) (f := fR) (n := 3) (fun _ _ _ => Iff.rfl) rfl (fun _ => rfl) fR_one rfl (.tmp 5) (.tmp 6) 33 47 (.agg #[.int .i64 0, .int .i64 0, .string ByteArray.empty]) 32 rfl Try.underlying33 info_rq rfl (by decide) (.slice (some ⟨W.heap.size, 0, none⟩) 0 0) [] l (some ad) c rfl rfl HR.out (fun e => by cases e) HE.out (by simp; omega) (by simp; omega) ?_; intro v1 w1 hown hg hob; have HO := Sd.mk hown; have HG := Sd.mk hg; have HQ := Sd.mk hob; clear hown hg hob))
    go_ret
    refine ⟨v1, rfl, by have := HO.out; simpa using this, ?_, below_grown HB.out HG.out (by simp) (fun k e => by simp [Value.ownBlock] at e; omega)⟩
    intro k hk
    rcases HQ.out with e | e
    · rw [hk] at e; simp [Value.ownBlock] at e; omega
    · rw [hk] at e; simp at e; omega
theorem Ms.row {b Bv g : Nat} {ks : List (Int × Int)} {W W1 : World} (h : Ms b Bv ks W) (hg : W.grownBy W1 (some g)) (ht : ∃ cur, W.heap[g]? = some (.cells cur 47 (0, 0))) : Ms b Bv ks W1 := by
  obtain ⟨cur, ht⟩ := ht
  obtain ⟨es, ck, hb, hr⟩ := h.mc.h
  refine ⟨⟨es, ck, blk_grown hb hg (fun e => ?_), hr⟩, blk_grown h.cell hg (fun e => ?_)⟩
  · rw [Option.some.inj e, hb] at ht; cases ht
  · rw [Option.some.inj e, h.cell] at ht; simp at ht
/-- a list of requests that a call has made of its own -/
structure Ro (w : World) (v : Value) (l : List Rq) (W : World) : Prop where
  own : OwnR fR 3 W 0 47 v l
  new : ∀ k, v.ownBlock = some k → w.heap.size ≤ k
  bel : RowKit.Below w.heap.size w W
theorem Ro.below {w W W1 : World} {v : Value} {l : List Rq} (h : Ro w v l W) (hb : RowKit.Below W.heap.size W W1) : Ro w v l W1 := ⟨h.own.below hb, h.new, below_then h.bel hb⟩
set_option maxHeartbeats 1000000 in
theorem dels_any {w W : World} {b Bv : Nat} {A : Option Addr} {m c : Nat} {l : List Rq} (hl : l.length ≤ 1000) (hI : ∀ x ∈ l, IsI64 x.c ∧ IsI64 x.s) (hm : m = l.length) (hs : Ms b Bv [] W) (hb : w.heap.size ≤ b) (ho : Ro w (.slice A m c) l W) :
    Calls Try.prog 91 #[.slice A m c, .func (.func 93) #[] #[.pointer (some ⟨Bv, 0, none⟩)]] W fun e w' => ∃ v, e = .returned v ∧ Ro w v (firsts l) w' := by
  rcases dl_of (f := fR) (k := 3) (fun _ => rfl) ho.own ho.new ho.bel (seen l) with ⟨rfl, rfl, rfl, rfl⟩ | ⟨gv, rfl, h1, h2, h3, hd⟩
  · exact (delnil_reqs _ W).mono fun e w' ⟨he, hw⟩ => ⟨_, he, OwnR.nil _ _ _ _ _, fun k hk => by simp [Value.ownBlock] at hk, by rw [hw]; exact ho.bel⟩
  · have hgv := ho.new gv rfl
    have hne : some b ≠ some gv := fun e => by
      obtain ⟨es, ck, hbb, -⟩ := hs.mc.h
      obtain ⟨cur, hg⟩ := hd.ty
      rw [← Option.some.inj e, hbb] at hg
      cases hg
    refine (del_reqs (C := fun j W => Ms b Bv ((l.take j).map rkey) W) (row := some b) (dec := seen l) (ss := l) (cap := .pointer (some ⟨Bv, 0, none⟩)) ?_ hne (fun i e => by obtain rfl := Option.some.inj e; exact hb) (fun j W hC i e => by obtain rfl := Option.some.inj e; obtain ⟨es, ck, hbb, -⟩ := hC.mc.h; exact blk_lt' hbb) (fun j W W' hC hg ht => hC.row hg ht) m hm h2 h3 hd (by simpa using hs)).mono ?_
    · intro j x W1 hx hC
      have hxI := hI x (List.mem_of_getElem? hx)
      refine (once1_any hC x hxI.1 hxI.2 (by rw [List.length_map, List.length_take]; omega) (seen l j) (seen_at hx).symm).mono ?_
      rintro e w' ⟨he, hms, hg⟩
      refine ⟨he, ?_, hg⟩
      rw [List.take_add_one, hx, List.map_append]
      exact hms
    · rintro e w' ⟨p, he, hp, hpm, hown, hC, hbe⟩
      exact ⟨_, he, by rw [firsts, ← hm]; exact hown, fun k hk => by simp [Value.ownBlock] at hk; omega, hbe⟩
set_option maxHeartbeats 4000000 in
set_option maxRecDepth 100000 in
theorem once_any (w : World) (A : Option Addr) (c : Nat) (l : List Rq) (h : Sl rqN w A c l) (hnil : A = none → c = 0) (hlen : l.length ≤ 1000) (hI : ∀ x ∈ l, IsI64 x.c ∧ IsI64 x.s) (n : Nat) (hn : n = l.length) :
    Calls Try.prog 60 #[.slice A n c] w fun e w' => ∃ v, e = .returned v ∧ Ro w v (firsts l) w' := by
  have b0 := below_one w (.map #[] 0)
  have b1 := below_one (w.alloc (.map #[] 0)) (.cells #[.map (some w.heap.size)] 137)
  have HB := Sd.mk (below_then b0 b1)
  have HM := Sd.mk (show Ms w.heap.size (w.heap.size + 1) [] ((w.alloc (.map #[] 0)).alloc (.cells #[.map (some w.heap.size)] 137)) from ⟨⟨#[], 0, blk_keep (blk_new w _) b1, ⟨by simp, by simp, by simp⟩, by simp, by simp⟩, blk_new1 _ _ _⟩)
  have HC := Sd.mk (clone_any _ A c l (h.below (below_then b0 b1)) hnil hlen n hn)
  have HI := Sd.mk hI
  clear h b0 b1 hI hn
  have hmm := @run_makeMap Try.prog
  go_enter Try.func60, Try.ntmps60
  go_upto_region 2 with (fail)
  generalize hk1 : w.heap.size + 1 = Bv at HM ⊢
  generalize (w.alloc _).alloc _ = W1 at HM HB HC ⊢
  go_wp2_with (first
    | (go_at_call 92; (with_reducible refine HC.out.mono ?_); rintro e w2 ⟨v', rfl, ho, hq, hb⟩; obtain ⟨A6, c6, rfl⟩ := OwnR.slice ho; have HD := Sd.mk (dels_any (w := w) hlen HI.out rfl (HM.out.below hb) (Nat.le_refl _) ⟨ho, fun k hk => Nat.le_trans HB.out.size (hq k hk), below_then HB.out hb⟩); clear ho hq hb)
    | (go_at_call 91; (refine HD.out.mono ?_); rintro e w3 ⟨v, rfl, ho⟩; have HO := Sd.mk ho; clear ho))
  go_ret
  exact ⟨v, rfl, HO.out⟩
end Go.Proofs.Ytnomgkmeomlccaa.Blk

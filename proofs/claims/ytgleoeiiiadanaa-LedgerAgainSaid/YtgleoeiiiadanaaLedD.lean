/- A ledger: apply, Apply: walked. -/
import Derived.Test.YtgleoeiiiadanaaLedC
set_option linter.unusedVariables false
set_option linter.unusedSimpArgs false
namespace Go.Proofs.Ytgleoeiiiadanaa.Led
open Go.RowKit Rd Api Own Mv Num Dig Wtx

theorem apply_any (S : Nat → Prop) (W : World) (g b : Nat) (ve vd : Value) (xs : List Rq) (h : Led S g b ve vd xs W) (hS : ∀ k, W.heap.size ≤ k → S k) (r : Rq) (hr : Fine r) (hlen : xs.length ≤ 1000) (p : Nat) (hp : pos xs r = p) :
    Calls Try.prog 62 #[.pointer (some ⟨g, 0, none⟩), .agg #[.int .i64 r.c, .int .i64 r.s, .string r.b]] W fun e w' => ∃ ve' vd', e = .returned (.int .i64 (p : Nat)) ∧ Led S g b ve' vd' (ins xs r) w' ∧ Fr S W w' := by
  subst hp
  unfold pos ins
  cases hj : idx xs r.c r.s with
  | none => exact apply_new S W g b ve vd xs h hS r hr hj hlen
  | some j =>
    refine (apply_old S W g b ve vd xs h r hr j hj).mono ?_
    rintro e w' ⟨he, hb⟩
    exact ⟨ve, vd, he, h.below hb, Fr.below hb⟩

/-- rows that read the same in every world stay where their block stays -/
theorem row_same {α : Type} {d : Rk α} {f : α → List Value} (hd : ∀ w x cs, d.K w x cs ↔ cs = f x) {W W1 : World} {A : Option Addr} {l : List α} (h : Row d W A l) (hk : ∀ a, A = some a → W1.heap[a.block]? = W.heap[a.block]?) : Row d W1 A l := by
  intro j x hx
  obtain ⟨b, o, cs, hA, hK, hc⟩ := h j x hx
  refine ⟨b, o, cs, hA, (hd _ _ _).2 ((hd _ _ _).1 hK), fun i v hv => ?_⟩
  have := hc i v hv
  unfold World.cell? at this ⊢
  rw [show W1.heap[b]? = W.heap[b]? from hk _ hA]
  exact this
/-- a list that comes in, in a block that is none of S's -/
structure In (S : Nat → Prop) (A : Option Addr) (c : Nat) (l : List Rq) (W : World) : Prop where
  sl : Sl rqN W A c l
  ns : l ≠ [] → ∀ a, A = some a → ¬ S a.block ∧ a.block < W.heap.size
theorem In.fr {S S' : Nat → Prop} {A : Option Addr} {c : Nat} {l : List Rq} {W W1 : World} (h : In S A c l W) (hf : Fr S' W W1) (hS : ∀ k, k < W.heap.size → S' k → S k) : In S A c l W1 := by
  refine ⟨⟨h.sl.le, h.sl.cap, ?_⟩, fun hl a ha => ⟨(h.ns hl a ha).1, Nat.lt_of_lt_of_le (h.ns hl a ha).2 hf.size⟩⟩
  by_cases hl : l = []
  · subst hl; intro j x hx; simp at hx
  · exact row_same (fun _ _ _ => Iff.rfl) h.sl.row (fun a ha => hf.blk _ (h.ns hl a ha).2 (fun e => (h.ns hl a ha).1 (hS _ (h.ns hl a ha).2 e)))
/-- a list that was there at the start -/
theorem in_of {A : Option Addr} {c : Nat} {l : List Rq} {W : World} (h : Sl rqN W A c l) : In (fun k => W.heap.size ≤ k) A c l W := by
  refine ⟨h, fun hl a ha => ?_⟩
  have hp : 0 < l.length := List.length_pos_iff.2 hl
  obtain ⟨b, o, rfl, p0, _⟩ := rqN_at h.row hp
  cases ha
  have := World.block_lt_of_cell? _ _ p0
  simp only at this
  exact ⟨by show ¬ W.heap.size ≤ b; omega, this⟩
theorem In.narrow {S S' : Nat → Prop} {A : Option Addr} {c : Nat} {l : List Rq} {W : World} (h : In S A c l W) (hS : ∀ k, k < W.heap.size → S' k → S k) : In S' A c l W :=
  ⟨h.sl, fun hl a ha => ⟨fun e => (h.ns hl a ha).1 (hS _ (h.ns hl a ha).2 e), (h.ns hl a ha).2⟩⟩
theorem insAll_take {xs l : List Rq} {i : Nat} (hi : i < l.length) : insAll xs (l.take (i + 1)) = ins (insAll xs (l.take i)) l[i] := by
  rw [← insAll_snoc, List.take_append_getElem]
theorem posAll_take {xs l : List Rq} {i : Nat} (hi : i < l.length) : posAll xs (l.take (i + 1)) = posAll xs (l.take i) ++ [((pos (insAll xs (l.take i)) l[i] : Nat) : Int)] := by
  rw [← posAll_snoc, List.take_append_getElem]

/-- what is so amid an Apply -/
structure Mid (S : Nat → Prop) (W : World) (g b : Nat) (A : Option Addr) (c : Nat) (xs l : List Rq) (i : Nat) (v : Value) (wr : World) : Prop where
  led : ∃ ve vd, Led S g b ve vd (insAll xs (l.take i)) wr
  out : OwnR fI 1 wr 0 3 v (posAll xs (l.take i))
  new : ∀ k, v.ownBlock = some k → W.heap.size ≤ k
  fr : Fr S W wr
  inp : In S A c l wr
theorem Mid.below {S : Nat → Prop} {W : World} {g b : Nat} {A : Option Addr} {c : Nat} {xs l : List Rq} {i : Nat} {v : Value} {wr w1 : World} (h : Mid S W g b A c xs l i v wr) (hb : Below wr.heap.size wr w1) : Mid S W g b A c xs l i v w1 :=
  ⟨by obtain ⟨ve, vd, hl⟩ := h.led; exact ⟨ve, vd, hl.below hb⟩, OwnR.below h.out hb, h.new, h.fr.trans (Fr.below hb), h.inp.fr (Fr.below (S := S) hb) (fun _ _ s => s)⟩
theorem Led.apart {S : Nat → Prop} {g b : Nat} {ve vd v : Value} {xs : List Rq} {ys : List Int} {W : World} (h : Led S g b ve vd xs W) (ho : OwnR fI 1 W 0 3 v ys) : Led (fun k => S k ∧ v.ownBlock ≠ some k) g b ve vd xs W :=
  ⟨h.blk, h.own, h.dig, h.map, h.nd, h.fine, ⟨h.sg, OwnR.blk ho h.blk (by decide)⟩, ⟨h.sb, own_map ho h.map⟩, fun k hk => ⟨h.se k hk, own_apart h.own ho (by decide) hk⟩, fun k hk => ⟨h.sd k hk, own_apart h.dig ho (by decide) hk⟩⟩
set_option maxHeartbeats 4000000 in
set_option maxRecDepth 100000 in
theorem applies_any (S : Nat → Prop) (W : World) (g b : Nat) (ve vd : Value) (xs l : List Rq) (h : Led S g b ve vd xs W) (hS : ∀ k, W.heap.size ≤ k → S k) (A : Option Addr) (c : Nat) (hA : In S A c l W) (hl : ∀ x ∈ l, Fine x) (hlen : xs.length + l.length ≤ 1000) :
    Calls Try.prog 38 #[.pointer (some ⟨g, 0, none⟩), .slice A l.length c] W fun e w' => ∃ v ve' vd', e = .returned v ∧ Led S g b ve' vd' (insAll xs l) w' ∧ OwnR fI 1 w' 0 3 v (posAll xs l) ∧ (∀ k, v.ownBlock = some k → W.heap.size ≤ k) ∧ Fr S W w' := by
  obtain ⟨n, hn⟩ : ∃ n, n = l.length := ⟨_, rfl⟩
  have HN := Sd.mk hn
  have HL := Sd.mk hl
  have HS := Sd.mk hS
  have nc : n ≤ c := by rw [hn]; exact hA.sl.le
  have cm := hA.sl.cap
  have n1 : xs.length + n ≤ 1000 := by omega
  have HM := Sd.mk (show Mid S W g b A c xs l 0 (.slice none 0 0) W from ⟨⟨ve, vd, h⟩, OwnR.nil _ _ _ _ _, fun k hk => by simp [Value.ownBlock] at hk, Fr.refl _ _, hA⟩)
  rw [← hn]
  clear h hS hA hl hlen hn
  go_enter Try.func38, Try.ntmps38
  go_wp2
  go_loopg [5, 10] n (fun gk v5 v10 wr => ∃ i A5 q5, i + gk = n ∧ v5 = .slice A5 i q5 ∧ v10 = .int .i64 (i : Nat) ∧ Sd (Mid S W g b A c xs l i v5 wr))
  case atStart => exact ⟨0, none, 0, by omega, rfl, rfl, HM⟩
  case round =>
    clear HM
    obtain ⟨i, A5, q5, hi, rfl, rfl, HM⟩ := hrel
    by_cases hlt : i < n
    · have hii : (i : Int) < n := by omega
      have hil : i < l.length := by rw [← HN.out]; exact hlt
      obtain ⟨bA, oA, rfl, c0, c1, c2⟩ := rqN_at HM.out.inp.sl.row hil
      obtain ⟨r, hr⟩ : ∃ r, l[i] = r := ⟨_, rfl⟩
      rw [hr] at c0 c1 c2
      have HR := Sd.mk hr
      have HF := Sd.mk (show Fine r from hr ▸ HL.out _ (List.getElem_mem hil))
      obtain ⟨p, hp⟩ : ∃ p, pos (insAll xs (l.take i)) r = p := ⟨_, rfl⟩
      have HP := Sd.mk hp
      have HLN := Sd.mk (show (insAll xs (l.take i)).length ≤ 1000 from by have := (insAll_length (l.take i) xs).2; rw [List.length_take] at this; omega)
      obtain ⟨rc, rs, rb⟩ := r
      simp only at c0 c1 c2
      clear hr hp
      go_upto_region 5 with (fail)
      have X0 := blk_new wr (.cells #[.int .i64 rc, .int .i64 rs, .string rb] 60)
      have HM1 := Sd.mk (HM.out.below (below_one wr (.cells #[.int .i64 rc, .int .i64 rs, .string rb] 60)))
      generalize hk7 : wr.heap.size = k7 at X0 ⊢
      generalize wr.alloc _ = W1 at X0 HM1 ⊢
      have b0 := blk_at X0 0 _ rfl
      have b1 := blk_at X0 1 _ rfl
      have b2 := blk_at X0 2 _ rfl
      clear c0 c1 c2 X0 HM hk7
      obtain ⟨ve1, vd1, hl1⟩ := HM1.out.led
      have HL1 := Sd.mk (hl1.apart HM1.out.out)
      have HS1 := Sd.mk (show ∀ k, W1.heap.size ≤ k → (S k ∧ (Value.slice A5 i q5).ownBlock ≠ some k) from fun k hk => ⟨HS.out k (Nat.le_trans HM1.out.fr.size hk), fun e => by have := own_lt HM1.out.out e; omega⟩)
      clear hl1
      have hpl : (posAll xs (l.take i)).length = i := by rw [posAll_length, List.length_take]; omega
      have i1 : i + 1 ≤ 1001 := by omega
      have HPL := Sd.mk hpl
      clear hpl
      go_wp2_with (first
        | (go_at_call 62; (refine (apply_any (fun k => S k ∧ (Value.slice A5 i q5).ownBlock ≠ some k) _ g b ve1 vd1 (insAll xs (l.take i)) HL1.out HS1.out ⟨rc, rs, rb⟩ HF.out HLN.out p HP.out).mono ?_); rintro e w2 ⟨ve2, vd2, rfl, hL2, hF2⟩; have HL2 := Sd.mk (hL2.wider (S' := S) (fun k _ s => s.1)); have HF2 := Sd.mk hF2; have HO2 := Sd.mk (own_same HM1.out.out (fun k e => hF2.blk k (own_lt HM1.out.out e) (fun s => s.2 e))); clear hL2 hF2 HL1 HS1)
        | (at_builtin; refine append_at (f := fI) (n := 1) (fun _ => rfl) (fun _ _ hu => by simp [fI] at hu; subst hu; rfl) rfl (.tmp 14) (.tmp 18) 22 3 (.int .i64 0) 8 rfl Try.underlying22 info_int rfl (by decide) (.slice A5 i q5) (posAll xs (l.take i)) (p : Int) rfl rfl HO2.out (by rw [HPL.out]; omega) (by rw [HPL.out]; omega) ?_; intro v5 w3 hown hg hob; obtain ⟨A6, q6, rfl⟩ := OwnR.slice hown; have hlen6 : (posAll xs (l.take i) ++ [(p : Int)]).length = i + 1 := (by rw [List.length_append, HPL.out]; rfl); rw [hlen6] at hown hob ⊢; have HG := Sd.mk hg; have HO3 := Sd.mk hown; have HB3 := Sd.mk hob; clear hg hown hob hlen6))
      go_roundg (gk - 1)
      case measure => omega
      case rel =>
        have hf12 : Fr S W1 w2 := HF2.out.wider (fun k _ s => s.1)
        have hrow : ∀ k, (Value.slice A5 i q5).ownBlock = some k → ¬ k < W.heap.size := fun k e hk => by have := HM1.out.new k e; omega
        have hS3 : ∀ k, (Value.slice A5 i q5).ownBlock = some k → S k := fun k e => HS.out k (by have := hrow k e; omega)
        have hf3 : Fr S W w3 := (HM1.out.fr.trans hf12).grown HG.out hS3
        have ein : insAll xs (l.take (i + 1)) = ins (insAll xs (l.take i)) ⟨rc, rs, rb⟩ := by rw [insAll_take hil, HR.out]
        have epo : posAll xs (l.take (i + 1)) = posAll xs (l.take i) ++ [(p : Int)] := by rw [posAll_take hil, HR.out, HP.out]
        refine ⟨i + 1, A6, q6, by omega, rfl, by go_num, ⟨⟨ve2, vd2, ?_⟩, ?_, ?_, hf3, ?_⟩⟩
        · rw [ein]
          exact (HL2.out.apart HO2.out).same (fun k hk s => HG.out.block k hk (fun e => s.2 e.symm)) (fun k _ s => s.1)
        · rw [epo]; exact HO3.out
        · intro k hk
          rcases HB3.out with e | e
          · exact HM1.out.new k (e ▸ hk)
          · rw [hk] at e; have := Option.some.inj e; have := HF2.out.size; have := HM1.out.fr.size; omega
        · exact (HM1.out.inp.fr hf12 (fun _ _ s => s)).fr ((Fr.refl S w2).grown HG.out hS3) (fun _ _ s => s)
    · have hii : decide ((i : Int) < n) = false := decide_eq_false (by omega)
      obtain rfl : i = n := by omega
      obtain ⟨ve1, vd1, hl1⟩ := HM.out.led
      have HL1 := Sd.mk hl1
      clear hl1
      go_wp2
      go_ret
      have et : l.take i = l := by rw [HN.out]; exact List.take_length
      have h1 := HL1.out
      have h2 := HM.out.out
      rw [et] at h1 h2
      exact ⟨_, ve1, vd1, rfl, h1, h2, HM.out.new, HM.out.fr⟩
end Go.Proofs.Ytgleoeiiiadanaa.Led

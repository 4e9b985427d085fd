/- The reference's tally: walked. The reference's tally: Below: walked. -/
import Derived.Test.YtdmdfpbklflijaaTalO
import Derived.BigRegion
import Derived.Lib.QuietBelow
set_option linter.unusedVariables false
set_option linter.unusedSimpArgs false
namespace Go.Proofs.Ytdmdfpbklflijaa.Tal
open Go.RowKit Go.Sort Rd Api Own Mv App Mk Num Dig Mac

/-- a vote, as the reference has it -/
def fO (x : Vt) : List Value := [.int .i64 x.v, .string x.b, .int .i64 x.s.f, .slice x.s.a x.s.n x.s.c, .bool false]
theorem fO_one : ∀ x : Vt, ∀ u ∈ fO x, u.oneCell' = true := fun _ _ hu => by simp [fO] at hu; rcases hu with rfl | rfl | rfl | rfl | rfl <;> rfl
def voK : Rk Vt where
  sz := 5
  K := fun _ s cs => cs = fO s
  len := fun h => by rw [h]; rfl
  keep := fun _ h => h
theorem vo_at {W : World} {A : Option Addr} {l : List Vt} (h : Row voK W A l) {i : Nat} {x : Vt} (hx : l[i]? = some x) : ∃ b o, A = some ⟨b, o, none⟩ ∧ W.cell? ⟨b, o + i * 5, none⟩ = some (.int .i64 x.v) ∧ W.cell? ⟨b, o + i * 5 + 1, none⟩ = some (.string x.b) ∧ W.cell? ⟨b, o + i * 5 + 2, none⟩ = some (.int .i64 x.s.f) ∧ W.cell? ⟨b, o + i * 5 + 3, none⟩ = some (.slice x.s.a x.s.n x.s.c) ∧ W.cell? ⟨b, o + i * 5 + 4, none⟩ = some (.bool false) := by
  obtain ⟨b, o, cs, hA, rfl, hc⟩ := h i x hx
  exact ⟨b, o, hA, hc 0 _ rfl, hc 1 _ rfl, hc 2 _ rfl, hc 3 _ rfl, hc 4 _ rfl⟩
theorem own_vo {W : World} {base : Nat} {v : Value} {l : List Vt} (h : OwnR fO 5 W base 69 v l) : ∃ A c, v = .slice A l.length c ∧ Sl voK W A c l := OwnR.reads (d := voK) (f := fO) (n := 5) (fun _ _ => rfl) (fun _ => rfl) rfl h
/-- the reference's tally in a world -/
structure Rb (h : Nat) (seed : ByteArray) (tn n below : Int) (v : Value) (vs : List Vt) (W : World) : Prop where
  blk : W.heap[h]? = some (.cells #[.string seed, .int .i64 tn, .int .i64 n, .int .i64 below, v] 67 (0, 0))
  own : OwnR fO 5 W 0 69 v vs
theorem Rb.below {h : Nat} {seed : ByteArray} {tn n below : Int} {v : Value} {vs : List Vt} {W W1 : World} (x : Rb h seed tn n below v vs W) (hb : RowKit.Below W.heap.size W W1) : Rb h seed tn n below v vs W1 := ⟨blk_keep x.blk hb, x.own.below hb⟩
theorem kp_rb (h : Nat) (seed : ByteArray) (tn n below : Int) (v : Value) (vs : List Vt) : Kp (Rb h seed tn n below v vs) :=
  ⟨fun x hb => x.below hb, fun {W k cs t} j u x hk ht => by
    have e1 : h ≠ k := fun e => by
      rw [← e, x.blk] at hk
      simp at hk
      rcases ht with e | ⟨e, -⟩ <;> rw [e] at hk <;> exact absurd hk.2 (by decide)
    refine ⟨(heap_set _ _ _ _ _ e1).trans x.blk, OwnR.grown x.own (row := some k) ⟨rfl, rfl, rfl, by simp [World.setCell], fun i hi hr => heap_set _ _ _ _ i (fun e => hr (by rw [e]))⟩ (.inr (OwnR.blk x.own hk (by rcases ht with rfl | ⟨rfl, -⟩ <;> decide)))⟩, fun {W W1 row} x hg hr => by
    refine ⟨blk_grown x.blk hg (fun e => ?_), OwnR.grown x.own hg (by
      cases e : v.ownBlock with
      | none => exact .inl rfl
      | some k =>
        refine .inr (fun e2 => ?_)
        obtain ⟨cs, hk⟩ := hr k e2.symm
        exact OwnR.blk x.own hk (by decide) e)⟩
    obtain ⟨cs, hk⟩ := hr h e
    rw [x.blk] at hk; simp at hk⟩
set_option maxHeartbeats 1000000 in
theorem zerocert_any (w : World) : Calls Try.prog 40 #[.agg #[.int .i64 0, .string { data := #[] }, .slice none 0 0]] w fun e w' => e = .returned (.bool true) ∧ RowKit.Below w.heap.size w w' := by
  go_enter Try.func40, Try.ntmps40
  go_wp2
  go_ret
  exact ⟨rfl, below_one _ _⟩
/-- how many of a view and a block -/
theorem cnt_take {vs : List Vt} {i : Nat} {x : Vt} (hx : vs[i]? = some x) (view : Int) (b : ByteArray) : (ofF (vs.take (i + 1)) view b).length = (ofF (vs.take i) view b).length + if hit view b x then 1 else 0 := by
  rw [ofF_take hx]
  split <;> simp
set_option maxHeartbeats 4000000 in
set_option maxRecDepth 100000 in
theorem refcount_any {h : Nat} {seed : ByteArray} {tn n below : Int} {v : Value} {vs : List Vt} {w : World} (x : Rb h seed tn n below v vs w) (view : Int) (b : ByteArray) (k : Nat) (hk : (ofF vs view b).length = k) :
    Calls Try.prog 39 #[.pointer (some ⟨h, 0, none⟩), .int .i64 view, .string b] w fun e w' => e = .returned (.int .i64 (k : Nat)) ∧ RowKit.Below w.heap.size w w' := by
  obtain ⟨A, c, rfl, hs⟩ := own_vo x.own
  have HS := Sd.mk hs
  have X := Sd.mk x.blk
  obtain ⟨m, hm⟩ : ∃ m, m = vs.length := ⟨_, rfl⟩
  have HM := Sd.mk hm
  have mc := Nat.le_trans hs.le hs.cap
  rw [← hm] at mc X
  have HK := Sd.mk hk
  clear x hs hm hk
  have g4 := blk_at X.out 4 _ rfl
  go_enter Try.func39, Try.ntmps39
  go_wp2
  clear g4
  go_loopg [7, 8] m (fun gk v7 v8 wr => ∃ (i j : Nat), i + gk = m ∧ j ≤ i ∧ v7 = .int .i64 (j : Nat) ∧ v8 = .int .i64 (i : Nat) ∧ Sd ((ofF (vs.take i) view b).length = j) ∧ Sd (RowKit.Below w.heap.size w wr))
  case atStart => exact ⟨0, 0, by omega, by omega, rfl, rfl, ⟨rfl⟩, ⟨Below.refl _ _⟩⟩
  case round =>
    obtain ⟨i, j, hi, hji, rfl, rfl, HJ, HW⟩ := hrel
    have X1 := Sd.mk (blk_keep X.out HW.out)
    have g4 := blk_at X1.out 4 _ rfl
    by_cases hlt : i < m
    · have hii : (i : Int) < m := by omega
      obtain ⟨x, hx⟩ : ∃ x, vs[i]? = some x := ⟨vs[i]'(by rw [← HM.out]; exact hlt), List.getElem?_eq_getElem _⟩
      obtain ⟨b1, o1, rfl, p0, p1, p2, p3, p4⟩ := vo_at HS.out.row hx
      have c0 := cell_below HW.out p0
      have c1 := cell_below HW.out p1
      have HX := Sd.mk (cnt_take hx view b)
      clear hx p0 p1 p2 p3 p4
      obtain ⟨d1, h1⟩ : ∃ d, (x.v == view) = d := ⟨_, rfl⟩
      obtain ⟨d2, h2⟩ : ∃ d, (x.b.toList == b.toList) = d := ⟨_, rfl⟩
      have HH := Sd.mk (show hit view b x = (d1 && d2) by unfold hit; rw [h1, h2])
      cases d1 with
      | false =>
        go_wp2
        go_roundg (gk - 1)
        case measure => omega
        case rel => exact ⟨i + 1, j, by omega, by omega, rfl, by go_num, ⟨by rw [HX.out, HH.out, HJ.out]; rfl⟩, HW⟩
      | true =>
        cases d2 with
        | false =>
          go_wp2
          go_roundg (gk - 1)
          case measure => omega
          case rel => exact ⟨i + 1, j, by omega, by omega, rfl, by go_num, ⟨by rw [HX.out, HH.out, HJ.out]; rfl⟩, HW⟩
        | true =>
          go_wp2
          go_roundg (gk - 1)
          case measure => omega
          case rel => exact ⟨i + 1, j + 1, by omega, by omega, by go_num, by go_num, ⟨by rw [HX.out, HH.out, HJ.out]; rfl⟩, HW⟩
    · have hii : decide (i < m) = false := decide_eq_false (by omega)
      have hii2 : decide ((i : Int) < (m : Int)) = false := decide_eq_false (by omega)
      obtain rfl : j = k := by have := HJ.out; rw [List.take_of_length_le (by rw [← HM.out]; omega)] at this; rw [← this]; exact HK.out
      go_wp2
      go_ret
      exact ⟨rfl, HW.out⟩
end Go.Proofs.Ytdmdfpbklflijaa.Tal
set_option linter.unusedVariables false
set_option linter.unusedSimpArgs false
namespace Go.Proofs.Ytdmdfpbklflijaa.Tal
open Go.RowKit Go.Sort Rd Api Own Mv App Mk Num Dig Mac

theorem info_op : ((Try.prog).info? 69).map (fun i => (i.zero, i.size, i.bytes)) = some (some (.agg #[.int .i64 0, .string ByteArray.empty, .int .i64 0, .slice none 0 0, .bool false]), 5, 64) := by kernel_rfl
theorem own_zero {α : Type} {f : α → List Value} {n : Nat} {W : World} {base : Nat} {e : TypeId} {v : Value} {xs : List α} (h : OwnR f n W base e v xs) : OwnR f n W 0 e v xs := by
  rcases h.2 with h1 | ⟨g, cap, cur, h1, h2, h3⟩
  · exact ⟨h.1, .inl h1⟩
  · exact ⟨h.1, .inr ⟨g, cap, cur, h1, Nat.zero_le _, h3⟩⟩
theorem rb_set3 {h : Nat} {seed : ByteArray} {tn n below : Int} {v : Value} {vs : List Vt} {W : World} (x : Rb h seed tn n below v vs W) (b2 : Int) : Rb h seed tn n b2 v vs (W.setCell ⟨h, 3, none⟩ (.int .i64 b2)) :=
  ⟨(blk_set3 x.blk 3 _).trans rfl, OwnR.grown x.own (Rp.grown_set W h 3 _) (.inr (OwnR.blk x.own x.blk (by decide)))⟩
theorem rb_set4 {h : Nat} {seed : ByteArray} {tn n below : Int} {v v2 : Value} {vs vs2 : List Vt} {W : World} (x : Rb h seed tn n below v vs W) {base : Nat} (ho : OwnR fO 5 W base 69 v2 vs2) (h0 : OwnR fO 5 W 0 69 v2 vs2) : Rb h seed tn n below v2 vs2 (W.setCell ⟨h, 4, none⟩ v2) :=
  ⟨(blk_set3 x.blk 4 _).trans rfl, OwnR.grown h0 (Rp.grown_set W h 4 _) (.inr (OwnR.blk h0 x.blk (by decide)))⟩
set_option maxHeartbeats 8000000 in
set_option maxRecDepth 100000 in
theorem refbelow_any {h : Nat} {seed : ByteArray} {tn n below : Int} {v : Value} {vs : List Vt} {W : World} (x : Rb h seed tn n below v vs W) (hl : vs.length ≤ 900) (view b2 : Int) (hb2 : max below view = b2) :
    Calls Try.prog 37 #[.pointer (some ⟨h, 0, none⟩), .int .i64 view] W fun e w' => e = .returned (.tuple #[]) ∧ W.grownBy w' (some h) ∧ ∃ v', Rb h seed tn n b2 v' (vs.filter (fun x => !old b2 x)) w' := by
  have X := Sd.mk x
  have g3 := blk_at x.blk 3 _ rfl
  have f3 := blk_frz x.blk 3
  clear x
  go_enter Try.func37, Try.ntmps37
  go_upto_region 1 with (fail)
  have HG0 := Sd.mk (Rp.grown_set W h 3 (.int .i64 b2))
  have X1 := Sd.mk (rb_set3 X.out b2)
  clear X g3 f3 hb2
  generalize W.setCell _ _ = W1 at X1 HG0 ⊢
  obtain ⟨A, c, rfl, hs⟩ := own_vo X1.out.own
  have HS := Sd.mk hs
  obtain ⟨m, hm⟩ : ∃ m, m = vs.length := ⟨_, rfl⟩
  have HM := Sd.mk hm
  have mc := Nat.le_trans hs.le hs.cap
  rw [← hm] at mc X1 hl
  clear hs hm
  have g4 := blk_at X1.out.blk 4 _ rfl
  go_wp2
  clear g4
  go_loopg [4, 5] m (fun gk v4 v5 wr => ∃ (i : Nat) (B : Option Addr) (k d : Nat), i + gk = m ∧ k ≤ i ∧ v4 = .slice B k d ∧ v5 = .int .i64 (i : Nat) ∧ Sd (((vs.take i).filter (fun x => !old b2 x)).length = k) ∧ Sd (RowKit.Below W1.heap.size W1 wr) ∧ Sd (OwnR fO 5 wr W1.heap.size 69 (.slice B k d) ((vs.take i).filter (fun x => !old b2 x))))
  case atStart => exact ⟨0, none, 0, 0, by omega, by omega, rfl, rfl, ⟨rfl⟩, ⟨Below.refl _ _⟩, ⟨OwnR.nil _ _ _ _ _⟩⟩
  case round =>
    obtain ⟨i, B, k, d, hi, hki, rfl, rfl, HK, HW, HO⟩ := hrel
    have X2 := Sd.mk (X1.out.below HW.out)
    have g4 := blk_at X2.out.blk 4 _ rfl
    have g3 := blk_at X2.out.blk 3 _ rfl
    by_cases hlt : i < m
    · have hii : (i : Int) < m := by omega
      obtain ⟨x, hx⟩ : ∃ x, vs[i]? = some x := ⟨vs[i]'(by rw [← HM.out]; exact hlt), List.getElem?_eq_getElem _⟩
      obtain ⟨b1, o1, rfl, p0, p1, p2, p3, p4⟩ := vo_at HS.out.row hx
      have c0 := cell_below HW.out p0
      have HP := Sd.mk (And.intro p0 (And.intro p1 (And.intro p2 (And.intro p3 p4))))
      have HT := Sd.mk (show (vs.take (i + 1)).filter (fun x => !old b2 x) = (vs.take i).filter (fun x => !old b2 x) ++ if old b2 x then [] else [x] by
        rw [List.take_add_one, hx, List.filter_append]
        cases h : old b2 x <;> simp [h])
      clear hx p0 p1 p2 p3 p4
      by_cases hb : x.v ≤ b2
      · have d1 : decide (b2 < x.v) = false := decide_eq_false (by omega)
        have HO1 := Sd.mk (show old b2 x = true from decide_eq_true hb)
        clear hb
        go_upto_region 5 with (fail)
        go_quiet (fail)
        go_wp2
        have HB9 := Sd.mk (below_drewN HW.out nq)
        have HO9 := Sd.mk (HO.out.below (below_drewN (Below.refl _ _) nq))
        go_roundg (gk - 1)
        case measure => omega
        case rel => exact ⟨i + 1, B, k, d, by omega, by omega, rfl, by go_num, ⟨by rw [HT.out, HO1.out]; simp; exact HK.out⟩, HB9, ⟨by rw [HT.out, HO1.out]; simpa using HO9.out⟩⟩
      · have d1 : decide (b2 < x.v) = true := decide_eq_true (by omega)
        have HO1 := Sd.mk (show old b2 x = false from decide_eq_false hb)
        clear hb
        go_upto_region 5 with (fail)
        go_quiet (fail)
        have HW9 := Sd.mk (below_drewN HW.out nq)
        have HO9 := Sd.mk (HO.out.below (below_drewN (Below.refl _ _) nq))
        clear X2 g3 g4 c0 HW HO
        generalize wr.drewN nq = W3 at HW9 HO9 ⊢
        have X2 := Sd.mk (X1.out.below HW9.out)
        have g4 := blk_at X2.out.blk 4 _ rfl
        have c0 := cell_below HW9.out HP.out.1
        have c1 := cell_below HW9.out HP.out.2.1
        have c2 := cell_below HW9.out HP.out.2.2.1
        have c3 := cell_below HW9.out HP.out.2.2.2.1
        have c4 := cell_below HW9.out HP.out.2.2.2.2
        go_upto_region 4 with (first
          | (at_builtin; refine append_one (f := fO) (n := 5) (fun _ => rfl) fO_one W1.heap.size rfl (.tmp 37) (.tmp 45) 63 69 (.agg #[.int .i64 0, .string ByteArray.empty, .int .i64 0, .slice none 0 0, .bool false]) 64 rfl Try.underlying63 info_op rfl (by decide) (.slice B k d) _ x rfl rfl HO9.out HW9.out HW9.out.size (by rw [HK.out]; omega) (by rw [HK.out]; omega) ?_; intro v7 w7 hown hbel hg; obtain ⟨A6, q6, rfl⟩ := OwnR.slice hown; have hl7 : (((vs.take i).filter (fun x => !old b2 x)) ++ [x]).length = k + 1 := (by rw [List.length_append, HK.out]; rfl); rw [hl7] at hown ⊢; have HL7 := Sd.mk hl7; clear hl7; have HW7 := Sd.mk hbel; have HO7 := Sd.mk hown; clear hown hbel hg))
        go_wp2
        go_roundg (gk - 1)
        case measure => omega
        case rel => exact ⟨i + 1, A6, k + 1, q6, by omega, by omega, rfl, by go_num, ⟨by rw [HT.out, HO1.out]; exact HL7.out⟩, HW7, ⟨by rw [HT.out, HO1.out]; exact HO7.out⟩⟩
    · have hii : decide (i < m) = false := decide_eq_false (by omega)
      have hii2 : decide ((i : Int) < (m : Int)) = false := decide_eq_false (by omega)
      have HO8 := Sd.mk (show OwnR fO 5 wr W1.heap.size 69 (.slice B k d) (vs.filter (fun x => !old b2 x)) by have := HO.out; rwa [List.take_of_length_le (by rw [← HM.out]; omega)] at this)
      have f4 := blk_frz X2.out.blk 4
      go_wp2
      have HE := Sd.mk (rb_set4 X2.out HO8.out (own_zero HO8.out))
      have HG9 := Sd.mk (Rp.grown_then (Rp.grown_then HG0.out (Rp.grown_below HW.out (some h))) (Rp.grown_set wr h 4 (.slice B k d)))
      go_end0
      exact ⟨rfl, HG9.out, _, HE.out⟩
end Go.Proofs.Ytdmdfpbklflijaa.Tal

/- A state of bytes: Read, Bytes, walked. -/
import Derived.Test.YtjpjphdcpdjlkaaRead
import Derived.Deep.RegionHeld3
import Derived.Deep.CutBlock
import Derived.Deep.DeepCutAuto
set_option linter.unusedVariables false
set_option linter.unusedSimpArgs false
namespace Go.Proofs.Ytjpjphdcpdjlkaa.Rule
open Go.RowKit Rd Api Own Mv Num

def hd4 (s : ByteArray) : Int := beVal (s.extract 0 4).data.toList
def tl4 (s : ByteArray) : Int := beVal (s.extract 4 8).data.toList

set_option maxHeartbeats 4000000 in
set_option maxRecDepth 100000 in
theorem read_short (w : World) (s : ByteArray) (hm : s.size ≤ 9223372036854775807) (hs : s.size ≠ 8) : Calls Try.prog 39 #[.string s] w fun e w' => e = .returned (.tuple #[.agg #[.int .i64 0, .int .i64 0], .int .i64 2]) ∧ Below w.heap.size w w' := by
  have hd : ((s.size : Int) != 8) = true := by simp; omega
  go_enter Try.func39, Try.ntmps39
  go_wp2
  refine bodyPost_ret (v := .tuple #[.agg #[.int .i64 0, .int .i64 0], .int .i64 2]) (by simp [results, Try.results39, go_sem]) rfl ⟨rfl, ?_⟩
  exact below_one _ _

def Keep2 (w : World) (W : World) : Prop := W.heap[w.heap.size]? = some (.cells #[.int .i64 0, .int .i64 0] 26) ∧ Below w.heap.size w W
theorem mv_keep2 (w : World) : Mv (Keep2 w) := mv_and (mv_blk _ _) (mv_bel w)

theorem keep2_set2 {w W W0 : World} (h0 : Keep2 w W0) (h : Keep2 w W) (u v : Value) : Keep2 w ((W.setCell ⟨W0.heap.size, 0, none⟩ u).setCell ⟨W0.heap.size, 1, none⟩ v) :=
  (mv_keep2 w).set 1 v h0 ((mv_keep2 w).set 0 u h0 h (Nat.le_refl _)) (Nat.le_refl _)
set_option maxHeartbeats 4000000 in
set_option maxRecDepth 100000 in
theorem read_long (w : World) (s : ByteArray) (h8 : s.size = 8) (y0 y1 : Int) (hv : hd4 s = y0) (hl : tl4 s = y1) (r : Int × Int × Int) (hr : (y0 ≤ 1000000 ∧ y1 ≤ 1000000 ∧ r = (y0, y1, 0)) ∨ (¬ (y0 ≤ 1000000 ∧ y1 ≤ 1000000) ∧ r = (0, 0, 2))) :
    Calls Try.prog 39 #[.string s] w fun e w' => e = .returned (.tuple #[.agg #[.int .i64 r.1, .int .i64 r.2.1], .int .i64 r.2.2]) ∧ Below w.heap.size w w' := by
  have HK := Sd.mk (show Keep2 w (w.alloc (.cells #[.int .i64 0, .int .i64 0] 26)) from ⟨blk_new _ _, below_one _ _⟩)
  have H1 := Sd.mk (show beVal (s.extract 0 4).data.toList = y0 from hv)
  have H2 := Sd.mk (show beVal (s.extract 4 8).data.toList = y1 from hl)
  have Z1 := Sd.mk (show (s.extract 0 4).size = 4 by rw [ByteArray.size_extract]; omega)
  have Z2 := Sd.mk (show (s.extract 4 8).size = 4 by rw [ByteArray.size_extract]; omega)
  clear hv hl
  go_enter Try.func39, Try.ntmps39
  go_upto_region 3 with (fail)
  generalize hw : w.alloc (.cells #[.int .i64 0, .int .i64 0] 26) = w1 at HK ⊢
  clear hw
  go_cut [4] from 9 to 15 (fun v4 wx => ∃ k, v4 = .pointer (some ⟨k, 0, none⟩) ∧ Sd (Keep2 w wx) ∧ Sd (wx.heap[k]? = some (.cells #[.int .i64 y0, .int .i64 y1] 26)) ∧ Sd (k ≠ w.heap.size))
  case first =>
    go_region_held3 (fun W => Sd (Keep2 w W)) (first | exact ⟨(mv_keep2 w).drew HK.out⟩ | exact ⟨(mv_keep2 w).drew ((mv_keep2 w).alloc HK.out _)⟩ | exact ⟨hk⟩ | exact ⟨(mv_keep2 w).alloc hk _⟩ | exact ⟨(mv_keep2 w).alloc (‹Sd (Keep2 _ _)›).out _⟩ | exact ⟨keep2_set2 HK.out hk _ _⟩ | exact ⟨keep2_set2 (by assumption) hk _ _⟩ | fail) (first | (go_at_call 53; (with_reducible refine (number_is _ _ y0 Z1.out H1.out).mono ?_); rintro e w3 ⟨rfl, hb⟩; have hk := (mv_keep2 w).below (‹Sd (Keep2 _ _)›).out hb; obtain ⟨hc, hf⟩ := bcell hb; have hz := hb.size; (try simp at hz); (first | (have X0 := two_after hb; have c0 := blk_at X0 0 _ rfl; have c1 := blk_at X0 1 _ rfl; have g0 := blk_frz X0 0; have g1 := blk_frz X0 1) | skip)) | (go_at_call 53; (with_reducible refine (number_is _ _ y1 Z2.out H2.out).mono ?_); rintro e w' ⟨rfl, hb⟩; have hk := (mv_keep2 w).below (‹Sd (Keep2 _ _)›).out hb; obtain ⟨hc, hf⟩ := bcell hb; have hz := hb.size; (try simp at hz); (first | (have X1 := blk_keep X0 hb; have e0 := blk_at X1 0 _ rfl; have e1 := blk_at X1 1 _ rfl; have j0 := blk_frz X1 0; have j1 := blk_frz X1 1) | skip)) | fail)
    · go_wp2_with fail
      go_meet
      exact ⟨_, rfl, ⟨(mv_keep2 w).alloc hk _⟩, ⟨blk_new w' _⟩, ⟨by have := blk_lt' hk.1; omega⟩⟩
    · have hk0 := blk_keep (blk_new _ (.cells #[.int .i64 0, .int .i64 0] 26)) hb
      have hk3 := blk_set3 (blk_set3 hk0 0 (.int .i64 y0)) 1 (.int .i64 y1)
      have hk4 := keep2_set2 (show Keep2 w w3 from by assumption) hk (.int .i64 y0) (.int .i64 y1)
      have hne : w3.heap.size ≠ w.heap.size := by have := blk_lt' (show Keep2 w w3 from by assumption).1; omega
      go_wp2_with fail
      go_meet
      exact ⟨_, rfl, ⟨hk4⟩, ⟨hk3⟩, ⟨hne⟩⟩
    · have hk3 := blk_set3 (blk_set3 X1 0 (.int .i64 y0)) 1 (.int .i64 y1)
      have hk4 := keep2_set2 HK.out hk (.int .i64 y0) (.int .i64 y1)
      have hne : w1.heap.size ≠ w.heap.size := by have := blk_lt' HK.out.1; omega
      go_wp2_with fail
      go_meet
      exact ⟨_, rfl, ⟨hk4⟩, ⟨hk3⟩, ⟨hne⟩⟩
  case rest =>
    obtain ⟨k, rfl, HK, H4, HN⟩ := hcut
    have hX2 := HK.out.1
    have hX4 := H4.out
    have x20 := blk_at hX2 0 _ rfl
    have x21 := blk_at hX2 1 _ rfl
    have z20 := blk_frz hX2 0
    have z21 := blk_frz hX2 1
    have x40 := blk_at hX4 0 _ rfl
    have x41 := blk_at hX4 1 _ rfl
    clear hX2 hX4
    rcases hr with ⟨h1, h2, rfl⟩ | ⟨h1, rfl⟩
    · go_wp2
      refine bodyPost_ret (v := .tuple #[.agg #[.int .i64 y0, .int .i64 y1], .int .i64 0]) (by simp [results, Try.results39, go_sem, x20, x21]) rfl ⟨rfl, ?_⟩
      exact (HK.out.2.setCell (by simp) _).setCell (by simp) _
    · by_cases h0 : y0 ≤ 1000000
      all_goals
        go_wp2
        refine bodyPost_ret (v := .tuple #[.agg #[.int .i64 0, .int .i64 0], .int .i64 2]) (by simp [results, Try.results39, go_sem, x20, x21]) rfl ⟨rfl, ?_⟩
        exact (HK.out.2.setCell (by simp) _).setCell (by simp) _

/-- what bytes are read as: a state, and an error -/
def readF (b : ByteArray) : Int × Int × Int := if b.size = 8 ∧ hd4 b ≤ 1000000 ∧ tl4 b ≤ 1000000 then (hd4 b, tl4 b, 0) else (0, 0, 2)
theorem read_any (w : World) (b : ByteArray) (hm : b.size ≤ 9223372036854775807) (r : Int × Int × Int) (hr : readF b = r) :
    Calls Try.prog 39 #[.string b] w fun e w' => e = .returned (.tuple #[.agg #[.int .i64 r.1, .int .i64 r.2.1], .int .i64 r.2.2]) ∧ Below w.heap.size w w' := by
  by_cases h8 : b.size = 8
  · refine read_long w b h8 _ _ rfl rfl r ?_
    unfold readF at hr
    by_cases h : hd4 b ≤ 1000000 ∧ tl4 b ≤ 1000000
    · rw [if_pos ⟨h8, h⟩] at hr
      exact .inl ⟨h.1, h.2, hr.symm⟩
    · rw [if_neg (fun k => h k.2)] at hr
      exact .inr ⟨h, hr.symm⟩
  · unfold readF at hr
    rw [if_neg (fun k => h8 k.1)] at hr
    subst hr
    exact read_short w b hm h8

def Keep1 (w : World) (h : Nat) (sv sl : Int) (W : World) : Prop := W.heap[h]? = some (.cells #[.int .i64 sv, .int .i64 sl] 26) ∧ Below w.heap.size w W
theorem mv_keep1 (w : World) (h : Nat) (sv sl : Int) : Mv (Keep1 w h sv sl) := mv_and (mv_blk _ _) (mv_bel w)
theorem Keep1.all {w : World} {h : Nat} {sv sl : Int} {W : World} (k : Keep1 w h sv sl W) : W.cell? ⟨h, 0, none⟩ = some (.int .i64 sv) ∧ W.cell? ⟨h, 1, none⟩ = some (.int .i64 sl) ∧ Sd (Keep1 w h sv sl W) := ⟨blk_at k.1 0 _ rfl, blk_at k.1 1 _ rfl, ⟨k⟩⟩
set_option maxHeartbeats 4000000 in
set_option maxRecDepth 100000 in
theorem bytes_any (w : World) (sv sl : Int) : Calls Try.prog 38 #[.agg #[.int .i64 sv, .int .i64 sl]] w fun e w' => e = .returned (.string (num4 sv ++ num4 sl)) ∧ Below w.heap.size w w' := by
  have HK := Sd.mk (show Keep1 w w.heap.size sv sl (w.alloc (.cells #[.int .i64 sv, .int .i64 sl] 26)) from ⟨blk_new _ _, below_one _ _⟩)
  have z1 : (num4 sv).size = 4 := rfl
  have z2 : (num4 sl).size = 4 := rfl
  go_enter Try.func38, Try.ntmps38
  go_wp2
  generalize hw : w.alloc (.cells #[.int .i64 sv, .int .i64 sl] 26) = w1 at HK ⊢
  generalize hh : w.heap.size = h1 at HK ⊢
  go_region_held3 (fun W => W.cell? ⟨h1, 0, none⟩ = some (.int .i64 sv) ∧ W.cell? ⟨h1, 1, none⟩ = some (.int .i64 sl) ∧ Sd (Keep1 w h1 sv sl W)) (first | exact Keep1.all ((mv_keep1 _ _ _ _).drew HK.out) | exact Keep1.all hk | fail) (first | (go_at_call 52; (with_reducible refine (Num.number_any _ sv).mono ?_); rintro e w' ⟨rfl, hb⟩; have hk := (mv_keep1 _ _ _ _).below (‹_ ∧ _ ∧ Sd (Keep1 _ _ _ _ _)›).2.2.out hb) | (go_at_call 52; (with_reducible refine (Num.number_any _ sl).mono ?_); rintro e w' ⟨rfl, hb⟩; have hk := (mv_keep1 _ _ _ _).below (‹_ ∧ _ ∧ Sd (Keep1 _ _ _ _ _)›).2.2.out hb) | fail)
  all_goals
    have HB := Sd.mk hk.2
    clear hk hb
    go_wp2
    go_ret
    exact ⟨rfl, hh ▸ HB.out⟩
set_option maxHeartbeats 4000000 in
set_option maxRecDepth 100000 in
theorem ref_bytes_any (w : World) (sv sl : Int) : Calls Try.prog 40 #[.agg #[.int .i64 sv, .int .i64 sl]] w fun e w' => e = .returned (.string (num4 sv ++ num4 sl)) ∧ Below w.heap.size w w' := by
  have HK := Sd.mk (show Keep1 w w.heap.size sv sl (w.alloc (.cells #[.int .i64 sv, .int .i64 sl] 26)) from ⟨blk_new _ _, below_one _ _⟩)
  have z1 : (num4 sv).size = 4 := rfl
  have z2 : (num4 sl).size = 4 := rfl
  go_enter Try.func40, Try.ntmps40
  go_wp2
  generalize hw : w.alloc (.cells #[.int .i64 sv, .int .i64 sl] 26) = w1 at HK ⊢
  generalize hh : w.heap.size = h1 at HK ⊢
  go_region_held3 (fun W => W.cell? ⟨h1, 0, none⟩ = some (.int .i64 sv) ∧ W.cell? ⟨h1, 1, none⟩ = some (.int .i64 sl) ∧ Sd (Keep1 w h1 sv sl W)) (first | exact Keep1.all ((mv_keep1 _ _ _ _).drew HK.out) | exact Keep1.all hk | fail) (first | (go_at_call 54; (with_reducible refine (Num.ref_number_any _ sv).mono ?_); rintro e w' ⟨rfl, hb⟩; have hk := (mv_keep1 _ _ _ _).below (‹_ ∧ _ ∧ Sd (Keep1 _ _ _ _ _)›).2.2.out hb) | (go_at_call 54; (with_reducible refine (Num.ref_number_any _ sl).mono ?_); rintro e w' ⟨rfl, hb⟩; have hk := (mv_keep1 _ _ _ _).below (‹_ ∧ _ ∧ Sd (Keep1 _ _ _ _ _)›).2.2.out hb) | fail)
  all_goals
    have HB := Sd.mk hk.2
    clear hk hb
    go_wp2
    go_ret
    exact ⟨rfl, hh ▸ HB.out⟩
end Go.Proofs.Ytjpjphdcpdjlkaa.Rule

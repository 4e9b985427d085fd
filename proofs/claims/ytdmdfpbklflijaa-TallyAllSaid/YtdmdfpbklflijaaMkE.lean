/- cert.Make: walked. -/
import Derived.Test.YtdmdfpbklflijaaMkD
set_option linter.unusedVariables false
set_option linter.unusedSimpArgs false
namespace Go.Proofs.Ytdmdfpbklflijaa.Mk
open Go.RowKit Rd Api Own Mv App

set_option maxHeartbeats 1000000 in
theorem compact_none (fv : Value) (w : World) : Calls Try.prog 63 #[.slice none 0 0, fv] w fun e w' => e = .returned (.slice none 0 0) ∧ w' = w := by
  go_enter Try.func63, Try.ntmps63
  go_wp2
  go_ret
  exact ⟨rfl, rfl⟩
/-- the result's cell -/
def RC (w : World) (W : World) : Prop := W.heap[w.heap.size]? = some (.cells #[.int .i64 0, .string { data := #[] }, .slice none 0 0] 24 (0, 0))
/-- .. behind the stores -/
def fin (w w4 : World) (view : Int) (block : ByteArray) (v : Value) : World := ((w4.setCell ⟨w.heap.size, 0, none⟩ (.int .i64 view)).setCell ⟨w.heap.size, 1, none⟩ (.string block)).setCell ⟨w.heap.size, 2, none⟩ v
theorem fin_cells {w w4 : World} (b2 : RC w w4) (view : Int) (block : ByteArray) (v : Value) : (fin w w4 view block v).cell? ⟨w.heap.size, 0, none⟩ = some (.int .i64 view) ∧ (fin w w4 view block v).cell? ⟨w.heap.size, 1, none⟩ = some (.string block) ∧ (fin w w4 view block v).cell? ⟨w.heap.size, 2, none⟩ = some v := by
  have X8 : (fin w w4 view block v).heap[w.heap.size]? = some (.cells #[.int .i64 view, .string block, v] 24 (0, 0)) := (blk_set3 (blk_set3 (blk_set3 b2 0 _) 1 _) 2 _).trans rfl
  exact ⟨blk_at X8 0 _ rfl, blk_at X8 1 _ rfl, blk_at X8 2 _ rfl⟩
theorem fin_bel {w w4 : World} (h : Below w.heap.size w w4) (view : Int) (block : ByteArray) (v : Value) : Below w.heap.size w (fin w w4 view block v) :=
  ((h.setCell (p := ⟨w.heap.size, 0, none⟩) (Nat.le_refl _) _).setCell (p := ⟨w.heap.size, 1, none⟩) (Nat.le_refl _) _).setCell (p := ⟨w.heap.size, 2, none⟩) (Nat.le_refl _) _
theorem fin_cell {w w4 : World} {a : Addr} {u : Value} (hc : w4.cell? a = some u) (hne : a.block ≠ w.heap.size) (view : Int) (block : ByteArray) (v : Value) : (fin w w4 view block v).cell? a = some u :=
  cell_set (cell_set (cell_set hc hne) hne) hne
set_option maxHeartbeats 8000000 in
set_option maxRecDepth 100000 in
theorem make_any (w : World) (view : Int) (block : ByteArray) (A : Option Addr) (c : Nat) (l : List Raw) (h : Sl2 w A c l) (n : Nat) (hn : n = l.length) (h20 : n ≤ 20) :
    Calls Try.prog 25 #[.int .i64 view, .string block, .slice A n c] w fun e w' => ∃ A' k c' r, e = .returned (.agg #[.int .i64 view, .string block, .slice A' k c']) ∧ k = r.length ∧ Sl rawK w' A' c' r ∧ (A' = none → c' = 0) ∧ Made l r ∧ Below w.heap.size w w' := by
  obtain ⟨w1, hw1⟩ : ∃ w1, w1 = w.alloc (.cells #[.int .i64 0, .string { data := #[] }, .slice none 0 0] 24) := ⟨_, rfl⟩
  have HW1 := Sd.mk hw1
  have hb1 : Below w.heap.size w w1 := by rw [hw1]; exact below_one _ _
  have hrc : RC w w1 := by rw [hw1]; exact blk_new _ _
  have hs1 : w1.heap.size = w.heap.size + 1 := by rw [hw1]; simp
  have h1 : Sl2 w1 A c l := ⟨h.le, h.cap, h.row.below hb1, h.nil⟩
  have HC := Sd.mk (clone_any w1 A c l h1 (by omega) n hn)
  have HN := Sd.mk hn
  have HB1 := Sd.mk hb1
  have HRC := Sd.mk hrc
  have HS1 := Sd.mk hs1
  clear h h1 hn hb1 hrc hs1 hw1
  go_enter Try.func25, Try.ntmps25
  go_upto_region 1 with (fail)
  rw [show (w.alloc (.cells #[.int .i64 0, .string { data := #[] }, .slice none 0 0] 24)) = w1 from HW1.out.symm]
  go_upto_region 2 with (first
    | (go_at_call 59; (with_reducible refine HC.out.mono ?_); rintro e w2 ⟨v, rfl, ho, hk, hb2⟩; have HO := Sd.mk ho; have HK := Sd.mk hk; have HB2 := Sd.mk hb2; clear ho hk hb2))
  clear HC
  rcases st_of HO.out HK.out HB2.out with ⟨rfl, hl⟩ | ⟨g, cap, rfl, hcap, hcap2, hst⟩
  · subst hl
    have b2 := blk_keep HRC.out (HB2.out.mono (Nat.le_refl _))
    have a0 := blk_at b2 0 _ rfl
    have a1 := blk_at b2 1 _ rfl
    have a2 := blk_at b2 2 _ rfl
    have f0 := blk_frz b2 0
    have f1 := blk_frz b2 1
    have f2 := blk_frz b2 2
    go_wp2_with (first
      | (go_at_call 60; (with_reducible refine (sort_none _ _ _ _).mono ?_); rintro e w3 ⟨rfl, rfl⟩)
      | (go_at_call 63; (with_reducible refine (compact_none _ _).mono ?_); rintro e w4 ⟨rfl, rfl⟩))
    obtain ⟨y0, y1, y2⟩ := fin_cells b2 view block (.slice none 0 0)
    have HBL := Sd.mk (fin_bel (HB1.out.trans (HB2.out.mono (by rw [HS1.out]; omega))) view block (.slice none 0 0))
    clear a0 a1 a2 f0 f1 f2 b2
    change bodyPost _ _ _ _ _ (fin w w4 view block (.slice none 0 0))
    generalize fin w w4 view block (.slice none 0 0) = w9 at y0 y1 y2 HBL ⊢
    exact bodyPost_ret (v := .agg #[.int .i64 view, .string block, .slice none 0 0]) (by simp [results, Try.results25, go_sem, y0, y1, y2]) rfl ⟨none, 0, 0, [], rfl, rfl, ⟨Nat.le_refl _, by omega, fun i x hx => by simp at hx⟩, fun _ => rfl, ⟨List.Pairwise.nil, fun k => rfl⟩, HBL.out⟩
  · have HST := Sd.mk hst
    have HCAP := Sd.mk (⟨hcap, hcap2⟩ : l.length ≤ cap ∧ cap ≤ 9223372036854775807)
    rw [← HN.out]
    clear hst hcap hcap2
    have hlist : l.toArray.size = l.length := rfl
    have HSZ := Sd.mk (show n = l.toArray.size by rw [hlist]; exact HN.out)
    clear hlist
    go_upto_region 3 with (first
      | (go_at_call 60; (with_reducible refine (sort_any HST.out n HSZ.out h20).mono ?_); rintro e w3 ⟨rfl, hst3⟩; have HST3 := Sd.mk hst3; clear hst3))
    have HCM := Sd.mk (compact_any HST3.out n (by rw [srt_size]; exact HSZ.out) (by omega) (by rw [HN.out]; exact HCAP.out.1) HCAP.out.2)
    go_wp2_with (first
      | (go_at_call 63; (with_reducible refine HCM.out.mono ?_); rintro e w5 ⟨p, rfl, hp, hpn, hc5, hb5⟩; have HP := Sd.mk hp; have HPN := Sd.mk hpn; have HC5 := Sd.mk hc5; have HB5 := Sd.mk hb5; have B2 := Sd.mk (show RC w w5 from blk_keep HRC.out hb5); have a0 := blk_at B2.out 0 _ rfl; have a1 := blk_at B2.out 1 _ rfl; have a2 := blk_at B2.out 2 _ rfl; have f0 := blk_frz B2.out 0; have f1 := blk_frz B2.out 1; have f2 := blk_frz B2.out 2; clear hp hpn hc5 hb5))
    obtain ⟨y0, y1, y2⟩ := fin_cells B2.out view block (.slice (some ⟨g, 0, none⟩) p cap)
    have HBL := Sd.mk (fin_bel (HB1.out.trans (HB5.out.mono (by rw [HS1.out]; omega))) view block (.slice (some ⟨g, 0, none⟩) p cap))
    have hgw : g ≠ w.heap.size := by have := HST.out.ge; rw [HS1.out] at this; omega
    have hrow : Sl rawK (fin w w5 view block (.slice (some ⟨g, 0, none⟩) p cap)) (some ⟨g, 0, none⟩) cap (dif (srtS l.toArray).toList) := by
      refine ⟨by rw [← HP.out]; have := HCAP.out.1; have := HPN.out; have := HN.out; omega, HCAP.out.2, fun i x hx => ⟨g, 0, fS x, rfl, rfl, fun t v hv => ?_⟩⟩
      obtain ⟨h0, h1⟩ := HC5.out i x hx
      match t, hv with
      | 0, hv => simp only [fS, List.getElem?_cons_zero, Option.some.injEq] at hv; subst hv; refine fin_cell ?_ hgw _ _ _; show w5.cell? ⟨g, 0 + i * 2 + 0, none⟩ = _; rw [Nat.zero_add]; exact h0
      | 1, hv => simp only [fS, List.getElem?_cons_succ, List.getElem?_cons_zero, Option.some.injEq] at hv; subst hv; refine fin_cell ?_ hgw _ _ _; show w5.cell? ⟨g, 0 + i * 2 + 1, none⟩ = _; rw [Nat.zero_add]; exact h1
      | t + 2, hv => simp [fS] at hv
    have HRW := Sd.mk hrow
    have HMD := Sd.mk (show Made l (dif (srtS l.toArray).toList) from dif_made (sort_up l.toArray).1 (fun k => (sort_up l.toArray).2 k))
    clear a0 a1 a2 f0 f1 f2 hrow HCM
    change bodyPost _ _ _ _ _ (fin w w5 view block (.slice (some ⟨g, 0, none⟩) p cap))
    generalize fin w w5 view block (.slice (some ⟨g, 0, none⟩) p cap) = w9 at y0 y1 y2 HBL HRW ⊢
    exact bodyPost_ret (v := .agg #[.int .i64 view, .string block, .slice (some ⟨g, 0, none⟩) p cap]) (by simp [results, Try.results25, go_sem, y0, y1, y2]) rfl ⟨_, p, cap, _, rfl, HP.out, HRW.out, (fun e => nomatch e), HMD.out, HBL.out⟩
end Go.Proofs.Ytdmdfpbklflijaa.Mk

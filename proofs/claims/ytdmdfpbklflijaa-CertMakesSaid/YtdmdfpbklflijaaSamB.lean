/- The reference's signature's bytes; whether two are the same: walked. -/
import Derived.Test.YtdmdfpbklflijaaRt
import Derived.Lib.QuietBelow
set_option linter.unusedVariables false
set_option linter.unusedSimpArgs false
namespace Go.Proofs.Ytdmdfpbklflijaa.Rp
open Go.RowKit Go.Sort Rd Api Own Mv App Num

set_option maxHeartbeats 8000000 in
set_option maxRecDepth 100000 in
theorem rsig_any (w : World) (x : Sg.Sig) (A : Option Addr) (c : Nat) (h : Sl Rk.str w A c x.tags) (n : Nat) (hn : n = x.tags.length) (t : ByteArray) (ht : sigB x = t) (hz : t.size ≤ 9223372036854775807) :
    Calls Try.prog 65 #[.agg #[.int .i64 x.node, .slice A n c]] w fun e w' => e = .returned (.string t) ∧ RowKit.Below w.heap.size w w' := by
  subst ht
  have mixed : Try.prog.follows .mixedOrders = true := by kernel_rfl
  have HB0 := Sd.mk (below_one w (.cells #[.int .i64 x.node, .slice A n c] 39))
  have X0 := blk_new w (.cells #[.int .i64 x.node, .slice A n c] 39)
  have hcat : ¬9223372036854775807 < (num4 x.node).size + (num4 (n : Int)).size := by rw [num4_size, num4_size]; omega
  have HUV := Sd.mk (show sigB x = catB (num4 x.node ++ num4 (n : Int)) x.tags by unfold sigB; rw [← hn])
  have HN := Sd.mk hn
  have HS := Sd.mk (h.below (below_one w (.cells #[.int .i64 x.node, .slice A n c] 39)))
  have HZ := Sd.mk (show (catB (num4 x.node ++ num4 (n : Int)) x.tags).size ≤ 9223372036854775807 by rw [← HUV.out]; exact hz)
  have nc := Nat.le_trans h.le h.cap
  rw [← hn] at nc
  clear h hn hz
  go_enter Try.func65, Try.ntmps65
  go_upto_region 1 with (fail)
  generalize hBx : w.heap.size = Bx at X0 ⊢
  generalize w.alloc _ = W1 at HB0 X0 HS ⊢
  have c0 := fun d os => cell_regrown (blk_at X0 0 _ rfl) d os
  have c1 := fun d os => cell_regrown (blk_at X0 1 _ rfl) d os
  refine wp_region_quiet_below (by assumption) (by kernel_rfl) ?_
  repeat (go_big_quiet_step ((go_at_call 58; refine Calls.regrown_of (Num.ref_number_any _ _))))
  refine wpQuiet_nil ?_
  rintro W9 ⟨⟨nq, osq⟩, rfl⟩
  have HB1 := Sd.mk (below_then HB0.out (below_regrown W1 nq osq))
  have X1 := Sd.mk (blk_keep X0 (below_regrown W1 nq osq))
  have HS1 := Sd.mk (HS.out.below (below_regrown W1 nq osq))
  clear c0 c1 X0 HS
  generalize grow _ _ = W9 at HB1 X1 HS1 ⊢
  have c1 := blk_at X1.out 1 _ rfl
  go_wp2
  go_loopg [3, 4] n (fun gk v3 v4 wr => ∃ i, i + gk = n ∧ v3 = .string (catB (num4 x.node ++ num4 (n : Int)) (x.tags.take i)) ∧ v4 = .int .i64 (i : Nat) ∧ Sd (wr = W9))
  case atStart => exact ⟨0, by omega, rfl, rfl, ⟨rfl⟩⟩
  case round =>
    obtain ⟨i, hi, rfl, rfl, HE⟩ := hrel
    obtain rfl := HE.out.symm
    by_cases hlt : i < n
    · have hii : (i : Int) < n := by omega
      have hil : i < x.tags.length := by rw [← HN.out]; exact hlt
      obtain ⟨b1, o1, rfl, c2, -⟩ := str_at HS1.out.row hil
      obtain ⟨y, hy⟩ : ∃ y, x.tags[i] = y := ⟨_, rfl⟩
      rw [hy] at c2
      have HY := Sd.mk (show x.tags[i]? = some y by rw [List.getElem?_eq_getElem hil, hy])
      have HT := Sd.mk (catB_take (b := num4 x.node ++ num4 (n : Int)) HY.out)
      have hpre := catB_pre (num4 x.node ++ num4 (n : Int)) x.tags (i + 1)
      rw [HT.out, app_size] at hpre
      obtain ⟨z, hz⟩ : ∃ z, catB (num4 x.node ++ num4 (n : Int)) (x.tags.take i) = z := ⟨_, rfl⟩
      rw [hz] at hpre HT
      rw [hz]
      have hc2 : ¬9223372036854775807 < z.size + y.size := by have := HZ.out; omega
      clear hy hil hz hpre hcat
      go_wp2
      go_roundg (gk - 1)
      case measure => omega
      case rel => exact ⟨i + 1, by omega, by rw [HT.out], by go_num, ⟨rfl⟩⟩
    · have hii : decide (i < n) = false := decide_eq_false (by omega)
      have HE2 := Sd.mk (show catB (num4 x.node ++ num4 (n : Int)) (x.tags.take i) = sigB x by rw [HUV.out, List.take_of_length_le (by rw [← HN.out]; omega)])
      rw [HE2.out]
      go_wp2
      go_ret
      exact ⟨rfl, by have h := HB1.out; first | exact h | rwa [hBx] at h⟩
set_option maxHeartbeats 4000000 in
theorem same_any (w : World) (x y : Sg.Sig) (A B : Option Addr) (c d : Nat) (h1 : Sl Rk.str w A c x.tags) (h2 : Sl Rk.str w B d y.tags) (n m : Nat) (hn : n = x.tags.length) (hm : m = y.tags.length) (z1 : (sigB x).size ≤ 9223372036854775807) (z2 : (sigB y).size ≤ 9223372036854775807) (r : Bool) (hr : r = decide (sigB x = sigB y)) :
    Calls Try.prog 26 #[.agg #[.int .i64 x.node, .slice A n c], .agg #[.int .i64 y.node, .slice B m d]] w fun e w' => e = .returned (.bool r) ∧ RowKit.Below w.heap.size w w' := by
  have mixed : Try.prog.follows .mixedOrders = true := by kernel_rfl
  have hb0 := below_one w (.cells #[.int .i64 x.node, .slice A n c] 39)
  have hb1 := below_one (w.alloc (.cells #[.int .i64 x.node, .slice A n c] 39)) (.cells #[.int .i64 y.node, .slice B m d] 39)
  have HB := Sd.mk (below_then hb0 hb1)
  have X0 := Sd.mk (blk_keep (blk_new w (.cells #[.int .i64 x.node, .slice A n c] 39)) hb1)
  have Y0 := Sd.mk (blk_new1 w (.cells #[.int .i64 x.node, .slice A n c] 39) (.cells #[.int .i64 y.node, .slice B m d] 39))
  obtain ⟨u, hu⟩ : ∃ u, sigB x = u := ⟨_, rfl⟩
  obtain ⟨v, hv⟩ : ∃ v, sigB y = v := ⟨_, rfl⟩
  have HX := Sd.mk (fun W (hb : RowKit.Below w.heap.size w W) => rsig_any W x A c (h1.below hb) n hn u hu (by rw [← hu]; exact z1))
  have HY := Sd.mk (fun W (hb : RowKit.Below w.heap.size w W) => rsig_any W y B d (h2.below hb) m hm v hv (by rw [← hv]; exact z2))
  have hr2 : (u.toList == v.toList) = r := by rw [str_beq, hr, hu, hv]
  clear h1 h2 hn hm z1 z2 hr hu hv hb0 hb1
  go_enter Try.func26, Try.ntmps26
  go_upto_region 1 with (fail)
  generalize w.heap.size + 1 = By at Y0 ⊢
  generalize hBx : w.heap.size = Bx at X0 ⊢
  generalize (w.alloc _).alloc _ = W1 at X0 Y0 HB ⊢
  have x0 := fun d os => cell_regrown (blk_at X0.out 0 _ rfl) d os
  have x1 := fun d os => cell_regrown (blk_at X0.out 1 _ rfl) d os
  have y0 := fun d os => cell_regrown (blk_at Y0.out 0 _ rfl) d os
  have y1 := fun d os => cell_regrown (blk_at Y0.out 1 _ rfl) d os
  refine wp_region_quiet_below (by assumption) (by kernel_rfl) ?_
  repeat (go_big_quiet_step ((first
    | (go_at_call 65; with_reducible refine Calls.regrown_of (HX.out _ (below_then HB.out (below_regrown _ _ _))))
    | (go_at_call 65; with_reducible refine Calls.regrown_of (HY.out _ (below_then HB.out (below_regrown _ _ _)))))))
  refine wpQuiet_nil ?_
  rintro W9 ⟨⟨nq, osq⟩, rfl⟩
  have HB9 := Sd.mk (below_then HB.out (below_regrown W1 nq osq))
  go_wp2
  go_ret
  exact ⟨rfl, by have h := HB9.out; first | exact h | rwa [hBx] at h⟩
end Go.Proofs.Ytdmdfpbklflijaa.Rp

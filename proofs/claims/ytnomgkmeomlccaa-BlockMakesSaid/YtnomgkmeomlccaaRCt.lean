/- The reference's signature's and certificate's bytes: walked (where SamB's Same is not at hand). -/
import Derived.Test.YtnomgkmeomlccaaRw
import Derived.Test.YtnomgkmeomlccaaRt
import Derived.Lib.QuietBelow
import Derived.BigRegion
import Derived.BigQuiet
set_option linter.unusedVariables false
set_option linter.unusedSimpArgs false
namespace Go.Proofs.Ytnomgkmeomlccaa.Rp
open Go.RowKit Go.Sort Rd Api Own Mv App Num

set_option maxHeartbeats 8000000 in
set_option maxRecDepth 100000 in
theorem rsig_any (w : World) (x : Sg.Sig) (A : Option Addr) (c : Nat) (h : Sl Rk.str w A c x.tags) (n : Nat) (hn : n = x.tags.length) (t : ByteArray) (ht : sigB x = t) (hz : t.size ≤ 9223372036854775807) :
    Calls Try.prog 63 #[.agg #[.int .i64 x.node, .slice A n c]] w fun e w' => e = .returned (.string t) ∧ RowKit.Below w.heap.size w w' := by
  subst ht
  have mixed : Try.prog.follows .mixedOrders = true := by kernel_rfl
  have HB0 := Sd.mk (below_one w (.cells #[.int .i64 x.node, .slice A n c] 51))
  have X0 := blk_new w (.cells #[.int .i64 x.node, .slice A n c] 51)
  have hcat : ¬9223372036854775807 < (num4 x.node).size + (num4 (n : Int)).size := by rw [num4_size, num4_size]; omega
  have HUV := Sd.mk (show sigB x = catB (num4 x.node ++ num4 (n : Int)) x.tags by unfold sigB; rw [← hn])
  have HN := Sd.mk hn
  have HS := Sd.mk (h.below (below_one w (.cells #[.int .i64 x.node, .slice A n c] 51)))
  have HZ := Sd.mk (show (catB (num4 x.node ++ num4 (n : Int)) x.tags).size ≤ 9223372036854775807 by rw [← HUV.out]; exact hz)
  have nc := Nat.le_trans h.le h.cap
  rw [← hn] at nc
  clear h hn hz
  go_enter Try.func63, Try.ntmps63
  go_upto_region 1 with (fail)
  generalize hBx : w.heap.size = Bx at X0 ⊢
  generalize w.alloc _ = W1 at HB0 X0 HS ⊢
  have c0 := fun d os => cell_regrown (blk_at X0 0 _ rfl) d os
  have c1 := fun d os => cell_regrown (blk_at X0 1 _ rfl) d os
  refine wp_region_quiet_below (by assumption) (by kernel_rfl) ?_
  repeat (go_big_quiet_step ((go_at_call 62; refine Calls.regrown_of (Num.ref_number_any _ _))))
  refine wpQuiet_nil ?_
  rintro W9 ⟨⟨nq, osq⟩, rfl⟩
  have HB1 := Sd.mk (below_then HB0.out (below_regrown W1 nq osq))
  have X1 := Sd.mk (blk_keep X0 (below_regrown W1 nq osq))
  have HS1 := Sd.mk (HS.out.below (below_regrown W1 nq osq))
  clear c0 c1 X0 HS
  generalize grow _ _ = W9 at HB1 X1 HS1 ⊢
  have c1 := blk_at X1.out 1 _ rfl
  go_wp2
  go_loopg [3, 4] n (fun gk v3 v4 wr => ∃ i, i + gk = n ∧ v3 = .string (catB (num4 x.node ++ num4 (n : Int)) (x.tags.take i)) ∧ v4 = .int .i64 (i : Nat) ∧ Sd (wr = W9))
  case atStart => exact ⟨0, by omega, rfl, rfl, ⟨rfl⟩⟩
  case round =>
    obtain ⟨i, hi, rfl, rfl, HE⟩ := hrel
    obtain rfl := HE.out.symm
    by_cases hlt : i < n
    · have hii : (i : Int) < n := by omega
      have hil : i < x.tags.length := by rw [← HN.out]; exact hlt
      obtain ⟨b1, o1, rfl, c2, -⟩ := str_at HS1.out.row hil
      obtain ⟨y, hy⟩ : ∃ y, x.tags[i] = y := ⟨_, rfl⟩
      rw [hy] at c2
      have HY := Sd.mk (show x.tags[i]? = some y by rw [List.getElem?_eq_getElem hil, hy])
      have HT := Sd.mk (catB_take (b := num4 x.node ++ num4 (n : Int)) HY.out)
      have hpre := catB_pre (num4 x.node ++ num4 (n : Int)) x.tags (i + 1)
      rw [HT.out, app_size] at hpre
      obtain ⟨z, hz⟩ : ∃ z, catB (num4 x.node ++ num4 (n : Int)) (x.tags.take i) = z := ⟨_, rfl⟩
      rw [hz] at hpre HT
      rw [hz]
      have hc2 : ¬9223372036854775807 < z.size + y.size := by have := HZ.out; omega
      clear hy hil hz hpre hcat
      go_wp2
      go_roundg (gk - 1)
      case measure => omega
      case rel => exact ⟨i + 1, by omega, by rw [HT.out], by go_num, ⟨rfl⟩⟩
    · have hii : decide (i < n) = false := decide_eq_false (by omega)
      have HE2 := Sd.mk (show catB (num4 x.node ++ num4 (n : Int)) (x.tags.take i) = sigB x by rw [HUV.out, List.take_of_length_le (by rw [← HN.out]; omega)])
      rw [HE2.out]
      go_wp2
      go_ret
      exact ⟨rfl, by have h := HB1.out; first | exact h | rwa [hBx] at h⟩
set_option maxHeartbeats 8000000 in
set_option maxRecDepth 100000 in
theorem rcert_any (w : World) (x : Cert) (A : Option Addr) (c : Nat) (h : Sl sgK w A c x.sigs) (n : Nat) (hn : n = x.sigs.length) (t : ByteArray) (ht : certB x = t) (hz : t.size ≤ 9223372036854775807) :
    Calls Try.prog 23 #[.agg #[.int .i64 x.view, .string x.block, .slice A n c]] w fun e w' => e = .returned (.string t) ∧ RowKit.Below w.heap.size w w' := by
  subst ht
  have mixed : Try.prog.follows .mixedOrders = true := by kernel_rfl
  have HB0 := Sd.mk (below_one w (.cells #[.int .i64 x.view, .string x.block, .slice A n c] 39))
  have X0 := blk_new w (.cells #[.int .i64 x.view, .string x.block, .slice A n c] 39)
  have HUV := Sd.mk (show certB x = sigsB (num4 x.view ++ x.block ++ num4 (n : Int)) x.sigs by unfold certB; rw [← hn])
  have HZ := Sd.mk (show (sigsB (num4 x.view ++ x.block ++ num4 (n : Int)) x.sigs).size ≤ 9223372036854775807 by rw [← HUV.out]; exact hz)
  have hz0 := sigsB_size (num4 x.view ++ x.block ++ num4 (n : Int)) x.sigs
  rw [app_size, app_size, num4_size, num4_size] at hz0
  have hcat : ¬9223372036854775807 < (num4 x.view).size + x.block.size := by rw [num4_size]; have := HZ.out; omega
  have hcat2 : ¬9223372036854775807 < (num4 x.view ++ x.block).size + (num4 (n : Int)).size := by rw [app_size, num4_size, num4_size]; have := HZ.out; omega
  have hcat3 : ¬9223372036854775807 < (num4 x.view).size + x.block.size + (num4 (n : Int)).size := by rw [num4_size, num4_size]; have := HZ.out; omega
  have HN := Sd.mk hn
  have HS := Sd.mk h
  have nc := Nat.le_trans h.le h.cap
  rw [← hn] at nc
  clear h hn hz hz0
  go_enter Try.func23, Try.ntmps23
  go_upto_region 1 with (fail)
  generalize hBx : w.heap.size = Bx at X0 ⊢
  generalize w.alloc _ = W1 at HB0 X0 ⊢
  have c0 := fun d os => cell_regrown (blk_at X0 0 _ rfl) d os
  have c1 := fun d os => cell_regrown (blk_at X0 1 _ rfl) d os
  have c2 := fun d os => cell_regrown (blk_at X0 2 _ rfl) d os
  refine wp_region_quiet_below (by assumption) (by kernel_rfl) ?_
  repeat (go_big_quiet_step ((go_at_call 62; refine Calls.regrown_of (Num.ref_number_any _ _))))
  refine wpQuiet_nil ?_
  rintro W9 ⟨⟨nq, osq⟩, rfl⟩
  have HB1 := Sd.mk (below_then HB0.out (below_regrown W1 nq osq))
  have X1 := Sd.mk (blk_keep X0 (below_regrown W1 nq osq))
  clear c0 c1 c2 X0
  generalize grow _ _ = W9 at HB1 X1 ⊢
  have H0 := Sd.mk (by have h := HB1.out; first | exact h | rwa [hBx] at h : RowKit.Below w.heap.size w W9)
  have HR := Sd.mk (Below.refl W9.heap.size W9)
  go_wp2
  go_loopg [3, 4] n (fun gk v3 v4 wr => ∃ i, i + gk = n ∧ v3 = .string (sigsB (num4 x.view ++ x.block ++ num4 (n : Int)) (x.sigs.take i)) ∧ v4 = .int .i64 (i : Nat) ∧ Sd (RowKit.Below W9.heap.size W9 wr))
  case atStart => exact ⟨0, by omega, rfl, rfl, HR⟩
  case round =>
    clear HR HB1 HB0 hcat hcat2 hcat3
    obtain ⟨i, hi, rfl, rfl, HB9⟩ := hrel
    have HB := Sd.mk (below_then H0.out HB9.out)
    have X2 := Sd.mk (blk_keep X1.out HB9.out)
    have c2 := blk_at X2.out 2 _ rfl
    by_cases hlt : i < n
    · have hii : (i : Int) < n := by omega
      have hil : i < x.sigs.length := by rw [← HN.out]; exact hlt
      obtain ⟨y, hy⟩ : ∃ y, x.sigs[i]? = some y := ⟨_, List.getElem?_eq_getElem hil⟩
      obtain ⟨b1, o1, A2, d2, rfl, q0, q1, hs⟩ := sg_at HS.out hy
      have p0 := cell_below HB.out q0
      have p1 := cell_below HB.out q1
      have HT := Sd.mk (sigsB_take (b := num4 x.view ++ x.block ++ num4 (n : Int)) hy)
      have hpre := sigsB_pre (num4 x.view ++ x.block ++ num4 (n : Int)) x.sigs (i + 1)
      rw [HT.out, app_size] at hpre
      obtain ⟨z, hz⟩ : ∃ z, sigsB (num4 x.view ++ x.block ++ num4 (n : Int)) (x.sigs.take i) = z := ⟨_, rfl⟩
      obtain ⟨u, hu⟩ : ∃ u, sigB y = u := ⟨_, rfl⟩
      rw [hz, hu] at hpre HT
      rw [hz]
      have hc2 : ¬9223372036854775807 < z.size + u.size := by have := HZ.out; omega
      have HU := Sd.mk hu
      have HUZ := Sd.mk (show u.size ≤ 9223372036854775807 by have := HZ.out; omega)
      have HSS := Sd.mk (hs.below HB.out)
      clear hy hil hz hpre hu hs q0 q1
      go_wp2_with (first
        | (go_at_call 63; (with_reducible refine (rsig_any _ y A2 d2 HSS.out y.tags.length rfl u HU.out HUZ.out).mono ?_); rintro e w5 ⟨rfl, hb⟩; have HB5 := Sd.mk (below_then HB9.out hb); clear hb))
      go_roundg (gk - 1)
      case measure => omega
      case rel => exact ⟨i + 1, by omega, by rw [HT.out], by go_num, HB5⟩
    · have hii : decide (i < n) = false := decide_eq_false (by omega)
      have hii2 : decide ((i : Int) < (n : Int)) = false := decide_eq_false (by omega)
      have HE := Sd.mk (show sigsB (num4 x.view ++ x.block ++ num4 (n : Int)) (x.sigs.take i) = certB x by rw [HUV.out, List.take_of_length_le (by rw [← HN.out]; omega)])
      rw [HE.out]
      go_wp2
      go_ret
      exact ⟨rfl, HB.out⟩
end Go.Proofs.Ytnomgkmeomlccaa.Rp

/- A certificate's bytes: walked. -/
import Derived.Test.YtdmdfpbklflijaaRwD
import Derived.Lib.QuietBelow
set_option linter.unusedVariables false
set_option linter.unusedSimpArgs false
namespace Go.Proofs.Ytdmdfpbklflijaa.Rp
open Go.RowKit Go.Sort Rd Api Own Mv App Num

theorem catB_size (b : ByteArray) (l : List ByteArray) : b.size ≤ (catB b l).size := by
  rw [catB_ET]; rw [app_size]; omega
theorem catB_take {b : ByteArray} {l : List ByteArray} {i : Nat} {t : ByteArray} (h : l[i]? = some t) : catB b (l.take (i + 1)) = catB b (l.take i) ++ t := by
  rw [List.take_add_one, h]; exact catB_snoc _ _ _
theorem catB_pre (b : ByteArray) (l : List ByteArray) (i : Nat) : (catB b (l.take i)).size ≤ (catB b l).size := by
  have : catB b l = catB (catB b (l.take i)) (l.drop i) := by
    unfold catB; rw [← List.foldl_append, List.take_append_drop]
  rw [this]; exact catB_size _ _
theorem sigsB_size (b : ByteArray) (l : List Sg.Sig) : b.size ≤ (sigsB b l).size := by
  rw [sigsB_ET]; rw [app_size]; omega
theorem sigsB_take {b : ByteArray} {l : List Sg.Sig} {i : Nat} {t : Sg.Sig} (h : l[i]? = some t) : sigsB b (l.take (i + 1)) = sigsB b (l.take i) ++ sigB t := by
  rw [List.take_add_one, h]; exact sigsB_snoc _ _ _
theorem sigsB_pre (b : ByteArray) (l : List Sg.Sig) (i : Nat) : (sigsB b (l.take i)).size ≤ (sigsB b l).size := by
  have : sigsB b l = sigsB (sigsB b (l.take i)) (l.drop i) := by
    unfold sigsB; rw [← List.foldl_append, List.take_append_drop]
  rw [this]; exact sigsB_size _ _
theorem sigsB_in {b : ByteArray} {l : List Sg.Sig} {x : Sg.Sig} (h : x ∈ l) : (sigB x).size ≤ (sigsB b l).size := by
  obtain ⟨i, hi, rfl⟩ := List.getElem_of_mem h
  have h1 := sigsB_pre b l (i + 1)
  rw [sigsB_take (List.getElem?_eq_getElem hi), app_size] at h1
  omega
theorem num_eq (w : World) (n : Int) (t : ByteArray) (h : num4 n = t) : Calls Try.prog 57 #[.int .i64 n] w fun e w' => e = .returned (.string t) ∧ RowKit.Below w.heap.size w w' := by
  subst h; exact Num.number_any w n
set_option maxHeartbeats 8000000 in
set_option maxRecDepth 100000 in
theorem wsig_any (w : World) (x : Sg.Sig) (A : Option Addr) (c : Nat) (h : Sl Rk.str w A c x.tags) (n : Nat) (hn : n = x.tags.length) (t : ByteArray) (ht : sigB x = t) (hz : t.size ≤ 9223372036854775807) :
    Calls Try.prog 105 #[.agg #[.int .i64 x.node, .slice A n c]] w fun e w' => e = .returned (.string t) ∧ RowKit.Below w.heap.size w w' := by
  subst ht
  have mixed : Try.prog.follows .mixedOrders = true := by kernel_rfl
  have HB0 := Sd.mk (below_one w (.cells #[.int .i64 x.node, .slice A n c] 39))
  have X0 := blk_new w (.cells #[.int .i64 x.node, .slice A n c] 39)
  have hcat : ¬9223372036854775807 < (num4 x.node).size + (num4 (n : Int)).size := by rw [num4_size, num4_size]; omega
  have HUV := Sd.mk (show sigB x = catB (num4 x.node ++ num4 (n : Int)) x.tags by unfold sigB; rw [← hn])
  have HN := Sd.mk hn
  have HS := Sd.mk h
  have HZ := Sd.mk (show (catB (num4 x.node ++ num4 (n : Int)) x.tags).size ≤ 9223372036854775807 by rw [← HUV.out]; exact hz)
  have nc := Nat.le_trans h.le h.cap
  rw [← hn] at nc
  clear h hn hz
  go_enter Try.func105, Try.ntmps105
  go_upto_region 1 with (fail)
  generalize hBx : w.heap.size = Bx at X0 ⊢
  generalize w.alloc _ = W1 at HB0 X0 ⊢
  have c0 := fun d os => cell_regrown (blk_at X0 0 _ rfl) d os
  have c1 := fun d os => cell_regrown (blk_at X0 1 _ rfl) d os
  refine wp_region_quiet_below (by assumption) (by kernel_rfl) ?_
  repeat (quiet_step ((go_at_call 57; refine Calls.regrown_of (Num.number_any _ _))))
  refine wpQuiet_nil ?_
  rintro W9 ⟨⟨nq, osq⟩, rfl⟩
  have HB1 := Sd.mk (below_then HB0.out (below_regrown W1 nq osq))
  have X1 := Sd.mk (blk_keep X0 (below_regrown W1 nq osq))
  clear c0 c1 X0
  generalize grow _ _ = W9 at HB1 X1 ⊢
  have c0 := blk_at X1.out 0 _ rfl
  have c1 := blk_at X1.out 1 _ rfl
  have H0 := Sd.mk HB1.out
  go_wp2
  go_loopg [3, 5, 17] n (fun gk v3 v5 v17 wr => ∃ i, i + gk = n ∧ v3 = .string (catB (num4 x.node ++ num4 (n : Int)) (x.tags.take i)) ∧ v17 = .int .i64 (i : Nat) ∧ Sd (RowKit.Below w.heap.size w wr))
  case atStart => exact ⟨0, by omega, rfl, rfl, H0⟩
  case round =>
    clear H0 c0 c1 HB1 X1 HB0
    obtain ⟨i, hi, rfl, rfl, HB⟩ := hrel
    by_cases hlt : i < n
    · have hii : (i : Int) < n := by omega
      have hil : i < x.tags.length := by rw [← HN.out]; exact hlt
      obtain ⟨b1, o1, rfl, hc1, -⟩ := str_at HS.out.row hil
      obtain ⟨y, hy⟩ : ∃ y, x.tags[i] = y := ⟨_, rfl⟩
      rw [hy] at hc1
      have c1 := cell_below HB.out hc1
      have HY := Sd.mk (show x.tags[i]? = some y by rw [List.getElem?_eq_getElem hil, hy])
      have HT := Sd.mk (catB_take (b := num4 x.node ++ num4 (n : Int)) HY.out)
      have hpre := catB_pre (num4 x.node ++ num4 (n : Int)) x.tags (i + 1)
      rw [HT.out, app_size] at hpre
      obtain ⟨z, hz⟩ : ∃ z, catB (num4 x.node ++ num4 (n : Int)) (x.tags.take i) = z := ⟨_, rfl⟩
      rw [hz] at hpre HT
      rw [hz]
      have hc2 : ¬9223372036854775807 < z.size + y.size := by have := HZ.out; omega
      clear hc1 hy hil hz hpre hcat
      go_wp2
      go_roundg (gk - 1)
      case measure => omega
      case rel => exact ⟨i + 1, by omega, by rw [HT.out], by go_num, HB⟩
    · have hii : decide (i < n) = false := decide_eq_false (by omega)
      have HE := Sd.mk (show catB (num4 x.node ++ num4 (n : Int)) (x.tags.take i) = sigB x by rw [HUV.out, List.take_of_length_le (by rw [← HN.out]; omega)])
      rw [HE.out]
      go_wp2
      go_ret
      exact ⟨rfl, HB.out⟩
set_option maxHeartbeats 8000000 in
set_option maxRecDepth 100000 in
theorem wcert_any (w : World) (x : Cert) (A : Option Addr) (c : Nat) (h : Sl sgK w A c x.sigs) (n : Nat) (hn : n = x.sigs.length) (t : ByteArray) (ht : certB x = t) (hz : t.size ≤ 9223372036854775807) :
    Calls Try.prog 80 #[.agg #[.int .i64 x.view, .string x.block, .slice A n c]] w fun e w' => e = .returned (.string t) ∧ RowKit.Below w.heap.size w w' := by
  subst ht
  have mixed : Try.prog.follows .mixedOrders = true := by kernel_rfl
  have HB0 := Sd.mk (below_one w (.cells #[.int .i64 x.view, .string x.block, .slice A n c] 24))
  have X0 := blk_new w (.cells #[.int .i64 x.view, .string x.block, .slice A n c] 24)
  have HUV := Sd.mk (show certB x = sigsB (num4 x.view ++ x.block ++ num4 (n : Int)) x.sigs by unfold certB; rw [← hn])
  have HZ := Sd.mk (show (sigsB (num4 x.view ++ x.block ++ num4 (n : Int)) x.sigs).size ≤ 9223372036854775807 by rw [← HUV.out]; exact hz)
  have hz0 := sigsB_size (num4 x.view ++ x.block ++ num4 (n : Int)) x.sigs
  rw [app_size, app_size, num4_size, num4_size] at hz0
  have hcat : ¬9223372036854775807 < (num4 x.view).size + x.block.size := by rw [num4_size]; have := HZ.out; omega
  have hcat2 : ¬9223372036854775807 < (num4 x.view ++ x.block).size + (num4 (n : Int)).size := by rw [app_size, num4_size, num4_size]; have := HZ.out; omega
  have hcat3 : ¬9223372036854775807 < (num4 x.view).size + x.block.size + (num4 (n : Int)).size := by rw [num4_size, num4_size]; have := HZ.out; omega
  have HN := Sd.mk hn
  have HS := Sd.mk h
  have nc := Nat.le_trans h.le h.cap
  rw [← hn] at nc
  clear h hn hz hz0
  go_enter Try.func80, Try.ntmps80
  go_upto_region 1 with (fail)
  generalize hBx : w.heap.size = Bx at X0 ⊢
  generalize w.alloc _ = W1 at HB0 X0 ⊢
  have c0 := fun d os => cell_regrown (blk_at X0 0 _ rfl) d os
  have c1 := fun d os => cell_regrown (blk_at X0 1 _ rfl) d os
  have c2 := fun d os => cell_regrown (blk_at X0 2 _ rfl) d os
  refine wp_region_quiet_below (by assumption) (by kernel_rfl) ?_
  repeat (quiet_step ((go_at_call 57; refine Calls.regrown_of (Num.number_any _ _))))
  refine wpQuiet_nil ?_
  rintro W9 ⟨⟨nq, osq⟩, rfl⟩
  have HB1 := Sd.mk (below_then HB0.out (below_regrown W1 nq osq))
  have X1 := Sd.mk (blk_keep X0 (below_regrown W1 nq osq))
  clear c0 c1 c2 X0
  generalize grow _ _ = W9 at HB1 X1 ⊢
  have c0 := blk_at X1.out 0 _ rfl
  have c1 := blk_at X1.out 1 _ rfl
  have c2 := blk_at X1.out 2 _ rfl
  have H0 := Sd.mk HB1.out
  go_wp2
  go_loopg [3, 5, 20] n (fun gk v3 v5 v20 wr => ∃ i, i + gk = n ∧ v3 = .string (sigsB (num4 x.view ++ x.block ++ num4 (n : Int)) (x.sigs.take i)) ∧ v20 = .int .i64 (i : Nat) ∧ Sd (RowKit.Below w.heap.size w wr))
  case atStart => exact ⟨0, by omega, rfl, rfl, H0⟩
  case round =>
    clear H0 c0 c1 c2 HB1 X1 HB0 hcat hcat2 hcat3
    obtain ⟨i, hi, rfl, rfl, HB⟩ := hrel
    by_cases hlt : i < n
    · have hii : (i : Int) < n := by omega
      have hil : i < x.sigs.length := by rw [← HN.out]; exact hlt
      obtain ⟨y, hy⟩ : ∃ y, x.sigs[i]? = some y := ⟨_, List.getElem?_eq_getElem hil⟩
      obtain ⟨b1, o1, A2, c2, rfl, q0, q1, hs⟩ := sg_at HS.out hy
      have p0 := cell_below HB.out q0
      have p1 := cell_below HB.out q1
      have HT := Sd.mk (sigsB_take (b := num4 x.view ++ x.block ++ num4 (n : Int)) hy)
      have hpre := sigsB_pre (num4 x.view ++ x.block ++ num4 (n : Int)) x.sigs (i + 1)
      rw [HT.out, app_size] at hpre
      obtain ⟨z, hz⟩ : ∃ z, sigsB (num4 x.view ++ x.block ++ num4 (n : Int)) (x.sigs.take i) = z := ⟨_, rfl⟩
      obtain ⟨u, hu⟩ : ∃ u, sigB y = u := ⟨_, rfl⟩
      rw [hz, hu] at hpre HT
      rw [hz]
      have hc2 : ¬9223372036854775807 < z.size + u.size := by have := HZ.out; omega
      have HU := Sd.mk hu
      have HUZ := Sd.mk (show u.size ≤ 9223372036854775807 by have := HZ.out; omega)
      have HSS := Sd.mk (hs.below HB.out)
      clear hy hil hz hpre hu hs q0 q1
      go_upto_region 5 with (fail)
      have X0 := Sd.mk (blk_new wr (.cells #[.int .i64 y.node, .slice A2 y.tags.length c2] 39))
      have hb4 := below_one wr (.cells #[.int .i64 y.node, .slice A2 y.tags.length c2] 39)
      have HB4 := Sd.mk (below_then HB.out hb4)
      have HS4 := Sd.mk (HSS.out.below hb4)
      clear p0 p1 HB HSS hb4
      generalize wr.heap.size = Bv at X0 ⊢
      generalize wr.alloc _ = W4 at X0 HB4 HS4 ⊢
      have p0 := blk_at X0.out 0 _ rfl
      have p1 := blk_at X0.out 1 _ rfl
      go_wp2_with (first
        | (go_at_call 105; (with_reducible refine (wsig_any _ y A2 c2 HS4.out y.tags.length rfl u HU.out HUZ.out).mono ?_); rintro e w5 ⟨rfl, hb⟩; have HB5 := Sd.mk (below_then HB4.out hb); clear hb))
      go_roundg (gk - 1)
      case measure => omega
      case rel => exact ⟨i + 1, by omega, by rw [HT.out], by go_num, HB5⟩
    · have hii : decide (i < n) = false := decide_eq_false (by omega)
      have HE := Sd.mk (show sigsB (num4 x.view ++ x.block ++ num4 (n : Int)) (x.sigs.take i) = certB x by rw [HUV.out, List.take_of_length_le (by rw [← HN.out]; omega)])
      rw [HE.out]
      go_wp2
      go_ret
      exact ⟨rfl, HB.out⟩
end Go.Proofs.Ytdmdfpbklflijaa.Rp

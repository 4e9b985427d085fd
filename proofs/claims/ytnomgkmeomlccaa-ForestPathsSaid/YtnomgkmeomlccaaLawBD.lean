/- BlockDigests: walked. -/
import Derived.Test.YtnomgkmeomlccaaBlkW
import Derived.Test.YtnomgkmeomlccaaCrtG
set_option linter.unusedVariables false
set_option linter.unusedSimpArgs false
namespace Go.Proofs.Ytnomgkmeomlccaa.Blk
open Go.RowKit Go.Sort Rd Api Own Mv App Num Dig

set_option maxHeartbeats 8000000 in
set_option maxRecDepth 100000 in
theorem few_any (w : World) (x : Block) (A : Option Addr) (c : Nat) (B : Option Addr) (d : Nat) (h : Sl Rp.sgK w A c x.just.sigs) (h2 : Sl rqN w B d x.batch) (n m : Nat) (hn : n = x.just.sigs.length) (hm : m = x.batch.length) :
    Calls Try.prog 24 #[.agg #[.int .i64 x.view, .int .i64 x.prop, .int .i64 x.just.view, .string x.just.block, .slice A n c, .slice B m d]] w (Sg.Tells (blkFew x) w) := by
  have hb0 := below_one w (.cells #[.int .i64 x.view, .int .i64 x.prop, .int .i64 x.just.view, .string x.just.block, .slice A n c, .slice B m d] 42)
  have HB := Sd.mk hb0
  have HS := Sd.mk (h2.below hb0)
  have HFC := Sd.mk (fun W (hb : Below (w.alloc (.cells #[.int .i64 x.view, .int .i64 x.prop, .int .i64 x.just.view, .string x.just.block, .slice A n c, .slice B m d] 42)).heap.size (w.alloc (.cells #[.int .i64 x.view, .int .i64 x.prop, .int .i64 x.just.view, .string x.just.block, .slice A n c, .slice B m d] 42)) W) => Crt.few_any W x.just A c ((h.below hb0).below hb) n hn)
  have X0 := Sd.mk (blk_new w (.cells #[.int .i64 x.view, .int .i64 x.prop, .int .i64 x.just.view, .string x.just.block, .slice A n c, .slice B m d] 42))
  have mc := Nat.le_trans h2.le h2.cap
  rw [← hm] at mc
  have HM := Sd.mk hm
  clear h h2 hn hm hb0
  go_enter Try.func24, Try.ntmps24
  go_upto_region 2 with (fail)
  generalize w.heap.size = Bx at X0 ⊢
  generalize w.alloc _ = W1 at X0 HB HS HFC ⊢
  go_loopg [3] m (fun gk v3 wr => ∃ i, i + gk = m ∧ i ≤ 20 ∧ v3 = .int .i64 (i : Nat) ∧ Sd (∀ s ∈ x.batch.take i, s.b.size ≤ 60) ∧ Sd (Below W1.heap.size W1 wr))
  case atStart => exact ⟨0, by omega, by omega, rfl, ⟨fun t ht => by simp at ht⟩, ⟨Below.refl _ _⟩⟩
  case round =>
    obtain ⟨i, hi, hi20, rfl, HA, HW⟩ := hrel
    have X1 := Sd.mk (blk_keep X0.out HW.out)
    have c2 := blk_at X1.out 2 _ rfl
    have c3 := blk_at X1.out 3 _ rfl
    have c4 := blk_at X1.out 4 _ rfl
    have c5 := blk_at X1.out 5 _ rfl
    have bad : ∀ (v : Bool) (W' : World), v = false → Below W1.heap.size W1 W' → Sg.Tells (blkFew x) w (.returned (.bool v)) W' := fun v W' hv hb => ⟨v, rfl, fun h => (by rw [hv] at h; cases h), below_then HB.out hb⟩
    have HBAD := Sd.mk bad
    clear bad
    by_cases hlt : i < m
    · have hii : (i : Int) < m := by omega
      by_cases h20 : i < 20
      · have h20i : (i : Int) < 20 := by omega
        obtain ⟨y, hy⟩ : ∃ y, x.batch[i]? = some y := ⟨_, List.getElem?_eq_getElem (show i < x.batch.length by rw [← HM.out]; exact hlt)⟩
        obtain ⟨b1, o1, rfl, p0, p1, p2⟩ := rq_at HS.out.row hy
        have q2 := cell_below HW.out p2
        have HY := Sd.mk hy
        clear hy p0 p1 p2
        by_cases h60 : y.b.size ≤ 60
        · have d60 : decide ((60 : Int) < (y.b.size : Int)) = false := decide_eq_false (by omega)
          have HA2 := Sd.mk (show ∀ s ∈ x.batch.take (i + 1), s.b.size ≤ 60 from fun s hs => by
            rw [List.take_add_one, HY.out] at hs
            rcases List.mem_append.1 hs with e | e
            · exact HA.out s e
            · simp at e; subst e; exact h60)
          clear h60
          go_wp2
          go_roundg (gk - 1)
          case measure => omega
          case rel => exact ⟨i + 1, by omega, by omega, by go_num, HA2, HW⟩
        · have d60 : decide ((60 : Int) < (y.b.size : Int)) = true := decide_eq_true (by omega)
          clear h60
          go_wp2
          go_ret
          exact HBAD.out false _ rfl HW.out
      · have h20i : decide ((i : Int) < 20) = false := decide_eq_false (by omega)
        have h20b : decide (i < 20) = false := decide_eq_false (by omega)
        have h10 : decide ((m : Int) ≤ 6) = false := decide_eq_false (by omega)
        have h10b : decide (m ≤ 6) = false := decide_eq_false (by omega)
        go_wp2
        go_ret
        exact HBAD.out false _ rfl HW.out
    · have hii : decide (i < m) = false := decide_eq_false (by omega)
      have hii2 : decide ((i : Int) < (m : Int)) = false := decide_eq_false (by omega)
      have HAL := Sd.mk (show ∀ s ∈ x.batch, s.b.size ≤ 60 by have := HA.out; rwa [List.take_of_length_le (by rw [← HM.out]; omega)] at this)
      by_cases h10 : m ≤ 6
      · have d0 : decide ((m : Int) ≤ 6) = true := decide_eq_true (by omega)
        have d0b : decide (m ≤ 6) = true := decide_eq_true h10
        have HT := Sd.mk (show x.batch.length ≤ 6 by rw [← HM.out]; exact h10)
        clear h10
        go_wp2_with (first
          | (go_at_call 20; (with_reducible refine (HFC.out _ HW.out).mono ?_); rintro e w2 ⟨r, rfl, ht, hb⟩; have HTR := Sd.mk ht; have HB2 := Sd.mk (below_then HW.out hb); clear ht hb))
        go_ret
        exact ⟨r, rfl, fun hr => ⟨HT.out, HAL.out, HTR.out hr⟩, below_then HB.out HB2.out⟩
      · have d0 : decide ((m : Int) ≤ 6) = false := decide_eq_false (by omega)
        have d0b : decide (m ≤ 6) = false := decide_eq_false h10
        clear h10
        go_wp2
        go_ret
        exact HBAD.out false _ rfl HW.out
set_option maxHeartbeats 4000000 in
set_option maxRecDepth 100000 in
theorem parent_any (w : World) (v p jv : Int) (jb : ByteArray) (a b : Value) : Calls Try.prog 28 #[.agg #[.int .i64 v, .int .i64 p, .int .i64 jv, .string jb, a, b]] w fun e w' => e = .returned (.string jb) ∧ RowKit.Below w.heap.size w w' := by
  have HB := Sd.mk (below_one w (.cells #[.int .i64 v, .int .i64 p, .int .i64 jv, .string jb, a, b] 42))
  have X0 := Sd.mk (blk_new w (.cells #[.int .i64 v, .int .i64 p, .int .i64 jv, .string jb, a, b] 42))
  go_enter Try.func28, Try.ntmps28
  go_upto_region 1 with (fail)
  generalize hBx : w.heap.size = Bx at X0 ⊢
  generalize w.alloc _ = W1 at HB X0 ⊢
  have c3 := blk_at X0.out 3 _ rfl
  go_wp2
  go_ret
  exact ⟨rfl, by have h := HB.out; first | exact h | rwa [hBx] at h⟩
set_option maxHeartbeats 4000000 in
set_option maxRecDepth 100000 in
theorem first_any (w : World) (d : ByteArray) (hd : Crt.FB = d) : Calls Try.prog 29 #[] w fun e w' => e = .returned (.string d) ∧ RowKit.Below w.heap.size w w' := by
  have hfc := fun W => Crt.field_cert W d
  go_enter Try.func29, Try.ntmps29
  go_wp2_with (first
    | (go_at_call 68; (with_reducible refine (Crt.first_any _ d hd).mono ?_); rintro e w1 ⟨rfl, hb⟩; have HB := Sd.mk hb; clear hb))
  go_ret
  exact ⟨rfl, HB.out⟩
set_option maxHeartbeats 4000000 in
set_option maxRecDepth 100000 in
theorem awake_any (w : World) : Calls Try.prog 19 #[] w fun e w' => e = .returned (.bool true) ∧ RowKit.Below w.heap.size w w' := by
  obtain ⟨d, hd⟩ : ∃ d, Crt.FB = d := ⟨_, rfl⟩
  have hd32 : d.size = 32 := by rw [← hd]; exact Crt.FB_size
  have hdi : ((d.size : Int) == 32) = true := by rw [hd32]; rfl
  have hdn : (d.size == 32) = true := by rw [hd32]; rfl
  have HD := Sd.mk hd
  clear hd hd32
  go_enter Try.func19, Try.ntmps19
  go_wp2_with (first
    | (go_at_call 29; (with_reducible refine (first_any _ d HD.out).mono ?_); rintro e w1 ⟨rfl, hb⟩; have HB1 := Sd.mk hb; clear hb)
    | (go_at_call 33; (with_reducible refine (well_zero _ _ _ _).mono ?_); rintro e w2 ⟨rfl, hb⟩; have HB2 := Sd.mk (below_then HB1.out hb); clear hb))
  go_ret
  exact ⟨rfl, HB2.out⟩
set_option maxHeartbeats 8000000 in
set_option maxRecDepth 100000 in
theorem bd_law (w : World) (x : Block) (A : Option Addr) (n c : Nat) (B : Option Addr) (m d : Nat) (hg : Sl Rp.sgK w A c x.just.sigs) (hn : n = x.just.sigs.length) (hs : Sl rqN w B d x.batch) (hm : m = x.batch.length) (y : Sg.Sig) (Ay : Option Addr) (my cy : Nat) (hy : Sl Rk.str w Ay cy y.tags) (hm1 : my = y.tags.length) :
    Calls Try.prog 5 #[.agg #[.int .i64 x.view, .int .i64 x.prop, .int .i64 x.just.view, .string x.just.block, .slice A n c, .slice B m d], .agg #[.int .i64 y.node, .slice Ay my cy]] w fun e w' => e = .returned (.bool true) ∧ RowKit.Below w.heap.size w w' := by
  have mixed : Try.prog.follows .mixedOrders = true := by kernel_rfl
  have b0 := below_one w (.cells #[.int .i64 x.view, .int .i64 x.prop, .int .i64 x.just.view, .string x.just.block, .slice A n c, .slice B m d] 42)
  have HB := Sd.mk (below_then b0 (below_one (w.alloc (.cells #[.int .i64 x.view, .int .i64 x.prop, .int .i64 x.just.view, .string x.just.block, .slice A n c, .slice B m d] 42)) (.cells #[.int .i64 y.node, .slice Ay my cy] 51)))
  have X0 := Sd.mk (show ((w.alloc (.cells #[.int .i64 x.view, .int .i64 x.prop, .int .i64 x.just.view, .string x.just.block, .slice A n c, .slice B m d] 42)).alloc (.cells #[.int .i64 y.node, .slice Ay my cy] 51)).heap[w.heap.size]? = some (.cells #[.int .i64 x.view, .int .i64 x.prop, .int .i64 x.just.view, .string x.just.block, .slice A n c, .slice B m d] 42 (0, 0)) from blk_keep (blk_new w _) (below_one _ _))
  have Y0 := Sd.mk (show ((w.alloc (.cells #[.int .i64 x.view, .int .i64 x.prop, .int .i64 x.just.view, .string x.just.block, .slice A n c, .slice B m d] 42)).alloc (.cells #[.int .i64 y.node, .slice Ay my cy] 51)).heap[w.heap.size + 1]? = some (.cells #[.int .i64 y.node, .slice Ay my cy] 51 (0, 0)) from blk_new1 _ _ _)
  have HFB := Sd.mk (fun W (h : RowKit.Below w.heap.size w W) => few_any W x A c B d (hg.below h) (hs.below h) n m hn hm)
  have HFS := Sd.mk (fun W (h : RowKit.Below w.heap.size w W) => (by have := Sg.sig_any W y Ay cy (hy.below h); rwa [← hm1] at this : Calls Try.prog 25 #[.agg #[.int .i64 y.node, .slice Ay my cy]] W (Sg.Tells (Sg.sigFew y) W)))
  obtain ⟨t, ht⟩ : ∃ t, digB x = t := ⟨_, rfl⟩
  have HDG := Sd.mk (fun (hf : blkFew x) W (h : RowKit.Below w.heap.size w W) => dig_any W x A n c B m d (hs.below h) hm t ht (by have := coreB_few hf; omega))
  have HRD := Sd.mk (fun (hf : blkFew x) W (h : RowKit.Below w.heap.size w W) => rdig_any W x A n c B m d (hs.below h) hm t ht (by have := coreB_few hf; omega))
  have HD2 := Sd.mk (fun (hf : blkFew x) (Bz : Nat) W (h : RowKit.Below w.heap.size w W) => (show Calls Try.prog 26 #[.agg #[.int .i64 x.view, .int .i64 x.prop, .int .i64 x.just.view, .string x.just.block, .slice (some ⟨Bz, 0, none⟩) 1 1, .slice B m d]] W fun e w' => e = .returned (.string t) ∧ RowKit.Below W.heap.size W w' from
    dig_any W ⟨x.view, x.prop, ⟨x.just.view, x.just.block, [y]⟩, x.batch⟩ (some ⟨Bz, 0, none⟩) 1 1 B m d (hs.below h) hm t ht (by have := coreB_few hf; exact Nat.le_trans this (by omega))))
  obtain ⟨fb, hfb⟩ : ∃ d, Crt.FB = d := ⟨_, rfl⟩
  have HFI := Sd.mk hfb
  clear hg hn hs hm hy hm1 b0 ht hfb
  go_enter Try.func5, Try.ntmps5
  go_upto_region 1 with (fail)
  generalize hk1 : w.heap.size + 1 = Bs at Y0 ⊢
  generalize hk0 : w.heap.size = Bb at X0 ⊢
  generalize (w.alloc _).alloc _ = W1 at X0 Y0 HB ⊢
  go_upto_region 3 with (first
    | (go_at_call 19; (with_reducible refine (awake_any _).mono ?_); rintro e w2 ⟨rfl, hb⟩; (first | (have HB5 := Sd.mk (below_then HB4.out hb)) | (have HB5 := Sd.mk (below_then HB3.out hb)) | (have HB2 := Sd.mk (below_then HB.out hb); have X2 := Sd.mk (blk_keep X0.out hb); have Y2 := Sd.mk (blk_keep Y0.out hb); have c0 := blk_at X2.out 0 _ rfl; have c1 := blk_at X2.out 1 _ rfl; have c2 := blk_at X2.out 2 _ rfl; have c3 := blk_at X2.out 3 _ rfl; have c4 := blk_at X2.out 4 _ rfl; have c5 := blk_at X2.out 5 _ rfl)); clear hb)
    | (go_at_call 24; (with_reducible refine (HFB.out _ HB2.out).mono ?_); rintro e w3 ⟨r, rfl, ht, hb⟩; have HB3 := Sd.mk (below_then HB2.out hb); have X3 := Sd.mk (blk_keep X2.out hb); have Y3 := Sd.mk (blk_keep Y2.out hb); have s0 := blk_at Y3.out 0 _ rfl; have s1 := blk_at Y3.out 1 _ rfl; have HT1 := Sd.mk ht; clear ht hb; cases r)
    | (go_at_call 25; (with_reducible refine (HFS.out _ HB3.out).mono ?_); rintro e w4 ⟨r, rfl, ht, hb⟩; have HB4 := Sd.mk (below_then HB3.out hb); have X4 := Sd.mk (blk_keep X3.out hb); have Y4 := Sd.mk (blk_keep Y3.out hb); clear ht hb; cases r))
  · go_ret
    exact ⟨rfl, HB5.out⟩
  · go_ret
    exact ⟨rfl, HB5.out⟩
  · have hf := HT1.out trivial
    have HDG := Sd.mk (HDG.out hf)
    have HRD := Sd.mk (HRD.out hf)
    have HD2 := Sd.mk (HD2.out hf)
    clear HT1 HFB HFS HB HB2 HB3 X0 X2 X3 Y0 Y2 Y3 s0 s1
    have c0 := blk_at X4.out 0 _ rfl
    have c1 := blk_at X4.out 1 _ rfl
    have c2 := blk_at X4.out 2 _ rfl
    have c3 := blk_at X4.out 3 _ rfl
    have c4 := blk_at X4.out 4 _ rfl
    have c5 := blk_at X4.out 5 _ rfl
    go_upto_region 4 with (fail)
    have b4 := below_one w4 (.cells #[.int .i64 x.view, .int .i64 x.prop, .int .i64 x.just.view, .string x.just.block, .slice A n c, .slice B m d] 42)
    have X5 := Sd.mk (blk_keep X4.out b4)
    have Y5 := Sd.mk (blk_keep Y4.out b4)
    have Z5 := Sd.mk (blk_new w4 (.cells #[.int .i64 x.view, .int .i64 x.prop, .int .i64 x.just.view, .string x.just.block, .slice A n c, .slice B m d] 42))
    have HB5 := Sd.mk (below_then HB4.out b4)
    have HGE := Sd.mk (show w.heap.size ≤ w4.heap.size from HB4.out.size)
    have HNE := Sd.mk (show Bb ≠ w4.heap.size by have h1 := blk_lt' X4.out; omega)
    clear c0 c1 c2 c3 c4 c5 b4 X4 Y4 HB4
    generalize w4.heap.size = Bc at Z5 HGE HNE ⊢
    generalize w4.alloc _ = W5 at X5 Y5 Z5 HB5 ⊢
    have b5 := below_one W5 (.cells #[.int .i64 y.node, .slice Ay my cy] 51)
    have X6 := Sd.mk (blk_keep X5.out b5)
    have Z6 := Sd.mk (blk_keep Z5.out b5)
    have HB6 := Sd.mk (below_then HB5.out b5)
    have c2 := blk_at X5.out 2 _ rfl
    have c3 := blk_at X5.out 3 _ rfl
    have s0 := blk_at Y5.out 0 _ rfl
    have s1 := blk_at Y5.out 1 _ rfl
    have f2 := blk_frz Z6.out 2
    have f3 := blk_frz Z6.out 3
    have f4 := blk_frz Z6.out 4
    have e2 := blk_at Z6.out 2 _ rfl
    have e3 := blk_at Z6.out 3 _ rfl
    have e4 := blk_at Z6.out 4 _ rfl
    clear b5 Y5
    have HZ := Sd.mk (fun (u v z : Value) => show ((((W5.alloc (.cells #[.int .i64 y.node, .slice Ay my cy] 51)).setCell ⟨Bc, 2, none⟩ u).setCell ⟨Bc, 3, none⟩ v).setCell ⟨Bc, 4, none⟩ z).heap[Bc]? = some (.cells #[.int .i64 x.view, .int .i64 x.prop, u, v, z, .slice B m d] 42 (0, 0)) from (blk_set3 (blk_set3 (blk_set3 Z6.out 2 _) 3 _) 4 _).trans rfl)
    have HXZ := Sd.mk (fun (u v z : Value) => show ((((W5.alloc (.cells #[.int .i64 y.node, .slice Ay my cy] 51)).setCell ⟨Bc, 2, none⟩ u).setCell ⟨Bc, 3, none⟩ v).setCell ⟨Bc, 4, none⟩ z).heap[Bb]? = some (.cells #[.int .i64 x.view, .int .i64 x.prop, .int .i64 x.just.view, .string x.just.block, .slice A n c, .slice B m d] 42 (0, 0)) from (heap_set _ _ _ _ _ HNE.out).trans ((heap_set _ _ _ _ _ HNE.out).trans ((heap_set _ _ _ _ _ HNE.out).trans X6.out)))
    have HBZ := Sd.mk (fun (u v z : Value) => show RowKit.Below w.heap.size w ((((W5.alloc (.cells #[.int .i64 y.node, .slice Ay my cy] 51)).setCell ⟨Bc, 2, none⟩ u).setCell ⟨Bc, 3, none⟩ v).setCell ⟨Bc, 4, none⟩ z) from (((HB6.out.setCell (p := ⟨Bc, 2, none⟩) HGE.out _).setCell (p := ⟨Bc, 3, none⟩) HGE.out _).setCell (p := ⟨Bc, 4, none⟩) HGE.out _))
    go_upto_region 5 with (fail)
    have X7 := Sd.mk (HXZ.out (.int .i64 x.just.view) (.string x.just.block) (.slice (some ⟨W5.heap.size, 0, none⟩) 1 1))
    have Z7 := Sd.mk (HZ.out (.int .i64 x.just.view) (.string x.just.block) (.slice (some ⟨W5.heap.size, 0, none⟩) 1 1))
    have HB7 := Sd.mk (HBZ.out (.int .i64 x.just.view) (.string x.just.block) (.slice (some ⟨W5.heap.size, 0, none⟩) 1 1))
    clear HZ HXZ HBZ X5 X6 Z5 Z6 HB5 HB6 c2 c3 s0 s1 f2 f3 f4 e2 e3 e4
    generalize W5.heap.size = Bz at X7 Z7 HB7 ⊢
    generalize ((World.setCell _ _ _).setCell _ _).setCell _ _ = W7 at X7 Z7 HB7 ⊢
    have c0 := fun d os => cell_regrown (blk_at X7.out 0 _ rfl) d os
    have c1 := fun d os => cell_regrown (blk_at X7.out 1 _ rfl) d os
    have c2 := fun d os => cell_regrown (blk_at X7.out 2 _ rfl) d os
    have c3 := fun d os => cell_regrown (blk_at X7.out 3 _ rfl) d os
    have c4 := fun d os => cell_regrown (blk_at X7.out 4 _ rfl) d os
    have c5 := fun d os => cell_regrown (blk_at X7.out 5 _ rfl) d os
    have e0 := fun d os => cell_regrown (blk_at Z7.out 0 _ rfl) d os
    have e1 := fun d os => cell_regrown (blk_at Z7.out 1 _ rfl) d os
    have e2 := fun d os => cell_regrown (blk_at Z7.out 2 _ rfl) d os
    have e3 := fun d os => cell_regrown (blk_at Z7.out 3 _ rfl) d os
    have e4 := fun d os => cell_regrown (blk_at Z7.out 4 _ rfl) d os
    have e5 := fun d os => cell_regrown (blk_at Z7.out 5 _ rfl) d os
    refine wp_region_quiet_below (by assumption) (by kernel_rfl) ?_
    repeat (go_big_quiet_step ((first | (go_at_call 26; with_reducible refine Calls.regrown_of (HDG.out _ (below_then HB7.out (below_regrown _ _ _)))) | (go_at_call 26; with_reducible refine Calls.regrown_of (HD2.out Bz _ (below_then HB7.out (below_regrown _ _ _)))) | (go_at_call 27; refine Calls.regrown_of (HRD.out _ (below_then HB7.out (below_regrown _ _ _)))) | (go_at_call 28; refine Calls.regrown_of (parent_any _ _ _ _ _ _ _)) | (go_at_call 29; refine Calls.regrown_of (first_any _ fb HFI.out)) | (go_at_call 30; refine Calls.regrown_of (Crt.reffirst_any _ fb HFI.out)))))
    refine wpQuiet_nil ?_
    rintro W9 ⟨⟨nq, osq⟩, rfl⟩
    have HB9 := Sd.mk (below_then HB7.out (below_regrown W7 nq osq))
    go_wp2
    go_ret
    exact ⟨rfl, HB9.out⟩
theorem bd_row (w : World) (x : Block) (cs : Array Value) (h : blkK.K w x cs.toList) (y : Sg.Sig) (cs2 : Array Value) (h2 : Sg.sigK.K w y cs2.toList) :
    Calls Try.prog 5 #[.agg cs, .agg cs2] w fun e w' => e = .returned (.bool true) ∧ RowKit.Below w.heap.size w w' := by
  obtain ⟨A, c, B, d, e1, hg, hs⟩ := blk_open h
  obtain ⟨Ay, cy, e2, -, hy⟩ := Sg.sig_open h2
  obtain rfl := Api.arr_of e1
  obtain rfl := Api.arr_of e2
  exact bd_law w x A _ c B _ d hg rfl hs rfl y Ay _ cy hy rfl
end Go.Proofs.Ytnomgkmeomlccaa.Blk

/- BlockMakes: walked. -/
import Derived.Test.YtnomgkmeomlccaaMkOm
import Derived.Test.YtnomgkmeomlccaaRCt
import Derived.Test.YtnomgkmeomlccaaLawBD
import Derived.Test.YtnomgkmeomlccaaS0
set_option linter.unusedVariables false
set_option linter.unusedSimpArgs false
namespace Go.Proofs.Ytnomgkmeomlccaa.Blk
open Go.RowKit Go.Sort Rd Api Own Mv App Num Dig

set_option maxHeartbeats 8000000 in
set_option maxRecDepth 100000 in
theorem bm_law (w : World) (view : Int) (hv : IsI64 view) (x : Rp.Cert) (A1 : Option Addr) (m1 c1 : Nat) (hg : Sl Rp.sgK w A1 c1 x.sigs) (hm1 : m1 = x.sigs.length) (A : Option Addr) (c : Nat) (l : List Rq) (h : Sl rqN w A c l) (hnil : A = none → c = 0) (hI : ∀ x ∈ l, IsI64 x.c ∧ IsI64 x.s) (m : Nat) (hm : m = l.length) :
    Calls Try.prog 4 #[.int .i64 view, .agg #[.int .i64 x.view, .string x.block, .slice A1 m1 c1], .slice A m c] w fun e w' => e = .returned (.bool true) ∧ RowKit.Below w.heap.size w w' := by
  have mixed : Try.prog.follows .mixedOrders = true := by kernel_rfl
  have HB := Sd.mk (below_one w (.cells #[.int .i64 x.view, .string x.block, .slice A1 m1 c1] 39))
  have X0 := Sd.mk (blk_new w (.cells #[.int .i64 x.view, .string x.block, .slice A1 m1 c1] 39))
  have HFC := Sd.mk (fun W (hb : RowKit.Below w.heap.size w W) => Crt.few_any W x A1 c1 (hg.below hb) m1 hm1)
  have HRC := Sd.mk (fun (hf : Crt.certFew x) t (ht : Rp.certB x = t) W (hb : RowKit.Below w.heap.size w W) => Rp.rcert_any W x A1 c1 (hg.below hb) m1 hm1 t ht (by rw [← ht]; exact Crt.certB_few hf))
  have HMK := Sd.mk (fun (hl : l.length ≤ 20) (n : Nat) (n1 : 1 ≤ n) (n7 : n ≤ 7) kk (hkk : ((firsts l).take 3).length = kk) r (hr : lead view n = r) W (hb : RowKit.Below w.heap.size w W) => make_any W view hv n n1 n7 x A1 m1 c1 A c l (h.below hb) hnil (by omega) hI m hm kk hkk r hr)
  have HON := Sd.mk (fun (hl : l.length ≤ 20) W (hb : RowKit.Below w.heap.size w W) => refonce_any W A c l (h.below hb) (by omega) m hm)
  have HN := Sd.mk hm
  have mc := Nat.le_trans h.le h.cap
  rw [← hm] at mc
  clear hg hm1 h hnil hI hm
  by_cases h20 : m ≤ 20
  · have d20 : decide ((20 : Int) < (m : Int)) = false := decide_eq_false (by omega)
    have d20b : decide (20 < m) = false := decide_eq_false (by omega)
    have hl20 : l.length ≤ 20 := by rw [← HN.out]; exact h20
    have HMK := Sd.mk (HMK.out hl20)
    have HON := Sd.mk (HON.out hl20)
    clear h20 hl20
    go_enter Try.func4, Try.ntmps4
    go_upto_region 1 with (fail)
    generalize w.heap.size = Bc at X0 ⊢
    generalize w.alloc _ = W1 at X0 HB ⊢
    go_upto_region 4 with (first
      | (go_at_call 19; (with_reducible refine (awake_any _).mono ?_); rintro e w2 ⟨rfl, hb⟩; (first | (have HB4 := Sd.mk (below_then HB3.out hb)) | (have HB2 := Sd.mk (below_then HB.out hb); have X2 := Sd.mk (blk_keep X0.out hb); have c0 := blk_at X2.out 0 _ rfl; have c1 := blk_at X2.out 1 _ rfl; have c2 := blk_at X2.out 2 _ rfl)); clear hb)
      | (go_at_call 20; (with_reducible refine (HFC.out _ HB2.out).mono ?_); rintro e w3 ⟨r, rfl, ht, hb⟩; have HB3 := Sd.mk (below_then HB2.out hb); have X3 := Sd.mk (blk_keep X2.out hb); have HTR := Sd.mk ht; clear ht hb; cases r))
    · go_ret
      exact ⟨rfl, HB4.out⟩
    · have hf := HTR.out trivial
      obtain ⟨cb, hcb⟩ : ∃ t, Rp.certB x = t := ⟨_, rfl⟩
      have HRC := Sd.mk (HRC.out hf cb hcb)
      obtain ⟨kk, hkk⟩ : ∃ kk, ((firsts l).take 3).length = kk := ⟨_, rfl⟩
      have hk3 : kk ≤ 3 := by rw [← hkk, List.length_take]; omega
      have HMK := Sd.mk (fun n n1 n7 => HMK.out n n1 n7 kk hkk)
      have HKK := Sd.mk hkk
      clear HTR HFC hf hcb HB2 HB X0 X2 c0 c1 c2 d20 d20b hkk
      go_loopg [7, 8, 9, 10, 11] 7 (fun gk v7 v8 v9 v10 v11 wr => ∃ (i : Nat), i + gk = 7 ∧ v7 = .int .i64 ((i : Int) + 1) ∧ Sd (RowKit.Below w.heap.size w wr) ∧ Sd (wr.heap[Bc]? = some (.cells #[.int .i64 x.view, .string x.block, .slice A1 m1 c1] 39 (0, 0))))
      case atStart => exact ⟨0, by omega, rfl, HB3, X3⟩
      case round =>
        clear HB3 X3
        obtain ⟨i, hi, rfl, HW, HX⟩ := hrel
        by_cases hlt : i < 7
        · have hii : (i : Int) + 1 ≤ 7 := by omega
          obtain ⟨n, hn⟩ : ∃ n, n = i + 1 := ⟨_, rfl⟩
          have hni : (i : Int) + 1 = (n : Int) := by omega
          rw [hni] at hii ⊢
          obtain ⟨r, hr⟩ : ∃ r, lead view n = r := ⟨_, rfl⟩
          have HM1 := Sd.mk (HMK.out n (by omega) (by omega) r hr wr HW.out)
          have q0 := blk_at HX.out 0 _ rfl
          have q1 := blk_at HX.out 1 _ rfl
          have q2 := blk_at HX.out 2 _ rfl
          have hn0 : ((n : Int) == 0) = false := beq_eq_false_iff_ne.2 (by omega)
          have hn0b : ¬ (n : Int) = 0 := by omega
          have hn0c : ¬ n = 0 := by omega
          have HNI := Sd.mk hn
          have HR := Sd.mk (show (0 < view → view.tmod (n : Int) = r) ∧ (¬ 0 < view → r = 0) by
            unfold lead at hr
            constructor
            · intro h; rw [if_neg (by omega)] at hr; rw [Int.tmod_eq_emod_of_nonneg (by omega)]; exact hr
            · intro h
              by_cases e : view < 0
              · rw [if_pos e] at hr; exact hr.symm
              · rw [if_neg e, show view = 0 by omega] at hr; simpa using hr.symm)
          have hn7 : n ≤ 7 := by omega
          clear hn hr
          go_upto_region 8 with (first
            | (go_at_call 21; (with_reducible refine HM1.out.mono ?_); rintro e w4 ⟨B, d, rfl, hsl, hb⟩; have b4 := below_one w4 (.cells #[.int .i64 view, .int .i64 r, .int .i64 x.view, .string x.block, .slice A1 m1 c1, .slice B kk d] 42); have HB4 := Sd.mk (below_then (below_then HW.out hb) b4); have X4 := Sd.mk (blk_keep (blk_keep HX.out hb) b4); have Y4 := Sd.mk (blk_new w4 (.cells #[.int .i64 view, .int .i64 r, .int .i64 x.view, .string x.block, .slice A1 m1 c1, .slice B kk d] 42)); have HS4 := Sd.mk (hsl.below b4); clear hb b4 hsl))
          generalize w4.heap.size = Bb at Y4 ⊢
          generalize w4.alloc _ = W4 at HB4 X4 Y4 HS4 ⊢
          clear HW HX HM1 q0 q1 q2
          have dv : ∀ b : Bool, decide (0 < view) = b → b = true ∧ view.tmod (n : Int) = r ∨ b = false ∧ r = 0 := fun b hb => by
            cases b with
            | true => exact .inl ⟨rfl, HR.out.1 (by have := of_decide_eq_true hb; omega)⟩
            | false => exact .inr ⟨rfl, HR.out.2 (by have := of_decide_eq_false hb; omega)⟩
          obtain ⟨b, hb⟩ : ∃ b, decide (0 < view) = b := ⟨_, rfl⟩
          clear HR
          rcases dv b hb with ⟨rfl, p5⟩ | ⟨rfl, rfl⟩
          · clear dv
            go_upto_region 10 with (fail)
            clear p5 hb
            go_upto_region 11 with (first
              | (go_at_call 22; go_loud (with_reducible refine (HON.out _ HB4.out).mono ?_); rintro e w5 ⟨v, rfl, ho⟩; obtain ⟨D, dd, hv2, hsl⟩ := own_rq ho.own; go_loud (rw [HKK.out] at hv2; subst hv2); have HS5 := Sd.mk hsl; have HB5 := Sd.mk (below_then HB4.out ho.bel); have X5 := Sd.mk (blk_keep X4.out ho.bel); have Y5 := Sd.mk (blk_keep Y4.out ho.bel); have HT5 := Sd.mk (HS4.out.below ho.bel); clear ho hsl))
            clear HB4 X4 Y4 HS4
            have q0 := fun d os => cell_regrown (blk_at X5.out 0 _ rfl) d os
            have q1 := fun d os => cell_regrown (blk_at X5.out 1 _ rfl) d os
            have q2 := fun d os => cell_regrown (blk_at X5.out 2 _ rfl) d os
            have e0 := fun d os => cell_regrown (blk_at Y5.out 0 _ rfl) d os
            have e1 := fun d os => cell_regrown (blk_at Y5.out 1 _ rfl) d os
            have e2 := fun d os => cell_regrown (blk_at Y5.out 2 _ rfl) d os
            have e3 := fun d os => cell_regrown (blk_at Y5.out 3 _ rfl) d os
            have e4 := fun d os => cell_regrown (blk_at Y5.out 4 _ rfl) d os
            have e5 := fun d os => cell_regrown (blk_at Y5.out 5 _ rfl) d os
            refine wp_region_quiet_below (by assumption) (by kernel_rfl) ?_
            repeat (go_big_quiet_step ((go_at_call 23; refine Calls.regrown_of (HRC.out _ (below_then HB5.out (below_regrown _ _ _))))))
            refine wpQuiet_nil ?_
            rintro W9 ⟨⟨nq, osq⟩, rfl⟩
            have b9 := below_regrown w5 nq osq
            have HB9 := Sd.mk (below_then HB5.out b9)
            have X9 := Sd.mk (blk_keep X5.out b9)
            have Y9 := Sd.mk (blk_keep Y5.out b9)
            have HS9 := Sd.mk (HS5.out.below b9)
            have HT9 := Sd.mk (HT5.out.below b9)
            clear q0 q1 q2 e0 e1 e2 e3 e4 e5 b9 HB5 X5 Y5 HS5 HT5
            generalize grow _ _ = W9 at HB9 X9 Y9 HS9 HT9 ⊢
            obtain ⟨gko, hgo⟩ : ∃ z, gk = z := ⟨_, rfl⟩
            go_wp2
            go_loopg [11] kk (fun gk v11 wx => ∃ (j : Nat), j + gk = kk ∧ v11 = .int .i64 (j : Nat) ∧ Sd (RowKit.Below W9.heap.size W9 wx))
            case atStart => exact ⟨0, by omega, rfl, ⟨Below.refl _ _⟩⟩
            case round =>
              obtain ⟨j, hj, rfl, HJ⟩ := hrel
              by_cases hjt : j < kk
              · have hji : (j : Int) < kk := by omega
                obtain ⟨y, hy⟩ : ∃ y, ((firsts l).take 3)[j]? = some y := ⟨_, List.getElem?_eq_getElem (show j < ((firsts l).take 3).length by rw [HKK.out]; exact hjt)⟩
                obtain ⟨b1, o1, rfl, p0, p1, p2⟩ := rq_at HT9.out.row hy
                obtain ⟨b2, o2, rfl, r0, r1, r2⟩ := rq_at HS9.out.row hy
                have hd1 := HT9.out.le
                have hd2 := HS9.out.le
                have hd3 := HT9.out.cap
                have hd4 := HS9.out.cap
                rw [HKK.out] at hd1 hd2
                have p0 := cell_below HJ.out p0
                have p1 := cell_below HJ.out p1
                have p2 := cell_below HJ.out p2
                have r0 := cell_below HJ.out r0
                have r1 := cell_below HJ.out r1
                have r2 := cell_below HJ.out r2
                have e5 := blk_at (blk_keep Y9.out HJ.out) 5 _ rfl
                clear hy
                go_upto_region 16 with (fail)
                go_quiet (fail)
                go_wp2
                go_roundg (gk - 1)
                case measure => omega
                case rel => exact ⟨j + 1, by omega, by go_num, ⟨below_drewN HJ.out nq⟩⟩
              · have hji : decide (j < kk) = false := decide_eq_false (by omega)
                have hji2 : decide ((j : Int) < (kk : Int)) = false := decide_eq_false (by omega)
                have HB10 := Sd.mk (below_then HB9.out HJ.out)
                have X10 := Sd.mk (blk_keep X9.out HJ.out)
                go_wp2
                go_roundg (gko - 1)
                case measure => omega
                case rel => exact ⟨i + 1, by omega, by have := HNI.out; subst this; go_num, HB10, X10⟩
          · clear dv
            go_upto_region 10 with (fail)
            clear hb
            go_upto_region 11 with (first
              | (go_at_call 22; go_loud (with_reducible refine (HON.out _ HB4.out).mono ?_); rintro e w5 ⟨v, rfl, ho⟩; obtain ⟨D, dd, hv2, hsl⟩ := own_rq ho.own; go_loud (rw [HKK.out] at hv2; subst hv2); have HS5 := Sd.mk hsl; have HB5 := Sd.mk (below_then HB4.out ho.bel); have X5 := Sd.mk (blk_keep X4.out ho.bel); have Y5 := Sd.mk (blk_keep Y4.out ho.bel); have HT5 := Sd.mk (HS4.out.below ho.bel); clear ho hsl))
            clear HB4 X4 Y4 HS4
            have q0 := fun d os => cell_regrown (blk_at X5.out 0 _ rfl) d os
            have q1 := fun d os => cell_regrown (blk_at X5.out 1 _ rfl) d os
            have q2 := fun d os => cell_regrown (blk_at X5.out 2 _ rfl) d os
            have e0 := fun d os => cell_regrown (blk_at Y5.out 0 _ rfl) d os
            have e1 := fun d os => cell_regrown (blk_at Y5.out 1 _ rfl) d os
            have e2 := fun d os => cell_regrown (blk_at Y5.out 2 _ rfl) d os
            have e3 := fun d os => cell_regrown (blk_at Y5.out 3 _ rfl) d os
            have e4 := fun d os => cell_regrown (blk_at Y5.out 4 _ rfl) d os
            have e5 := fun d os => cell_regrown (blk_at Y5.out 5 _ rfl) d os
            refine wp_region_quiet_below (by assumption) (by kernel_rfl) ?_
            repeat (go_big_quiet_step ((go_at_call 23; refine Calls.regrown_of (HRC.out _ (below_then HB5.out (below_regrown _ _ _))))))
            refine wpQuiet_nil ?_
            rintro W9 ⟨⟨nq, osq⟩, rfl⟩
            have b9 := below_regrown w5 nq osq
            have HB9 := Sd.mk (below_then HB5.out b9)
            have X9 := Sd.mk (blk_keep X5.out b9)
            have Y9 := Sd.mk (blk_keep Y5.out b9)
            have HS9 := Sd.mk (HS5.out.below b9)
            have HT9 := Sd.mk (HT5.out.below b9)
            clear q0 q1 q2 e0 e1 e2 e3 e4 e5 b9 HB5 X5 Y5 HS5 HT5
            generalize grow _ _ = W9 at HB9 X9 Y9 HS9 HT9 ⊢
            obtain ⟨gko, hgo⟩ : ∃ z, gk = z := ⟨_, rfl⟩
            go_wp2
            go_loopg [11] kk (fun gk v11 wx => ∃ (j : Nat), j + gk = kk ∧ v11 = .int .i64 (j : Nat) ∧ Sd (RowKit.Below W9.heap.size W9 wx))
            case atStart => exact ⟨0, by omega, rfl, ⟨Below.refl _ _⟩⟩
            case round =>
              obtain ⟨j, hj, rfl, HJ⟩ := hrel
              by_cases hjt : j < kk
              · have hji : (j : Int) < kk := by omega
                obtain ⟨y, hy⟩ : ∃ y, ((firsts l).take 3)[j]? = some y := ⟨_, List.getElem?_eq_getElem (show j < ((firsts l).take 3).length by rw [HKK.out]; exact hjt)⟩
                obtain ⟨b1, o1, rfl, p0, p1, p2⟩ := rq_at HT9.out.row hy
                obtain ⟨b2, o2, rfl, r0, r1, r2⟩ := rq_at HS9.out.row hy
                have hd1 := HT9.out.le
                have hd2 := HS9.out.le
                have hd3 := HT9.out.cap
                have hd4 := HS9.out.cap
                rw [HKK.out] at hd1 hd2
                have p0 := cell_below HJ.out p0
                have p1 := cell_below HJ.out p1
                have p2 := cell_below HJ.out p2
                have r0 := cell_below HJ.out r0
                have r1 := cell_below HJ.out r1
                have r2 := cell_below HJ.out r2
                have e5 := blk_at (blk_keep Y9.out HJ.out) 5 _ rfl
                clear hy
                go_upto_region 16 with (fail)
                go_quiet (fail)
                go_wp2
                go_roundg (gk - 1)
                case measure => omega
                case rel => exact ⟨j + 1, by omega, by go_num, ⟨below_drewN HJ.out nq⟩⟩
              · have hji : decide (j < kk) = false := decide_eq_false (by omega)
                have hji2 : decide ((j : Int) < (kk : Int)) = false := decide_eq_false (by omega)
                have HB10 := Sd.mk (below_then HB9.out HJ.out)
                have X10 := Sd.mk (blk_keep X9.out HJ.out)
                go_wp2
                go_roundg (gko - 1)
                case measure => omega
                case rel => exact ⟨i + 1, by omega, by have := HNI.out; subst this; go_num, HB10, X10⟩
        · have hii : decide ((i : Int) + 1 ≤ 7) = false := decide_eq_false (by omega)
          have hii2 : ¬ ((i : Int) + 1 ≤ 7) := by omega
          go_wp2
          go_ret
          exact ⟨rfl, HW.out⟩
  · have d20 : decide ((20 : Int) < (m : Int)) = true := decide_eq_true (by omega)
    have d20b : decide (20 < m) = true := decide_eq_true (by omega)
    clear HMK HON HRC HFC
    go_enter Try.func4, Try.ntmps4
    go_upto_region 1 with (fail)
    generalize w.heap.size = Bc at X0 ⊢
    generalize w.alloc _ = W1 at X0 HB ⊢
    go_wp2_with (first
      | (go_at_call 19; (with_reducible refine (awake_any _).mono ?_); rintro e w2 ⟨rfl, hb⟩; (first | (have HB4 := Sd.mk (below_then HB2.out hb)) | (have HB2 := Sd.mk (below_then HB.out hb))); clear hb))
    go_ret
    exact ⟨rfl, HB4.out⟩
theorem bm_row (w : World) (view : Int) (hv : (Lit.int .i64 view).wf = true) (x : Rp.Cert) (cs : Array Value) (hx : Crt.certK.K w x cs.toList) (A : Option Addr) (c : Nat) (l : List Rq) (h1 : l.length ≤ c) (h2 : c ≤ maxLen) (h3 : Row rqK w A l) (h4 : A = none → c = 0) :
    Calls Try.prog 4 #[.int .i64 view, .agg cs, .slice A l.length c] w fun e w' => e = .returned (.bool true) ∧ RowKit.Below w.heap.size w w' := by
  obtain ⟨A1, c1, e1, -, hg⟩ := Crt.cert_open hx
  obtain rfl := Api.arr_of e1
  have hsl : Sl rqK w A c l := ⟨h1, by unfold maxLen at h2; omega, h3⟩
  exact bm_law w view (i64_of hv) x A1 _ c1 (Rp.sg_of hg) rfl A c l (rq_of hsl) h4 (fun y hy => by
    obtain ⟨j, hj, rfl⟩ := List.getElem_of_mem hy
    obtain ⟨b, o, ds, -, hK, -⟩ := h3 j _ (List.getElem?_eq_getElem hj)
    exact (rqK_open hK).2) _ rfl
end Go.Proofs.Ytnomgkmeomlccaa.Blk

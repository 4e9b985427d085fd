/- CertMakes: walked. -/
import Derived.Test.YtdmdfpbklflijaaLawCH
import Derived.Test.YtdmdfpbklflijaaSamB
import Derived.Test.YtdmdfpbklflijaaMkB
import Derived.Test.YtdmdfpbklflijaaMkP
import Derived.Test.YtdmdfpbklflijaaS0
set_option linter.unusedVariables false
set_option linter.unusedSimpArgs false
namespace Go.Proofs.Ytdmdfpbklflijaa.Crt
open Go.RowKit Go.Sort Rd Api Own Mv App Num Dig Mac Rp

/-- a signature, as it lies, and what it says -/
structure Rs (W : World) (r : Mk.Raw) (x : Sg.Sig) : Prop where
  f : r.f = x.node
  n : r.n = x.tags.length
  s : Sl Rk.str W r.a r.c x.tags
theorem Rs.below {W W1 : World} {r : Mk.Raw} {x : Sg.Sig} (h : Rs W r x) (hb : RowKit.Below W.heap.size W W1) : Rs W1 r x := ⟨h.f, h.n, h.s.below hb⟩
theorem raws_of {W : World} {A : Option Addr} {c : Nat} {xs : List Sg.Sig} (h : Sl sgK W A c xs) (h0 : A = none → c = 0) : ∃ rs : List Mk.Raw, Mk.Sl2 W A c rs ∧ rs.length = xs.length ∧ ∀ (i : Nat) r x, rs[i]? = some r → xs[i]? = some x → Rs W r x := by
  obtain ⟨rs, hl, hq⟩ := list_of (Q := fun j (r : Mk.Raw) => ∃ x b o, xs[j]? = some x ∧ Rs W r x ∧ A = some ⟨b, o, none⟩ ∧ W.cell? ⟨b, o + j * 2, none⟩ = some (.int .i64 r.f) ∧ W.cell? ⟨b, o + j * 2 + 1, none⟩ = some (.slice r.a r.n r.c)) xs.length (fun j hj => by
    obtain ⟨b, o, A', c', hA, p0, p1, hs⟩ := sg_at h (List.getElem?_eq_getElem hj)
    exact ⟨⟨xs[j].node, A', xs[j].tags.length, c'⟩, xs[j], b, o, List.getElem?_eq_getElem hj, ⟨rfl, rfl, hs⟩, hA, p0, p1⟩)
  refine ⟨rs, ⟨by rw [hl]; exact h.le, h.cap, fun j r hr => ?_, h0⟩, hl, fun i r x hr hx => ?_⟩
  · obtain ⟨x, b, o, _, _, hA, p0, p1⟩ := hq j r hr
    refine ⟨b, o, Mk.fS r, hA, rfl, fun t v hv => ?_⟩
    match t, hv with
    | 0, hv => simp only [Mk.fS, List.getElem?_cons_zero, Option.some.injEq] at hv; subst hv; exact p0
    | 1, hv => simp only [Mk.fS, List.getElem?_cons_succ, List.getElem?_cons_zero, Option.some.injEq] at hv; subst hv; exact p1
    | t + 2, hv => simp [Mk.fS] at hv
  · obtain ⟨y, b, o, hy, hs, _⟩ := hq i r hr
    rw [hx] at hy
    exact Option.some.inj hy ▸ hs
theorem sigB_max {s : Sg.Sig} (h : Sg.sigFew s) : (sigB s).size ≤ 9223372036854775807 := by have := sigB_few h; omega
set_option maxHeartbeats 16000000 in
set_option maxRecDepth 100000 in
theorem certmakes_law (w : World) (view : Int) (b : ByteArray) (A : Option Addr) (c : Nat) (xs : List Sg.Sig) (hs0 : Sl sgK w A c xs) (h0 : A = none → c = 0) (m : Nat) (hm : m = xs.length) :
    Calls Try.prog 6 #[.int .i64 view, .string b, .slice A m c] w fun e w' => e = .returned (.bool true) ∧ RowKit.Below w.heap.size w w' := by
  have mixed : Try.prog.follows .mixedOrders = true := by kernel_rfl
  obtain ⟨rs, hsl, hrl, hrs⟩ := raws_of hs0 h0
  have mk := Nat.le_trans hs0.le hs0.cap
  rw [← hm] at mk
  have HM := Sd.mk hm
  have HRM := Sd.mk (show m = rs.length by rw [hrl]; exact hm)
  have HSL := Sd.mk hsl
  have HRS := Sd.mk hrs
  have HS := Sd.mk hs0
  clear hs0 h0 hm hsl hrl hrs
  obtain ⟨b20, hb20⟩ : ∃ r, decide ((20 : Int) < (m : Int)) = r := ⟨_, rfl⟩
  have hb20b : decide (20 < m) = b20 := by rw [← hb20]; simp only [decide_eq_decide]; omega
  obtain ⟨b50, hb50⟩ : ∃ r, decide ((50 : Int) < (b.size : Int)) = r := ⟨_, rfl⟩
  cases hbb : (b20 || b50) with
  | true =>
    cases b20 with
    | true =>
      clear hbb
      go_enter Try.func6, Try.ntmps6
      go_wp2_with (first
        | (go_at_call 12; (with_reducible refine (awake_any _).mono ?_); rintro e w2 ⟨rfl, hb⟩; (first | (have HB3 := Sd.mk (below_then HB2.out hb)) | have HB2 := Sd.mk hb); clear hb))
      go_ret
      exact ⟨rfl, HB3.out⟩
    | false =>
      obtain rfl : b50 = true := hbb
      go_enter Try.func6, Try.ntmps6
      go_wp2_with (first
        | (go_at_call 12; (with_reducible refine (awake_any _).mono ?_); rintro e w2 ⟨rfl, hb⟩; (first | (have HB3 := Sd.mk (below_then HB2.out hb)) | have HB2 := Sd.mk hb); clear hb))
      go_ret
      exact ⟨rfl, HB3.out⟩
  | false =>
    simp only [Bool.or_eq_false_iff] at hbb
    obtain ⟨rfl, rfl⟩ := hbb
    have hm20 : m ≤ 20 := by have := of_decide_eq_false hb20b; omega
    go_enter Try.func6, Try.ntmps6
    go_wp2_with (first
      | (go_at_call 12; (with_reducible refine (awake_any _).mono ?_); rintro e w2 ⟨rfl, hb⟩; have HB2 := Sd.mk hb; clear hb))
    clear hb20 hb50 hb20b
    go_loopg [7] m (fun gk v7 wr => ∃ i, i + gk = m ∧ v7 = .int .i64 (i : Nat) ∧ Sd (∀ s ∈ xs.take i, Sg.sigFew s) ∧ Sd (RowKit.Below w.heap.size w wr))
    case atStart => exact ⟨0, by omega, rfl, ⟨fun s hs => by simp at hs⟩, HB2⟩
    case round =>
      clear HB2
      obtain ⟨i, hi, rfl, HA, HW⟩ := hrel
      by_cases hlt : i < m
      · have hii : (i : Int) < m := by omega
        obtain ⟨y, hy⟩ : ∃ y, xs[i]? = some y := ⟨_, List.getElem?_eq_getElem (show i < xs.length by rw [← HM.out]; exact hlt)⟩
        obtain ⟨o1, o2, A1, c3, rfl, p0, p1, s1⟩ := sg_at HS.out hy
        have p0 := cell_below HW.out p0
        have p1 := cell_below HW.out p1
        have HY := Sd.mk hy
        have HF := Sd.mk (Sg.sig_any wr y A1 c3 (s1.below HW.out))
        clear hy s1
        go_wp2_with (first
          | (go_at_call 20; (with_reducible refine HF.out.mono ?_); rintro e w2 ⟨r, rfl, ht, hb⟩; have HB2 := Sd.mk (below_then HW.out hb); have HTR := Sd.mk ht; clear ht hb; cases r))
        · go_ret
          exact ⟨rfl, HB2.out⟩
        · have HA2 := Sd.mk (show ∀ s ∈ xs.take (i + 1), Sg.sigFew s from fun s hs => by
            rw [List.take_add_one, HY.out] at hs
            rcases List.mem_append.1 hs with e | e
            · exact HA.out s e
            · simp at e; subst e; exact HTR.out trivial)
          go_roundg (gk - 1)
          case measure => omega
          case rel => exact ⟨i + 1, by omega, by go_num, HA2, HB2⟩
      · have hii : decide (i < m) = false := decide_eq_false (by omega)
        have HAL := Sd.mk (show ∀ s ∈ xs, Sg.sigFew s by have := HA.out; rwa [List.take_of_length_le (by rw [← HM.out]; omega)] at this)
        have HSL2 := Sd.mk (show Mk.Sl2 wr A c rs from ⟨HSL.out.le, HSL.out.cap, HSL.out.row.below HW.out, HSL.out.nil⟩)
        have HMK := Sd.mk (Mk.make_any wr view b A c rs HSL2.out m HRM.out hm20)
        clear HSL2 hlt
        go_upto_region 9 with (first
          | (go_at_call 25; (with_reducible refine HMK.out.mono ?_); rintro e w3 ⟨A3, k3, c3, r, rfl, hk3, hs3, -, hmd, hb3⟩; have HK3 := Sd.mk hk3; have hb4 := below_one w3 (.cells #[.int .i64 view, .string b, .slice A3 k3 c3] 24); have HS3 := Sd.mk (hs3.below hb4); have HMD := Sd.mk hmd; have HB3 := Sd.mk (below_then (below_then HW.out hb3) hb4); have X3 := Sd.mk (blk_new w3 (.cells #[.int .i64 view, .string b, .slice A3 k3 c3] 24)); clear hk3 hs3 hmd hb3 hb4))
        clear HMK HW HA
        generalize w3.heap.size = B8 at X3 ⊢
        generalize w3.alloc _ = W3 at X3 HS3 HB3 ⊢
        have k3c := Nat.le_trans HS3.out.le HS3.out.cap
        rw [← HK3.out] at k3c
        have q0 := blk_at X3.out 0 _ rfl
        have q1 := blk_at X3.out 1 _ rfl
        have q2 := blk_at X3.out 2 _ rfl
        go_wp2
        clear q0 q1 q2
        go_loopg [9] k3 (fun gk v9 wr => ∃ i, i + gk = k3 ∧ v9 = .int .i64 (i : Nat) ∧ Sd (RowKit.Below W3.heap.size W3 wr))
        case atStart => exact ⟨0, by omega, rfl, ⟨Below.refl _ _⟩⟩
        case round =>
          obtain ⟨i, hi, rfl, HW⟩ := hrel
          have q2 := blk_at (blk_keep X3.out HW.out) 2 _ rfl
          by_cases hlt : i < k3
          · have hii : (i : Int) < k3 := by omega
            have hir : i < r.length := by rw [← HK3.out]; exact hlt
            obtain ⟨y, hy⟩ : ∃ y, r[i]? = some y := ⟨_, List.getElem?_eq_getElem hir⟩
            obtain ⟨o1, o2, rfl, p0, -⟩ := Mk.raw_at HS3.out.row hy
            have p0 := cell_below HW.out p0
            by_cases hi0 : i = 0
            · subst hi0
              clear hy
              simp only [Nat.zero_mul, Nat.add_zero] at p0
              have z0 : (0 : Int) < (k3 : Int) := by omega
              rw [show ((0 : Nat) : Int) = 0 from rfl]
              go_upto_region 14 with (fail)
              go_quiet (fail)
              go_wp2
              go_roundg (gk - 1)
              case measure => omega
              case rel => exact ⟨1, by omega, rfl, ⟨below_drewN HW.out _⟩⟩
            · obtain ⟨j, hj⟩ : ∃ j, j = i - 1 := ⟨_, rfl⟩
              have hjr : j < r.length := by omega
              obtain ⟨z, hz⟩ : ∃ z, r[j]? = some z := ⟨_, List.getElem?_eq_getElem hjr⟩
              obtain ⟨o3, o4, e3, p1, -⟩ := Mk.raw_at HS3.out.row hz
              simp only [Option.some.injEq, Addr.mk.injEq, and_true] at e3
              obtain ⟨rfl, rfl⟩ := e3
              have p1 := cell_below HW.out p1
              have hlt2 : z.f < y.f := by
                have := List.pairwise_iff_getElem.1 HMD.out.up j i hjr hir (by omega)
                rw [List.getElem?_eq_getElem hir] at hy
                rw [List.getElem?_eq_getElem hjr] at hz
                rwa [Option.some.inj hy, Option.some.inj hz] at this
              have d0 : decide ((0 : Int) < (i : Int)) = true := decide_eq_true (by omega)
              have d0b : decide (0 < i) = true := decide_eq_true (by omega)
              have d1 : IntKind.i64.wrap ((i : Int) - 1) = (j : Int) := by rw [IntKind.wrap_i64]; omega
              have hjn : (j : Int) < k3 := by omega
              have hjn2 : j < k3 := by omega
              have d2 : decide (y.f ≤ z.f) = false := decide_eq_false (by omega)
              clear hy hz hj hir hjr hlt2 hi0
              go_upto_region 14 with (fail)
              go_quiet (fail)
              go_wp2
              go_roundg (gk - 1)
              case measure => omega
              case rel => exact ⟨i + 1, by omega, by go_num, ⟨below_drewN HW.out _⟩⟩
          · have hii : decide (i < k3) = false := decide_eq_false (by omega)
            have hii2 : decide ((i : Int) < (k3 : Int)) = false := decide_eq_false (by omega)
            go_wp2
            clear hlt hii hii2 q2
            go_loopg [10, 11, 12, 13, 14, 15] m (fun gk v10 v11 v12 v13 v14 v15 wr => ∃ i q, i + gk = m ∧ q ≤ i ∧ v10 = .int .i64 (q : Nat) ∧ v11 = .int .i64 (i : Nat) ∧ Sd ((Mk.fst ((rs.take i).map (·.f))).length = q) ∧ Sd (RowKit.Below W3.heap.size W3 wr))
            case atStart => exact ⟨0, 0, by omega, by omega, rfl, rfl, ⟨rfl⟩, HW⟩
            case round =>
              clear HW
              obtain ⟨i, q, hi, hqi, rfl, rfl, HC, HW⟩ := hrel
              by_cases hlt : i < m
              · have hii : (i : Int) < m := by omega
                obtain ⟨y, hy⟩ : ∃ y, rs[i]? = some y := ⟨_, List.getElem?_eq_getElem (show i < rs.length by rw [← HRM.out]; exact hlt)⟩
                obtain ⟨x, hx⟩ : ∃ x, xs[i]? = some x := ⟨_, List.getElem?_eq_getElem (show i < xs.length by rw [← HM.out]; exact hlt)⟩
                have HRX := Sd.mk (HRS.out i y x hy hx)
                have HFX := Sd.mk (HAL.out x (List.mem_of_getElem? hx))
                have HY := Sd.mk hy
                obtain ⟨o1, o2, rfl, p0, p1⟩ := Mk.raw_at HSL.out.row hy
                have hw0 := below_then HB3.out HW.out
                have p0 := cell_below hw0 p0
                have p1 := cell_below hw0 p1
                have HP := Sd.mk (⟨p0, p1⟩ : wr.cell? ⟨o1, o2 + i * 2, none⟩ = some (.int .i64 y.f) ∧ wr.cell? ⟨o1, o2 + i * 2 + 1, none⟩ = some (.slice y.a y.n y.c))
                have HW0 := Sd.mk hw0
                have HFS := Sd.mk (show Mk.fst ((rs.take (i + 1)).map (·.f)) = if y.f ∈ Mk.fst ((rs.take i).map (·.f)) then Mk.fst ((rs.take i).map (·.f)) else Mk.fst ((rs.take i).map (·.f)) ++ [y.f] by
                  rw [List.take_add_one, hy, List.map_append]; exact Mk.fst_snoc _ _)
                have HMF := Sd.mk ((Mk.fst_ok _ ((rs.take i).map (·.f)) rfl).2 y.f)
                clear hy hx p0 p1 hw0
                obtain ⟨gko, hgo⟩ : ∃ z, gk = z := ⟨_, rfl⟩
                obtain ⟨wo, rfl⟩ : ∃ wo : World, wo = wr := ⟨_, rfl⟩
                go_wp2
                go_loopg [12, 13] i (fun gk v12 v13 wx => ∃ k f, k + gk = i ∧ v12 = .bool f ∧ v13 = .int .i64 (k : Nat) ∧ Sd (f = decide (y.f ∉ (rs.take k).map (·.f))) ∧ Sd (RowKit.Below wo.heap.size wo wx))
                case atStart => exact ⟨0, true, by omega, rfl, rfl, ⟨by simp⟩, ⟨Below.refl _ _⟩⟩
                case round =>
                  obtain ⟨k, f, hk, rfl, rfl, HF, HX⟩ := hrel
                  obtain ⟨wx, rfl⟩ : ∃ wx : World, wx = wr := ⟨_, rfl⟩
                  have p0 := cell_below HX.out HP.out.1
                  by_cases hkt : k < i
                  · have hki : (k : Int) < i := by omega
                    have hkm : (k : Int) < m := by omega
                    have hkm2 : k < m := by omega
                    obtain ⟨z, hz⟩ : ∃ z, rs[k]? = some z := ⟨_, List.getElem?_eq_getElem (show k < rs.length by rw [← HRM.out]; omega)⟩
                    obtain ⟨o3, o4, e3, p2, -⟩ := Mk.raw_at HSL.out.row hz
                    simp only [Option.some.injEq, Addr.mk.injEq, and_true] at e3
                    obtain ⟨rfl, rfl⟩ := e3
                    have p2 := cell_below HX.out (cell_below HW0.out p2)
                    have HTK := Sd.mk (show (y.f ∉ (rs.take (k + 1)).map (·.f)) ↔ (y.f ∉ (rs.take k).map (·.f)) ∧ z.f ≠ y.f by
                      rw [List.take_add_one, hz, List.map_append]
                      simp only [Option.toList_some, List.map_cons, List.map_nil, List.mem_append, List.mem_singleton, not_or]
                      exact ⟨fun h => ⟨h.1, fun e => h.2 e.symm⟩, fun h => ⟨h.1, fun e => h.2 e.symm⟩⟩)
                    clear hz
                    cases f with
                    | false =>
                      have HF2 := Sd.mk (show false = decide (y.f ∉ (rs.take (k + 1)).map (·.f)) by
                        have h := of_decide_eq_false HF.out.symm
                        symm; exact decide_eq_false (fun h2 => h (HTK.out.1 h2).1))
                      go_upto_region 24 with (fail)
                      go_quiet (fail)
                      go_wp2
                      go_roundg (gk - 1)
                      case measure => omega
                      case rel => exact ⟨k + 1, false, by omega, rfl, by go_num, HF2, ⟨below_drewN HX.out _⟩⟩
                    | true =>
                      obtain ⟨r2, hr2⟩ : ∃ r2, (z.f != y.f) = r2 := ⟨_, rfl⟩
                      have HF2 := Sd.mk (show r2 = decide (y.f ∉ (rs.take (k + 1)).map (·.f)) by
                        have h := of_decide_eq_true HF.out.symm
                        rw [Bool.eq_iff_iff, decide_eq_true_eq, HTK.out, ← hr2, bne_iff_ne]
                        exact ⟨fun h2 => ⟨h, h2⟩, fun h2 => h2.2⟩)
                      go_upto_region 24 with (fail)
                      go_quiet (fail)
                      go_wp2
                      go_roundg (gk - 1)
                      case measure => omega
                      case rel => exact ⟨k + 1, r2, by omega, rfl, by go_num, HF2, ⟨below_drewN HX.out _⟩⟩
                  · have hki : decide (k < i) = false := decide_eq_false (by omega)
                    have hki2 : decide ((k : Int) < (i : Int)) = false := decide_eq_false (by omega)
                    obtain rfl : k = i := by omega
                    have HX3 := Sd.mk (below_then HW.out HX.out)
                    clear p0
                    cases f with
                    | false =>
                      have HC2 := Sd.mk (show (Mk.fst ((rs.take (k + 1)).map (·.f))).length = q by
                        rw [HFS.out, if_pos]
                        · exact HC.out
                        · rw [HMF.out]; exact Classical.byContradiction (fun h => by have := of_decide_eq_false HF.out.symm; exact this h))
                      go_wp2
                      go_roundg (gko - 1)
                      case measure => omega
                      case rel => exact ⟨k + 1, q, by omega, by omega, rfl, by go_num, HC2, HX3⟩
                    | true =>
                      have HNO := Sd.mk (of_decide_eq_true HF.out.symm)
                      have HC2 := Sd.mk (show (Mk.fst ((rs.take (k + 1)).map (·.f))).length = q + 1 by
                        rw [HFS.out, if_neg (by rw [HMF.out]; exact HNO.out), List.length_append, HC.out]; rfl)
                      have HIN := Sd.mk (HMD.out.first HY.out HNO.out)
                      go_wp2
                      go_loopg [14, 15] k3 (fun gk v14 v15 wz => ∃ j t, j + gk = k3 ∧ v14 = .bool t ∧ v15 = .int .i64 (j : Nat) ∧ Sd (t = true ∨ y ∉ r.take j) ∧ Sd (RowKit.Below wx.heap.size wx wz))
                      case atStart => exact ⟨0, false, by omega, rfl, rfl, ⟨.inr (by simp)⟩, ⟨Below.refl _ _⟩⟩
                      case round =>
                        obtain ⟨j, t, hj, rfl, rfl, HTT, HZ⟩ := hrel
                        obtain ⟨wz, rfl⟩ : ∃ wz : World, wz = wr := ⟨_, rfl⟩
                        have X5 := Sd.mk (blk_keep (blk_keep X3.out HX3.out) HZ.out)
                        have q2 := blk_at X5.out 2 _ rfl
                        by_cases hjt : j < k3
                        · have hji : (j : Int) < k3 := by omega
                          obtain ⟨z, hz⟩ : ∃ z, r[j]? = some z := ⟨_, List.getElem?_eq_getElem (show j < r.length by rw [← HK3.out]; exact hjt)⟩
                          obtain ⟨o5, o6, rfl, s0, s1⟩ := Mk.raw_at HS3.out.row hz
                          have s0' := fun d os => cell_regrown (cell_below HZ.out (cell_below HX3.out s0)) d os
                          have s1' := fun d os => cell_regrown (cell_below HZ.out (cell_below HX3.out s1)) d os
                          have p0' := fun d os => cell_regrown (cell_below HZ.out (cell_below HX.out HP.out.1)) d os
                          have p1' := fun d os => cell_regrown (cell_below HZ.out (cell_below HX.out HP.out.2)) d os
                          have q2' := fun d os => cell_regrown q2 d os
                          have HWZ := Sd.mk (below_then (below_then HW0.out HX.out) HZ.out)
                          have HTK := Sd.mk (show y ∉ r.take j → z ≠ y → y ∉ r.take (j + 1) from fun h1 h2 h3 => by
                            rw [List.take_add_one, hz] at h3
                            rcases List.mem_append.1 h3 with e | e
                            · exact h1 e
                            · simp at e; exact h2 e.symm)
                          have HZR := Sd.mk (List.mem_of_getElem? hz)
                          clear hz s0 s1
                          cases t with
                          | true =>
                            go_upto_region 31 with (fail)
                            clear q2
                            refine wp_region_quiet_below (by assumption) (by kernel_rfl) ?_
                            repeat (go_big_quiet_step (fail))
                            refine wpQuiet_nil ?_
                            rintro W9 ⟨⟨nq, osq⟩, rfl⟩
                            have HZ2 := Sd.mk (below_then HZ.out (below_regrown wz nq osq))
                            go_wp2
                            go_roundg (gk - 1)
                            case measure => omega
                            case rel => exact ⟨j + 1, true, by omega, rfl, by go_num, ⟨.inl rfl⟩, HZ2⟩
                          | false =>
                            obtain ⟨x2, hx2, hfx2, hne⟩ : ∃ x2, Rs w z x2 ∧ Sg.sigFew x2 ∧ (z = y → x2 = x) := by
                              by_cases e : z = y
                              · subst e; exact ⟨x, HRX.out, HFX.out, fun _ => rfl⟩
                              · obtain ⟨jj, hjj, ejj⟩ := List.getElem_of_mem (HMD.out.sub HZR.out)
                                have hxl : jj < xs.length := by have := HM.out; have := HRM.out; omega
                                exact ⟨xs[jj], HRS.out jj z _ (by rw [List.getElem?_eq_getElem hjj, ejj]) (List.getElem?_eq_getElem hxl), HAL.out _ (List.getElem_mem hxl), fun h => absurd h e⟩
                            obtain ⟨t2, ht2⟩ : ∃ t2, t2 = decide (sigB x2 = sigB x) := ⟨_, rfl⟩
                            have HT2 := Sd.mk (show t2 = true ∨ y ∉ r.take (j + 1) by
                              by_cases e : z = y
                              · exact .inl (by rw [ht2, hne e]; simp)
                              · exact .inr (HTK.out (HTT.out.resolve_left (by simp)) e))
                            have HSM := Sd.mk (fun W (hb : RowKit.Below wz.heap.size wz W) => show Calls Try.prog 26 #[.agg #[.int .i64 z.f, .slice z.a z.n z.c], .agg #[.int .i64 y.f, .slice y.a y.n y.c]] W fun e w' => e = .returned (.bool t2) ∧ RowKit.Below W.heap.size W w' from by
                              rw [hx2.f, HRX.out.f]
                              exact same_any W x2 x _ _ _ _ ((hx2.s.below HWZ.out).below hb) ((HRX.out.s.below HWZ.out).below hb) _ _ hx2.n HRX.out.n (sigB_max hfx2) (sigB_max HFX.out) t2 ht2)
                            clear hx2 hfx2 hne ht2
                            go_upto_region 31 with (fail)
                            clear q2
                            refine wp_region_quiet_below (by assumption) (by kernel_rfl) ?_
                            repeat (go_big_quiet_step ((go_at_call 26; with_reducible refine Calls.regrown_of (HSM.out _ (below_regrown _ _ _)))))
                            refine wpQuiet_nil ?_
                            rintro W9 ⟨⟨nq, osq⟩, rfl⟩
                            have HZ2 := Sd.mk (below_then HZ.out (below_regrown wz nq osq))
                            go_wp2
                            go_roundg (gk - 1)
                            case measure => omega
                            case rel => exact ⟨j + 1, t2, by omega, rfl, by go_num, HT2, HZ2⟩
                        · have hji : decide (j < k3) = false := decide_eq_false (by omega)
                          have hji2 : decide ((j : Int) < (k3 : Int)) = false := decide_eq_false (by omega)
                          obtain rfl : t = true := by
                            rcases HTT.out with e | e
                            · exact e
                            · rw [List.take_of_length_le (by rw [← HK3.out]; omega)] at e
                              exact absurd HIN.out e
                          have HX4 := Sd.mk (below_then HX3.out HZ.out)
                          go_wp2
                          go_roundg (gko - 1)
                          case measure => omega
                          case rel => exact ⟨k + 1, q + 1, by omega, by omega, by go_num, by go_num, HC2, HX4⟩
              · have hii : decide (i < m) = false := decide_eq_false (by omega)
                have hii2 : decide ((i : Int) < (m : Int)) = false := decide_eq_false (by omega)
                have hq3 : q = k3 := by
                  have h := HC.out
                  rw [List.take_of_length_le (by rw [← HRM.out]; omega)] at h
                  rw [HK3.out, HMD.out.len]; exact h.symm
                have q2 := blk_at (blk_keep X3.out HW.out) 2 _ rfl
                have HBB := Sd.mk (below_then HB3.out HW.out)
                clear HC
                subst hq3
                go_wp2
                go_ret
                exact ⟨by simp, HBB.out⟩
theorem cm_row (w : World) (view : Int) (hv : (Lit.int .i64 view).wf = true) (b : ByteArray) (hb : b.size ≤ 140737488351232) (A : Option Addr) (c : Nat) (xs : List Sg.Sig) (h1 : xs.length ≤ c) (h2 : c ≤ maxLen) (h3 : Row Sg.sigK w A xs) (h4 : A = none → c = 0) :
    Calls Try.prog 6 #[.int .i64 view, .string b, .slice A xs.length c] w fun e w' => e = .returned (.bool true) ∧ RowKit.Below w.heap.size w w' :=
  certmakes_law w view b A c xs (sg_of ⟨h1, by unfold maxLen at h2; omega, h3⟩) h4 _ rfl
end Go.Proofs.Ytdmdfpbklflijaa.Crt

/- The reference's views: At, In, Catch: walked. -/
import Derived.Test.YtgleoeiiiadanaaGatA
set_option linter.unusedVariables false
set_option linter.unusedSimpArgs false
namespace Go.Proofs.Ytgleoeiiiadanaa.Gat
open Go.RowKit Rd Api Own Mv Top

def opK : Rk Tel := Rk.iso (Rk.pair (Rk.int .i64) (Rk.pair (Rk.int .i64) Rk.unit)) (fun x => (x.f, x.v, ()))
theorem opens_op : Opens Try.prog 37 opK :=
  opens_iso _ (fun (a, b, _) => ⟨a, b⟩) (fun _ => rfl) (opens_struct Try.underlying37 (by kernel_rfl) (fs_cons rfl (by kernel_rfl) (opens_int Try.underlying3) (fs_cons rfl (by kernel_rfl) (opens_int Try.underlying3) (fs_nil _))))
theorem opens_ops : Opens Try.prog 31 (Rk.slice opK) := opens_slice Try.underlying31 opens_op (by kernel_rfl) (by decide)
theorem op_at {w : World} {A : Option Addr} {l : List Tel} (h : Row opK w A l) {i : Nat} {x : Tel} (hx : l[i]? = some x) : ∃ b o, A = some ⟨b, o, none⟩ ∧ w.cell? ⟨b, o + i * 2, none⟩ = some (.int .i64 x.f) ∧ w.cell? ⟨b, o + i * 2 + 1, none⟩ = some (.int .i64 x.v) ∧ IsI64 x.f ∧ IsI64 x.v := by
  obtain ⟨b, o, cs, hA, ⟨_, _, rfl, ⟨rfl, h1⟩, _, _, rfl, ⟨rfl, h2⟩, rfl⟩, hc⟩ := h i x hx
  exact ⟨b, o, hA, hc 0 _ rfl, hc 1 _ rfl, i64_of h1, i64_of h2⟩
theorem atF_le (l : List Tel) (n : Nat) (f : Int) : atF l n f ≤ 1000000 := by
  refine snoc_ind (p := fun l => atF l n f ≤ 1000000) ?_ ?_ l
  · simp [atF]
  · intro l o h
    rw [atF_snoc]
    split <;> omega
theorem atF_take {l : List Tel} {i : Nat} {x : Tel} (hx : l[i]? = some x) (n : Nat) (f : Int) : atF (l.take (i + 1)) n f = if x.f = f ∧ 0 ≤ f ∧ f < (n : Int) ∧ x.v ≤ 1000000 then max (atF (l.take i) n f) x.v else atF (l.take i) n f := by
  obtain ⟨hi, rfl⟩ := List.getElem?_eq_some_iff.1 hx
  rw [← List.take_append_getElem hi, atF_snoc]
/-- a list of what was told, in a world -/
structure Ops (w : World) (A : Option Addr) (c : Nat) (l : List Tel) : Prop where
  le : l.length ≤ c
  cap : c ≤ 9223372036854775807
  row : Row opK w A l
theorem Ops.keep {w w1 : World} {A : Option Addr} {c : Nat} {l : List Tel} (h : Ops w A c l) (hb : Below w.heap.size w w1) : Ops w1 A c l := ⟨h.le, h.cap, h.row.below hb⟩
theorem Ops.take {w : World} {A : Option Addr} {c : Nat} {l : List Tel} (h : Ops w A c l) (i : Nat) : Ops w A c (l.take i) :=
  ⟨by rw [List.length_take]; have := h.le; omega, h.cap, fun j x hx => h.row j x (by rw [List.getElem?_take] at hx; split at hx; exact hx; cases hx)⟩
-- <L1
set_option maxHeartbeats 4000000 in
set_option maxRecDepth 100000 in
theorem refat_any (w : World) (A : Option Addr) (c : Nat) (l : List Tel) (h : Ops w A c l) (len n : Nat) (hln : l.length = len) (hn : n ≤ 1000) (f : Int) (hf : IsI64 f) (x : Int) (hx : atF l n f = x) :
    Calls Try.prog 28 #[.slice A len c, .int .i64 (n : Int), .int .i64 f] w fun e w' => e = .returned (.int .i64 x) ∧ w' = w := by
  have H := Sd.mk h
  have lc := Nat.le_trans h.le h.cap
  rw [hln] at lc
  have HL := Sd.mk hln
  have HX := Sd.mk hx
  have hf1 := hf.1
  have hf2 := hf.2
  clear h hln hx hf
  go_enter Try.func28, Try.ntmps28
  go_wp2
  go_loop [7, 8] (fun v7 v8 => ∃ (i : Nat) (v : Int), i ≤ len ∧ 0 ≤ v ∧ v ≤ 1000000 ∧ v8 = .int .i64 i ∧ v7 = .int .i64 v ∧ Sd (v = atF (l.take i) n f)) (fun v7 v8 => len - (intOf v8).toNat)
  case atStart => exact ⟨0, 0, by omega, by omega, by omega, rfl, rfl, ⟨rfl⟩⟩
  case round =>
    obtain ⟨i, v, hi, v0, v1, rfl, rfl, HV⟩ := hrel
    by_cases hlt : i < len
    · obtain ⟨o, ho⟩ : ∃ o, l[i]? = some o := ⟨l[i]'(by rw [HL.out]; exact hlt), List.getElem?_eq_getElem _⟩
      obtain ⟨b, q, rfl, c0, c1, i0, i1⟩ := op_at H.out.row ho
      have HT := Sd.mk (atF_take ho n f)
      have hii : (i : Int) < len := by omega
      obtain ⟨of, ov⟩ := o
      simp only at c0 c1 i0 i1 HT
      clear ho
      have i00 := i0.1
      have i01 := i0.2
      have i10 := i1.1
      have i11 := i1.2
      clear i0 i1
      by_cases e0 : of = f
      · subst e0
        by_cases e1 : 0 ≤ of
        · have d1 : decide (0 ≤ of) = true := decide_eq_true e1
          by_cases e2 : of < (n : Int)
          · have d2 : decide (of < (n : Int)) = true := decide_eq_true e2
            by_cases e3 : ov ≤ 1000000
            · have d3 : decide (ov ≤ 1000000) = true := decide_eq_true e3
              have HT2 := Sd.mk (show atF (l.take (i + 1)) n of = max v ov by rw [HT.out, if_pos ⟨rfl, e1, e2, e3⟩, HV.out])
              by_cases hmx : v < ov
              · have hm : max v ov = ov := by omega
                have HT3 := Sd.mk (show ov = atF (l.take (i + 1)) n of by rw [HT2.out, hm])
                clear HT2 HT HV
                go_wp2
                go_round
                case rel => exact ⟨i + 1, ov, by omega, by omega, by omega, by go_num, rfl, HT3⟩
                case measure => simp [intOf]; omega
              · have hm : max v ov = v := by omega
                have HT3 := Sd.mk (show v = atF (l.take (i + 1)) n of by rw [HT2.out, hm])
                clear HT2 HT HV
                go_wp2
                go_round
                case rel => exact ⟨i + 1, v, by omega, by omega, by omega, by go_num, rfl, HT3⟩
                case measure => simp [intOf]; omega
            · have d3 : decide (ov ≤ 1000000) = false := decide_eq_false e3
              have HT3 := Sd.mk (show v = atF (l.take (i + 1)) n of by rw [HT.out, if_neg (fun k => e3 k.2.2.2), HV.out])
              clear HT HV
              go_wp2
              go_round
              case rel => exact ⟨i + 1, v, by omega, by omega, by omega, by go_num, rfl, HT3⟩
              case measure => simp [intOf]; omega
          · have d2 : decide (of < (n : Int)) = false := decide_eq_false e2
            have HT3 := Sd.mk (show v = atF (l.take (i + 1)) n of by rw [HT.out, if_neg (fun k => e2 k.2.2.1), HV.out])
            clear HT HV
            go_wp2
            go_round
            case rel => exact ⟨i + 1, v, by omega, by omega, by omega, by go_num, rfl, HT3⟩
            case measure => simp [intOf]; omega
        · have d1 : decide (0 ≤ of) = false := decide_eq_false e1
          have HT3 := Sd.mk (show v = atF (l.take (i + 1)) n of by rw [HT.out, if_neg (fun k => e1 k.2.1), HV.out])
          clear HT HV
          go_wp2
          go_round
          case rel => exact ⟨i + 1, v, by omega, by omega, by omega, by go_num, rfl, HT3⟩
          case measure => simp [intOf]; omega
      · have d0 : (of == f) = false := beq_eq_false_iff_ne.2 e0
        have HT3 := Sd.mk (show v = atF (l.take (i + 1)) n f by rw [HT.out, if_neg (fun k => e0 k.1), HV.out])
        clear HT HV e0
        go_wp2
        go_round
        case rel => exact ⟨i + 1, v, by omega, by omega, by omega, by go_num, rfl, HT3⟩
        case measure => simp [intOf]; omega
    · have hii : decide (i < len) = false := decide_eq_false (by omega)
      obtain rfl : i = len := by omega
      obtain rfl : v = x := by rw [HV.out, List.take_of_length_le (by rw [HL.out]; exact Nat.le_refl _), HX.out]
      go_wp2
      go_ret
      exact ⟨rfl, rfl⟩
-- L1>
-- <L2
set_option maxHeartbeats 4000000 in
set_option maxRecDepth 100000 in
theorem refin_any (w : World) (A : Option Addr) (c : Nat) (l : List Tel) (h : Ops w A c l) (len n : Nat) (hln : l.length = len) (hn : n ≤ 1000) (v : Int) (q : Nat) (hq : inn v (gputs n l) = q) :
    Calls Try.prog 29 #[.slice A len c, .int .i64 (n : Int), .int .i64 v] w fun e w' => e = .returned (.int .i64 (q : Nat)) ∧ w' = w := by
  rw [gputs_map] at hq
  have HQ := Sd.mk hq
  have hc := fun (j : Nat) (hj : j ≤ 1000) (x : Int) (hx : atF l n (j : Int) = x) => refat_any w A c l h len n hln hn (j : Int) ⟨by omega, by omega⟩ x hx
  have HC := Sd.mk hc
  clear h hln hq hc
  go_enter Try.func29, Try.ntmps29
  go_wp2
  go_loop [7, 8] (fun v7 v8 => ∃ (i : Nat) (m : Nat), i ≤ n ∧ m ≤ i ∧ v8 = .int .i64 i ∧ v7 = .int .i64 m ∧ Sd (m = inn v ((List.range i).map (fun j : Nat => atF l n (j : Int))))) (fun v7 v8 => n - (intOf v8).toNat)
  case atStart => exact ⟨0, 0, by omega, by omega, rfl, rfl, ⟨rfl⟩⟩
  case round =>
    obtain ⟨i, m, hi, hmi, rfl, rfl, HM⟩ := hrel
    by_cases hlt : i < n
    · have hii : (i : Int) < n := by omega
      obtain ⟨x, hx⟩ : ∃ x, atF l n (i : Int) = x := ⟨_, rfl⟩
      have HX := Sd.mk (inn_range v (fun j : Nat => atF l n (j : Int)) i)
      have HXX := Sd.mk hx
      clear hx
      by_cases e : x = v
      · subst e
        have HX2 := Sd.mk (show m + 1 = inn x ((List.range (i + 1)).map (fun j : Nat => atF l n (j : Int))) by rw [HX.out, HM.out, if_pos HXX.out])
        clear HX
        go_wp2_with (first
          | (go_at_call 28; (with_reducible refine (HC.out i (by omega) x HXX.out).mono ?_); rintro e w1 ⟨rfl, rfl⟩))
        go_round
        case rel => exact ⟨i + 1, m + 1, by omega, by omega, by go_num, by go_num, HX2⟩
        case measure => simp [intOf]; omega
      · have d : (x == v) = false := beq_eq_false_iff_ne.2 e
        have HX2 := Sd.mk (show m = inn v ((List.range (i + 1)).map (fun j : Nat => atF l n (j : Int))) by rw [HX.out, HM.out, if_neg (by rw [HXX.out]; exact e)]; rfl)
        clear HX e
        go_wp2_with (first
          | (go_at_call 28; (with_reducible refine (HC.out i (by omega) x HXX.out).mono ?_); rintro e w1 ⟨rfl, rfl⟩))
        go_round
        case rel => exact ⟨i + 1, m, by omega, by omega, by go_num, rfl, HX2⟩
        case measure => simp [intOf]; omega
    · have hii : decide (i < n) = false := decide_eq_false (by omega)
      obtain rfl : i = n := by omega
      obtain rfl : m = q := by rw [HM.out, HQ.out]
      go_wp2
      go_ret
      exact ⟨rfl, rfl⟩
-- L2>
-- <L3
theorem best_succ (vs : List Int) (k i : Nat) : best vs k (i + 1) = if k ≤ cnt (vs.getD i 0) vs then max (best vs k i) (vs.getD i 0) else best vs k i := rfl
theorem best_bd {vs : List Int} (hv : Vws vs) (k : Nat) : ∀ i, 0 ≤ best vs k i ∧ best vs k i ≤ 1000000
  | 0 => ⟨Int.le_refl _, show (0 : Int) ≤ 1000000 by decide⟩
  | i + 1 => by
    have := best_bd hv k i
    have h2 : vs.getD i 0 ≤ 1000000 := by
      rw [List.getD_eq_getElem?_getD]
      cases h : vs[i]? with
      | none => decide
      | some x => exact (hv x (List.mem_of_getElem? h)).2
    rw [best_succ]
    split <;> omega
theorem gputs_getD (n : Nat) (l : List Tel) {i : Nat} (hi : i < n) : (gputs n l).getD i 0 = atF l n (i : Int) := by
  rw [List.getD_eq_getElem?_getD, gputs_at n l i hi]; rfl
set_option maxHeartbeats 8000000 in
set_option maxRecDepth 100000 in
theorem refcatch_any (w : World) (A : Option Addr) (c : Nat) (l : List Tel) (h : Ops w A c l) (len n : Nat) (hln : l.length = len) (hn : n ≤ 1000) (h1 : 1 ≤ n) (t : Int) (ht : best (gputs n l) (fl n + 1) n = t) :
    Calls Try.prog 32 #[.slice A len c, .int .i64 (n : Int)] w fun e w' => e = .returned (.int .i64 t) ∧ w' = w := by
  have HT := Sd.mk ht
  have hc := fun (j : Nat) (hj : j ≤ 1000) (x : Int) (hx : atF l n (j : Int) = x) => refat_any w A c l h len n hln hn (j : Int) ⟨by omega, by omega⟩ x hx
  have HC := Sd.mk hc
  obtain ⟨f, hf⟩ : ∃ f, f = fl n := ⟨_, rfl⟩
  have HF := Sd.mk hf
  have hfl : f ≤ 1000 := by rw [hf]; have := fl_lt h1; omega
  have hfc := fun W => reffaults_any W n h1 hn f hf
  have HFC := Sd.mk hfc
  clear h hln ht hc hf hfc
  go_enter Try.func32, Try.ntmps32
  go_wp2
  go_loop [5, 6, 7, 8, 9] (fun v5 v6 v7 v8 v9 => ∃ (i : Nat) (v : Int), i ≤ n ∧ 0 ≤ v ∧ v ≤ 1000000 ∧ v6 = .int .i64 i ∧ v5 = .int .i64 v ∧ Sd (v = best (gputs n l) (fl n + 1) i)) (fun v5 v6 v7 v8 v9 => n - (intOf v6).toNat)
  case atStart => exact ⟨0, 0, by omega, by omega, by omega, rfl, rfl, ⟨rfl⟩⟩
  case round =>
    obtain ⟨i, v, hi, v0, v1, rfl, rfl, HV⟩ := hrel
    by_cases hlt : i < n
    · have hii : (i : Int) < n := by omega
      obtain ⟨x, hx⟩ : ∃ x, atF l n (i : Int) = x := ⟨_, rfl⟩
      have hx0 : 0 ≤ x ∧ x ≤ 1000000 := by rw [← hx]; exact ⟨atF_nonneg _ _ _, atF_le _ _ _⟩
      have HX := Sd.mk hx
      have HG := Sd.mk ((gputs_getD n l hlt).trans hx)
      have HM := Sd.mk (gputs_map n l)
      clear hx
      go_wp2_with (first
        | (go_at_call 28; (with_reducible refine (HC.out i (by omega) x HX.out).mono ?_); rintro e w1 ⟨rfl, rfl⟩))
      go_loop [8, 9] (fun v8 v9 => ∃ (j : Nat) (m : Nat), j ≤ n ∧ m ≤ j ∧ v9 = .int .i64 j ∧ v8 = .int .i64 m ∧ Sd (m = cnt x ((List.range j).map (fun j : Nat => atF l n (j : Int))))) (fun v8 v9 => n - (intOf v9).toNat)
      case atStart => exact ⟨0, 0, by omega, by omega, rfl, rfl, ⟨rfl⟩⟩
      case round =>
        obtain ⟨j, m, hj, hmj, rfl, rfl, HK⟩ := hrel
        by_cases hjt : j < n
        · have hji : (j : Int) < n := by omega
          obtain ⟨y, hy⟩ : ∃ y, atF l n (j : Int) = y := ⟨_, rfl⟩
          have HY := Sd.mk hy
          have HS := Sd.mk (cnt_range x (fun j : Nat => atF l n (j : Int)) j)
          clear hy
          by_cases e : x ≤ y
          · have d : decide (x ≤ y) = true := decide_eq_true e
            have HS2 := Sd.mk (show m + 1 = cnt x ((List.range (j + 1)).map (fun j : Nat => atF l n (j : Int))) by rw [HS.out, HK.out, if_pos (by rw [HY.out]; exact e)])
            clear HS
            go_wp2_with (first
              | (go_at_call 28; (with_reducible refine (HC.out j (by omega) y HY.out).mono ?_); rintro e w1 ⟨rfl, rfl⟩))
            go_round
            case rel => exact ⟨j + 1, m + 1, by omega, by omega, by go_num, by go_num, HS2⟩
            case measure => simp [intOf]; omega
          · have d : decide (x ≤ y) = false := decide_eq_false e
            have HS2 := Sd.mk (show m = cnt x ((List.range (j + 1)).map (fun j : Nat => atF l n (j : Int))) by rw [HS.out, HK.out, if_neg (by rw [HY.out]; exact e)]; rfl)
            clear HS
            go_wp2_with (first
              | (go_at_call 28; (with_reducible refine (HC.out j (by omega) y HY.out).mono ?_); rintro e w1 ⟨rfl, rfl⟩))
            go_round
            case rel => exact ⟨j + 1, m, by omega, by omega, by go_num, rfl, HS2⟩
            case measure => simp [intOf]; omega
        · have hji : decide (j < n) = false := decide_eq_false (by omega)
          obtain rfl : j = n := by omega
          have HS := Sd.mk (best_succ (gputs j l) (fl j + 1) i)
          have HMM := Sd.mk (show m = cnt x (gputs j l) by rw [HK.out, HM.out])
          clear HK HM
          by_cases e : f < m
          · have d : decide ((f : Int) < (m : Int)) = true := decide_eq_true (by omega)
            have HS2 := Sd.mk (show best (gputs j l) (fl j + 1) (i + 1) = max v x by rw [HS.out, HG.out, ← HMM.out, if_pos (by rw [← HF.out]; omega), HV.out])
            clear HS
            by_cases hmx : v < x
            · have HS3 := Sd.mk (show x = best (gputs j l) (fl j + 1) (i + 1) by rw [HS2.out]; omega)
              clear HS2
              go_wp2_with (first
                | (go_at_call 31; (with_reducible refine (HFC.out _).mono ?_); rintro e w1 ⟨rfl, rfl⟩))
              go_round
              case rel => exact ⟨i + 1, x, by omega, by omega, by omega, by go_num, rfl, HS3⟩
              case measure => simp [intOf]; omega
            · have HS3 := Sd.mk (show v = best (gputs j l) (fl j + 1) (i + 1) by rw [HS2.out]; omega)
              clear HS2
              go_wp2_with (first
                | (go_at_call 31; (with_reducible refine (HFC.out _).mono ?_); rintro e w1 ⟨rfl, rfl⟩))
              go_round
              case rel => exact ⟨i + 1, v, by omega, by omega, by omega, by go_num, rfl, HS3⟩
              case measure => simp [intOf]; omega
          · have d : decide ((f : Int) < (m : Int)) = false := decide_eq_false (by omega)
            have HS3 := Sd.mk (show v = best (gputs j l) (fl j + 1) (i + 1) by rw [HS.out, HG.out, ← HMM.out, if_neg (by rw [← HF.out]; omega), HV.out])
            clear HS
            go_wp2_with (first
              | (go_at_call 31; (with_reducible refine (HFC.out _).mono ?_); rintro e w1 ⟨rfl, rfl⟩))
            go_round
            case rel => exact ⟨i + 1, v, by omega, by omega, by omega, by go_num, rfl, HS3⟩
            case measure => simp [intOf]; omega
    · have hii : decide ((i : Int) < n) = false := decide_eq_false (by omega)
      obtain rfl : i = n := by omega
      obtain rfl : v = t := by rw [HV.out, HT.out]
      go_wp2
      go_ret
      exact ⟨rfl, rfl⟩
-- L3>
end Go.Proofs.Ytgleoeiiiadanaa.Gat

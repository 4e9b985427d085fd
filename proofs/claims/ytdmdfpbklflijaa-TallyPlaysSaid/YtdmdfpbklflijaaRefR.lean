/- The reference's right signatures, and certificates; what is of a size that is looked at: walked. The reference's right certificates: walked. -/
import Derived.Test.YtdmdfpbklflijaaRw
import Derived.Lib.QuietBelow
set_option linter.unusedVariables false
set_option linter.unusedSimpArgs false
namespace Go.Proofs.Ytdmdfpbklflijaa.Rp
open Go.RowKit Go.Sort Rd Api Own Mv App Num

def al16 (l : List ByteArray) : Prop := ∀ t ∈ l, t.size = 16
theorem al16_snoc {l : List ByteArray} {i : Nat} {t : ByteArray} (h : l[i]? = some t) (h1 : al16 (l.take i)) (h2 : t.size = 16) : al16 (l.take (i + 1)) := by
  intro u hu
  rw [List.take_add_one, h] at hu
  rcases List.mem_append.1 hu with e | e
  · exact h1 u e
  · simp at e; subst e; exact h2
set_option maxHeartbeats 8000000 in
set_option maxRecDepth 100000 in
theorem refsig_any (w : World) (x : Sg.Sig) (A : Option Addr) (c : Nat) (h : Sl Rk.str w A c x.tags) (n : Nat) (hn : n = x.tags.length) (r : Bool) (hr : r = true ↔ RightSig x) :
    Calls Try.prog 86 #[.agg #[.int .i64 x.node, .slice A n c]] w fun e w' => e = .returned (.bool r) ∧ RowKit.Below w.heap.size w w' := by
  have hb0 := below_one w (.cells #[.int .i64 x.node, .slice A n c] 39)
  have HB := Sd.mk hb0
  have HS := Sd.mk (h.below hb0)
  have X0 := blk_new w (.cells #[.int .i64 x.node, .slice A n c] 39)
  have nc := Nat.le_trans h.le h.cap
  rw [← hn] at nc
  have HN := Sd.mk hn
  have HR := Sd.mk hr
  clear h hn hr hb0
  go_enter Try.func86, Try.ntmps86
  go_upto_region 2 with (fail)
  generalize w.heap.size = Bx at X0 ⊢
  generalize w.alloc _ = W1 at X0 HB HS ⊢
  have c0 := blk_at X0 0 _ rfl
  have c1 := blk_at X0 1 _ rfl
  clear X0
  go_loopg [3] n (fun gk v3 wr => ∃ i, i + gk = n ∧ i ≤ 10 ∧ v3 = .int .i64 (i : Nat) ∧ Sd (al16 (x.tags.take i)) ∧ Sd (wr = W1))
  case atStart => exact ⟨0, by omega, by omega, rfl, ⟨fun t ht => by simp at ht⟩, ⟨rfl⟩⟩
  case round =>
    obtain ⟨i, hi, hi10, rfl, HA, HE⟩ := hrel
    obtain rfl := HE.out.symm
    by_cases hlt : i < n
    · have hii : (i : Int) < n := by omega
      have hil : i < x.tags.length := by rw [← HN.out]; exact hlt
      by_cases h10 : i < 10
      · have h10i : (i : Int) < 10 := by omega
        obtain ⟨b, o, rfl, c2, -⟩ := str_at HS.out.row hil
        obtain ⟨y, hy⟩ : ∃ y, x.tags[i] = y := ⟨_, rfl⟩
        rw [hy] at c2
        have HY := Sd.mk (show x.tags[i]? = some y by rw [List.getElem?_eq_getElem hil, hy])
        clear hy
        by_cases h16 : y.size = 16
        · have d0 : ((y.size : Int) != 16) = false := by rw [bne_eq_false_iff_eq]; omega
          have HA2 := Sd.mk (al16_snoc HY.out HA.out h16)
          clear h16
          go_wp2
          go_roundg (gk - 1)
          case measure => omega
          case rel => exact ⟨i + 1, by omega, by omega, by go_num, HA2, ⟨rfl⟩⟩
        · have d0 : ((y.size : Int) != 16) = true := by rw [bne_iff_ne]; omega
          obtain rfl : r = false := by
            cases r with
            | false => rfl
            | true => exact absurd ((HR.out.1 rfl).2.2.2 y (List.mem_of_getElem? HY.out)) h16
          clear h16
          go_wp2
          go_ret
          exact ⟨rfl, HB.out⟩
      · have h10i : decide ((i : Int) < 10) = false := decide_eq_false (by omega)
        have h7 : decide ((n : Int) ≤ 7) = false := decide_eq_false (by omega)
        have h7n : decide (n ≤ 7) = false := decide_eq_false (by omega)
        obtain rfl : r = false := by
          cases r with
          | false => rfl
          | true => have := (HR.out.1 rfl).2.2.1; rw [← HN.out] at this; omega
        by_cases hp0 : 0 ≤ x.node
        · have e0 : decide (0 ≤ x.node) = true := decide_eq_true hp0
          by_cases hp1 : x.node < 7
          · have e1 : decide (x.node < 7) = true := decide_eq_true hp1
            go_wp2
            go_ret
            exact ⟨rfl, HB.out⟩
          · have e1 : decide (x.node < 7) = false := decide_eq_false hp1
            go_wp2
            go_ret
            exact ⟨rfl, HB.out⟩
        · have e0 : decide (0 ≤ x.node) = false := decide_eq_false hp0
          go_wp2
          go_ret
          exact ⟨rfl, HB.out⟩
    · have hii : decide (i < n) = false := decide_eq_false (by omega)
      have hii2 : decide ((i : Int) < (n : Int)) = false := decide_eq_false (by omega)
      have HAL := Sd.mk (show al16 x.tags by have := HA.out; rwa [List.take_of_length_le (by rw [← HN.out]; omega)] at this)
      have HQ := Sd.mk (show r = (decide (0 ≤ x.node) && decide (x.node < 7) && decide ((n : Int) ≤ 7)) by
        rw [Bool.eq_iff_iff, HR.out]
        simp only [Bool.and_eq_true, decide_eq_true_eq]
        rw [HN.out]
        exact ⟨fun h => ⟨⟨h.1, h.2.1⟩, by have := h.2.2.1; omega⟩, fun h => ⟨h.1.1, h.1.2, by have := h.2; omega, HAL.out⟩⟩)
      clear HR
      by_cases hp0 : 0 ≤ x.node
      · have e0 : decide (0 ≤ x.node) = true := decide_eq_true hp0
        by_cases hp1 : x.node < 7
        · have e1 : decide (x.node < 7) = true := decide_eq_true hp1
          obtain ⟨b, hb⟩ : ∃ b, decide ((n : Int) ≤ 7) = b := ⟨_, rfl⟩
          have hb2 : decide (n ≤ 7) = b := by rw [← hb]; simp only [decide_eq_decide]; omega
          rw [hb, e0, e1] at HQ
          obtain rfl : r = b := HQ.out
          go_wp2
          go_ret
          exact ⟨rfl, HB.out⟩
        · have e1 : decide (x.node < 7) = false := decide_eq_false hp1
          rw [e0, e1] at HQ
          obtain rfl : r = false := HQ.out
          go_wp2
          go_ret
          exact ⟨rfl, HB.out⟩
      · have e0 : decide (0 ≤ x.node) = false := decide_eq_false hp0
        rw [e0] at HQ
        obtain rfl : r = false := HQ.out
        go_wp2
        go_ret
        exact ⟨rfl, HB.out⟩
/-- what holds of the first i -/
def Rt1 (xs : List Sg.Sig) (i : Nat) : Prop := Rises (-1) (xs.take i) ∧ ∀ x ∈ xs.take i, RightSig x
theorem rt1_snoc {xs : List Sg.Sig} {i : Nat} {x : Sg.Sig} (h : xs[i]? = some x) : Rt1 xs (i + 1) ↔ Rt1 xs i ∧ RightSig x ∧ lastOf (-1) (xs.take i) < x.node := by
  unfold Rt1
  rw [List.take_add_one, h]
  simp only [Option.toList_some, rises_snoc, List.mem_append, List.mem_singleton]
  constructor
  · rintro ⟨⟨h1, h2⟩, h3⟩
    exact ⟨⟨h1, fun y hy => h3 y (.inl hy)⟩, h3 x (.inr rfl), h2⟩
  · rintro ⟨⟨h1, h2⟩, h3, h4⟩
    exact ⟨⟨h1, h4⟩, fun y hy => by rcases hy with e | rfl; exact h2 y e; exact h3⟩
theorem rt1_all (xs : List Sg.Sig) (i : Nat) (h : Rises (-1) xs ∧ ∀ x ∈ xs, RightSig x) : Rt1 xs i := by
  have : ∀ (i : Nat) (l : List Sg.Sig) (k : Int), Rises k l → Rises k (l.take i) := by
    intro i
    induction i with
    | zero => intro l k _; trivial
    | succ i ih =>
      intro l k h
      cases l with
      | nil => trivial
      | cons y r => exact ⟨h.1, ih r y.node h.2⟩
  exact ⟨this i xs _ h.1, fun x hx => h.2 x (List.mem_of_mem_take hx)⟩
theorem lastOf_take {xs : List Sg.Sig} {i : Nat} {x : Sg.Sig} (h : xs[i]? = some x) : lastOf (-1) (xs.take (i + 1)) = x.node := by
  rw [List.take_add_one, h]; exact lastOf_snoc _ _ _
theorem right_parts (c : Cert) : RightCert c ↔ (0 ≤ c.view ∧ c.view ≤ 1000000 ∧ c.block.size = 32 ∧ c.sigs.length ≤ 7) ∧ Rises (-1) c.sigs ∧ ∀ x ∈ c.sigs, RightSig x :=
  ⟨fun ⟨h1, h2, h3, h4, h5⟩ => ⟨⟨h1.1, h1.2, h2, h3⟩, h4, h5⟩, fun ⟨⟨h1, h2, h3, h4⟩, h5, h6⟩ => ⟨⟨h1, h2⟩, h3, h4, h5, h6⟩⟩
end Go.Proofs.Ytdmdfpbklflijaa.Rp
set_option linter.unusedVariables false
set_option linter.unusedSimpArgs false
namespace Go.Proofs.Ytdmdfpbklflijaa.Rp
open Go.RowKit Go.Sort Rd Api Own Mv App Num

set_option maxHeartbeats 8000000 in
set_option maxRecDepth 100000 in
theorem refright_any (w : World) (c : Cert) (A : Option Addr) (k : Nat) (h : Sl sgK w A k c.sigs) (n : Nat) (hn : n = c.sigs.length) (r : Bool) (hr : r = true ↔ RightCert c) :
    Calls Try.prog 51 #[.agg #[.int .i64 c.view, .string c.block, .slice A n k]] w fun e w' => e = .returned (.bool r) ∧ RowKit.Below w.heap.size w w' := by
  have mixed : Try.prog.follows .mixedOrders = true := by kernel_rfl
  have hb0 := below_one w (.cells #[.int .i64 c.view, .string c.block, .slice A n k] 24)
  have HB := Sd.mk hb0
  have HS := Sd.mk (h.below hb0)
  have X0 := Sd.mk (blk_new w (.cells #[.int .i64 c.view, .string c.block, .slice A n k] 24))
  have nc := Nat.le_trans h.le h.cap
  rw [← hn] at nc
  have HN := Sd.mk hn
  have HR := Sd.mk (hr.trans (right_parts c))
  clear h hn hr hb0
  obtain ⟨b0, hd0⟩ : ∃ b, decide (c.view < 0) = b := ⟨_, rfl⟩
  obtain ⟨b1, hd1⟩ : ∃ b, decide (1000000 < c.view) = b := ⟨_, rfl⟩
  obtain ⟨b2, hd2⟩ : ∃ b, ((c.block.size : Int) != 32) = b := ⟨_, rfl⟩
  obtain ⟨b3, hd3⟩ : ∃ b, decide (7 < (n : Int)) = b := ⟨_, rfl⟩
  have hd4 : decide (7 < n) = b3 := by rw [← hd3]; simp only [decide_eq_decide]; omega
  have HQ := Sd.mk (show (0 ≤ c.view ∧ c.view ≤ 1000000 ∧ c.block.size = 32 ∧ c.sigs.length ≤ 7) ↔ (b0 || b1 || b2 || b3) = false by
    rw [← HN.out, ← hd0, ← hd1, ← hd2, ← hd3]
    simp only [Bool.or_eq_false_iff, decide_eq_false_iff_not, bne_eq_false_iff_eq]
    omega)
  cases hall : (b0 || b1 || b2 || b3) with
  | true =>
    -- <A
    obtain rfl : r = false := by
      cases r with
      | false => rfl
      | true => have := HQ.out.1 (HR.out.1 rfl).1; rw [hall] at this; cases this
    clear HQ HR
    go_enter Try.func51, Try.ntmps51
    go_upto_region 1 with (fail)
    generalize w.heap.size = Bx at X0 ⊢
    generalize w.alloc _ = W1 at X0 HB HS ⊢
    have c0 := blk_at X0.out 0 _ rfl
    have c1 := blk_at X0.out 1 _ rfl
    have c2 := blk_at X0.out 2 _ rfl
    cases b0 with
    | true => go_wp2; go_ret; exact ⟨rfl, HB.out⟩
    | false =>
      cases b1 with
      | true => go_wp2; go_ret; exact ⟨rfl, HB.out⟩
      | false =>
        cases b2 with
        | true => go_wp2; go_ret; exact ⟨rfl, HB.out⟩
        | false =>
          obtain rfl : b3 = true := hall
          go_wp2
          go_ret
          exact ⟨rfl, HB.out⟩
    -- A>
  | false =>
    simp only [Bool.or_eq_false_iff] at hall
    obtain ⟨⟨⟨rfl, rfl⟩, rfl⟩, rfl⟩ := hall
    have hn7 : n ≤ 7 := by have := of_decide_eq_false hd4; omega
    have HR2 := Sd.mk (show r = true ↔ Rt1 c.sigs n by
      rw [HR.out]
      unfold Rt1
      rw [List.take_of_length_le (by rw [← HN.out]; exact Nat.le_refl _)]
      exact ⟨fun h => h.2, fun h => ⟨HQ.out.2 rfl, h⟩⟩)
    have HR3 := Sd.mk (show r = true → ∀ i, Rt1 c.sigs i from fun h i => rt1_all _ i (HR.out.1 h).2)
    clear HQ HR
    go_enter Try.func51, Try.ntmps51
    go_upto_region 1 with (fail)
    generalize w.heap.size = Bx at X0 ⊢
    generalize w.alloc _ = W1 at X0 HB HS ⊢
    have c0 := blk_at X0.out 0 _ rfl
    have c1 := blk_at X0.out 1 _ rfl
    have c2 := blk_at X0.out 2 _ rfl
    go_wp2
    clear c0 c1 c2
    go_loopg [3] n (fun gk v3 wr => ∃ i, i + gk = n ∧ v3 = .int .i64 (i : Nat) ∧ Sd (Rt1 c.sigs i) ∧ Sd (RowKit.Below W1.heap.size W1 wr))
    case atStart => exact ⟨0, by omega, rfl, ⟨trivial, fun x hx => by simp at hx⟩, ⟨Below.refl _ _⟩⟩
    case round =>
      obtain ⟨i, hi, rfl, HA, HW⟩ := hrel
      have c2 := blk_at (blk_keep X0.out HW.out) 2 _ rfl
      by_cases hlt : i < n
      · have hii : (i : Int) < n := by omega
        obtain ⟨x, hx⟩ : ∃ x, c.sigs[i]? = some x := ⟨_, List.getElem?_eq_getElem (show i < c.sigs.length by rw [← HN.out]; exact hlt)⟩
        obtain ⟨o1, o2, A1, c1, rfl, p0, p1, s1⟩ := sg_at HS.out hx
        have HX := Sd.mk hx
        have c2' := fun d os => cell_regrown (blk_at (blk_keep X0.out HW.out) 2 _ rfl) d os
        have p0' := fun d os => cell_regrown (cell_below HW.out p0) d os
        have p1' := fun d os => cell_regrown (cell_below HW.out p1) d os
        obtain ⟨rs, hrs⟩ : ∃ r : Bool, r = true ↔ RightSig x := ⟨@decide (RightSig x) (Classical.propDecidable _), by simp⟩
        have HRS := Sd.mk hrs
        have HSS := Sd.mk (s1.below HW.out)
        clear hx hrs s1 p0 p1
        cases rs with
        | false =>
          -- <B
          obtain rfl : r = false := by
            cases r with
            | false => rfl
            | true =>
              have h := ((rt1_snoc HX.out).1 (HR3.out rfl (i + 1))).2.1
              have := HRS.out.2 h; cases this
          go_upto_region 6 with (fail)
          clear c2
          refine wp_region_quiet_below (by assumption) (by kernel_rfl) ?_
          repeat (go_big_quiet_step ((go_at_call 86; refine Calls.regrown_of (refsig_any _ x A1 c1 (HSS.out.below (below_regrown _ _ _)) _ rfl false HRS.out))))
          refine wpQuiet_nil ?_
          rintro W9 ⟨⟨nq, osq⟩, rfl⟩
          have HB9 := Sd.mk (below_then HW.out (below_regrown wr nq osq))
          go_wp2
          go_ret
          exact ⟨rfl, below_then HB.out HB9.out⟩
          -- B>
        | true =>
          have HRX := Sd.mk (HRS.out.1 rfl)
          by_cases hi0 : i = 0
          ·
            -- <C
            subst hi0
            have HA2 := Sd.mk ((rt1_snoc HX.out).2 ⟨HA.out, HRX.out, by show (-1 : Int) < x.node; have := HRX.out.1; omega⟩)
            have z0 : (0 : Int) < (n : Int) := by omega
            simp only [Nat.zero_mul, Nat.add_zero] at p0' p1'
            rw [show ((0 : Nat) : Int) = 0 from rfl]
            go_upto_region 6 with (fail)
            clear c2
            refine wp_region_quiet_below (by assumption) (by kernel_rfl) ?_
            repeat (go_big_quiet_step ((go_at_call 86; refine Calls.regrown_of (refsig_any _ x A1 c1 (HSS.out.below (below_regrown _ _ _)) _ rfl true HRS.out))))
            refine wpQuiet_nil ?_
            rintro W9 ⟨⟨nq, osq⟩, rfl⟩
            have HB9 := Sd.mk (below_then HW.out (below_regrown wr nq osq))
            go_wp2
            go_roundg (gk - 1)
            case measure => omega
            case rel => exact ⟨1, by omega, rfl, HA2, HB9⟩
            -- C>
          ·
            -- <D
            obtain ⟨j, hj⟩ : ∃ j, j = i - 1 := ⟨_, rfl⟩
            obtain ⟨y, hy⟩ : ∃ y, c.sigs[j]? = some y := ⟨_, List.getElem?_eq_getElem (show j < c.sigs.length by rw [← HN.out]; omega)⟩
            obtain ⟨o3, o4, A3, c3, e3, q0, -, -⟩ := sg_at HS.out hy
            simp only [Option.some.injEq, Addr.mk.injEq, and_true] at e3
            obtain ⟨rfl, rfl⟩ := e3
            have q0' := fun d os => cell_regrown (cell_below HW.out q0) d os
            have HL := Sd.mk (show lastOf (-1) (c.sigs.take i) = y.node by have := lastOf_take hy; rwa [show j + 1 = i by omega] at this)
            have d0 : decide ((0 : Int) < (i : Int)) = true := decide_eq_true (by omega)
            have d0b : decide (0 < i) = true := decide_eq_true (by omega)
            have d1 : IntKind.i64.wrap ((i : Int) - 1) = (j : Int) := by rw [IntKind.wrap_i64]; omega
            have hjn : (j : Int) < n := by omega
            have hjn2 : j < n := by omega
            obtain ⟨rl, hrl⟩ : ∃ b, decide (x.node ≤ y.node) = b := ⟨_, rfl⟩
            have HRL := Sd.mk hrl
            clear hy q0 hj
            go_upto_region 6 with (fail)
            clear c2
            refine wp_region_quiet_below (by assumption) (by kernel_rfl) ?_
            repeat (go_big_quiet_step ((go_at_call 86; refine Calls.regrown_of (refsig_any _ x A1 c1 (HSS.out.below (below_regrown _ _ _)) _ rfl true HRS.out))))
            refine wpQuiet_nil ?_
            rintro W9 ⟨⟨nq, osq⟩, rfl⟩
            have HB9 := Sd.mk (below_then HW.out (below_regrown wr nq osq))
            clear c2' p0' p1' q0'
            cases rl with
            | true =>
              obtain rfl : r = false := by
                cases r with
                | false => rfl
                | true =>
                  have h := ((rt1_snoc HX.out).1 (HR3.out rfl (i + 1))).2.2
                  rw [HL.out] at h
                  have := of_decide_eq_true HRL.out; omega
              go_wp2
              go_ret
              exact ⟨rfl, below_then HB.out HB9.out⟩
            | false =>
              have HA2 := Sd.mk ((rt1_snoc HX.out).2 ⟨HA.out, HRX.out, by rw [HL.out]; have := of_decide_eq_false HRL.out; omega⟩)
              go_wp2
              go_roundg (gk - 1)
              case measure => omega
              case rel => exact ⟨i + 1, by omega, by go_num, HA2, HB9⟩
            -- D>
      · have hii : decide (i < n) = false := decide_eq_false (by omega)
        obtain rfl : i = n := by omega
        obtain rfl : r = true := HR2.out.2 HA.out
        go_wp2
        go_ret
        exact ⟨rfl, below_then HB.out HW.out⟩
end Go.Proofs.Ytdmdfpbklflijaa.Rp

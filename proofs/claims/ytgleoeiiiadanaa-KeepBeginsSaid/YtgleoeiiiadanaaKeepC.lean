/- KeepBegins: the law, walked. -/
import Derived.Test.YtgleoeiiiadanaaKeepB
set_option linter.unusedVariables false
set_option linter.unusedSimpArgs false
namespace Go.Proofs.Ytgleoeiiiadanaa.Kb
open Go.RowKit Rd Api Own Mv Dig

theorem pre_iff {l k : List ByteArray} {i : Nat} (h : l.length ≤ i) : (l.length ≤ k.length ∧ ∀ j, j < i → j < l.length → l[j]? = k[j]?) ↔ l <+: k := by
  rw [List.prefix_iff_eq_take]
  constructor
  · rintro ⟨h1, h2⟩
    refine List.ext_getElem? fun j => ?_
    rw [List.getElem?_take]
    by_cases e : j < l.length
    · rw [if_pos e]; exact h2 j (by omega) e
    · rw [if_neg e, List.getElem?_eq_none (by omega)]
  · intro e
    have hl : l.length ≤ k.length := by have := congrArg List.length e; rw [List.length_take] at this; omega
    refine ⟨hl, fun j _ hj => ?_⟩
    have h3 := congrArg (fun t => t[j]?) e
    simp only [List.getElem?_take, hj, if_true] at h3
    exact h3

set_option maxHeartbeats 8000000 in
set_option maxRecDepth 100000 in
theorem kb_few (w : World) (A B : Option Addr) (c d : Nat) (l k : List ByteArray) (hl : Sl Rk.str w A c l) (hk : Sl Rk.str w B d k) (l60 : l.length ≤ 60) (k60 : k.length ≤ 60) (u : Nat) (hu : u < 256) :
    Calls Try.prog 8 #[.slice A l.length c, .slice B k.length d, .int .u8 u] w fun e w' => e = .returned (.bool true) ∧ Below w.heap.size w w' := by
  have HL := Sd.mk hl
  have HK := Sd.mk hk
  have hkd := hk.le
  have hcap := hk.cap
  obtain ⟨n, hn⟩ : ∃ n, l.length = n := ⟨_, rfl⟩
  obtain ⟨m, hm⟩ : ∃ m, k.length = m := ⟨_, rfl⟩
  have LN := Sd.mk hn
  have LM := Sd.mk hm
  rw [hn] at l60 ⊢
  rw [hm] at k60 hkd ⊢
  have d1 : decide ((60 : Int) < (n : Int)) = false := decide_eq_false (by omega)
  have d2 : decide ((60 : Int) < (m : Int)) = false := decide_eq_false (by omega)
  obtain ⟨n1, hn1⟩ : ∃ n1, n1 = u % (m + 1) := ⟨_, rfl⟩
  have n1m : n1 ≤ m := by rw [hn1]; have := Nat.mod_lt u (show m + 1 > 0 by omega); omega
  have LT := Sd.mk (show (k.take n1).length = n1 by rw [List.length_take, hm]; omega)
  obtain ⟨m1, hm1⟩ : ∃ m1, m1 = m + 1 := ⟨_, rfl⟩
  have p1 : IntKind.i64.wrap (u : Int) = (u : Int) := by rw [IntKind.wrap_i64]; omega
  have p2 : IntKind.i64.wrap ((m : Int) + 1) = (m1 : Int) := by rw [IntKind.wrap_i64]; omega
  have p3 : ((u : Int)).tmod (m1 : Int) = (n1 : Int) := by rw [Int.tmod_eq_emod_of_nonneg (by omega), hn1, hm1]; rfl
  have p3b : ((u : Int)) % (m1 : Int) = (n1 : Int) := by rw [hn1, hm1]; rfl
  have p4 : ¬ (m1 : Int) = 0 := by omega
  have p4n : ¬ m1 = 0 := by omega
  have s1 : (n1 : Int) ≤ (d : Int) := by omega
  have s2 : n1 ≤ d := by omega
  obtain ⟨r3, hr3⟩ : ∃ r, r = decide (n1 = m) := ⟨_, rfl⟩
  have q3 : ((n1 : Int) == (m : Int)) = r3 := by
    rw [hr3]
    by_cases e : n1 = m
    · subst e; simp
    · rw [decide_eq_false e, beq_eq_false_iff_ne]; omega
  have R3 := Sd.mk (show r3 = true ↔ k <+: k.take n1 by
    rw [hr3, decide_eq_true_iff]
    constructor
    · rintro rfl; rw [← hm, List.take_length]; exact List.prefix_refl _
    · intro h; have := h.length_le; rw [LT.out, hm] at this; omega)
  obtain ⟨b0, hb0⟩ : ∃ b, b = decide (n ≤ m) := ⟨_, rfl⟩
  have hle : decide (n ≤ m) = b0 := hb0.symm
  have HI := Sd.mk (show b0 = true ↔ (l.length ≤ k.length ∧ ∀ j, j < 0 → j < l.length → l[j]? = k[j]?) by
    rw [hb0, decide_eq_true_iff, hn, hm]
    exact ⟨fun h => ⟨h, fun j hj => by omega⟩, fun h => h.1⟩)
  clear hl hk hn hm hn1 hm1 hr3 hb0 hcap
  go_enter Try.func8, Try.ntmps8
  go_upto_region 3 with (first
    | (go_at_call 33; (with_reducible refine (awake_any _).mono ?_); rintro e w1 ⟨rfl, hb1⟩; have HB := Sd.mk hb1; clear hb1))
  go_wp2
  clear hle
  go_loopg [7, 8] n (fun gk v7 v8 wr => ∃ i b, i + gk = n ∧ v7 = .bool b ∧ v8 = .int .i64 (i : Nat) ∧ Sd (b = true ↔ (l.length ≤ k.length ∧ ∀ j, j < i → j < l.length → l[j]? = k[j]?)) ∧ Sd (Below w.heap.size w wr))
  case atStart => exact ⟨0, b0, by omega, rfl, rfl, HI, HB⟩
  case round =>
    clear HI HB
    obtain ⟨i, b, hi, rfl, rfl, HI, HX⟩ := hrel
    by_cases hlt : i < n
    · have hii : (i : Int) < n := by omega
      cases b with
      | false =>
        have HBF := Sd.mk (show false = true ↔ l <+: k from ⟨fun h => (by cases h), fun h => absurd (HI.out.2 (by
          have := (pre_iff (i := l.length) (Nat.le_refl _)).2 h
          exact ⟨this.1, fun j _ hj => this.2 j hj hj⟩)) (by decide)⟩)
        clear HI
        go_wp2_with (first
          | (go_at_call 34; (with_reducible refine (begins_any _ A B c d l k (HL.out.below HX.out) (HK.out.below HX.out) n m LN.out LM.out false HBF.out).mono ?_); rintro e w5 ⟨rfl, hb5⟩; have HB5 := Sd.mk (below_then HX.out hb5); clear hb5 HX)
          | (go_at_call 34; (with_reducible refine (begins_any _ B B d d (k.take n1) k (sl_take (HK.out.below HB5.out) n1) (HK.out.below HB5.out) n1 m LT.out LM.out true ⟨fun _ => List.take_prefix _ _, fun _ => rfl⟩).mono ?_); rintro e w6 ⟨rfl, hb6⟩; have HB6 := Sd.mk (below_then HB5.out hb6); clear hb6 HB5)
          | (go_at_call 34; (with_reducible refine (begins_any _ B B d d k (k.take n1) (HK.out.below HB6.out) (sl_take (HK.out.below HB6.out) n1) m n1 LM.out LT.out r3 R3.out).mono ?_); rintro e w7 ⟨rfl, hb7⟩; have HB7 := Sd.mk (below_then HB6.out hb7); clear hb7 HB6))
        go_ret
        refine ⟨?_, HB7.out⟩
        cases r3 <;> rfl
      | true =>
        have him : i < m := by have := (HI.out.1 rfl).1; rw [LN.out, LM.out] at this; omega
        obtain ⟨b1, o1, rfl, hc1, -⟩ := str_at HL.out.row (i := i) (by rw [LN.out]; exact hlt)
        obtain ⟨b2, o2, rfl, hc2, -⟩ := str_at HK.out.row (i := i) (by rw [LM.out]; exact him)
        have hil : i < l.length := by rw [LN.out]; exact hlt
        have hik : i < k.length := by rw [LM.out]; exact him
        obtain ⟨x, hx⟩ : ∃ x, l[i] = x := ⟨_, rfl⟩
        obtain ⟨y, hy⟩ : ∃ y, k[i] = y := ⟨_, rfl⟩
        rw [hx] at hc1
        rw [hy] at hc2
        have c1 := cell_below HX.out hc1
        have c2 := cell_below HX.out hc2
        have GX := Sd.mk (show l[i]? = some x by rw [List.getElem?_eq_getElem hil, hx])
        have GY := Sd.mk (show k[i]? = some y by rw [List.getElem?_eq_getElem hik, hy])
        have himi : (i : Int) < m := by omega
        obtain ⟨q, hq⟩ : ∃ q, (x.toList == y.toList) = q := ⟨_, rfl⟩
        have HQ := Sd.mk (show q = true ↔ x = y by
          rw [← hq]
          constructor
          · intro e
            have e2 := beq_iff_eq.1 e
            rw [ByteArray.toList_eq, ByteArray.toList_eq] at e2
            exact ByteArray.ext (Array.toList_inj.1 e2)
          · rintro rfl; exact beq_self_eq_true _)
        clear hc1 hc2 hx hy hil hik
        go_upto_region 7 with (fail)
        go_quiet (fail)
        go_wp2
        go_roundg (gk - 1)
        case measure => omega
        case rel => exact ⟨i + 1, q, by omega, rfl, by go_num, ⟨by
          rw [HQ.out]
          constructor
          · rintro rfl
            refine ⟨(HI.out.1 (by trivial)).1, fun j hj hjl => ?_⟩
            by_cases e : j = i
            · subst e; rw [GX.out, GY.out]
            · exact (HI.out.1 (by trivial)).2 j (by omega) hjl
          · rintro ⟨-, h2⟩
            have := h2 i (by omega) (by rw [LN.out]; exact hlt)
            rw [GX.out, GY.out] at this
            exact Option.some.inj this⟩, ⟨below_drewN HX.out _⟩⟩
    · have hii : decide (i < n) = false := decide_eq_false (by omega)
      have HBF := Sd.mk (show b = true ↔ l <+: k from HI.out.trans (pre_iff (by rw [LN.out]; omega)))
      clear HI
      go_wp2_with (first
        | (go_at_call 34; (with_reducible refine (begins_any _ A B c d l k (HL.out.below HX.out) (HK.out.below HX.out) n m LN.out LM.out b HBF.out).mono ?_); rintro e w5 ⟨rfl, hb5⟩; have HB5 := Sd.mk (below_then HX.out hb5); clear hb5 HX)
        | (go_at_call 34; (with_reducible refine (begins_any _ B B d d (k.take n1) k (sl_take (HK.out.below HB5.out) n1) (HK.out.below HB5.out) n1 m LT.out LM.out true ⟨fun _ => List.take_prefix _ _, fun _ => rfl⟩).mono ?_); rintro e w6 ⟨rfl, hb6⟩; have HB6 := Sd.mk (below_then HB5.out hb6); clear hb6 HB5)
        | (go_at_call 34; (with_reducible refine (begins_any _ B B d d k (k.take n1) (HK.out.below HB6.out) (sl_take (HK.out.below HB6.out) n1) m n1 LM.out LT.out r3 R3.out).mono ?_); rintro e w7 ⟨rfl, hb7⟩; have HB7 := Sd.mk (below_then HB6.out hb7); clear hb7 HB6))
      go_ret
      refine ⟨?_, HB7.out⟩
      cases b <;> cases r3 <;> rfl

set_option maxHeartbeats 4000000 in
set_option maxRecDepth 100000 in
theorem kb_row (w : World) (A : Option Addr) (c : Nat) (l : List ByteArray) (hc : l.length ≤ c) (hcm : c ≤ maxLen) (hl : Row Rk.str w A l) (B : Option Addr) (d : Nat) (k : List ByteArray) (hd : k.length ≤ d) (hdm : d ≤ maxLen) (hk : Row Rk.str w B k) (u : Int) (hu : (Lit.int .u8 u).wf = true) :
    Calls Try.prog 8 #[.slice A l.length c, .slice B k.length d, .int .u8 u] w fun e w' => e = .returned (.bool true) ∧ Below w.heap.size w w' := by
  unfold maxLen at hcm hdm
  have bu : 0 ≤ u ∧ u ≤ 255 := by simpa [Lit.wf, IntKind.min, IntKind.max, IntKind.bits, IntKind.signed] using hu
  obtain ⟨v, rfl⟩ : ∃ v : Nat, u = (v : Int) := ⟨u.toNat, by omega⟩
  by_cases h1 : l.length ≤ 60
  · by_cases h2 : k.length ≤ 60
    · exact kb_few w A B c d l k ⟨hc, by omega, hl⟩ ⟨hd, by omega, hk⟩ h1 h2 v (by omega)
    · have d1 : decide ((60 : Int) < (l.length : Int)) = false := decide_eq_false (by omega)
      have d2 : decide ((60 : Int) < (k.length : Int)) = true := decide_eq_true (by omega)
      go_enter Try.func8, Try.ntmps8
      go_wp2_with (first
        | (go_at_call 33; (with_reducible refine (awake_any _).mono ?_); rintro e w1 ⟨rfl, hb1⟩; (first | (have B1 := Sd.mk (below_then B0.out hb1)) | have B0 := Sd.mk hb1); clear hb1))
      go_ret
      exact ⟨rfl, B1.out⟩
  · have d1 : decide ((60 : Int) < (l.length : Int)) = true := decide_eq_true (by omega)
    go_enter Try.func8, Try.ntmps8
    go_wp2_with (first
      | (go_at_call 33; (with_reducible refine (awake_any _).mono ?_); rintro e w1 ⟨rfl, hb1⟩; (first | (have B1 := Sd.mk (below_then B0.out hb1)) | have B0 := Sd.mk hb1); clear hb1))
    go_ret
    exact ⟨rfl, B1.out⟩
end Go.Proofs.Ytgleoeiiiadanaa.Kb

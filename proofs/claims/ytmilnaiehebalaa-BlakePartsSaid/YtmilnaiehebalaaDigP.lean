/- BlakeParts, walked. -/
import Derived.Test.YtmilnaiehebalaaDigK
set_option linter.unusedVariables false
set_option linter.unusedSimpArgs false
namespace Go.Proofs.Ytmilnaiehebalaa.Dig
open Go.RowKit Rd Api Own Mv Word Vec Mix Tab Step

structure Pt (w : World) (g : Nat) (K T : ByteArray) (W : World) : Prop where
  d : Dg g K.size (strm K T) W
  bel : Below w.heap.size w W
theorem Pt.below {w : World} {g : Nat} {K T : ByteArray} {W W1 : World} (h : Pt w g K T W) (hb : Below W.heap.size W W1) : Pt w g K T W1 := ⟨h.d.below hb, below_then h.bel hb⟩
theorem Pt.wr {w : World} {g : Nat} {K T T1 : ByteArray} {W W1 : World} (h : Pt w g K T W) (hg : w.heap.size ≤ g) (hD : Dg g K.size (strm K T1) W1) (ho : Only g W W1) : Pt w g K T1 W1 := ⟨hD, Only.own ho h.bel hg h.bel.size⟩
theorem Pt.cell {w : World} {g : Nat} {K T : ByteArray} {W : World} (h : Pt w g K T W) {a : Addr} {v : Value} (hc : w.cell? a = some v) : W.cell? a = some v := cell_below h.bel hc
theorem sumk_any (w : World) (g : Nat) (K T : ByteArray) (hD : Dg g K.size (strm K T) w) (hk : K.size ≤ 32) (hs : T.size ≤ 70368744177664) (h : ByteArray) (hh : keyed K T = h) :
    Calls Try.prog 17 #[.pointer (some ⟨g, 0, none⟩)] w fun e w' => e = .returned (.string h) ∧ Below w.heap.size w w' := by
  subst hh
  exact sum_any w g K.size (strm K T) hD (by omega) (by have := strm_size (key := K) (b := T) (by omega); omega)
theorem wrk_any (w : World) (g : Nat) (K T b : ByteArray) (hD : Dg g K.size (strm K T) w) (hk : K.size ≤ 32) (hs : T.size + b.size ≤ 70368744177664) :
    Calls Try.prog 16 #[.pointer (some ⟨g, 0, none⟩), .string b] w fun e w' => e = .returned (.tuple #[]) ∧ Dg g K.size (strm K (T ++ b)) w' ∧ Only g w w' := by
  have := write_any w g K.size (strm K T) b hD (by omega) (by have := strm_size (key := K) (b := T) (by omega); omega)
  rw [strm_app] at this
  exact this

set_option maxHeartbeats 4000000 in
set_option maxRecDepth 100000 in
theorem parts_few (w : World) (key : ByteArray) (hk : key.size ≤ 100) (A : Option Addr) (c : Nat) (l : List ByteArray) (hc : l.length ≤ c) (hcm : c ≤ maxLen) (hl : Row Rk.str w A l) (h20 : l.length ≤ 20) :
    Calls Try.prog 4 #[.string key, .slice A l.length c] w fun e w' => e = .returned (.bool true) ∧ Below w.heap.size w w' := by
  have d1 : decide ((20 : Int) < (l.length : Int)) = false := decide_eq_false (by omega)
  have d2 : decide ((100 : Int) < (key.size : Int)) = false := decide_eq_false (by omega)
  obtain ⟨K, hK⟩ : ∃ K, K = key.extract 0 (min key.size 32) := ⟨_, rfl⟩
  have hK2 : K.size ≤ 32 := by rw [hK, ext_size (by omega)]; omega
  have HK := Sd.mk hK
  have eK := Sd.mk (show key.extract 0 (min (key.size : Int) 32).toNat = K by rw [hK]; congr 1; omega)
  have ROW := Sd.mk hl
  obtain ⟨n, hn⟩ : ∃ n, n = l.length := ⟨_, rfl⟩
  have hni : (l.length : Int) = (n : Int) := by omega
  have HN := Sd.mk hn
  rw [← hn] at h20 hc ⊢
  rw [hni] at d1
  clear hK hl hn hni
  go_enter Try.func4, Try.ntmps4
  go_upto_region 5 with (first
    | (go_at_call 12; (with_reducible refine (awake_any _).mono ?_); rintro e w1 ⟨rfl, hb1⟩; have B1 := Sd.mk hb1; clear hb1)
    | (go_at_call 15; (with_reducible refine (new_any _ key K HK.out (by omega)).mono ?_); rintro e w2 ⟨g, rfl, hg, hD, hb2⟩
       have hgw := Nat.le_trans B1.out.size hg
       have HP := Sd.mk (show Pt w g K E0 w2 from ⟨hD, below_then B1.out hb2⟩); clear hb2 hD hg B1))
  rw [eK.out]
  clear eK HK
  go_wp2
  go_loopg [7, 8] n (fun gk v7 v8 wr => ∃ T i, i + gk = n ∧ v7 = .string T ∧ v8 = .int .i64 (i : Nat) ∧ Sd (T.size ≤ 200 * i) ∧ Sd (Pt w g K T wr))
  case atStart => exact ⟨E0, 0, by omega, rfl, rfl, ⟨Nat.zero_le _⟩, HP⟩
  case round =>
    clear HP
    obtain ⟨T, i, hi, rfl, rfl, HT, HP⟩ := hrel
    by_cases hlt : i < n
    · obtain ⟨b, o, rfl, hcell, -⟩ := str_at ROW.out (i := i) (by rw [← HN.out]; exact hlt)
      generalize l[i]'(by rw [← HN.out]; exact hlt) = x at hcell
      have HC := Sd.mk hcell
      have c0 := HP.out.cell hcell
      have hii : (i : Int) < n := by omega
      clear hcell
      by_cases hx : x.size ≤ 200
      · have dx : decide ((200 : Int) < (x.size : Int)) = false := decide_eq_false (by omega)
        have hts : T.size ≤ 4000 := by have := HT.out; omega
        have hcat : ¬9223372036854775807 < T.size + x.size := by omega
        obtain ⟨T1, hT1⟩ : ∃ T1, T ++ x = T1 := ⟨_, rfl⟩
        have hT1s : T1.size = T.size + x.size := by rw [← hT1, app_size]
        have HT1 := Sd.mk hT1
        have HTS := Sd.mk (show T1.size ≤ 200 * (i + 1) by have := HT.out; omega)
        have hT1b : T1.size ≤ 4200 := by omega
        clear hT1 hT1s
        obtain ⟨h, hh⟩ : ∃ h, keyed K T1 = h := ⟨_, rfl⟩
        have HH := Sd.mk hh
        clear hh
        go_upto_region 12 with (first
          | (go_at_call 16; (with_reducible refine (wrk_any _ g K T x HP.out.d hK2 (by omega)).mono ?_); rintro e w3 ⟨rfl, hD, ho⟩
             rw [HT1.out] at hD
             have HP3 := Sd.mk (HP.out.wr hgw hD ho)
             clear c0 HP hD ho
             have c0 := HP3.out.cell HC.out))
        go_upto_region 13 with (fail)
        rw [HT1.out]
        clear c0
        go_wp2_with (first
          | (go_at_call 17; (with_reducible refine (sumk_any _ g K T1 HP3.out.d hK2 (by omega) h HH.out).mono ?_); rintro e w4 ⟨rfl, hb4⟩; have HP4 := Sd.mk (HP3.out.below hb4); clear hb4 HP3)
          | (go_at_call 14; (with_reducible refine (refk_ok _ K T1 hK2 (by omega) h HH.out).mono ?_); rintro e w5 ⟨rfl, hb5⟩; have HP5 := Sd.mk (HP4.out.below hb5); clear hb5 HP4))
        go_roundg (gk - 1)
        case measure => omega
        case rel => exact ⟨T1, i + 1, by omega, rfl, by go_num, HTS, HP5⟩
      · have dx : decide ((200 : Int) < (x.size : Int)) = true := decide_eq_true (by omega)
        go_wp2
        go_ret
        exact ⟨rfl, HP.out.bel⟩
    · have hii : decide (i < n) = false := decide_eq_false (by omega)
      obtain rfl : i = n := by omega
      have hts : T.size ≤ 4000 := by have := HT.out; omega
      obtain ⟨h, hh⟩ : ∃ h, keyed K T = h := ⟨_, rfl⟩
      have HH := Sd.mk hh
      clear hh
      go_wp2_with (first
        | (go_at_call 17; (with_reducible refine (sumk_any _ g K T HP.out.d hK2 (by omega) h HH.out).mono ?_); rintro e w4 ⟨rfl, hb4⟩; have HP4 := Sd.mk (HP.out.below hb4); clear hb4 HP)
        | (go_at_call 14; (with_reducible refine (refk_ok _ K T hK2 (by omega) h HH.out).mono ?_); rintro e w5 ⟨rfl, hb5⟩; have HP5 := Sd.mk (HP4.out.below hb5); clear hb5 HP4))
      go_ret
      exact ⟨rfl, HP5.out.bel⟩

set_option maxHeartbeats 4000000 in
set_option maxRecDepth 100000 in
theorem parts_row (w : World) (key : ByteArray) (hk : key.size ≤ 140737488351232) (A : Option Addr) (c : Nat) (l : List ByteArray) (hc : l.length ≤ c) (hcm : c ≤ maxLen) (hl : Row Rk.str w A l) :
    Calls Try.prog 4 #[.string key, .slice A l.length c] w fun e w' => e = .returned (.bool true) ∧ Below w.heap.size w w' := by
  by_cases h1 : l.length ≤ 20
  · by_cases h2 : key.size ≤ 100
    · exact parts_few w key h2 A c l hc hcm hl h1
    · have d1 : decide ((20 : Int) < (l.length : Int)) = false := decide_eq_false (by omega)
      have d2 : decide ((100 : Int) < (key.size : Int)) = true := decide_eq_true (by omega)
      go_enter Try.func4, Try.ntmps4
      go_wp2_with (first
        | (go_at_call 12; (with_reducible refine (awake_any _).mono ?_); rintro e w1 ⟨rfl, hb1⟩; (first | (have B1 := Sd.mk (below_then B0.out hb1)) | have B0 := Sd.mk hb1); clear hb1))
      go_ret
      exact ⟨rfl, B1.out⟩
  · have d1 : decide ((20 : Int) < (l.length : Int)) = true := decide_eq_true (by omega)
    go_enter Try.func4, Try.ntmps4
    go_wp2_with (first
      | (go_at_call 12; (with_reducible refine (awake_any _).mono ?_); rintro e w1 ⟨rfl, hb1⟩; (first | (have B1 := Sd.mk (below_then B0.out hb1)) | have B0 := Sd.mk hb1); clear hb1))
    go_ret
    exact ⟨rfl, B1.out⟩
end Go.Proofs.Ytmilnaiehebalaa.Dig

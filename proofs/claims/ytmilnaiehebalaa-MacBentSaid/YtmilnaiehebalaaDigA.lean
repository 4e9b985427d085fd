/- BlakeApart, walked. -/
import Derived.Test.YtmilnaiehebalaaDigB
set_option linter.unusedVariables false
set_option linter.unusedSimpArgs false
namespace Go.Proofs.Ytmilnaiehebalaa.Dig
open Go.RowKit Rd Api Own Mv Word Vec Mix Tab Step

theorem sum0_any (w : World) (g : Nat) (S : ByteArray) (hD : Dg g 0 S w) (hs : S.size ≤ 4611686018427387904) :
    Calls Try.prog 17 #[.pointer (some ⟨g, 0, none⟩)] w fun e w' => e = .returned (.string (sum S)) ∧ Below w.heap.size w w' := sum_any w g 0 S hD (by decide) hs
theorem Dg.other {g k : Nat} {S : ByteArray} {W W1 : World} (h : Dg g k S W) {g2 : Nat} (ho : Only g2 W W1) (hne : g ≠ g2) : Dg g k S W1 := (ho.oth g (blk_lt' h) hne).trans h

set_option maxHeartbeats 4000000 in
set_option maxRecDepth 100000 in
theorem awake_any (w : World) : Calls Try.prog 12 #[] w fun e w' => e = .returned (.bool true) ∧ Below w.heap.size w w' := by
  have hc := blake_sum_any w E0 (by rw [E0_size]; omega)
  have h32 := sum_size E0
  generalize sum E0 = s at hc h32
  have hsi : (s.size : Int) = 32 := by omega
  clear h32
  go_enter Try.func12, Try.ntmps12
  go_wp2_with (first
    | (go_at_call 13; (refine hc.mono ?_); rintro e w1 ⟨rfl, hb1⟩))
  go_ret
  exact ⟨rfl, hb1⟩

structure Two (w : World) (g1 g2 : Nat) (a b : ByteArray) (W : World) : Prop where
  one : Dg g1 0 a W
  two : Dg g2 0 b W
  bel : Below w.heap.size w W
  l1 : w.heap.size ≤ g1
  l2 : w.heap.size ≤ g2
  ne : g1 ≠ g2
theorem Two.below {w : World} {g1 g2 : Nat} {a b : ByteArray} {W W1 : World} (h : Two w g1 g2 a b W) (hb : Below W.heap.size W W1) : Two w g1 g2 a b W1 := ⟨h.one.below hb, h.two.below hb, below_then h.bel hb, h.l1, h.l2, h.ne⟩
theorem Two.drew {w : World} {g1 g2 : Nat} {a b : ByteArray} {W : World} (h : Two w g1 g2 a b W) : Two w g1 g2 a b W.drew := ⟨h.one, h.two, below_drew' h.bel, h.l1, h.l2, h.ne⟩
theorem Two.wr1 {w : World} {g1 g2 : Nat} {a a1 b : ByteArray} {W W1 : World} (h : Two w g1 g2 a b W) (hD : Dg g1 0 a1 W1) (ho : Only g1 W W1) : Two w g1 g2 a1 b W1 := ⟨hD, h.two.other ho h.ne.symm, Only.own ho h.bel h.l1 h.bel.size, h.l1, h.l2, h.ne⟩
theorem Two.wr2 {w : World} {g1 g2 : Nat} {a b b1 : ByteArray} {W W1 : World} (h : Two w g1 g2 a b W) (hD : Dg g2 0 b1 W1) (ho : Only g2 W W1) : Two w g1 g2 a b1 W1 := ⟨h.one.other ho h.ne, hD, Only.own ho h.bel h.l2 h.bel.size, h.l1, h.l2, h.ne⟩
theorem wr_any (w : World) (g : Nat) (S b : ByteArray) (hD : Dg g 0 S w) (hsb : S.size + b.size ≤ 4611686018427387904) (T : ByteArray) (hT : S ++ b = T) :
    Calls Try.prog 16 #[.pointer (some ⟨g, 0, none⟩), .string b] w fun e w' => e = .returned (.tuple #[]) ∧ Dg g 0 T w' ∧ Only g w w' := by
  subst hT; exact write_any w g 0 S b hD (by decide) hsb
theorem wr_none (w : World) (g : Nat) (S : ByteArray) (hD : Dg g 0 S w) (hs : S.size ≤ 4611686018427387904) :
    Calls Try.prog 16 #[.pointer (some ⟨g, 0, none⟩), .string { data := #[] }] w fun e w' => e = .returned (.tuple #[]) ∧ Dg g 0 S w' ∧ Only g w w' :=
  wr_any w g S E0 hD (by rw [E0_size]; omega) S (app_E0 S)

set_option maxHeartbeats 4000000 in
set_option maxRecDepth 100000 in
theorem apart_few (w : World) (a b : ByteArray) (ha : a.size ≤ 300) (hb : b.size ≤ 300) :
    Calls Try.prog 5 #[.string a, .string b] w fun e w' => e = .returned (.bool true) ∧ Below w.heap.size w w' := by
  have d1 : decide ((300 : Int) < (a.size : Int)) = false := decide_eq_false (by omega)
  have d2 : decide ((300 : Int) < (b.size : Int)) = false := decide_eq_false (by omega)
  have hcat : ¬9223372036854775807 < a.size + b.size := by omega
  have sab := app_size a b
  obtain ⟨T, hT⟩ : ∃ T, a ++ b = T := ⟨_, rfl⟩
  rw [hT] at sab
  have HT := Sd.mk hT
  have hTs : T.size ≤ 4611686018427387904 := by omega
  clear hT sab
  go_enter Try.func5, Try.ntmps5
  go_upto_region 4 with (first
    | (go_at_call 12; (with_reducible refine (awake_any _).mono ?_); rintro e w1 ⟨rfl, hb1⟩; have B1 := Sd.mk hb1; clear hb1)
    | (go_at_call 15; (with_reducible refine (new_E0 _).mono ?_); rintro e w2 ⟨g, rfl, hg, hD, hb2⟩; (first | (have n1 := hg; have D1 := Sd.mk hD; have B2 := Sd.mk hb2; clear hg hD hb2) | skip)))
  rename_i w2a g1 m1 E1 A2 kk aa
  have X := Sd.mk (show Two w g1 g E0 E0 w2 from ⟨E1.out.below B2.out, D1.out, below_then (below_then B1.out A2.out) B2.out, Nat.le_trans B1.out.size m1, Nat.le_trans (Nat.le_trans B1.out.size A2.out.size) n1, by have := blk_lt' E1.out; omega⟩)
  clear B1 m1 E1 A2 n1 D1 B2
  clear w1
  go_upto_region 5 with (first
    | (go_at_call 16; (with_reducible refine (wr_any _ g1 E0 a X.out.one (by rw [E0_size]; omega) a (E0_app a)).mono ?_); rintro e w3 ⟨rfl, hD, ho⟩; have X3 := Sd.mk (X.out.wr1 hD ho); clear X hD ho))
  go_upto_region 6 with (first
    | (go_at_call 16; (with_reducible refine (wr_any _ g E0 b X3.out.two (by rw [E0_size]; omega) b (E0_app b)).mono ?_); rintro e w4 ⟨rfl, hD, ho⟩; have X4 := Sd.mk (X3.out.wr2 hD ho); clear X3 hD ho))
  go_upto_region 7 with (first
    | (go_at_call 16; (with_reducible refine (wr_none _ g1 a X4.out.one (by omega)).mono ?_); rintro e w5 ⟨rfl, hD, ho⟩; have X5 := Sd.mk (X4.out.wr1 hD ho); clear X4 hD ho))
  go_upto_region 8 with (first
    | (go_at_call 17; (with_reducible refine (sum0_any _ g1 a X5.out.one (by omega)).mono ?_); rintro e w6 ⟨rfl, hb6⟩; have X6 := Sd.mk (X5.out.below hb6); clear X5 hb6))
  go_upto_region 9 with (first
    | (go_at_call 16; (with_reducible refine (wr_any _ g1 a b X6.out.one (by omega) T HT.out).mono ?_); rintro e w7 ⟨rfl, hD, ho⟩; have X7 := Sd.mk (X6.out.wr1 hD ho); clear X6 hD ho))
  generalize hsa : sum a = sa
  have Hsa := Sd.mk hsa
  clear hsa
  go_wp2_with (first
    | (go_at_call 13; (with_reducible refine (blake_sum_any _ a (by omega)).mono ?_); rintro e w8 ⟨rfl, hb8⟩; rw [Hsa.out]; have X8 := Sd.mk (X7.out.below hb8); clear X7 hb8)
    | (go_at_call 17; (with_reducible refine (sum0_any _ g b X8.out.two (by omega)).mono ?_); rintro e w9 ⟨rfl, hb9⟩; have X9 := Sd.mk (X8.out.below hb9); clear X8 hb9)
    | (go_at_call 13; (with_reducible refine (blake_sum_any _ b (by omega)).mono ?_); rintro e w10 ⟨rfl, hb10⟩; have X10 := Sd.mk (X9.out.below hb10); clear X9 hb10)
    | (go_at_call 17; (with_reducible refine (sum0_any _ g1 T X10.out.one hTs).mono ?_); rintro e w11 ⟨rfl, hb11⟩; have X11 := Sd.mk (X10.out.below hb11); clear X10 hb11; try rw [HT.out])
    | (go_at_call 13; rw [HT.out]; (with_reducible refine (blake_sum_any _ T hTs).mono ?_); rintro e w12 ⟨rfl, hb12⟩; have X12 := Sd.mk (X11.out.below hb12); clear X11 hb12))
  go_ret
  exact ⟨rfl, X12.out.bel⟩

set_option maxHeartbeats 4000000 in
set_option maxRecDepth 100000 in
theorem apart_row (w : World) (a : ByteArray) (ha : a.size ≤ 140737488351232) (b : ByteArray) (hb : b.size ≤ 140737488351232) :
    Calls Try.prog 5 #[.string a, .string b] w fun e w' => e = .returned (.bool true) ∧ Below w.heap.size w w' := by
  by_cases h1 : a.size ≤ 300
  · by_cases h2 : b.size ≤ 300
    · exact apart_few w a b h1 h2
    · have d1 : decide ((300 : Int) < (a.size : Int)) = false := decide_eq_false (by omega)
      have d2 : decide ((300 : Int) < (b.size : Int)) = true := decide_eq_true (by omega)
      go_enter Try.func5, Try.ntmps5
      go_wp2_with (first
        | (go_at_call 12; (with_reducible refine (awake_any _).mono ?_); rintro e w1 ⟨rfl, hb1⟩; (first | (have B1 := Sd.mk (below_then B0.out hb1)) | have B0 := Sd.mk hb1); clear hb1))
      go_ret
      exact ⟨rfl, B1.out⟩
  · have d1 : decide ((300 : Int) < (a.size : Int)) = true := decide_eq_true (by omega)
    go_enter Try.func5, Try.ntmps5
    go_wp2_with (first
      | (go_at_call 12; (with_reducible refine (awake_any _).mono ?_); rintro e w1 ⟨rfl, hb1⟩; (first | (have B1 := Sd.mk (below_then B0.out hb1)) | have B0 := Sd.mk hb1); clear hb1))
    go_ret
    exact ⟨rfl, B1.out⟩
end Go.Proofs.Ytmilnaiehebalaa.Dig

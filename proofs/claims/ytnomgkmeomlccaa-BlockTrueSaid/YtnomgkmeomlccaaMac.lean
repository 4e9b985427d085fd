/- Keys of two nodes, and tags: walked. -/
import Derived.Test.YtnomgkmeomlccaaSumD
set_option linter.unusedVariables false
set_option linter.unusedSimpArgs false
namespace Go.Proofs.Ytnomgkmeomlccaa.Mac
open Go.RowKit Rd Api Own Mv Num Dig

def text (s : ByteArray) : ByteArray := num4 s.size ++ s
theorem text_size (s : ByteArray) : (text s).size = 4 + s.size := by unfold text; rw [app_size, num4_size]
set_option maxHeartbeats 4000000 in
set_option maxRecDepth 100000 in
theorem text_any (w : World) (s : ByteArray) (hs : s.size ≤ 70368744177664) : Calls Try.prog 148 #[.string s] w fun e w' => e = .returned (.string (text s)) ∧ Below w.heap.size w w' := by
  obtain ⟨n, hn⟩ : ∃ n, num4 s.size = n := ⟨_, rfl⟩
  have hn4 : n.size = 4 := by rw [← hn]; exact num4_size _
  have hcat : ¬9223372036854775807 < n.size + s.size := by omega
  have HN := Sd.mk hn
  clear hn hn4
  go_enter Try.func148, Try.ntmps148
  go_wp2_with (first
    | (go_at_call 97; (with_reducible refine (number_any _ _).mono ?_); rintro e w1 ⟨rfl, hb1⟩; rw [HN.out]))
  go_ret
  exact ⟨by unfold text; rw [HN.out]; rfl, hb1⟩
set_option maxHeartbeats 4000000 in
set_option maxRecDepth 100000 in
theorem ref_text_any (w : World) (s : ByteArray) (hs : s.size ≤ 70368744177664) : Calls Try.prog 131 #[.string s] w fun e w' => e = .returned (.string (text s)) ∧ Below w.heap.size w w' := by
  obtain ⟨n, hn⟩ : ∃ n, num4 s.size = n := ⟨_, rfl⟩
  have hn4 : n.size = 4 := by rw [← hn]; exact num4_size _
  have hcat : ¬9223372036854775807 < n.size + s.size := by omega
  have HN := Sd.mk hn
  clear hn hn4
  go_enter Try.func131, Try.ntmps131
  go_wp2_with (first
    | (go_at_call 62; (with_reducible refine (ref_number_any _ _).mono ?_); rintro e w1 ⟨rfl, hb1⟩; rw [HN.out]))
  go_ret
  exact ⟨by unfold text; rw [HN.out]; rfl, hb1⟩

/-- a node's number; 0 of none -/
def endF (i : Int) : Int := if i < 0 ∨ 20 < i then 0 else i
theorem endF_ok (i : Int) : 0 ≤ endF i ∧ endF i ≤ 20 := by unfold endF; split <;> omega
set_option maxHeartbeats 4000000 in
set_option maxRecDepth 100000 in
theorem end_any (w : World) (i : Int) (x : Int) (hx : endF i = x) : Calls Try.prog 173 #[.int .i64 i] w fun e w' => e = .returned (.int .i64 x) ∧ w' = w := by
  subst hx
  unfold endF
  by_cases h0 : i < 0
  · have hd : decide (i < 0) = true := decide_eq_true h0
    rw [if_pos (.inl h0)]
    clear h0
    go_enter Try.func173, Try.ntmps173
    go_wp2
    go_ret
    exact ⟨rfl, rfl⟩
  · have hd : decide (i < 0) = false := decide_eq_false h0
    by_cases h1 : 20 < i
    · have hd1 : decide (20 < i) = true := decide_eq_true h1
      rw [if_pos (.inr h1)]
      clear h0 h1
      go_enter Try.func173, Try.ntmps173
      go_wp2
      go_ret
      exact ⟨rfl, rfl⟩
    · have hd1 : decide (20 < i) = false := decide_eq_false h1
      rw [if_neg (by omega)]
      clear h0 h1
      go_enter Try.func173, Try.ntmps173
      go_wp2
      go_ret
      exact ⟨rfl, rfl⟩

def K75 : ByteArray := ⟨#[75]⟩
/-- what a key is the digest of -/
def kt (seed : ByteArray) (a b : Int) : ByteArray := ((K75 ++ text seed) ++ num4 a) ++ num4 b
def mkey (seed : ByteArray) (a b : Int) : ByteArray := sum (kt seed (min a b) (max a b))
theorem mkey_size (seed : ByteArray) (a b : Int) : (mkey seed a b).size = 32 := sum_size _
theorem mkey_comm (seed : ByteArray) (a b : Int) : mkey seed a b = mkey seed b a := by unfold mkey; rw [Int.min_comm, Int.max_comm]

/-- the pieces of what a key is the digest of, by names -/
structure Pcs (seed : ByteArray) (a b : Int) (t u n1 v n2 x : ByteArray) : Prop where
  qt : text seed = t
  qu : K75 ++ t = u
  q1 : num4 a = n1
  qv : u ++ n1 = v
  q2 : num4 b = n2
  qx : v ++ n2 = x
theorem pcs (seed : ByteArray) (a b : Int) : ∃ t u n1 v n2, Pcs seed a b t u n1 v n2 (kt seed a b) ∧ t.size = 4 + seed.size ∧ u.size = 5 + seed.size ∧ n1.size = 4 ∧ v.size = 9 + seed.size ∧ n2.size = 4 ∧ (kt seed a b).size = 13 + seed.size := by
  have h1 := text_size seed
  have h2 : (K75 ++ text seed).size = 5 + seed.size := by rw [app_size, h1]; show 1 + _ = _; omega
  have h3 : (K75 ++ text seed ++ num4 a).size = 9 + seed.size := by rw [app_size, h2, num4_size]; omega
  exact ⟨_, _, _, _, _, ⟨rfl, rfl, rfl, rfl, rfl, rfl⟩, h1, h2, num4_size _, h3, num4_size _, by unfold kt; rw [app_size, h3, num4_size]; omega⟩

set_option maxHeartbeats 4000000 in
set_option maxRecDepth 100000 in
theorem key_any (w : World) (seed : ByteArray) (a b : Int) (hs : seed.size ≤ 35184372088832) (k : ByteArray) (hk : mkey seed (endF a) (endF b) = k) : Calls Try.prog 169 #[.string seed, .int .i64 a, .int .i64 b] w fun e w' => e = .returned (.string k) ∧ Below w.heap.size w w' := by
  obtain ⟨x, hx⟩ : ∃ x, endF a = x := ⟨_, rfl⟩
  obtain ⟨y, hy⟩ : ∃ y, endF b = y := ⟨_, rfl⟩
  rw [hx, hy] at hk
  obtain ⟨t, u, n1, v, n2, P, s1, s2, s3, s4, s5, s6⟩ := pcs seed (min x y) (max x y)
  have HX := Sd.mk hx
  have HY := Sd.mk hy
  have HP := Sd.mk P
  have HK := Sd.mk hk
  have HZ := Sd.mk s6
  have c1 : ¬9223372036854775807 < 1 + t.size := by omega
  have c2 : ¬9223372036854775807 < u.size + n1.size := by omega
  have c3 : ¬9223372036854775807 < v.size + n2.size := by omega
  clear hx hy P hk s1 s2 s3 s4 s5 s6
  go_enter Try.func169, Try.ntmps169
  go_upto_region 2 with (first
    | (go_at_call 173; (with_reducible refine (end_any _ a x HX.out).mono ?_); rintro e w1 ⟨rfl, rfl⟩)
    | (go_at_call 173; (with_reducible refine (end_any _ b y HY.out).mono ?_); rintro e w1 ⟨rfl, rfl⟩))
  go_wp2_with (first
    | (go_at_call 148; (with_reducible refine (text_any _ seed (by omega)).mono ?_); rintro e w1 ⟨rfl, hb1⟩; have B1 := Sd.mk hb1; clear hb1; rw [HP.out.qt])
    | (go_at_call 97; (with_reducible refine (number_any _ (min x y)).mono ?_); rintro e w2 ⟨rfl, hb2⟩; have B2 := Sd.mk (below_then B1.out hb2); clear B1 hb2; rw [HP.out.q1]; rw [show ({ data := #[75] } : ByteArray) ++ t = u from HP.out.qu])
    | (go_at_call 97; (with_reducible refine (number_any _ (max x y)).mono ?_); rintro e w3 ⟨rfl, hb3⟩; have B3 := Sd.mk (below_then B2.out hb3); clear B2 hb3; rw [HP.out.q2]; rw [HP.out.qv])
    | (go_at_call 64; rw [HP.out.qx]; (with_reducible refine (blake_sum_any _ _ (by rw [HZ.out]; omega)).mono ?_); rintro e w4 ⟨rfl, hb4⟩; have B4 := Sd.mk (below_then B3.out hb4); clear B3 hb4))
  go_ret
  refine ⟨?_, B4.out⟩
  rw [← HK.out]
  rfl
end Go.Proofs.Ytnomgkmeomlccaa.Mac

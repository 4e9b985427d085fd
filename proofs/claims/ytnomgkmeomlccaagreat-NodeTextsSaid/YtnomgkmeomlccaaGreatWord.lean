/- Words of 32 bits: turned, and mixed: the plain law, and the walks of the two turns. -/
import Derived.Test.YtnomgkmeomlccaaGreatMv
import Derived.Laws.BitsLemmas
set_option linter.unusedVariables false
set_option linter.unusedSimpArgs false
namespace Go.Proofs.YtnomgkmeomlccaaGreat.Word
open Go.RowKit Rd Api Own Mv

/-- a word turned right -/
def rr (x n : Nat) : Nat := (x * 4294967296 + x) / 2 ^ n % 4294967296
theorem rr_lt (x n : Nat) : rr x n < 4294967296 := Nat.mod_lt _ (by decide)

theorem wrap_u64 (n : Int) : IntKind.u64.wrap n = n % 18446744073709551616 := by simp [IntKind.wrap, IntKind.bits, IntKind.signed]
theorem keep_u64 {n : Int} (h0 : 0 ≤ n) (h1 : n < 18446744073709551616) : IntKind.u64.wrap n = n := by rw [wrap_u64]; omega

theorem wraps_u32 (n : Int) (h₀ : 0 ≤ n) (h₁ : n < 2 ^ 32) : IntKind.u32.wrap n = n := by rw [IntKind.wrap_u32]; omega
theorem xor_nat (k : IntKind) (a b : Nat) (ha : a < 2 ^ k.bits) (hb : b < 2 ^ k.bits) : bits .xor k a b = k.wrap ((a ^^^ b : Nat) : Int) := by
  have ha' : a % 2 ^ k.bits = a := Nat.mod_eq_of_lt ha
  have hb' : b % 2 ^ k.bits = b := Nat.mod_eq_of_lt hb
  simp only [bits, BitVec.ofInt_natCast, BitVec.toNat_xor, BitVec.toNat_ofNat, ha', hb']
theorem xor_lt {a b : Nat} (ha : a < 4294967296) (hb : b < 4294967296) : a ^^^ b < 4294967296 := Nat.xor_lt_two_pow (n := 32) ha hb
theorem xor32 (a b : Nat) (ha : a < 4294967296) (hb : b < 4294967296) : bits .xor .u32 a b = ((a ^^^ b : Nat) : Int) := by
  have := xor_lt ha hb
  rw [xor_nat .u32 a b ha hb]
  exact wraps_u32 _ (Int.natCast_nonneg _) (by omega)
theorem xor64 (a b : Nat) (ha : a < 4294967296) (hb : b < 4294967296) : bits .xor .u64 a b = ((a ^^^ b : Nat) : Int) := by
  have := xor_lt ha hb
  rw [xor_nat .u64 a b (show a < 18446744073709551616 by omega) (show b < 18446744073709551616 by omega)]
  exact keep_u64 (Int.natCast_nonneg _) (by omega)
set_option maxRecDepth 100000 in
theorem rr16 (x : Nat) (hx : x < 4294967296) : rr x 16 = x * 65536 % 4294967296 + x / 65536 := by
  obtain ⟨u, v, hv, hu, rfl⟩ : ∃ u v, v < 65536 ∧ u < 65536 ∧ x = 65536 * u + v := ⟨x / 65536, x % 65536, by omega, by omega, by omega⟩
  have e0 : ∀ y, rr y 16 = (y * 4294967296 + y) / 65536 % 4294967296 := fun y => rfl
  rw [e0]
  have e1 : ((65536 * u + v) * 4294967296 + (65536 * u + v)) / 65536 = (65536 * u + v) * 65536 + u := by omega
  have e2 : ((65536 * u + v) * 65536 + u) % 4294967296 = v * 65536 + u := by omega
  have e3 : (65536 * u + v) * 65536 % 4294967296 = v * 65536 := by
    rw [show (65536 * u + v) * 65536 = 4294967296 * u + v * 65536 by omega, Nat.mul_add_mod]
    exact Nat.mod_eq_of_lt (by omega)
  have e4 : (65536 * u + v) / 65536 = u := by omega
  rw [e1, e2, e3, e4]
set_option maxRecDepth 100000 in
theorem rot16 (x : Nat) (hx : x < 4294967296) : bits .or .u32 ((x : Int) * 65536 % 4294967296) ((x : Int) / 65536) = rr x 16 := by
  rw [bits_join .u32 32 (by decide) wraps_u32 16 _ _ (by omega) (by omega) (by omega) (by omega) (by omega) (by omega)]
  have := rr16 x hx
  omega
set_option maxRecDepth 100000 in
theorem rr12 (x : Nat) (hx : x < 4294967296) : rr x 12 = x * 1048576 % 4294967296 + x / 4096 := by
  obtain ⟨u, v, hv, hu, rfl⟩ : ∃ u v, v < 4096 ∧ u < 1048576 ∧ x = 4096 * u + v := ⟨x / 4096, x % 4096, by omega, by omega, by omega⟩
  have e0 : ∀ y, rr y 12 = (y * 4294967296 + y) / 4096 % 4294967296 := fun y => rfl
  rw [e0]
  have e1 : ((4096 * u + v) * 4294967296 + (4096 * u + v)) / 4096 = (4096 * u + v) * 1048576 + u := by omega
  have e2 : ((4096 * u + v) * 1048576 + u) % 4294967296 = v * 1048576 + u := by omega
  have e3 : (4096 * u + v) * 1048576 % 4294967296 = v * 1048576 := by
    rw [show (4096 * u + v) * 1048576 = 4294967296 * u + v * 1048576 by omega, Nat.mul_add_mod]
    exact Nat.mod_eq_of_lt (by omega)
  have e4 : (4096 * u + v) / 4096 = u := by omega
  rw [e1, e2, e3, e4]
set_option maxRecDepth 100000 in
theorem rot12 (x : Nat) (hx : x < 4294967296) : bits .or .u32 ((x : Int) * 1048576 % 4294967296) ((x : Int) / 4096) = rr x 12 := by
  rw [bits_join .u32 32 (by decide) wraps_u32 20 _ _ (by omega) (by omega) (by omega) (by omega) (by omega) (by omega)]
  have := rr12 x hx
  omega
set_option maxRecDepth 100000 in
theorem rr8 (x : Nat) (hx : x < 4294967296) : rr x 8 = x * 16777216 % 4294967296 + x / 256 := by
  obtain ⟨u, v, hv, hu, rfl⟩ : ∃ u v, v < 256 ∧ u < 16777216 ∧ x = 256 * u + v := ⟨x / 256, x % 256, by omega, by omega, by omega⟩
  have e0 : ∀ y, rr y 8 = (y * 4294967296 + y) / 256 % 4294967296 := fun y => rfl
  rw [e0]
  have e1 : ((256 * u + v) * 4294967296 + (256 * u + v)) / 256 = (256 * u + v) * 16777216 + u := by omega
  have e2 : ((256 * u + v) * 16777216 + u) % 4294967296 = v * 16777216 + u := by omega
  have e3 : (256 * u + v) * 16777216 % 4294967296 = v * 16777216 := by
    rw [show (256 * u + v) * 16777216 = 4294967296 * u + v * 16777216 by omega, Nat.mul_add_mod]
    exact Nat.mod_eq_of_lt (by omega)
  have e4 : (256 * u + v) / 256 = u := by omega
  rw [e1, e2, e3, e4]
set_option maxRecDepth 100000 in
theorem rot8 (x : Nat) (hx : x < 4294967296) : bits .or .u32 ((x : Int) * 16777216 % 4294967296) ((x : Int) / 256) = rr x 8 := by
  rw [bits_join .u32 32 (by decide) wraps_u32 24 _ _ (by omega) (by omega) (by omega) (by omega) (by omega) (by omega)]
  have := rr8 x hx
  omega
set_option maxRecDepth 100000 in
theorem rr7 (x : Nat) (hx : x < 4294967296) : rr x 7 = x * 33554432 % 4294967296 + x / 128 := by
  obtain ⟨u, v, hv, hu, rfl⟩ : ∃ u v, v < 128 ∧ u < 33554432 ∧ x = 128 * u + v := ⟨x / 128, x % 128, by omega, by omega, by omega⟩
  have e0 : ∀ y, rr y 7 = (y * 4294967296 + y) / 128 % 4294967296 := fun y => rfl
  rw [e0]
  have e1 : ((128 * u + v) * 4294967296 + (128 * u + v)) / 128 = (128 * u + v) * 33554432 + u := by omega
  have e2 : ((128 * u + v) * 33554432 + u) % 4294967296 = v * 33554432 + u := by omega
  have e3 : (128 * u + v) * 33554432 % 4294967296 = v * 33554432 := by
    rw [show (128 * u + v) * 33554432 = 4294967296 * u + v * 33554432 by omega, Nat.mul_add_mod]
    exact Nat.mod_eq_of_lt (by omega)
  have e4 : (128 * u + v) / 128 = u := by omega
  rw [e1, e2, e3, e4]
set_option maxRecDepth 100000 in
theorem rot7 (x : Nat) (hx : x < 4294967296) : bits .or .u32 ((x : Int) * 33554432 % 4294967296) ((x : Int) / 128) = rr x 7 := by
  rw [bits_join .u32 32 (by decide) wraps_u32 25 _ _ (by omega) (by omega) (by omega) (by omega) (by omega) (by omega)]
  have := rr7 x hx
  omega

set_option maxHeartbeats 4000000 in
set_option maxRecDepth 100000 in
theorem right_any (w : World) (x n : Nat) (hx : x < 4294967296) (hn : n < 32) : Calls Tryz.prog 124 #[.int .u64 x, .int .u64 n] w fun e w' => e = .returned (.int .u64 (rr x n)) ∧ w' = w := by
  have h1 : IntKind.u64.wrap ((x : Int) * 4294967296) = ((x * 4294967296 : Nat) : Int) := by rw [keep_u64] <;> omega
  have h2 : IntKind.u64.wrap (((x * 4294967296 : Nat) : Int) + (x : Int)) = ((x * 4294967296 + x : Nat) : Int) := by rw [keep_u64] <;> omega
  go_enter Tryz.func124, Tryz.ntmps124
  have h3 : (((x : Int) * 4294967296 + (x : Int)) / 2 ^ n).tmod 4294967296 = (rr x n : Nat) := by
    rw [Int.tmod_eq_emod_of_nonneg (Int.ediv_nonneg (by omega) (by exact_mod_cast Nat.zero_le _))]
    unfold rr
    simp only [Int.natCast_emod, Int.natCast_ediv, Int.natCast_add, Int.natCast_mul, Int.natCast_pow]
    rfl
  go_wp2
  go_ret
  exact ⟨rfl, rfl⟩

set_option maxHeartbeats 4000000 in
set_option maxRecDepth 100000 in
theorem rot_any (w : World) (x n : Nat) (hx : x < 4294967296) (hn : n = 16 ∨ n = 12 ∨ n = 8 ∨ n = 7) : Calls Tryz.prog 138 #[.int .u32 x, .int .i64 n] w fun e w' => e = .returned (.int .u32 (rr x n)) ∧ w' = w := by
  have k16 : bits .and .u64 (IntKind.u64.wrap (-16)) 31 = 16 := by decide
  have k12 : bits .and .u64 (IntKind.u64.wrap (-12)) 31 = 20 := by decide
  have k8 : bits .and .u64 (IntKind.u64.wrap (-8)) 31 = 24 := by decide
  have k7 : bits .and .u64 (IntKind.u64.wrap (-7)) 31 = 25 := by decide
  have r16 := rot16 x hx
  have r12 := rot12 x hx
  have r8 := rot8 x hx
  have r7 := rot7 x hx
  rcases hn with rfl | rfl | rfl | rfl
  all_goals
    go_enter Tryz.func138, Tryz.ntmps138
    go_wp2
    go_ret
    exact ⟨rfl, rfl⟩
end Go.Proofs.YtnomgkmeomlccaaGreat.Word

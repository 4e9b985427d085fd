/- A state's bytes, read: walked. -/
import Derived.Test.YtjpjphdcpdjlkaaNum
import Derived.Test.YtjpjphdcpdjlkaaRule
import Derived.Lib.ConvBytes
import Derived.Deep.LoopGhost
import Derived.Laws.BitsLemmas
set_option linter.unusedVariables false
set_option linter.unusedSimpArgs false
namespace Go.Proofs.Ytjpjphdcpdjlkaa.Rule
open Go.RowKit Rd Api Own Mv Num

theorem below_bytes {B : Nat} {w W : World} (h : Below B w W) (hB : B ≤ W.heap.size) (e : TypeId) (s : ByteArray) : Below B w (Lib.bytesWorld W e s) :=
  h.trans ⟨rfl, rfl, rfl, by rw [Lib.bytesWorld_size]; omega, fun i hi => Lib.bytesWorld_at_old W e s i (by omega)⟩
theorem wraps_i64 (n : Int) (h₀ : 0 ≤ n) (h₁ : n < 2 ^ 62) : IntKind.i64.wrap n = n := by rw [IntKind.wrap_i64]; omega
theorem i64_or8 {x y : Int} (hx₀ : 0 ≤ x) (hx : x % 256 = 0) (hx₁ : x < 4611686018427387904) (h₀ : 0 ≤ y) (h₁ : y < 256) : bits .or .i64 x y = x + y :=
  bits_join .i64 62 (by decide) wraps_i64 8 x y hx₀ hx hx₁ h₀ h₁ (by omega)
/-- the number of so many bytes -/
def beVal (l : List UInt8) : Int := l.foldl (fun n c => n * 256 + (c.toNat : Int)) 0
theorem beVal_snoc (l : List UInt8) (c : UInt8) : beVal (l ++ [c]) = beVal l * 256 + (c.toNat : Int) := by
  simp [beVal]
def bd (i : Nat) : Int := if i = 0 then 1 else if i = 1 then 256 else if i = 2 then 65536 else if i = 3 then 16777216 else 4294967296
theorem bd_next {i : Nat} (hi : i < 4) {n c : Int} (h0 : 0 ≤ n) (h : n < bd i) (c0 : 0 ≤ c) (c1 : c < 256) : n < 16777216 ∧ n * 256 + c < bd (i + 1) := by
  unfold bd at h ⊢
  (repeat' split at h) <;> (repeat' split) <;> omega

set_option maxHeartbeats 4000000 in
set_option maxRecDepth 100000 in
theorem number_any (w : World) (s : ByteArray) (hs : s.size = 4) : Calls Try.prog 53 #[.string s] w fun e w' => e = .returned (.int .i64 (beVal s.data.toList)) ∧ Below w.heap.size w w' := by
  have kb := fun W => Lib.run_convert_string_bytes (P := Try.prog) W 9 96 5 s Try.underlying9 Try.underlying96 Try.underlying5
  go_enter Try.func53, Try.ntmps53
  go_wp2
  clear kb
  have HB := Sd.mk (below_bytes (Below.refl w.heap.size w) (Nat.le_refl _) 5 s)
  have hcell := fun j hj => Lib.bytesWorld_cell w 5 s j hj
  have HC := Sd.mk hcell
  clear hcell
  generalize Lib.bytesWorld w 5 s = w1 at HB HC ⊢
  have hl4 : s.data.toList.length = 4 := by rw [Array.length_toList]; exact hs
  go_loopg [3, 9] 4 (fun gk v3 v9 wr => ∃ (i : Nat) (n : Int), i + gk = 4 ∧ v9 = .int .i64 i ∧ v3 = .int .i64 n ∧ Sd (n = beVal (s.data.toList.take i)) ∧ 0 ≤ n ∧ n < bd i ∧ Sd (Below w.heap.size w wr) ∧ wr = w1)
  case atStart => exact ⟨0, 0, by omega, rfl, rfl, ⟨rfl⟩, by omega, by decide, HB, rfl⟩
  case round =>
    clear HB
    obtain ⟨i, n, hi, rfl, rfl, HN, h0, hb, HB, rfl⟩ := hrel
    by_cases hlt : i < 4
    · have hc := HC.out i (by omega)
      have HQ := Sd.mk (show n * 256 + ((s.data.toList.getD i 0).toNat : Int) = beVal (s.data.toList.take (i + 1)) from by
        rw [List.take_succ_eq_append_getElem (by omega), beVal_snoc, HN.out, List.getD_eq_getElem?_getD, List.getElem?_eq_getElem (by omega)]; rfl)
      generalize s.data.toList.getD i 0 = c0 at hc HQ
      have hc1 := c0.toNat_lt
      obtain ⟨c, hcc⟩ : ∃ c : Nat, c0.toNat = c := ⟨_, rfl⟩
      rw [hcc] at hc HQ hc1
      have hn := bd_next hlt h0 hb (c := (c : Int)) (by omega) (by omega)
      obtain ⟨hn1, hn2⟩ := hn
      have hor := i64_or8 (x := n * 256) (y := (c : Int)) (by omega) (by omega) (by omega) (by omega) (by omega)
      clear hcc
      go_wp2
      go_roundg (gk - 1)
      case measure => omega
      case rel => exact ⟨i + 1, n * 256 + (c : Int), by omega, by go_num, rfl, HQ, by omega, hn2, HB, rfl⟩
    · obtain rfl : i = 4 := by omega
      have HE := Sd.mk (show n = beVal s.data.toList by rw [HN.out, List.take_of_length_le (by omega)])
      go_wp2
      go_ret
      exact ⟨congrArg (fun n => Ending.returned (.int .i64 n)) HE.out, HB.out⟩

theorem number_is (w : World) (s : ByteArray) (n : Int) (hs : s.size = 4) (hn : beVal s.data.toList = n) : Calls Try.prog 53 #[.string s] w fun e w' => e = .returned (.int .i64 n) ∧ Below w.heap.size w w' := by
  subst hn
  exact number_any w s hs
end Go.Proofs.Ytjpjphdcpdjlkaa.Rule

/- Numbers as bytes, and texts: walked. -/
import Derived.Test.YtnomgkmeomlccaaGreatMv
import Derived.Laws.BytesArg
set_option linter.unusedVariables false
set_option linter.unusedSimpArgs false
namespace Go.Proofs.YtnomgkmeomlccaaGreat.Num
open Go.RowKit Rd Api Own Mv

/-- a number's four bytes -/
def four (m : Int) : ByteArray := strOfNums [m / 16777216, m / 65536 % 256, m / 256 % 256, m % 256]
def clamp (n : Int) : Int := if n < 0 ∨ 2147483647 < n then 0 else n
def num4 (n : Int) : ByteArray := four (clamp n)
theorem num4_size (n : Int) : (num4 n).size = 4 := rfl

theorem conv4 {P : Program} {S E D : TypeId} (hs : P.underlying S = some (.slice E)) (he : P.underlying E = some (.int .u8)) (hd : P.underlying D = some .string) (w : World) (a b c d : Int) :
    (convert S D (.slice (some ⟨w.heap.size, 0, none⟩) 4 4)).run P (w.alloc (.cells #[.int .u8 a, .int .u8 b, .int .u8 c, .int .u8 d] E)) = .ok (.string (strOfNums [a, b, c, d])) (w.alloc (.cells #[.int .u8 a, .int .u8 b, .int .u8 c, .int .u8 d] E)) := by
  refine run_convert_bytes_arg _ S E hs he w.heap.size 0 4 4 [a, b, c, d] rfl (fun i hi => ?_) D hd
  have h := blk_new w (.cells #[.int .u8 a, .int .u8 b, .int .u8 c, .int .u8 d] E)
  match i, hi with
  | 0, _ => exact blk_at h 0 _ rfl
  | 1, _ => exact blk_at h 1 _ rfl
  | 2, _ => exact blk_at h 2 _ rfl
  | 3, _ => exact blk_at h 3 _ rfl

set_option maxHeartbeats 4000000 in
set_option maxRecDepth 100000 in
theorem number_any (w : World) (n : Int) : Calls Tryz.prog 15 #[.int .i64 n] w fun e w' => e = .returned (.string (num4 n)) ∧ Below w.heap.size w w' := by
  by_cases h0 : n < 0
  · have hd : decide (n < 0) = true := decide_eq_true h0
    have hn : num4 n = four 0 := by unfold num4 clamp; rw [if_pos (.inl h0)]
    have hk := conv4 (P := Tryz.prog) Tryz.underlying85 Tryz.underlying5 Tryz.underlying9 w 0 0 0 0
    rw [hn]
    clear hn h0
    go_enter Tryz.func15, Tryz.ntmps15
    go_wp2
    go_ret
    exact ⟨rfl, below_one _ _⟩
  · by_cases h1 : 2147483647 < n
    · have hd : decide (n < 0) = false := decide_eq_false h0
      have hd1 : decide (2147483647 < n) = true := decide_eq_true h1
      have hn : num4 n = four 0 := by unfold num4 clamp; rw [if_pos (.inr h1)]
      have hk := conv4 (P := Tryz.prog) Tryz.underlying85 Tryz.underlying5 Tryz.underlying9 w 0 0 0 0
      rw [hn]
      clear hn h0 h1
      go_enter Tryz.func15, Tryz.ntmps15
      go_wp2
      go_ret
      exact ⟨rfl, below_one _ _⟩
    · have hn : num4 n = four n := by unfold num4 clamp; rw [if_neg (by omega)]
      have hk := conv4 (P := Tryz.prog) Tryz.underlying85 Tryz.underlying5 Tryz.underlying9 w (n / 16777216) (n / 65536 % 256) (n / 256 % 256) (n % 256)
      rw [hn]
      clear hn
      go_enter Tryz.func15, Tryz.ntmps15
      go_wp2
      go_ret
      exact ⟨rfl, below_one _ _⟩

set_option maxHeartbeats 4000000 in
set_option maxRecDepth 100000 in
theorem ref_number_any (w : World) (n : Int) : Calls Tryz.prog 18 #[.int .i64 n] w fun e w' => e = .returned (.string (num4 n)) ∧ Below w.heap.size w w' := by
  by_cases h0 : n < 0
  · have hd : decide (n < 0) = true := decide_eq_true h0
    have hn : num4 n = four 0 := by unfold num4 clamp; rw [if_pos (.inl h0)]
    have hk := conv4 (P := Tryz.prog) Tryz.underlying85 Tryz.underlying5 Tryz.underlying9 w 0 0 0 0
    rw [hn]
    clear hn h0
    go_enter Tryz.func18, Tryz.ntmps18
    go_wp2
    go_ret
    exact ⟨rfl, below_one _ _⟩
  · by_cases h1 : 2147483647 < n
    · have hd : decide (n < 0) = false := decide_eq_false h0
      have hd1 : decide (2147483647 < n) = true := decide_eq_true h1
      have hn : num4 n = four 0 := by unfold num4 clamp; rw [if_pos (.inr h1)]
      have hk := conv4 (P := Tryz.prog) Tryz.underlying85 Tryz.underlying5 Tryz.underlying9 w 0 0 0 0
      rw [hn]
      clear hn h0 h1
      go_enter Tryz.func18, Tryz.ntmps18
      go_wp2
      go_ret
      exact ⟨rfl, below_one _ _⟩
    · have hn : num4 n = four n := by unfold num4 clamp; rw [if_neg (by omega)]
      have hk := conv4 (P := Tryz.prog) Tryz.underlying85 Tryz.underlying5 Tryz.underlying9 w (n / 16777216) (n / 65536 % 256) (n / 256 % 256) (n % 256)
      rw [hn]
      clear hn
      go_enter Tryz.func18, Tryz.ntmps18
      go_wp2
      go_ret
      exact ⟨rfl, below_one _ _⟩
end Go.Proofs.YtnomgkmeomlccaaGreat.Num

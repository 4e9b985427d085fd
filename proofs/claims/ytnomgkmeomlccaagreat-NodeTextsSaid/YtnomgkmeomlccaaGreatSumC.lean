/- The digest of bytes, the program's and the reference's. -/
import Derived.Test.YtnomgkmeomlccaaGreatDigS
import Derived.Test.YtnomgkmeomlccaaGreatRefT
set_option linter.unusedVariables false
set_option linter.unusedSimpArgs false
namespace Go.Proofs.YtnomgkmeomlccaaGreat.Dig
open Go.RowKit Rd Api Own Mv Word Vec Mix Tab Step

theorem E0_size : E0.size = 0 := rfl
theorem strm_E0 (K b : ByteArray) : strm K E0 ++ b = strm K b := by rw [strm_app, E0_app]
theorem E0_strm (b : ByteArray) : strm E0 b = b := by unfold strm; rw [if_pos (show E0.size = 0 from rfl)]
/-- the digest of bytes -/
def sum (b : ByteArray) : ByteArray := dig 0 b
/-- .. with a key -/
def keyed (K b : ByteArray) : ByteArray := dig K.size (strm K b)
theorem keyed_E0 (b : ByteArray) : keyed E0 b = sum b := by unfold keyed sum; rw [E0_strm]; rfl
theorem keyed_size (K b : ByteArray) : (keyed K b).size = 32 := dig_size _ _
theorem sum_size (b : ByteArray) : (sum b).size = 32 := dig_size _ _

/-- Only block g was written, and it is one of the call's own. -/
theorem Only.own {B g : Nat} {w0 w w' : World} (h : Only g w w') (hb : Below B w0 w) (hg : B ≤ g) (hB : B ≤ w.heap.size) : Below B w0 w' := h.bel hb hg hB

theorem ext_min {key : ByteArray} (h : key.size ≤ 32) : key.extract 0 (min key.size 32) = key := by
  have : min key.size 32 = key.size := by omega
  rw [this]
  exact bytes_ext (by rw [ext_size (Nat.le_refl _)]; omega) (fun i hi => by
    rw [ext_size (Nat.le_refl _)] at hi
    rw [byt_extract, Nat.zero_add, if_pos (by omega)])
theorem new_E0 (w : World) : Calls Tryz.prog 60 #[.string { data := #[] }] w fun e w' => ∃ g, e = .returned (.pointer (some ⟨g, 0, none⟩)) ∧ w.heap.size ≤ g ∧ Dg g 0 E0 w' ∧ Below w.heap.size w w' := by
  have := new_any w E0 E0 (ext_min (Nat.zero_le _)).symm (Nat.zero_le _)
  rw [E0_strm] at this
  exact this

set_option maxHeartbeats 4000000 in
set_option maxRecDepth 100000 in
theorem blake_sum_any (w : World) (b : ByteArray) (hb : b.size ≤ 4611686018427387904) : Calls Tryz.prog 37 #[.string b] w fun e w' => e = .returned (.string (sum b)) ∧ Below w.heap.size w w' := by
  go_enter Tryz.func37, Tryz.ntmps37
  go_wp2_with (first
    | (go_at_call 60; (with_reducible refine (new_E0 _).mono ?_); rintro e w1 ⟨g, rfl, hg, hD, hb1⟩
       have H1 := Sd.mk hD; have B1 := Sd.mk hb1; clear hD hb1)
    | (go_at_call 61; (with_reducible refine (write_any _ g 0 E0 b H1.out (by decide) (by rw [E0_size]; omega)).mono ?_); rintro e w2 ⟨rfl, hD, ho⟩
       rw [E0_app] at hD
       have H2 := Sd.mk hD; have B2 := Sd.mk (Only.own ho B1.out hg B1.out.size); clear hD ho H1 B1)
    | (go_at_call 62; (with_reducible refine (sum_any _ g 0 b H2.out (by decide) hb).mono ?_); rintro e w3 ⟨rfl, hb3⟩
       have B3 := Sd.mk (below_then B2.out hb3); clear hb3 H2 B2))
  go_ret
  exact ⟨rfl, B3.out⟩

theorem ref0_any (w : World) (s : ByteArray) (hs : s.size ≤ 70368744177664) : Calls Tryz.prog 40 #[.string { data := #[] }, .string s] w fun e w' => e = .returned (.string (sum s)) ∧ Below w.heap.size w w' := by
  have := RefS.refsum_any w E0 s (by rw [E0_size]; omega) hs
  rw [E0_strm] at this
  exact this
end Go.Proofs.YtnomgkmeomlccaaGreat.Dig

/- The program's digest of bytes, with a key, and without. -/
import Derived.Test.YtmilnaiehebalaaDigS
set_option linter.unusedVariables false
set_option linter.unusedSimpArgs false
namespace Go.Proofs.Ytmilnaiehebalaa.Dig
open Go.RowKit Rd Api Own Mv Word Vec Mix Tab Step

theorem E0_size : E0.size = 0 := rfl
theorem strm_E0 (K b : ByteArray) : strm K E0 ++ b = strm K b := by rw [strm_app, E0_app]
theorem E0_strm (b : ByteArray) : strm E0 b = b := by unfold strm; rw [if_pos (show E0.size = 0 from rfl)]
/-- the digest of bytes -/
def sum (b : ByteArray) : ByteArray := dig 0 b
/-- .. with a key -/
def keyed (K b : ByteArray) : ByteArray := dig K.size (strm K b)
theorem keyed_E0 (b : ByteArray) : keyed E0 b = sum b := by unfold keyed sum; rw [E0_strm]; rfl
theorem keyed_size (K b : ByteArray) : (keyed K b).size = 32 := dig_size _ _
theorem sum_size (b : ByteArray) : (sum b).size = 32 := dig_size _ _

/-- Only block g was written, and it is one of the call's own. -/
theorem Only.own {B g : Nat} {w0 w w' : World} (h : Only g w w') (hb : Below B w0 w) (hg : B ≤ g) (hB : B ≤ w.heap.size) : Below B w0 w' := h.bel hb hg hB

theorem ext_min {key : ByteArray} (h : key.size ≤ 32) : key.extract 0 (min key.size 32) = key := by
  have : min key.size 32 = key.size := by omega
  rw [this]
  exact bytes_ext (by rw [ext_size (Nat.le_refl _)]; omega) (fun i hi => by
    rw [ext_size (Nat.le_refl _)] at hi
    rw [byt_extract, Nat.zero_add, if_pos (by omega)])
theorem new_E0 (w : World) : Calls Try.prog 15 #[.string { data := #[] }] w fun e w' => ∃ g, e = .returned (.pointer (some ⟨g, 0, none⟩)) ∧ w.heap.size ≤ g ∧ Dg g 0 E0 w' ∧ Below w.heap.size w w' := by
  have := new_any w E0 E0 (ext_min (Nat.zero_le _)).symm (Nat.zero_le _)
  rw [E0_strm] at this
  exact this

set_option maxHeartbeats 4000000 in
set_option maxRecDepth 100000 in
theorem blake_sum_any (w : World) (b : ByteArray) (hb : b.size ≤ 4611686018427387904) : Calls Try.prog 13 #[.string b] w fun e w' => e = .returned (.string (sum b)) ∧ Below w.heap.size w w' := by
  go_enter Try.func13, Try.ntmps13
  go_wp2_with (first
    | (go_at_call 15; (with_reducible refine (new_E0 _).mono ?_); rintro e w1 ⟨g, rfl, hg, hD, hb1⟩
       have H1 := Sd.mk hD; have B1 := Sd.mk hb1; clear hD hb1)
    | (go_at_call 16; (with_reducible refine (write_any _ g 0 E0 b H1.out (by decide) (by rw [E0_size]; omega)).mono ?_); rintro e w2 ⟨rfl, hD, ho⟩
       rw [E0_app] at hD
       have H2 := Sd.mk hD; have B2 := Sd.mk (Only.own ho B1.out hg B1.out.size); clear hD ho H1 B1)
    | (go_at_call 17; (with_reducible refine (sum_any _ g 0 b H2.out (by decide) hb).mono ?_); rintro e w3 ⟨rfl, hb3⟩
       have B3 := Sd.mk (below_then B2.out hb3); clear hb3 H2 B2))
  go_ret
  exact ⟨rfl, B3.out⟩

set_option maxHeartbeats 4000000 in
set_option maxRecDepth 100000 in
theorem keyed_any (w : World) (key b : ByteArray) (hk : key.size ≤ 4611686018427387904) (hb : b.size ≤ 2305843009213693952) : Calls Try.prog 18 #[.string key, .string b] w fun e w' => e = .returned (if key.size ≤ 32 then .tuple #[.string (keyed key b), .int .i64 0] else .tuple #[.string E0, .int .i64 1]) ∧ Below w.heap.size w w' := by
  obtain ⟨l, hl⟩ : ∃ z, z = key.size := ⟨_, rfl⟩
  have hls : (key.size : Int) = (l : Int) := by omega
  by_cases h : l ≤ 32
  · have hd : decide ((32 : Int) < l) = false := decide_eq_false (by omega)
    rw [if_pos (by omega)]
    have hx := ext_min (key := key) (by omega)
    have HK := Sd.mk hx
    have hst := Sd.mk (strm_size (key := key) (b := b) (by omega))
    have hst0 := Sd.mk (strm_size (key := key) (b := E0) (by omega))
    have hl32 := Sd.mk (show key.size ≤ 64 by omega)
    clear hx
    go_enter Try.func18, Try.ntmps18
    go_wp2_with (first
      | (go_at_call 15; (with_reducible refine (new_any _ key key HK.out.symm (by omega)).mono ?_); rintro e w1 ⟨g, rfl, hg, hD, hb1⟩
         have H1 := Sd.mk hD; have B1 := Sd.mk hb1; clear hD hb1)
      | (go_at_call 16; (with_reducible refine (write_any _ g key.size (strm key E0) b H1.out hl32.out (by have := hst0.out; rw [E0_size] at this; omega)).mono ?_); rintro e w2 ⟨rfl, hD, ho⟩
         rw [strm_E0] at hD
         have H2 := Sd.mk hD; have B2 := Sd.mk (Only.own ho B1.out hg B1.out.size); clear hD ho H1 B1)
      | (go_at_call 17; (with_reducible refine (sum_any _ g key.size (strm key b) H2.out hl32.out (by have := hst.out; omega)).mono ?_); rintro e w3 ⟨rfl, hb3⟩
         have B3 := Sd.mk (below_then B2.out hb3); clear hb3 H2 B2))
    refine bodyPost_ret (v := .tuple #[.string (keyed key b), .int .i64 0]) (by simp [results, Try.results18, go_sem, keyed]) rfl ⟨rfl, B3.out⟩
  · have hd : decide ((32 : Int) < l) = true := decide_eq_true (by omega)
    rw [if_neg (by omega)]
    go_enter Try.func18, Try.ntmps18
    go_wp2
    refine bodyPost_ret (v := .tuple #[.string E0, .int .i64 1]) (by simp [results, Try.results18, go_sem, E0]) rfl ⟨rfl, Below.refl _ _⟩

set_option maxHeartbeats 4000000 in
set_option maxRecDepth 100000 in
theorem tag_any (w : World) (key b : ByteArray) (hk : key.size ≤ 32) (hb : b.size ≤ 2305843009213693952) : Calls Try.prog 19 #[.string key, .string b] w fun e w' => e = .returned (.string ((keyed key b).extract 0 16)) ∧ Below w.heap.size w w' := by
  have hc := keyed_any w key b (by omega) hb
  rw [if_pos hk] at hc
  obtain ⟨h, hh⟩ : ∃ h, h = keyed key b := ⟨_, rfl⟩
  have hs : h.size = 32 := by rw [hh]; exact keyed_size _ _
  rw [← hh] at hc ⊢
  have hsi : (16 : Int) ≤ (h.size : Int) := by omega
  have hsn : 16 ≤ h.size := by omega
  clear hs hh
  go_enter Try.func19, Try.ntmps19
  go_wp2_with (first
    | (go_at_call 18; (with_reducible refine hc.mono ?_); rintro e w1 ⟨rfl, hb1⟩))
  go_ret
  exact ⟨rfl, hb1⟩
end Go.Proofs.Ytmilnaiehebalaa.Dig

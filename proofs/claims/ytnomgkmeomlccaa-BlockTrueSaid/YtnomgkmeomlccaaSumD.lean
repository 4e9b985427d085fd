/- Keyed digests, for seats without the laws of blake. -/
import Derived.Test.YtnomgkmeomlccaaSumC
set_option linter.unusedVariables false
set_option linter.unusedSimpArgs false
namespace Go.Proofs.Ytnomgkmeomlccaa.Dig
open Go.RowKit Rd Api Own Mv Word Vec Mix Tab Step

set_option maxHeartbeats 4000000 in
set_option maxRecDepth 100000 in
theorem keyed_any (w : World) (key b : ByteArray) (hk : key.size ≤ 4611686018427387904) (hb : b.size ≤ 2305843009213693952) : Calls Try.prog 172 #[.string key, .string b] w fun e w' => e = .returned (if key.size ≤ 32 then .tuple #[.string (keyed key b), .int .i64 0] else .tuple #[.string E0, .int .i64 1]) ∧ Below w.heap.size w w' := by
  obtain ⟨l, hl⟩ : ∃ z, z = key.size := ⟨_, rfl⟩
  have hls : (key.size : Int) = (l : Int) := by omega
  by_cases h : l ≤ 32
  · have hd : decide ((32 : Int) < l) = false := decide_eq_false (by omega)
    rw [if_pos (by omega)]
    have hx := ext_min (key := key) (by omega)
    have HK := Sd.mk hx
    have hst := Sd.mk (strm_size (key := key) (b := b) (by omega))
    have hst0 := Sd.mk (strm_size (key := key) (b := E0) (by omega))
    have hl32 := Sd.mk (show key.size ≤ 64 by omega)
    clear hx
    go_enter Try.func172, Try.ntmps172
    go_wp2_with (first
      | (go_at_call 94; (with_reducible refine (new_any _ key key HK.out.symm (by omega)).mono ?_); rintro e w1 ⟨g, rfl, hg, hD, hb1⟩
         have H1 := Sd.mk hD; have B1 := Sd.mk hb1; clear hD hb1)
      | (go_at_call 95; (with_reducible refine (write_any _ g key.size (strm key E0) b H1.out hl32.out (by have := hst0.out; rw [E0_size] at this; omega)).mono ?_); rintro e w2 ⟨rfl, hD, ho⟩
         rw [strm_E0] at hD
         have H2 := Sd.mk hD; have B2 := Sd.mk (Only.own ho B1.out hg B1.out.size); clear hD ho H1 B1)
      | (go_at_call 96; (with_reducible refine (sum_any _ g key.size (strm key b) H2.out hl32.out (by have := hst.out; omega)).mono ?_); rintro e w3 ⟨rfl, hb3⟩
         have B3 := Sd.mk (below_then B2.out hb3); clear hb3 H2 B2))
    refine bodyPost_ret (v := .tuple #[.string (keyed key b), .int .i64 0]) (by simp [results, Try.results172, go_sem, keyed]) rfl ⟨rfl, B3.out⟩
  · have hd : decide ((32 : Int) < l) = true := decide_eq_true (by omega)
    rw [if_neg (by omega)]
    go_enter Try.func172, Try.ntmps172
    go_wp2
    refine bodyPost_ret (v := .tuple #[.string E0, .int .i64 1]) (by simp [results, Try.results172, go_sem, E0]) rfl ⟨rfl, Below.refl _ _⟩

set_option maxHeartbeats 4000000 in
set_option maxRecDepth 100000 in
theorem tag_any (w : World) (key b : ByteArray) (hk : key.size ≤ 32) (hb : b.size ≤ 2305843009213693952) : Calls Try.prog 168 #[.string key, .string b] w fun e w' => e = .returned (.string ((keyed key b).extract 0 16)) ∧ Below w.heap.size w w' := by
  have hc := keyed_any w key b (by omega) hb
  rw [if_pos hk] at hc
  obtain ⟨h, hh⟩ : ∃ h, h = keyed key b := ⟨_, rfl⟩
  have hs : h.size = 32 := by rw [hh]; exact keyed_size _ _
  rw [← hh] at hc ⊢
  have hsi : (16 : Int) ≤ (h.size : Int) := by omega
  have hsn : 16 ≤ h.size := by omega
  clear hs hh
  go_enter Try.func168, Try.ntmps168
  go_wp2_with (first
    | (go_at_call 172; (with_reducible refine hc.mono ?_); rintro e w1 ⟨rfl, hb1⟩))
  go_ret
  exact ⟨rfl, hb1⟩
theorem refk_any (w : World) (key s : ByteArray) (hk : key.size ≤ 32) (hs : s.size ≤ 70368744177664) : Calls Try.prog 66 #[.string key, .string s] w fun e w' => e = .returned (.string (keyed key s)) ∧ Below w.heap.size w w' := RefS.refsum_any w key s hk hs
theorem keyed_ok (w : World) (key b : ByteArray) (hk : key.size ≤ 32) (hb : b.size ≤ 2305843009213693952) (h : ByteArray) (hh : keyed key b = h) : Calls Try.prog 172 #[.string key, .string b] w fun e w' => e = .returned (.tuple #[.string h, .int .i64 0]) ∧ Below w.heap.size w w' := by
  have := keyed_any w key b (by omega) hb
  rw [if_pos hk, hh] at this
  exact this
theorem tag_ok (w : World) (key b : ByteArray) (hk : key.size ≤ 32) (hb : b.size ≤ 2305843009213693952) (h : ByteArray) (hh : keyed key b = h) : Calls Try.prog 168 #[.string key, .string b] w fun e w' => e = .returned (.string (h.extract 0 16)) ∧ Below w.heap.size w w' := by
  have := tag_any w key b hk hb
  rw [hh] at this
  exact this
theorem refk_ok (w : World) (key s : ByteArray) (hk : key.size ≤ 32) (hs : s.size ≤ 70368744177664) (h : ByteArray) (hh : keyed key s = h) : Calls Try.prog 66 #[.string key, .string s] w fun e w' => e = .returned (.string h) ∧ Below w.heap.size w w' := by
  have := refk_any w key s hk hs
  rw [hh] at this
  exact this

end Go.Proofs.Ytnomgkmeomlccaa.Dig

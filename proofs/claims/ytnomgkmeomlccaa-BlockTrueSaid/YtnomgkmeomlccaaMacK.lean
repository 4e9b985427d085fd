/- The reference's keys, tags; MacKeys: walked. -/
import Derived.Test.YtnomgkmeomlccaaMac
set_option linter.unusedVariables false
set_option linter.unusedSimpArgs false
namespace Go.Proofs.Ytnomgkmeomlccaa.Mac
open Go.RowKit Rd Api Own Mv Num Dig

set_option maxHeartbeats 4000000 in
set_option maxRecDepth 100000 in
theorem refkey_le (w : World) (seed : ByteArray) (x y : Int) (hs : seed.size ≤ 35184372088832) (hxy : x ≤ y) (k : ByteArray) (hk : mkey seed x y = k) : Calls Try.prog 102 #[.string seed, .int .i64 x, .int .i64 y] w fun e w' => e = .returned (.string k) ∧ Below w.heap.size w w' := by
  obtain ⟨t, u, n1, v, n2, P, s1, s2, s3, s4, s5, s6⟩ := pcs seed x y
  have hm : mkey seed x y = sum (kt seed x y) := by unfold mkey; rw [Int.min_eq_left hxy, Int.max_eq_right hxy]
  rw [hm] at hk
  have HP := Sd.mk P
  have HK := Sd.mk hk
  have HZ := Sd.mk s6
  have c1 : ¬9223372036854775807 < 1 + t.size := by omega
  have c2 : ¬9223372036854775807 < u.size + n1.size := by omega
  have c3 : ¬9223372036854775807 < v.size + n2.size := by omega
  have hd : decide (y < x) = false := decide_eq_false (by omega)
  clear P hk s1 s2 s3 s4 s5 s6 hm hxy
  go_enter Try.func102, Try.ntmps102
  go_wp2_with (first
    | (go_at_call 131; (with_reducible refine (ref_text_any _ seed (by omega)).mono ?_); rintro e w1 ⟨rfl, hb1⟩; have B1 := Sd.mk hb1; clear hb1; rw [HP.out.qt])
    | (go_at_call 62; (with_reducible refine (ref_number_any _ x).mono ?_); rintro e w2 ⟨rfl, hb2⟩; have B2 := Sd.mk (below_then B1.out hb2); clear B1 hb2; rw [HP.out.q1]; rw [show ({ data := #[75] } : ByteArray) ++ t = u from HP.out.qu])
    | (go_at_call 62; (with_reducible refine (ref_number_any _ y).mono ?_); rintro e w3 ⟨rfl, hb3⟩; have B3 := Sd.mk (below_then B2.out hb3); clear B2 hb3; rw [HP.out.q2]; rw [HP.out.qv])
    | (go_at_call 66; rw [HP.out.qx]; (with_reducible refine (ref0_any _ _ (by rw [HZ.out]; omega)).mono ?_); rintro e w4 ⟨rfl, hb4⟩; have B4 := Sd.mk (below_then B3.out hb4); clear B3 hb4))
  go_ret
  refine ⟨?_, B4.out⟩
  rw [← HK.out]
  rfl

set_option maxHeartbeats 4000000 in
set_option maxRecDepth 100000 in
theorem refkey_any (w : World) (seed : ByteArray) (x y : Int) (hs : seed.size ≤ 35184372088832) (k : ByteArray) (hk : mkey seed x y = k) : Calls Try.prog 102 #[.string seed, .int .i64 x, .int .i64 y] w fun e w' => e = .returned (.string k) ∧ Below w.heap.size w w' := by
  by_cases hxy : x ≤ y
  · exact refkey_le w seed x y hs hxy k hk
  · have hd : decide (y < x) = true := decide_eq_true (by omega)
    have hc := fun W => refkey_le W seed y x hs (by omega) k (by rw [mkey_comm]; exact hk)
    clear hxy hk
    go_enter Try.func102, Try.ntmps102
    go_wp2_with (first
      | (go_at_call 102; (with_reducible refine (hc _).mono ?_); rintro e w1 ⟨rfl, hb1⟩))
    go_ret
    exact ⟨rfl, hb1⟩

def mtag (seed : ByteArray) (x y : Int) (t : ByteArray) : ByteArray := (keyed (mkey seed x y) t).extract 0 16
theorem mtag_size (seed : ByteArray) (x y : Int) (t : ByteArray) : (mtag seed x y t).size = 16 := by unfold mtag; rw [ext_size (by rw [keyed_size]; omega)]

set_option maxHeartbeats 4000000 in
set_option maxRecDepth 100000 in
theorem mactag_any (w : World) (seed : ByteArray) (a b : Int) (tx : ByteArray) (hs : seed.size ≤ 35184372088832) (ht : tx.size ≤ 35184372088832) (x : ByteArray) (hx : mtag seed (endF a) (endF b) tx = x) :
    Calls Try.prog 157 #[.string seed, .int .i64 a, .int .i64 b, .string tx] w fun e w' => e = .returned (.string x) ∧ Below w.heap.size w w' := by
  obtain ⟨k, hk⟩ : ∃ k, mkey seed (endF a) (endF b) = k := ⟨_, rfl⟩
  have k32 : k.size = 32 := by rw [← hk]; exact mkey_size _ _ _
  obtain ⟨h, hh⟩ : ∃ h, keyed k tx = h := ⟨_, rfl⟩
  have HX := Sd.mk (show h.extract 0 16 = x from by rw [← hh, ← hk]; exact hx)
  have HK := Sd.mk hk
  have HH := Sd.mk hh
  have k2 : k.size ≤ 32 := by omega
  clear hk hh hx k32
  go_enter Try.func157, Try.ntmps157
  go_wp2_with (first
    | (go_at_call 169; (with_reducible refine (key_any _ seed a b hs k HK.out).mono ?_); rintro e w1 ⟨rfl, hb1⟩; have B1 := Sd.mk hb1; clear hb1)
    | (go_at_call 168; (with_reducible refine (tag_ok _ k tx k2 (by omega) h HH.out).mono ?_); rintro e w2 ⟨rfl, hb2⟩; have B2 := Sd.mk (below_then B1.out hb2); clear B1 hb2))
  go_ret
  refine ⟨?_, B2.out⟩
  rw [← HX.out]
  rfl

set_option maxHeartbeats 4000000 in
set_option maxRecDepth 100000 in
theorem reftag_any (w : World) (seed : ByteArray) (a b : Int) (tx : ByteArray) (hs : seed.size ≤ 35184372088832) (ht : tx.size ≤ 35184372088832) (x : ByteArray) (hx : mtag seed a b tx = x) :
    Calls Try.prog 69 #[.string seed, .int .i64 a, .int .i64 b, .string tx] w fun e w' => e = .returned (.string x) ∧ Below w.heap.size w w' := by
  obtain ⟨k, hk⟩ : ∃ k, mkey seed a b = k := ⟨_, rfl⟩
  have k32 : k.size = 32 := by rw [← hk]; exact mkey_size _ _ _
  obtain ⟨h, hh⟩ : ∃ h, keyed k tx = h := ⟨_, rfl⟩
  have h32 : h.size = 32 := by rw [← hh]; exact keyed_size _ _
  have HX := Sd.mk (show h.extract 0 16 = x from by rw [← hh, ← hk]; exact hx)
  have HK := Sd.mk hk
  have HH := Sd.mk hh
  have k2 : k.size ≤ 32 := by omega
  have hsi : (16 : Int) ≤ (h.size : Int) := by omega
  have hsn : 16 ≤ h.size := by omega
  clear hk hh hx k32 h32
  go_enter Try.func69, Try.ntmps69
  go_wp2_with (first
    | (go_at_call 102; (with_reducible refine (refkey_any _ seed a b hs k HK.out).mono ?_); rintro e w1 ⟨rfl, hb1⟩; have B1 := Sd.mk hb1; clear hb1)
    | (go_at_call 66; (with_reducible refine (refk_ok _ k tx k2 (by omega) h HH.out).mono ?_); rintro e w2 ⟨rfl, hb2⟩; have B2 := Sd.mk (below_then B1.out hb2); clear B1 hb2))
  go_ret
  refine ⟨?_, B2.out⟩
  rw [← HX.out]
  rfl
end Go.Proofs.Ytnomgkmeomlccaa.Mac

/- The digest under way: made. -/
import Derived.Test.YtnomgkmeomlccaaGreatDig
import Derived.Test.YtnomgkmeomlccaaGreatShelf
set_option linter.unusedVariables false
set_option linter.unusedSimpArgs false
namespace Go.Proofs.YtnomgkmeomlccaaGreat.Dig
open Go.RowKit Rd Api Own Mv Word Vec Mix Tab Step

/-- the cells of a digest under way -/
def dc (H : Nat → Nat) (r : ByteArray) (z : Nat) : Array Value := #[.int .u32 ((H : Nat → Nat) 0), .int .u32 ((H : Nat → Nat) 1), .int .u32 ((H : Nat → Nat) 2), .int .u32 ((H : Nat → Nat) 3), .int .u32 ((H : Nat → Nat) 4), .int .u32 ((H : Nat → Nat) 5), .int .u32 ((H : Nat → Nat) 6), .int .u32 ((H : Nat → Nat) 7), .string r, .int .u64 (z : Nat)]
/-- a digest under way: a block that holds what the stream S has come to -/
def Dg (g k : Nat) (S : ByteArray) (W : World) : Prop := W.heap[g]? = some (.cells (dc (hs k (byt S) (qn S.size)) (rest S) (64 * qn S.size)) 163 (0, 0))
theorem Dg.below {g k : Nat} {S : ByteArray} {W W1 : World} (h : Dg g k S W) (hb : Below W.heap.size W W1) : Dg g k S W1 := blk_keep h hb

theorem vec_iv : vec .u32 8 iv = #[.int .u32 1779033703, .int .u32 3144134277, .int .u32 1013904242, .int .u32 2773480762, .int .u32 1359893119, .int .u32 2600822924, .int .u32 528734635, .int .u32 1541459225] := by kernel_rfl

theorem begin_lit (w : World) : Calls Tryz.prog 91 #[] w fun e w' => e = .returned (.agg #[.int .u32 1779033703, .int .u32 3144134277, .int .u32 1013904242, .int .u32 2773480762, .int .u32 1359893119, .int .u32 2600822924, .int .u32 528734635, .int .u32 1541459225]) ∧ Below w.heap.size w w' := by
  rw [← vec_iv]; exact begin_any w

theorem repeat_zero : ∀ c, Lib.repeatL [0] c = List.replicate c 0
  | 0 => rfl
  | c + 1 => by
    have := repeat_zero c
    simp only [Lib.repeatL, List.replicate_succ, List.flatten_cons] at this ⊢
    rw [this]
    rfl
theorem zero_any (w : World) (c : Nat) (hc : c ≤ 64) : Calls Tryz.prog 92 #[.string { data := #[0] }, .int .i64 c] w fun e w' => e = .returned (.string (zeros c)) ∧ Below w.heap.size w w' := by
  have := Shlf.repeat_any { data := #[0] } c w (by show 1 * c ≤ _; omega) (by omega)
  rw [show (⟨(Lib.repeatL (ByteArray.data { data := #[0] }).toList c).toArray⟩ : ByteArray) = zeros c from by show (⟨(Lib.repeatL [0] c).toArray⟩ : ByteArray) = _; rw [repeat_zero]; rfl] at this
  exact this

set_option maxHeartbeats 4000000 in
set_option maxRecDepth 100000 in
theorem new_any (w : World) (key K : ByteArray) (hK : K = key.extract 0 (min key.size 32)) (hs : key.size ≤ 9223372036854775807) :
    Calls Tryz.prog 60 #[.string key] w fun e w' => ∃ g, e = .returned (.pointer (some ⟨g, 0, none⟩)) ∧ w.heap.size ≤ g ∧ Dg g K.size (strm K E0) w' ∧ Below w.heap.size w w' := by
  have hK2 : K.size ≤ 32 := by rw [hK, ext_size (by omega)]; omega
  go_enter Tryz.func60, Tryz.ntmps60
  have eK := Sd.mk (show key.extract 0 (min (key.size : Int) 32).toNat = K by rw [hK]; congr 1; omega)
  clear hK
  go_upto_region 2 with (fail)
  rw [eK.out]
  clear eK hs
  go_upto_region 3 with (first
    | (go_at_call 91; (with_reducible refine (begin_lit _).mono ?_); rintro e w1 ⟨rfl, hb1⟩))
  have hb := Sd.mk hb1
  have hg := hb1.size
  clear hb1
  obtain ⟨l, hl⟩ : ∃ z, z = K.size := ⟨_, rfl⟩
  obtain ⟨m, hm⟩ : ∃ z, z = l * 256 := ⟨_, rfl⟩
  obtain ⟨x1, h1⟩ : ∃ z, z = 16842752 ^^^ m := ⟨_, rfl⟩
  obtain ⟨x2, h2⟩ : ∃ z, z = x1 ^^^ 32 := ⟨_, rfl⟩
  obtain ⟨x3, h3⟩ : ∃ z, z = 1779033703 ^^^ x2 := ⟨_, rfl⟩
  have lm : m < 4294967296 := by omega
  have l1 : x1 < 4294967296 := by rw [h1]; exact xor_lt (by decide) lm
  have l2 : x2 < 4294967296 := by rw [h2]; exact xor_lt l1 (by decide)
  have a0 : IntKind.u32.wrap (l : Int) = l := by rw [IntKind.wrap_u32]; omega
  have a1 : IntKind.u32.wrap ((l : Int) * 256) = m := by rw [IntKind.wrap_u32]; omega
  have a2 : bits .xor .u32 (16842752 : Int) (m : Int) = (x1 : Int) := by rw [h1]; exact xor32 16842752 m (by decide) lm
  have a3 : bits .xor .u32 (x1 : Int) (32 : Int) = (x2 : Int) := by rw [h2]; exact xor32 x1 32 l1 (by decide)
  have a4 : bits .xor .u32 (1779033703 : Int) (x2 : Int) = (x3 : Int) := by rw [h3]; exact xor32 1779033703 x2 (by decide) l2
  have HL := Sd.mk hl
  have HX := Sd.mk (show x3 = H0 l 0 from by rw [h3, h2, h1, hm]; unfold H0; rw [upd_same]; rfl)
  have hls : (K.size : Int) = (l : Int) := by omega
  clear hl hm h1 h2 h3
  have HB := Sd.mk (blk_new w1 (.cells #[.int .u32 1779033703, .int .u32 3144134277, .int .u32 1013904242, .int .u32 2773480762, .int .u32 1359893119, .int .u32 2600822924, .int .u32 528734635, .int .u32 1541459225, .string { data := #[] }, .int .u64 0] 163))
  have BB := Sd.mk (below_then hb.out (below_one w1 (.cells #[.int .u32 1779033703, .int .u32 3144134277, .int .u32 1013904242, .int .u32 2773480762, .int .u32 1359893119, .int .u32 2600822924, .int .u32 528734635, .int .u32 1541459225, .string { data := #[] }, .int .u64 0] 163)))
  generalize w1.alloc _ = W at HB BB ⊢
  generalize w1.heap.size = g at HB hg ⊢
  clear hb
  have c0 := blk_at HB.out 0 _ rfl
  have f0 := blk_frz HB.out 0
  go_still_tail 15, (by kernel_rfl)
  change wpList _ _ _ _ _ W.drew
  have HB1 := Sd.mk (show W.drew.heap[g]? = _ from HB.out)
  have BB1 := Sd.mk (below_drew' BB.out)
  clear HB BB c0 f0
  generalize W.drew = W1 at HB1 BB1 ⊢
  have c0 := blk_at HB1.out 0 _ rfl
  have f0 := blk_frz HB1.out 0
  go_upto_region 4 with (fail)
  clear c0 f0
  have HB2 := Sd.mk (show (W1.setCell ⟨g, 0, none⟩ (.int .u32 x3)).heap[g]? = some (.cells (dc (H0 l) E0 0) 163 (0, 0)) from by
    rw [blk_set3 HB1.out 0 (.int .u32 x3)]
    unfold dc
    rw [← HX.out]
    rfl)
  have BB2 := Sd.mk (BB1.out.setCell (p := ⟨g, 0, none⟩) hg (.int .u32 x3))
  clear HB1 BB1 a0 a1 a2 a3 a4 lm l1 l2
  generalize W1.setCell _ _ = W2 at HB2 BB2 ⊢
  by_cases hz : K = { data := #[] }
  · subst hz
    clear HX hls
    go_wp2
    go_ret
    refine ⟨g, rfl, hg, ?_, BB2.out⟩
    have := HB2.out
    rw [HL.out] at this
    exact this
  · have hl0 : l ≠ 0 := fun h => hz (bytes_ext (by rw [← HL.out, h]; rfl) (fun i hi => by rw [← HL.out] at hi; omega))
    obtain ⟨c, hc⟩ : ∃ z, z = 64 - l := ⟨_, rfl⟩
    have a5 : IntKind.i64.wrap (64 - (l : Int)) = (c : Int) := by rw [IntKind.wrap_i64]; omega
    have lc : c ≤ 64 := by omega
    have HC := Sd.mk hc
    have HL0 := Sd.mk hl0
    have hne : K.toList.isEmpty = false := by
      rw [ByteArray.toList_eq]
      cases h : K.data.toList with
      | nil => exact absurd (ByteArray.ext (Array.toList_inj.1 (by rw [h]))) hz
      | cons => rfl
    clear hc hl0 hz
    go_wp2_with (first
      | (go_at_call 92; (with_reducible refine (zero_any _ c lc).mono ?_); rintro e w4 ⟨rfl, hb4⟩
         have HB4 := Sd.mk (blk_keep HB2.out hb4)
         have BB4 := Sd.mk (below_then BB2.out hb4)
         have c8 := blk_at HB4.out 8 _ rfl
         have f8 := blk_frz HB4.out 8
         clear HB2 BB2 hb4))
    · have := zeros_size c
      exfalso
      omega
    go_ret
    refine ⟨g, rfl, hg, ?_, BB4.out.setCell (p := ⟨g, 8, none⟩) hg _⟩
    have hk0 : K.size ≠ 0 := by rw [← HL.out]; exact HL0.out
    have hk64 : (K ++ zeros c).size = 64 := by rw [app_size, zeros_size, HC.out, HL.out]; omega
    have hst : strm K E0 = K ++ zeros c := by
      unfold strm
      rw [if_neg hk0, HC.out, HL.out]
      exact app_E0 _
    unfold Dg
    rw [hst, rest_one (by omega), hk64, show qn 64 = 0 from rfl, blk_set3 HB4.out 8 _, ← HL.out]
    rfl
end Go.Proofs.YtnomgkmeomlccaaGreat.Dig

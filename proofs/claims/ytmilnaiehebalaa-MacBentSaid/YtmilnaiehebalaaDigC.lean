/- BlakeBlocks, walked. -/
import Derived.Test.YtmilnaiehebalaaDigK
set_option linter.unusedVariables false
set_option linter.unusedSimpArgs false
namespace Go.Proofs.Ytmilnaiehebalaa.Dig
open Go.RowKit Rd Api Own Mv Word Vec Mix Tab Step RefS

theorem Bys.put {base g cap n : Nat} {B : Nat → Nat} {W : World} (h : Bys base g cap n B W) {i : Nat} (hi : i < n) (x : Nat) : Bys base g cap n (upd B i x) (W.setCell ⟨g, i, none⟩ (.int .u8 x)) := by
  refine ⟨h.ge, by simp [World.setCell]; exact h.lt, h.le, h.hcap, fun j hj => ?_, fun j hj => ?_, fun j hj => by rw [World.frozen?_setCell]; exact h.fr j hj⟩
  · by_cases hji : j = i
    · subst hji
      rw [upd_same, World.cell?_setCell_same' _ _ _ (h.is j (Nat.lt_of_lt_of_le hj h.le))]
    · rw [upd_ne hji, World.cell?_setCell_other _ _ _ _ (fun e => hji (by cases e; rfl))]
      exact h.at' j hj
  · by_cases hji : j = i
    · subst hji
      rw [World.cell?_setCell_same' _ _ _ (h.is j hj)]
      rfl
    · rw [World.cell?_setCell_other _ _ _ _ (fun e => hji (by cases e; rfl))]
      exact h.is j hj
theorem bys_string {base g cap n : Nat} {B : Nat → Nat} {W : World} (h : Bys base g cap n B W) (S : ByteArray) (hn : S.size = n) (hS : ∀ j, j < n → byt S j = B j) :
    (convert 34 9 (.slice (some ⟨g, 0, none⟩) n cap)).run Try.prog W = .ok (.string S) W := by
  have := run_convert_bytes_arg (P := Try.prog) (w := W) 34 5 Try.underlying34 Try.underlying5 g 0 n cap ((List.range n).map fun j => (B j : Int)) (by simp) (fun i hi => by
    rw [Nat.zero_add, h.at' i hi]
    simp [List.getD_eq_getElem?_getD, hi]) 9 Try.underlying9
  rw [this]
  congr 2
  refine bytes_ext (by rw [strOfNums_size]; simp [hn]) (fun i hi => ?_)
  rw [strOfNums_size] at hi
  simp only [List.length_map, List.length_range] at hi
  rw [byt_get, strOfNums_data, hS i hi]
  simp only [List.map_map, List.getElem?_map, List.getElem?_range hi, Option.map_some, Option.getD_some, Function.comp, Int.toNat_natCast]
  have := hS i hi
  have := byt_lt S i
  rw [UInt8.toNat_ofNat']
  omega
def rep (m c : Nat) : ByteArray := ⟨(List.replicate m (UInt8.ofNat c)).toArray⟩
theorem rep_size (m c : Nat) : (rep m c).size = m := by simp [rep, ByteArray.size]
theorem byt_rep {m c j : Nat} (hj : j < m) (hc : c < 256) : byt (rep m c) j = c := by
  rw [byt_get]
  simp only [rep, List.getElem?_replicate, hj, if_true, Option.getD_some]
  rw [UInt8.toNat_ofNat']
  omega

theorem bys_one (W : World) (c : Nat) : Bys 0 W.heap.size 1 1 (fun _ => c) (W.alloc (.cells #[.int .u8 (c : Int)] 5)) := by
  have h := blk_new W (.cells #[.int .u8 (c : Int)] 5)
  refine ⟨Nat.zero_le _, by simp, Nat.le_refl _, by decide, fun j hj => ?_, fun j hj => ?_, fun j hj => blk_frz h j⟩
  · obtain rfl : j = 0 := by omega
    exact blk_at h 0 _ rfl
  · obtain rfl : j = 0 := by omega
    rw [blk_at h 0 _ rfl]
    rfl

set_option maxHeartbeats 4000000 in
set_option maxRecDepth 100000 in
theorem blocks_row (w : World) (n0 : Int) (hn0 : (Lit.int .u16 n0).wf = true) (c0 : Int) (hc0 : (Lit.int .u8 c0).wf = true) (key : Bool) :
    Calls Try.prog 6 #[.int .u16 n0, .int .u8 c0, .bool key] w fun e w' => e = .returned (.bool true) ∧ Below w.heap.size w w' := by
  have bn : 0 ≤ n0 ∧ n0 ≤ 65535 := by simpa [Lit.wf, IntKind.min, IntKind.max, IntKind.bits, IntKind.signed] using hn0
  have bc : 0 ≤ c0 ∧ c0 ≤ 255 := by simpa [Lit.wf, IntKind.min, IntKind.max, IntKind.bits, IntKind.signed] using hc0
  obtain ⟨n, hn⟩ : ∃ n : Nat, n0 = (n : Int) := ⟨n0.toNat, by omega⟩
  obtain ⟨c, hc⟩ : ∃ c : Nat, c0 = (c : Int) := ⟨c0.toNat, by omega⟩
  subst hn hc
  clear hn0 hc0
  have cb : c < 256 := by omega
  obtain ⟨m, hm⟩ : ∃ m, m = n % 300 := ⟨_, rfl⟩
  have e1 : ((n : Int)).tmod 300 = (m : Int) := by rw [Int.tmod_eq_emod_of_nonneg (by omega)]; omega
  have e1b : ((n : Int)) % 300 = (m : Int) := by omega
  have e2 : IntKind.i64.wrap (m : Int) = (m : Int) := by rw [IntKind.wrap_i64]; omega
  have hmb : m < 300 := by omega
  clear hm bn bc
  go_enter Try.func6, Try.ntmps6
  go_upto_region 3 with (first
    | (go_at_call 12; (with_reducible refine (awake_any _).mono ?_); rintro e w1 ⟨rfl, hb1⟩; have B1 := Sd.mk hb1; clear hb1))
  obtain ⟨W1, hmk, hB, hL⟩ := make_bytes w1 m (by omega)
  have HB1 := Sd.mk (hB.lower B1.out.size)
  have HL1 := Sd.mk (below_then B1.out hL)
  clear hB hL B1
  go_upto_region 4 with (fail)
  clear hmk e1 e1b e2
  generalize w1.heap.size = g at HB1 ⊢
  clear w1
  go_wp2
  go_loopg [8] m (fun gk v8 wr => ∃ i, i + gk = m ∧ v8 = .int .i64 (i : Nat) ∧ Sd (∃ B, (∀ j, j < i → B j = c) ∧ Bys w.heap.size g m m B wr) ∧ Sd (Below w.heap.size w wr))
  case atStart => exact ⟨0, by omega, rfl, ⟨_, fun j hj => by omega, HB1.out⟩, HL1⟩
  case round =>
    clear HB1 HL1
    obtain ⟨i, hi, rfl, HB, HL⟩ := hrel
    by_cases hlt : i < m
    · obtain ⟨B, hB1, hB2⟩ := HB.out
      have S1 := Sd.mk hB1
      have HB2 := Sd.mk hB2
      have hii : (i : Int) < m := by omega
      have hib : i < m := hlt
      clear hB1 hB2 HB
      have f0 := HB2.out.fr i hlt
      obtain ⟨v0, h0⟩ := Option.isSome_iff_exists.1 (HB2.out.is i hlt)
      go_wp2
      clear f0 h0
      have HB3 := Sd.mk (Bys.put HB2.out hlt c)
      have HL3 := Sd.mk (HL.out.setCell (p := ⟨g, i, none⟩) HB2.out.ge (.int .u8 c))
      go_roundg (gk - 1)
      case measure => omega
      case rel => exact ⟨i + 1, by omega, by go_num, ⟨_, fun j hj => by
        by_cases hji : j = i
        · subst hji; exact upd_same _ _ _
        · rw [upd_ne hji]; exact S1.out j (by omega), HB3.out⟩, HL3⟩
    · have hii : decide (i < m) = false := decide_eq_false (by omega)
      obtain rfl : i = m := by omega
      have HB2 := Sd.mk (show Bys w.heap.size g i i (byt (rep i c)) wr from by
        obtain ⟨B, h1, h2⟩ := HB.out
        exact h2.congr fun j hj => by rw [h1 j hj, byt_rep hj cb])
      obtain ⟨S, hS⟩ : ∃ S, S = rep i c := ⟨_, rfl⟩
      have hSs : S.size = i := by rw [hS]; exact rep_size _ _
      rw [← hS] at HB2
      have HSS := Sd.mk hSs
      clear HB hS hSs
      go_upto_if 28 with (fail)
      go_cut [9] from 29 to 31 (fun v9 wx => ∃ K, v9 = .string K ∧ Sd (K.size ≤ 32) ∧ Sd (Bys w.heap.size g i i (byt S) wx) ∧ Sd (Below w.heap.size w wx))
      case first =>
        cases key with
        | false =>
          go_wp2
          go_meet
          exact ⟨E0, rfl, ⟨by decide⟩, HB2, HL⟩
        | true =>
          have hk1 : (convert 34 9 (.slice (some ⟨wr.heap.size, 0, none⟩) 1 1)).run Try.prog (wr.alloc (.cells #[.int .u8 c] 5)) = .ok (.string (rep 1 c)) (wr.alloc (.cells #[.int .u8 c] 5)) :=
            bys_string (bys_one wr c) (rep 1 c) (rep_size _ _) (fun j hj => byt_rep hj cb)
          go_wp2
          go_meet
          exact ⟨rep 1 c, rfl, ⟨by rw [rep_size]; decide⟩, ⟨HB2.out.below (below_one wr _)⟩, ⟨below_then HL.out (below_one wr _)⟩⟩
      case rest =>
        clear HB2 HL
        obtain ⟨K, rfl, HK, HB, HL⟩ := hcut
        obtain ⟨h, hh⟩ : ∃ h, keyed K S = h := ⟨_, rfl⟩
        have HH := Sd.mk hh
        clear hh
        have cv := bys_string HB.out S HSS.out (fun _ _ => rfl)
        go_wp2_with (first
          | (go_at_call 18; (with_reducible refine (keyed_ok _ K S HK.out (by have := HSS.out; omega) h HH.out).mono ?_); rintro e w2 ⟨rfl, hb2⟩
             have HB2 := Sd.mk (HB.out.below hb2)
             have HL2 := Sd.mk (below_then HL.out hb2)
             clear cv HB HL hb2
             have cv := bys_string HB2.out S HSS.out (fun _ _ => rfl))
          | (go_at_call 14; (with_reducible refine (refk_ok _ K S HK.out (by have := HSS.out; omega) h HH.out).mono ?_); rintro e w3 ⟨rfl, hb3⟩; have HL3 := Sd.mk (below_then HL2.out hb3); clear cv HL2 hb3))
        go_ret
        exact ⟨rfl, HL3.out⟩
end Go.Proofs.Ytmilnaiehebalaa.Dig

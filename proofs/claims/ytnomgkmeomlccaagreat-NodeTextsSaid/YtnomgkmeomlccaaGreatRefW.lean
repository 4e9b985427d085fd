/- The reference's block, walked. -/
import Derived.Test.YtnomgkmeomlccaaGreatRefB
set_option linter.unusedVariables false
set_option linter.unusedSimpArgs false
namespace Go.Proofs.YtnomgkmeomlccaaGreat.RefB
open Go.RowKit Rd Api Own Mv Word Vec Mix Tab Step

/-- a word's bytes, the last one first -/
def pw (B : Nat → Nat) (i : Nat) : Nat → Nat
  | 0 => 0
  | n + 1 => pw B i n * 256 + B (4 * i + (3 - n))
theorem pw4 (B : Nat → Nat) (i : Nat) : pw B i 4 = mw B i := by
  simp only [pw, mw, Nat.sub_zero, Nat.reduceSub, Nat.add_zero]
  omega
theorem pw_lt {B : Nat → Nat} (h : ∀ i, B i < 256) (i : Nat) : ∀ n, n < 4 → pw B i n < 16777216
  | 0, _ => by simp only [pw]; omega
  | 1, _ => by have := h (4 * i + 3); simp only [pw, Nat.sub_zero]; omega
  | 2, _ => by have := h (4 * i + 3); have := h (4 * i + 2); simp only [pw, Nat.sub_zero, Nat.reduceSub]; omega
  | 3, _ => by have := h (4 * i + 3); have := h (4 * i + 2); have := h (4 * i + 1); simp only [pw, Nat.sub_zero, Nat.reduceSub]; omega

theorem rounds_succ (M : Nat → Nat) (n : Nat) (V : Nat → Nat) : inner M n 8 (rounds M n V) = rounds M (n + 1) V := rfl
theorem at_lo : ∀ i, i < 4 → at4 i 0 = i ∧ at4 i 1 = 4 + i ∧ at4 i 2 = 8 + i ∧ at4 i 3 = 12 + i := by decide
theorem at_hi : ∀ i, i < 4 → at4 (4 + i) 0 = i ∧ at4 (4 + i) 1 = 4 + (i + 1) % 4 ∧ at4 (4 + i) 2 = 8 + (i + 2) % 4 ∧ at4 (4 + i) 3 = 12 + (i + 3) % 4 := by decide

/-- the numbers of the loop's other half -/
theorem nums_hi (i : Nat) (h : i < 4) : ∃ m1 o1 n1 m2 o2 n2 m3 o3 n3 : Nat,
    IntKind.i64.wrap ((i : Int) + 1) = (m1 : Int) ∧ ((m1 : Int)).tmod 4 = (o1 : Int) ∧ IntKind.i64.wrap (4 + (o1 : Int)) = (n1 : Int) ∧
    IntKind.i64.wrap ((i : Int) + 2) = (m2 : Int) ∧ ((m2 : Int)).tmod 4 = (o2 : Int) ∧ IntKind.i64.wrap (8 + (o2 : Int)) = (n2 : Int) ∧
    IntKind.i64.wrap ((i : Int) + 3) = (m3 : Int) ∧ ((m3 : Int)).tmod 4 = (o3 : Int) ∧ IntKind.i64.wrap (12 + (o3 : Int)) = (n3 : Int) ∧
    at4 (4 + i) 0 = i ∧ at4 (4 + i) 1 = n1 ∧ at4 (4 + i) 2 = n2 ∧ at4 (4 + i) 3 = n3 := by
  obtain ⟨a0, a1, a2, a3⟩ := at_hi i h
  refine ⟨i + 1, (i + 1) % 4, 4 + (i + 1) % 4, i + 2, (i + 2) % 4, 8 + (i + 2) % 4, i + 3, (i + 3) % 4, 12 + (i + 3) % 4, ?_, ?_, ?_, ?_, ?_, ?_, ?_, ?_, ?_, a0, a1, a2, a3⟩
  all_goals clear a0 a1 a2 a3
  · rw [IntKind.wrap_i64]; omega
  · rw [Int.tmod_eq_emod_of_nonneg (by omega)]; omega
  · rw [IntKind.wrap_i64]; omega
  · rw [IntKind.wrap_i64]; omega
  · rw [Int.tmod_eq_emod_of_nonneg (by omega)]; omega
  · rw [IntKind.wrap_i64]; omega
  · rw [IntKind.wrap_i64]; omega
  · rw [Int.tmod_eq_emod_of_nonneg (by omega)]; omega
  · rw [IntKind.wrap_i64]; omega

/-- sixty-four bytes of a slice -/
def Bts (W : World) (gb ob : Nat) (B : Nat → Nat) : Prop := gb < W.heap.size ∧ ∀ i, i < 64 → W.cell? ⟨gb, ob + i, none⟩ = some (.int .u8 (B i))

set_option maxHeartbeats 8000000 in
set_option maxRecDepth 100000 in
theorem block_any (w : World) (H : Nat → Nat) (gb ob cp : Nat) (B : Nat → Nat) (size : Nat) (last : Bool) (hH : Wd H) (hB : ∀ i, B i < 256) (hb : Bts w gb ob B) (hs : size < 18446744073709551616) :
    Calls Tryz.prog 65 #[.agg (vec .u64 8 H), .slice (some ⟨gb, ob, none⟩) 64 cp, .int .u64 size, .bool last] w fun e w' => e = .returned (.agg (vec .u64 8 (blockF H B size last))) ∧ Below w.heap.size w w' := by
  have X := Sd.mk (rtp_start w H)
  have HB := Sd.mk hb.2
  have lb := hb.1
  clear hb
  go_enter Tryz.func65, Tryz.ntmps65
  go_wp2
  generalize World.alloc _ _ = W at X ⊢
  go_loopg [11] 16 (fun gk v11 wr => ∃ k, k + gk = 16 ∧ v11 = .int .i64 (k : Nat) ∧ Sd (∃ M, (∀ i, i < k → M i = mw B i) ∧ (∀ i, k ≤ i → M i = 0) ∧ Rtp w H M (fun _ => 0) wr))
  case atStart => exact ⟨0, rfl, rfl, ⟨⟨_, fun i hi => by omega, fun i _ => rfl, X.out⟩⟩⟩
  case round =>
    clear X
    obtain ⟨k, hk, rfl, HM⟩ := hrel
    obtain ⟨go, hgo⟩ : ∃ z, z = gk - 1 := ⟨_, rfl⟩
    by_cases hlt : k < 16
    -- <L1
    · have hki : (k : Int) < 16 := by omega
      go_wp2
      go_loopg [12] 4 (fun gk v12 wr => ∃ n, n + gk = 4 ∧ v12 = .int .i64 (3 - (n : Nat) : Int) ∧ Sd (∃ M, (∀ i, i < k → M i = mw B i) ∧ M k = pw B k n ∧ (∀ i, k < i → M i = 0) ∧ Rtp w H M (fun _ => 0) wr))
      case atStart =>
        obtain ⟨M, h1, h2, h3⟩ := HM.out
        exact ⟨0, rfl, rfl, ⟨M, h1, h2 k (Nat.le_refl _), fun i hi => h2 i (by omega), h3⟩⟩
      case round =>
        clear HM
        obtain ⟨n, hn, rfl, HM⟩ := hrel
        by_cases hn4 : n < 4
        -- <L1b
        · obtain ⟨M, h1, h2, h3, h4⟩ := HM.out
          have S1 := Sd.mk h1
          have S2 := Sd.mk h2
          have S3 := Sd.mk h3
          have HX := Sd.mk h4
          clear h1 h2 h3 h4 HM
          have hni : (0 : Int) ≤ 3 - (n : Int) := by omega
          obtain ⟨y, hy⟩ : ∃ z, z = pw B k n := ⟨_, rfl⟩
          have ly : y < 16777216 := by rw [hy]; exact pw_lt hB k n hn4
          obtain ⟨p, hp⟩ : ∃ z, z = 4 * k + (3 - n) := ⟨_, rfl⟩
          obtain ⟨c, hc⟩ : ∃ z, z = B p := ⟨_, rfl⟩
          have lc : c < 256 := by rw [hc]; exact hB _
          obtain ⟨q, hq⟩ : ∃ z, z = 4 * k := ⟨_, rfl⟩
          have e1 : IntKind.i64.wrap (4 * (k : Int)) = (q : Int) := by rw [IntKind.wrap_i64]; omega
          have e2 : IntKind.i64.wrap ((q : Int) + (3 - (n : Int))) = (p : Int) := by rw [IntKind.wrap_i64]; omega
          have e3 : (p : Int) < 64 := by omega
          have e4 : IntKind.u64.wrap ((y : Int) * 256) = (y : Int) * 256 := keep_u64 (by omega) (by omega)
          have e5 : IntKind.u64.wrap (c : Int) = c := keep_u64 (by omega) (by omega)
          obtain ⟨z, hz⟩ : ∃ z, z = y * 256 + c := ⟨_, rfl⟩
          have e6 : IntKind.u64.wrap ((y : Int) * 256 + (c : Int)) = (z : Int) := by rw [keep_u64 (by omega) (by omega)]; omega
          have c0 := HX.out.m.cell (i := k) hlt (S2.out.trans hy.symm)
          have c1 : wr.cell? ⟨gb, ob + p, none⟩ = some (.int .u8 c) := by rw [HX.out.bel.cell (p := ⟨gb, ob + p, none⟩) lb, hc]; exact HB.out p (by omega)
          have HP := Sd.mk (show z = pw B k (n + 1) by rw [hz, hy, hc, hp]; rfl)
          have HY := Sd.mk hy
          clear hy hp hc hq hz
          go_wp2
          go_still_tail 14, (by kernel_rfl)
          change wpList _ _ _ _ _ wr.drew
          have HX2 := Sd.mk HX.out.drew
          clear HX c0 c1
          generalize wr.drew = w2 at HX2 ⊢
          have c0 := HX2.out.m.cell (i := k) hlt (S2.out.trans HY.out.symm)
          have f0 := HX2.out.m.frz k
          go_wp2
          clear c0 f0
          have HX3 := Sd.mk (HX2.out.setM (i := k) hlt z)
          go_roundg (gk - 1)
          case measure => omega
          case rel =>
            exact ⟨n + 1, by omega, by go_num, ⟨_, fun i hi => by rw [upd_ne (by omega)]; exact S1.out i hi, by rw [upd_same, HP.out], fun i hi => by rw [upd_ne (by omega)]; exact S3.out i hi, HX3.out⟩⟩
        -- L1b>
        · obtain rfl : n = 4 := by omega
          go_wp2
          go_roundg go
          case measure => omega
          case rel =>
            exact ⟨k + 1, by omega, by go_num, ⟨by
              obtain ⟨M, h1, h2, h3, h4⟩ := HM.out
              exact ⟨M, fun i hi => by
                by_cases h : i = k
                · subst h; rw [h2, pw4]
                · exact h1 i (by omega), fun i hi => h3 i (by omega), h4⟩⟩⟩
    -- L1>
    · have hki : decide ((k : Int) < 16) = false := decide_eq_false (by omega)
      obtain rfl : k = 16 := by omega
      have HX := Sd.mk (show Rtp w H (mw B) (fun _ => 0) wr from by obtain ⟨M, h1, -, h2⟩ := HM.out; exact h2.toM h1)
      clear HM hk hlt
      go_wp2_with (first
        | (go_at_call 64; (with_reducible refine (iv_any _).mono ?_); rintro e w5 ⟨rfl, hb5⟩
           have hst := run_storeCells_new (P := Tryz.prog) w5 133 #[.int .u64 0, .int .u64 0, .int .u64 0, .int .u64 0, .int .u64 0, .int .u64 0, .int .u64 0, .int .u64 0] (vec .u64 8 iv) (by rw [vec_size]; kernel_rfl) (by rw [vec_size]; rfl) (vec_one _ _ _)
           have hsz := vec_size .u64 8 iv
           have HX2 := Sd.mk ((HX.out.below hb5).below (below_one w5 (.cells (vec .u64 8 iv) 133)))
           have HI := Sd.mk (show VB .u64 8 133 w5.heap.size iv (w5.alloc (.cells (vec .u64 8 iv) 133)) from blk_new _ _)
           have Hg := (HX.out.below hb5).lt
           clear HX hb5))
      clear hst hsz
      generalize w5.alloc _ = W6 at HX2 HI ⊢
      generalize w5.heap.size = gi at HI Hg ⊢
      clear w5 wr
      go_loopg [14] 8 (fun gk v14 wr => ∃ k, k + gk = 8 ∧ v14 = .int .i64 (k : Nat) ∧ Sd (VB .u64 8 133 gi iv wr ∧ ∃ V, (∀ i, i < k → V i = H i ∧ V (8 + i) = iv i) ∧ Rtp w H (mw B) V wr))
      case atStart => exact ⟨0, rfl, rfl, ⟨HI.out, _, fun i hi => by omega, HX2.out⟩⟩
      case round =>
        clear HX2 HI
        obtain ⟨k, hk, rfl, HM⟩ := hrel
        by_cases hlt : k < 8
        -- <L2
        · obtain ⟨hI, V, hV, hS⟩ := HM.out
          have HI := Sd.mk hI
          have SV := Sd.mk hV
          have SS := Sd.mk hS
          clear hI hV hS HM
          obtain ⟨k8, hk8⟩ : ∃ z, z = 8 + k := ⟨_, rfl⟩
          have hk8i : (k : Int) < 8 := by omega
          have hk16i : (k : Int) < 16 := by omega
          have hk8j : (k8 : Int) < 16 := by omega
          have hw8 : IntKind.i64.wrap (8 + (k : Int)) = (k8 : Int) := by rw [IntKind.wrap_i64]; omega
          have hg1 : gi ≠ w.heap.size + 1 + 1 + 1 := by omega
          have Hk := Sd.mk hk8
          clear hk8
          have cH := SS.out.h.cell (i := k) hlt rfl
          have ca := SS.out.v.cell (i := k) (by omega) rfl
          have fa := SS.out.v.frz k
          go_upto_region 14 with (fail)
          clear cH ca fa
          have S2 := Sd.mk (SS.out.setV (i := k) (by omega) (H k))
          have I2 := Sd.mk (HI.out.other hg1 k (.int .u64 (H k)))
          clear SS HI
          generalize wr.setCell _ _ = w7 at S2 I2 ⊢
          have cI := I2.out.cell (i := k) hlt rfl
          have cb := S2.out.v.cell (i := k8) (by have := Hk.out; omega) rfl
          have fb := S2.out.v.frz k8
          go_wp2
          clear cI cb fb
          have hk8 := Hk.out
          have HS := Sd.mk (S2.out.setV (i := k8) (by omega) (iv k))
          have HJ := Sd.mk (I2.out.other hg1 k8 (.int .u64 (iv k)))
          go_roundg (gk - 1)
          case measure => omega
          case rel =>
            exact ⟨k + 1, by omega, by go_num, ⟨HJ.out, _, fun i hi => by
              by_cases h : i = k
              · subst h; rw [Hk.out, upd_same, upd_ne (by omega), upd_same]; exact ⟨rfl, rfl⟩
              · rw [upd_ne (by omega), upd_ne h, upd_ne (by omega), upd_ne (by omega)]; exact SV.out i (by omega), HS.out⟩⟩
        -- L2>
        · have hk8 : decide ((k : Int) < 8) = false := decide_eq_false (by omega)
          obtain rfl : k = 8 := by omega
          have HX := Sd.mk (show Rtp w H (mw B) (two H) wr from by
            obtain ⟨-, V, h1, h2⟩ := HM.out
            refine h2.toV fun i hi => ?_
            unfold two
            by_cases h : i < 8
            · rw [if_pos h]; exact (h1 i h).1
            · rw [if_neg h, ← (h1 (i - 8) (by omega)).2]; congr 1; omega)
          clear HM hk hlt
          obtain ⟨a12, h12⟩ : ∃ z, z = two H 12 := ⟨_, rfl⟩
          obtain ⟨a13, h13⟩ : ∃ z, z = two H 13 := ⟨_, rfl⟩
          have l12 : a12 < 4294967296 := by rw [h12]; exact hH.two _
          have l13 : a13 < 4294967296 := by rw [h13]; exact hH.two _
          obtain ⟨s0, hs0⟩ : ∃ z, z = size % 4294967296 := ⟨_, rfl⟩
          obtain ⟨s1, hs1⟩ : ∃ z, z = size / 4294967296 := ⟨_, rfl⟩
          have ls0 : s0 < 4294967296 := by omega
          have ls1 : s1 < 4294967296 := by omega
          have k0 : ((size : Int)).tmod 4294967296 = (s0 : Int) := by rw [Int.tmod_eq_emod_of_nonneg (by omega)]; omega
          have k1 : ((size : Int)).tdiv 4294967296 = (s1 : Int) := by rw [Int.tdiv_eq_ediv_of_nonneg (by omega)]; omega
          have k2 : ((size : Int)) / 4294967296 = (s1 : Int) := by omega
          have k3 : ((size : Int)) % 4294967296 = (s0 : Int) := by omega
          have x0 := xor64 a12 s0 l12 ls0
          have x1 := xor64 a13 s1 l13 ls1
          have m0 := xor_lt l12 ls0
          have m1 := xor_lt l13 ls1
          have c12 := HX.out.v.cell (i := 12) (by decide) h12.symm
          have f12 := HX.out.v.frz 12
          have H12 := Sd.mk h12
          have H13 := Sd.mk h13
          have HS0 := Sd.mk hs0
          have HS1 := Sd.mk hs1
          clear h12 h13 hs0 hs1
          go_upto_region 16 with (fail)
          clear c12 f12
          have HX1 := Sd.mk (HX.out.setV (i := 12) (by decide) (a12 ^^^ s0))
          clear HX
          generalize wr.setCell _ _ = w7 at HX1 ⊢
          have c13 := HX1.out.v.cell (i := 13) (by decide) ((upd_ne (by decide)).trans H13.out.symm)
          have f13 := HX1.out.v.frz 13
          go_upto_region 17 with (fail)
          clear c13 f13
          have HX2 := Sd.mk (HX1.out.setV (i := 13) (by decide) (a13 ^^^ s1))
          clear HX1
          generalize w7.setCell _ _ = w8 at HX2 ⊢
          have HX := Sd.mk (show Rtp w H (mw B) (upd (upd (two H) 12 (two H 12 ^^^ size % 4294967296)) 13 (upd (two H) 12 (two H 12 ^^^ size % 4294967296) 13 ^^^ size / 4294967296)) w8 from by
            rw [upd_ne (j := 13) (by decide), ← H12.out, ← H13.out, ← HS0.out, ← HS1.out]; exact HX2.out)
          clear HX2 H12 H13 HS0 HS1 k0 k1 k2 k3 x0 x1 m0 m1
          go_upto_if 71 with (fail)
          go_cut [] from 72 (fun wx => Sd (Rtp w H (mw B) (init H size last) wx))
          case first =>
            cases last with
            | false =>
              go_wp2
              go_meet
              exact ⟨HX.out⟩
            | true =>
              obtain ⟨a14, h14⟩ : ∃ z, z = two H 14 := ⟨_, rfl⟩
              have l14 : a14 < 4294967296 := by rw [h14]; exact hH.two _
              have c14 := HX.out.v.cell (i := 14) (by decide) ((upd_ne (by decide)).trans ((upd_ne (by decide)).trans h14.symm))
              have f14 := HX.out.v.frz 14
              have k14 : IntKind.u64.wrap (4294967295 - (a14 : Int)) = ((4294967295 - a14 : Nat) : Int) := by rw [keep_u64 (by omega) (by omega)]; omega
              obtain ⟨n14, hn14⟩ : ∃ z, z = 4294967295 - a14 := ⟨_, rfl⟩
              rw [← hn14] at k14
              have N14 := Sd.mk hn14
              have H14 := Sd.mk h14
              clear h14 hn14
              go_wp2
              go_meet
              refine ⟨?_⟩
              have := HX.out.setV (i := 14) (by decide) n14
              unfold init
              dsimp only
              rw [if_pos rfl, show upd (upd (two H) 12 (two H 12 ^^^ size % 4294967296)) 13 (upd (two H) 12 (two H 12 ^^^ size % 4294967296) 13 ^^^ size / 4294967296) 14 = a14 from (upd_ne (by decide)).trans ((upd_ne (by decide)).trans H14.out.symm), ← N14.out]
              exact this
          case rest =>
            have HX := hcut
            have L0 := Sd.mk (hH.init hs last)
            clear hcut
            generalize hV0 : init H size last = V0 at HX L0
            have HV0 := Sd.mk hV0.symm
            clear hV0
            go_wp2
            go_loopg [15] 10 (fun gk v15 wr => ∃ r, r + gk = 10 ∧ v15 = .int .i64 (r : Nat) ∧ Sd (Rtp w H (mw B) (rounds (mw B) r V0) wr))
            case atStart => exact ⟨0, rfl, rfl, HX⟩
            case round =>
              clear HX
              obtain ⟨r, hr, rfl, HX⟩ := hrel
              obtain ⟨go, hgo⟩ : ∃ z, z = gk - 1 := ⟨_, rfl⟩
              by_cases hlt : r < 10
              -- <L3
              · have hri : (r : Int) < 10 := by omega
                have RS := Sd.mk (rows_ok r hlt)
                have RW := Sd.mk (fun W => row_any W r hlt)
                generalize rowStr r = rs at RS RW
                go_wp2_with (first
                  | (go_at_call 96; (with_reducible refine (RW.out _).mono ?_); rintro e w' ⟨rfl, rfl⟩))
                go_loopg [17] 4 (fun gk v17 wr => ∃ i, i + gk = 4 ∧ v17 = .int .i64 (i : Nat) ∧ Sd (Rtp w H (mw B) (inner (mw B) r (i) (rounds (mw B) r V0)) wr))
                case atStart => exact ⟨0, rfl, rfl, HX⟩
                case round =>
                  clear HX
                  obtain ⟨i, hi, rfl, HX⟩ := hrel
                  by_cases hlt4 : i < 4
                  -- <L4
                  · have hii : (i : Int) < 4 := by omega
                    obtain ⟨n1, hn1⟩ : ∃ z, z = 4 + i := ⟨_, rfl⟩
                    obtain ⟨n2, hn2⟩ : ∃ z, z = 8 + i := ⟨_, rfl⟩
                    obtain ⟨n3, hn3⟩ : ∃ z, z = 12 + i := ⟨_, rfl⟩
                    have wn1 : IntKind.i64.wrap (4 + (i : Int)) = (n1 : Int) := by rw [IntKind.wrap_i64]; omega
                    have wn2 : IntKind.i64.wrap (8 + (i : Int)) = (n2 : Int) := by rw [IntKind.wrap_i64]; omega
                    have wn3 : IntKind.i64.wrap (12 + (i : Int)) = (n3 : Int) := by rw [IntKind.wrap_i64]; omega
                    have hat : at4 i 0 = i ∧ at4 i 1 = n1 ∧ at4 i 2 = n2 ∧ at4 i 3 = n3 := by rw [hn1, hn2, hn3]; exact at_lo i hlt4
                    have h4 := at4_ok i (by omega)
                    rw [hat.1, hat.2.1, hat.2.2.1, hat.2.2.2] at h4
                    have H4 := Sd.mk h4
                    obtain ⟨i2, hi2⟩ : ∃ z, z = 2 * i := ⟨_, rfl⟩
                    obtain ⟨i3, hi3⟩ : ∃ z, z = 2 * i + 1 := ⟨_, rfl⟩
                    have wd : IntKind.i64.wrap (2 * (i : Int)) = (i2 : Int) := by rw [IntKind.wrap_i64]; omega
                    have wi3 : IntKind.i64.wrap ((i2 : Int) + 1) = (i3 : Int) := by rw [IntKind.wrap_i64]; omega
                    have b2 : (i2 : Int) < 16 := by omega
                    have b3 : (i3 : Int) < 16 := by omega
                    have hrs := RS.out.1
                    have db2 : i2 < rs.size := by clear hat h4; omega
                    have db3 : i3 < rs.size := by clear hat h4; omega
                    obtain ⟨c2, g2, r2⟩ := byt_at (b := rs) (i := i2) db2
                    obtain ⟨c3, g3, r3⟩ := byt_at (b := rs) (i := i3) db3
                    obtain ⟨u2, v2⟩ := RS.out.2 i2 (by omega)
                    obtain ⟨u3, v3⟩ := RS.out.2 i3 (by omega)
                    rw [r2] at u2 v2
                    rw [r3] at u3 v3
                    have P2 := Sd.mk (fun W => place_any W c2.toNat c2.toNat_lt u2)
                    have P3 := Sd.mk (fun W => place_any W c3.toNat c3.toNat_lt u3)
                    rw [v2] at P2
                    rw [v3] at P3
                    obtain ⟨j2, hj2⟩ : ∃ z, z = tab r i2 := ⟨_, rfl⟩
                    obtain ⟨j3, hj3⟩ : ∃ z, z = tab r i3 := ⟨_, rfl⟩
                    rw [← hj2] at P2
                    rw [← hj3] at P3
                    have lj2 : j2 < 16 := by rw [hj2]; exact tab_lt r _ hlt (by omega)
                    have lj3 : j3 < 16 := by rw [hj3]; exact tab_lt r _ hlt (by omega)
                    have bj2 : (j2 : Int) < 16 := by omega
                    have bj3 : (j3 : Int) < 16 := by omega
                    obtain ⟨x2, hx2⟩ : ∃ z, z = mw B j2 := ⟨_, rfl⟩
                    obtain ⟨x3, hx3⟩ : ∃ z, z = mw B j3 := ⟨_, rfl⟩
                    have lx2 : x2 < 4294967296 := by rw [hx2]; exact Wd.mw hB _
                    have lx3 : x3 < 4294967296 := by rw [hx3]; exact Wd.mw hB _
                    have y2 := HX.out.m.cell lj2 hx2.symm
                    have y3 := HX.out.m.cell lj3 hx3.symm
                    have HE := Sd.mk (show stp (mw B) r (inner (mw B) r i (rounds (mw B) r V0)) i = mixV (inner (mw B) r i (rounds (mw B) r V0)) i n1 n2 n3 x2 x3 from by
                      unfold stp; rw [hat.1, hat.2.1, hat.2.2.1, hat.2.2.2, ← hi3, ← hi2, ← hj2, ← hj3, ← hx2, ← hx3])
                    have LV := Sd.mk ((L0.out.rounds (M := mw B) r).inner (M := mw B) r i)
                    have HE' := HE
                    clear hat h4 hj2 hj3 hx2 hx3 u2 u3 v2 v3 r2 r3 HE' hi2 hi3 hn1 hn2 hn3
                    go_wp2
                    refine wp_region_still_tail 23 (by kernel_rfl) (by kernel_rfl) ?_
                    simp only [List.take_succ_cons, List.take_zero, List.drop_succ_cons, List.drop_zero]
                    refine wpStill_step (fun K hK => ?_)
                    refine still_load_vec (by kernel_rfl) 173 _ rfl rfl (show VB .u64 16 173 _ _ _ from HX.out.v) Tryz.underlying173 (by kernel_rfl) (hK _ ?_)
                    clear hK K
                    repeat still_step
                    still_call (P2.out _)
                    repeat still_step
                    still_call (P3.out _)
                    repeat still_step
                    refine wpStill_nil ?_
                    change wpList _ _ _ _ _ wr.drew
                    have HX2 := Sd.mk HX.out.drew
                    clear HX y2 y3
                    generalize wr.drew = w13 at HX2 ⊢
                    go_wp2_with (first
                      | (go_at_call 97; (refine (refmix_any _ _ i n1 n2 n3 x2 x3 (fun j => LV.out j) lx2 lx3 H4.out).mono ?_); rintro e w14 ⟨rfl, hb14⟩
                         have HX5 := Sd.mk (HX2.out.below hb14)
                         have hst := store_cells_vec (P := Tryz.prog) HX5.out.v (mixV (inner (mw B) r i (rounds (mw B) r V0)) i n1 n2 n3 x2 x3)
                         have hsz := vec_size .u64 16 (mixV (inner (mw B) r i (rounds (mw B) r V0)) i n1 n2 n3 x2 x3)
                         clear HX2 hb14))
                    have HX6 := HX5.out.rowV (mixV (inner (mw B) r i (rounds (mw B) r V0)) i n1 n2 n3 x2 x3)
                    rw [← HE.out] at HX6
                    have HX7 := Sd.mk HX6
                    clear HX6
                    rw [← HE.out]
                    go_roundg (gk - 1)
                    case measure => omega
                    case rel => exact ⟨i + 1, by omega, by go_num, HX7⟩
                  -- L4>
                  · have hii : decide ((i : Int) < 4) = false := decide_eq_false (by omega)
                    obtain rfl : i = 4 := by omega
                    go_wp2
                    go_loopg [18] 4 (fun gk v18 wr => ∃ i j, i + gk = 4 ∧ 4 + i = j ∧ v18 = .int .i64 (i : Nat) ∧ Sd (Rtp w H (mw B) (inner (mw B) r j (rounds (mw B) r V0)) wr))
                    case atStart => exact ⟨0, 4, rfl, rfl, rfl, HX⟩
                    case round =>
                      clear HX
                      obtain ⟨i, j, hi, hj, rfl, HX⟩ := hrel
                      by_cases hlt4 : i < 4
                      -- <L5
                      · have hii : (i : Int) < 4 := by omega
                        obtain ⟨m1, o1, n1, m2, o2, n2, m3, o3, n3, wm1, wo1, wn1, wm2, wo2, wn2, wm3, wo3, wn3, hat⟩ := nums_hi i hlt4
                        have QM := Sd.mk (show m1 = i + 1 from by clear hat wo1 wn1 wm2 wo2 wn2 wm3 wo3 wn3; rw [IntKind.wrap_i64] at wm1; omega)
                        rw [hj] at hat
                        have h4 := at4_ok j (by omega)
                        rw [hat.1, hat.2.1, hat.2.2.1, hat.2.2.2] at h4
                        have H4 := Sd.mk h4
                        obtain ⟨i2, hi2⟩ : ∃ z, z = 2 * j := ⟨_, rfl⟩
                        obtain ⟨i3, hi3⟩ : ∃ z, z = 2 * j + 1 := ⟨_, rfl⟩
                        obtain ⟨d, hd⟩ : ∃ z, z = 2 * i := ⟨_, rfl⟩
                        have wd : IntKind.i64.wrap (2 * (i : Int)) = (d : Int) := by rw [IntKind.wrap_i64]; omega
                        have wi2 : IntKind.i64.wrap (8 + (d : Int)) = (i2 : Int) := by rw [IntKind.wrap_i64]; omega
                        have wi3 : IntKind.i64.wrap (9 + (d : Int)) = (i3 : Int) := by rw [IntKind.wrap_i64]; omega
                        have wi4 : IntKind.i64.wrap ((d : Int) + 9) = (i3 : Int) := by rw [Int.add_comm]; exact wi3
                        have b2 : (i2 : Int) < 16 := by omega
                        have b3 : (i3 : Int) < 16 := by omega
                        have hrs := RS.out.1
                        have db2 : i2 < rs.size := by clear hat h4 wm1 wo1 wn1 wm2 wo2 wn2 wm3 wo3 wn3; omega
                        have db3 : i3 < rs.size := by clear hat h4 wm1 wo1 wn1 wm2 wo2 wn2 wm3 wo3 wn3; omega
                        obtain ⟨c2, g2, r2⟩ := byt_at (b := rs) (i := i2) db2
                        obtain ⟨c3, g3, r3⟩ := byt_at (b := rs) (i := i3) db3
                        obtain ⟨u2, v2⟩ := RS.out.2 i2 (by omega)
                        obtain ⟨u3, v3⟩ := RS.out.2 i3 (by omega)
                        rw [r2] at u2 v2
                        rw [r3] at u3 v3
                        have P2 := Sd.mk (fun W => place_any W c2.toNat c2.toNat_lt u2)
                        have P3 := Sd.mk (fun W => place_any W c3.toNat c3.toNat_lt u3)
                        rw [v2] at P2
                        rw [v3] at P3
                        obtain ⟨j2, hj2⟩ : ∃ z, z = tab r i2 := ⟨_, rfl⟩
                        obtain ⟨j3, hj3⟩ : ∃ z, z = tab r i3 := ⟨_, rfl⟩
                        rw [← hj2] at P2
                        rw [← hj3] at P3
                        have lj2 : j2 < 16 := by rw [hj2]; exact tab_lt r _ hlt (by omega)
                        have lj3 : j3 < 16 := by rw [hj3]; exact tab_lt r _ hlt (by omega)
                        have bj2 : (j2 : Int) < 16 := by omega
                        have bj3 : (j3 : Int) < 16 := by omega
                        obtain ⟨x2, hx2⟩ : ∃ z, z = mw B j2 := ⟨_, rfl⟩
                        obtain ⟨x3, hx3⟩ : ∃ z, z = mw B j3 := ⟨_, rfl⟩
                        have lx2 : x2 < 4294967296 := by rw [hx2]; exact Wd.mw hB _
                        have lx3 : x3 < 4294967296 := by rw [hx3]; exact Wd.mw hB _
                        have y2 := HX.out.m.cell lj2 hx2.symm
                        have y3 := HX.out.m.cell lj3 hx3.symm
                        have HE := Sd.mk (show stp (mw B) r (inner (mw B) r j (rounds (mw B) r V0)) j = mixV (inner (mw B) r j (rounds (mw B) r V0)) i n1 n2 n3 x2 x3 from by
                          unfold stp; rw [hat.1, hat.2.1, hat.2.2.1, hat.2.2.2, ← hi3, ← hi2, ← hj2, ← hj3, ← hx2, ← hx3])
                        have LV := Sd.mk ((L0.out.rounds (M := mw B) r).inner (M := mw B) r j)
                        have HE' := HE
                        clear hat h4 hj2 hj3 hx2 hx3 u2 u3 v2 v3 r2 r3 HE' hi2 hi3 hd
                        go_wp2
                        refine wp_region_still_tail 30 (by kernel_rfl) (by kernel_rfl) ?_
                        simp only [List.take_succ_cons, List.take_zero, List.drop_succ_cons, List.drop_zero]
                        refine wpStill_step (fun K hK => ?_)
                        refine still_load_vec (by kernel_rfl) 173 _ rfl rfl (show VB .u64 16 173 _ _ _ from HX.out.v) Tryz.underlying173 (by kernel_rfl) (hK _ ?_)
                        clear hK K
                        repeat still_step
                        still_call (P2.out _)
                        repeat still_step
                        still_call (P3.out _)
                        repeat still_step
                        refine wpStill_nil ?_
                        change wpList _ _ _ _ _ wr.drew
                        have HX2 := Sd.mk HX.out.drew
                        clear HX y2 y3
                        generalize wr.drew = w13 at HX2 ⊢
                        go_wp2_with (first
                          | (go_at_call 97; (refine (refmix_any _ _ i n1 n2 n3 x2 x3 (fun j => LV.out j) lx2 lx3 H4.out).mono ?_); rintro e w14 ⟨rfl, hb14⟩
                             have HX5 := Sd.mk (HX2.out.below hb14)
                             have hst := store_cells_vec (P := Tryz.prog) HX5.out.v (mixV (inner (mw B) r j (rounds (mw B) r V0)) i n1 n2 n3 x2 x3)
                             have hsz := vec_size .u64 16 (mixV (inner (mw B) r j (rounds (mw B) r V0)) i n1 n2 n3 x2 x3)
                             clear HX2 hb14))
                        have HX6 := HX5.out.rowV (mixV (inner (mw B) r j (rounds (mw B) r V0)) i n1 n2 n3 x2 x3)
                        rw [← HE.out] at HX6
                        have HX7 := Sd.mk HX6
                        clear HX6
                        rw [← HE.out]
                        go_roundg (gk - 1)
                        case measure => omega
                        case rel => exact ⟨i + 1, j + 1, by omega, by omega, by rw [QM.out], HX7⟩
                      -- L5>
                      · have hii : decide ((i : Int) < 4) = false := decide_eq_false (by omega)
                        obtain rfl : i = 4 := by omega
                        obtain rfl : j = 8 := by omega
                        go_wp2
                        go_roundg go
                        case measure => omega
                        case rel =>
                          have HY := HX.out
                          rw [rounds_succ] at HY
                          exact ⟨r + 1, by omega, by go_num, ⟨HY⟩⟩
              -- L3>
              · have hri : decide ((r : Int) < 10) = false := decide_eq_false (by omega)
                obtain rfl : r = 10 := by omega
                have LR := Sd.mk (L0.out.rounds (M := mw B) 10)
                clear hr hlt L0
                generalize hR : rounds (mw B) 10 V0 = VR at HX LR
                have HR := Sd.mk hR
                clear hR
                go_wp2
                go_loopg [19] 8 (fun gk v19 wr => ∃ k, k + gk = 8 ∧ v19 = .int .i64 (k : Nat) ∧ Sd (∃ H1, (∀ i, i < k → H1 i = ending H VR i) ∧ (∀ i, k ≤ i → H1 i = H i) ∧ Rtp w H1 (mw B) VR wr))
                case atStart => exact ⟨0, rfl, rfl, ⟨H, fun i hi => by omega, fun i _ => rfl, HX.out⟩⟩
                case round =>
                  clear HX
                  obtain ⟨k, hk, rfl, HM⟩ := hrel
                  by_cases hlt : k < 8
                  -- <L6
                  · obtain ⟨H1, h1, h2, h3⟩ := HM.out
                    have S1 := Sd.mk h1
                    have S2 := Sd.mk h2
                    have HX := Sd.mk h3
                    obtain ⟨y0, hy0⟩ : ∃ z, z = H k := ⟨_, rfl⟩
                    obtain ⟨y1, hy1⟩ : ∃ z, z = VR k := ⟨_, rfl⟩
                    obtain ⟨k8, hk8⟩ : ∃ z, z = 8 + k := ⟨_, rfl⟩
                    obtain ⟨y2, hy2⟩ : ∃ z, z = VR k8 := ⟨_, rfl⟩
                    have l0 : y0 < 4294967296 := by rw [hy0]; exact hH _
                    have l1 : y1 < 4294967296 := by rw [hy1]; exact LR.out _
                    have l2 : y2 < 4294967296 := by rw [hy2]; exact LR.out _
                    have z1 := xor64 y0 y1 l0 l1
                    have z2 := xor64 (y0 ^^^ y1) y2 (xor_lt l0 l1) l2
                    have z3 : (y0 ^^^ y1) ^^^ y2 = ending H VR k := by unfold ending; rw [hy0, hy1, hy2, hk8, Nat.xor_assoc]
                    have Z3 := Sd.mk z3
                    obtain ⟨y4, hy4⟩ : ∃ z, z = y0 ^^^ y1 := ⟨_, rfl⟩
                    rw [← hy4] at z1 z2
                    obtain ⟨y3, hy3⟩ : ∃ z, z = y4 ^^^ y2 := ⟨_, rfl⟩
                    rw [← hy3] at z2
                    have Y3 := Sd.mk (show y3 = ending H VR k from by rw [hy3, hy4]; exact Z3.out)
                    have hki : (k : Int) < 8 := by omega
                    have hkj : (k : Int) < 16 := by omega
                    have hk8i : (k8 : Int) < 16 := by omega
                    have hw8 : IntKind.i64.wrap (8 + (k : Int)) = (k8 : Int) := by rw [IntKind.wrap_i64]; omega
                    have c0 := HX.out.h.cell (i := k) hlt ((S2.out k (Nat.le_refl _)).trans hy0.symm)
                    have c1 := HX.out.v.cell (i := k) (by omega) hy1.symm
                    have c2 := HX.out.v.cell (i := k8) (by omega) hy2.symm
                    have Hc := Sd.mk (hy0.symm)
                    clear h1 h2 h3 HM hy0 hy1 hy2 hk8 hy3 hy4 z3
                    go_wp2
                    go_still_tail 13, (by kernel_rfl)
                    change wpList _ _ _ _ _ wr.drew
                    have HX2 := Sd.mk HX.out.drew
                    clear HX c0 c1 c2
                    generalize wr.drew = w15 at HX2 ⊢
                    have c0 := HX2.out.h.cell (i := k) hlt ((S2.out k (Nat.le_refl _)).trans Hc.out)
                    have f0 := HX2.out.h.frz k
                    go_wp2
                    clear c0 f0
                    have HX3 := Sd.mk (HX2.out.setH (i := k) hlt y3)
                    go_roundg (gk - 1)
                    case measure => omega
                    case rel =>
                      exact ⟨k + 1, by omega, by go_num, ⟨_, fun i hi => by
                        by_cases h : i = k
                        · subst h; rw [upd_same, Y3.out]
                        · rw [upd_ne h]; exact S1.out i (by omega), fun i hi => by rw [upd_ne (by omega)]; exact S2.out i (by omega), HX3.out⟩⟩
                  -- L6>
                  · have hki : decide ((k : Int) < 8) = false := decide_eq_false (by omega)
                    obtain rfl : k = 8 := by omega
                    have HX := Sd.mk (show Rtp w (ending H VR) (mw B) VR wr from by obtain ⟨H1, h1, -, h3⟩ := HM.out; exact h3.toH h1)
                    clear HM
                    obtain ⟨U, hU⟩ := HX.out.r
                    have Q := Sd.mk hU
                    clear hU
                    go_upto_region 35 with (fail)
                    apply wp_region_lit
                    refine wpList_load_row rfl 133 _ rfl w.heap.size (by kernel_rfl) _ _ _ _ HX.out.h Tryz.underlying133 rfl (by rw [vec_size]; kernel_rfl) ?_
                    refine wpList_plain rfl fun _ hK => wp_store_row 133 _ _ rfl (w.heap.size + 1) (vec .u64 8 (ending H VR)) (by kernel_rfl) (by kernel_rfl) _ _ Q.out (by rw [vec_size]; kernel_rfl) (by rw [vec_size, vec_size]) (vec_one _ _ _) (hK _ _ ?_)
                    go_wp2
                    refine bodyPost_ret (results_cell_row Tryz.results65 _ _ (w.heap.size + 1) 133 _ (0, 0) _ (by kernel_rfl) (Q.out.row (ending H VR)) Tryz.underlying133 rfl (by rw [vec_size]; kernel_rfl)) rfl ?_
                    refine ⟨?_, row_below HX.out.bel (by omega) _⟩
                    rw [← HR.out]
                    rw [HV0.out]
                    rfl
end Go.Proofs.YtnomgkmeomlccaaGreat.RefB

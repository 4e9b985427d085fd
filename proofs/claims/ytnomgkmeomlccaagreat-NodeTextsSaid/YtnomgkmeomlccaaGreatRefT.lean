/- The reference's digest, walked. -/
import Derived.Test.YtnomgkmeomlccaaGreatRefS
import Derived.Test.YtnomgkmeomlccaaGreatNum
import Derived.BigRegion
set_option linter.unusedVariables false
set_option linter.unusedSimpArgs false
namespace Go.Proofs.YtnomgkmeomlccaaGreat.RefS
open Go.RowKit Rd Api Own Mv Word Vec Mix Tab Step Dig

set_option maxHeartbeats 4000000 in
set_option maxRecDepth 100000 in
theorem refsum_any (w : World) (key s : ByteArray) (hk : key.size ≤ 32) (hs : s.size ≤ 70368744177664) :
    Calls Tryz.prog 40 #[.string key, .string s] w fun e w' => e = .returned (.string (dig key.size (strm key s))) ∧ Below w.heap.size w w' := by
  have hcv := Lib.run_convert_string_bytes (P := Tryz.prog) w 9 85 5 s Tryz.underlying9 Tryz.underlying85 Tryz.underlying5
  obtain ⟨hb, hbl⟩ := bys_conv w s (by omega)
  have HB0 := Sd.mk hb
  have HL0 := Sd.mk hbl
  clear hb hbl
  obtain ⟨l, hl⟩ : ∃ z, z = key.size := ⟨_, rfl⟩
  have hls : (key.size : Int) = (l : Int) := by omega
  obtain ⟨n, hn⟩ : ∃ z, z = s.size := ⟨_, rfl⟩
  have hns : (s.size : Int) = (n : Int) := by omega
  have LL := Sd.mk hl
  have NN := Sd.mk hn
  clear hl hn
  go_enter Tryz.func40, Tryz.ntmps40
  go_upto_if 18 with (fail)
  clear hcv
  generalize Lib.bytesWorld w 5 s = W0 at HB0 HL0 ⊢
  have nb : n ≤ 70368744177664 := by have := NN.out; omega
  have lb : l ≤ 32 := by have := LL.out; omega
  go_cut [5, 6] from 19 to 32 (fun v5 v6 wx => ∃ g cap N, v5 = .slice (some ⟨g, 0, none⟩) N cap ∧ Sd (N = (strm key s).size) ∧ Sd (Bys w.heap.size g cap N (byt (strm key s)) wx) ∧ Sd (Below w.heap.size w wx))
  case first =>
    by_cases h0 : l = 0
    · have hd : decide ((0 : Int) < l) = false := decide_eq_false (by omega)
      go_wp2
      go_meet
      have hst : strm key s = s := by unfold strm; rw [if_pos (by rw [← LL.out]; exact h0)]
      exact ⟨_, _, _, rfl, ⟨by rw [hst]⟩, ⟨by rw [hst]; exact HB0.out⟩, HL0⟩
    · have hd : decide ((0 : Int) < l) = true := decide_eq_true (by omega)
      obtain ⟨m, hm⟩ : ∃ z, z = 64 + n := ⟨_, rfl⟩
      have e1 : IntKind.i64.wrap (64 + (n : Int)) = (m : Int) := by rw [IntKind.wrap_i64]; omega
      obtain ⟨W1, hmk, hB, hL⟩ := make_bytes W0 m (by omega)
      have HB1 := Sd.mk (hB.lower HL0.out.size)
      have HL1 := Sd.mk (below_then HL0.out hL)
      have HM := Sd.mk hm
      have hm64 : (64 : Int) ≤ m := by omega
      have hm64n : 64 ≤ m := by omega
      clear hB hL hm HB0 HL0
      go_upto_region 4 with (fail)
      clear hmk
      generalize W0.heap.size = g at HB1 ⊢
      clear W0
      obtain ⟨w2, hc2, hB2, hL2⟩ := copy_str HB1.out HL1.out ⟨g, 0, none⟩ 0 m m key 3 (fun _ => rfl) (by have := LL.out; omega) (by have := LL.out; omega)
      have HB2 := Sd.mk hB2
      have HL2 := Sd.mk hL2
      clear hB2 hL2 HB1 HL1
      go_upto_region 5 with (fail)
      clear hc2
      have hks : key.size ≠ 0 := by rw [← LL.out]; exact h0
      have hss : (strm key s).size = 64 + s.size := by unfold strm; rw [if_neg hks, app_size, app_size, zeros_size]; omega
      have HSS := Sd.mk hss
      clear hss
      by_cases hn0 : n = 0
      · have hs0 : s.size = 0 := by rw [← NN.out]; exact hn0
        obtain rfl : m = 64 := by have := HM.out; omega
        obtain ⟨w3, hc3, hB3, hL3⟩ := copy_str HB2.out HL2.out ⟨g, 0, none⟩ 64 0 0 s 3 (fun h => absurd hs0 h) (by omega) (by omega)
        have HB3 := Sd.mk hB3
        have HL3 := Sd.mk hL3
        clear hB3 hL3 HB2 HL2 hs0
        go_wp2
        go_meet
        refine ⟨g, 64, 64, rfl, ⟨by rw [HSS.out, ← NN.out, hn0]⟩, ⟨HB3.out.congr fun j hj => lay_strm key s (by omega) hks j (by omega)⟩, HL3⟩
      · have hm1 : ¬ m = 64 := by have := HM.out; omega
        have hm2 : ¬ 64 = m := by have := HM.out; omega
        obtain ⟨w3, hc3, hB3, hL3⟩ := copy_str HB2.out HL2.out ⟨g, 64, none⟩ 64 (m - 64) (m - 64) s 3 (fun _ => rfl) (by have := HM.out; have := NN.out; omega) (by have := HM.out; have := NN.out; omega)
        have HB3 := Sd.mk hB3
        have HL3 := Sd.mk hL3
        clear hB3 hL3 HB2 HL2
        go_wp2
        go_meet
        refine ⟨g, m, m, rfl, ⟨by rw [HSS.out, ← NN.out, HM.out]⟩, ⟨HB3.out.congr fun j hj => lay_strm key s (by omega) hks j (by have := HM.out; have := NN.out; omega)⟩, HL3⟩
  case rest =>
    clear HB0 HL0
    obtain ⟨g0, cap0, N, rfl, HN, HB, HL⟩ := hcut
    have hstz := strm_size (key := key) (b := s) (by omega)
    rw [← HN.out] at hstz
    have hN : N ≤ 70368744177728 := by have := NN.out; omega
    have HNB := Sd.mk (fun j (hj : N ≤ j) => byt_ge (b := strm key s) (i := j) (by rw [← HN.out]; exact hj))
    generalize hB : byt (strm key s) = B at HB HNB
    have HBB := Sd.mk hB
    clear hB hstz
    obtain ⟨P, hP⟩ : ∃ z, z = 64 * (qn N + 1) := ⟨_, rfl⟩
    have hNP : N ≤ P := by rw [hP]; unfold qn; omega
    have hP64 : P ≤ N + 64 := by rw [hP]; unfold qn; omega
    have hpm : ∀ m, N ≤ m → m ≤ P → m ≠ 0 → (m % 64 = 0 ↔ m = P) := by
      intro m h1 h2 h3
      rw [hP] at h2 ⊢
      unfold qn at h2 ⊢
      omega
    have HPM := Sd.mk hpm
    have HP := Sd.mk hP
    clear hpm hP
    go_wp2
    go_loopg [5] (P - N) (fun gk v5 wr => ∃ g cap m, m + gk = P ∧ v5 = .slice (some ⟨g, 0, none⟩) m cap ∧ Sd (N ≤ m) ∧ Sd (Bys w.heap.size g cap m B wr) ∧ Sd (Below w.heap.size w wr))
    case atStart => exact ⟨g0, cap0, N, by omega, rfl, ⟨Nat.le_refl _⟩, HB, HL⟩
    case round =>
      clear HB HL
      obtain ⟨g, cap, m, hm, rfl, HNm, HB, HL⟩ := hrel
      by_cases hm0 : m = 0
      · subst hm0
        have hP1 : 1 ≤ P := by rw [HP.out]; omega
        go_wp2_with (first
          | (at_builtin; refine app_zero (w0 := w) w.heap.size rfl (.tmp 42) (.tmp 43) rfl HB.out (HNB.out 0 HNm.out) HL.out (by omega) rfl rfl ?_; intro g1 cap1 w1 hB1 hL1))
        go_roundg (gk - 1)
        case measure => omega
        case rel => exact ⟨g1, cap1, 1, by omega, rfl, ⟨by have := HNm.out; omega⟩, ⟨hB1⟩, ⟨hL1⟩⟩
      · have hmP : m ≤ P := by omega
        have hiff := HPM.out m HNm.out hmP hm0
        have b0 : ((m : Int) == 0) = false := by rw [beq_eq_false_iff_ne]; omega
        by_cases hme : m = P
        · have b1 : ((m : Int) % 64 != 0) = false := by
            have := hiff.2 hme
            rw [bne_eq_false_iff_eq]; omega
          clear hiff
          subst hme
          go_upto_region 10 with (fail)
          clear b0 b1
          go_upto_region 11 with (first
            | (go_at_call 64; (with_reducible refine (iv_any _).mono ?_); rintro e w5 ⟨rfl, hb5⟩
               have hst := run_storeCells_new (P := Tryz.prog) w5 133 #[.int .u64 0, .int .u64 0, .int .u64 0, .int .u64 0, .int .u64 0, .int .u64 0, .int .u64 0, .int .u64 0] (vec .u64 8 iv) (by rw [vec_size]; kernel_rfl) (by rw [vec_size]; rfl) (vec_one _ _ _)
               have hsz := vec_size .u64 8 iv
               have HB5 := Sd.mk ((HB.out.below hb5).below (below_one w5 (.cells (vec .u64 8 iv) 133)))
               have HL5 := Sd.mk (below_then (below_then HL.out hb5) (below_one w5 (.cells (vec .u64 8 iv) 133)))
               have HV := Sd.mk (show VB .u64 8 133 w5.heap.size iv (w5.alloc (.cells (vec .u64 8 iv) 133)) from blk_new _ _)
               have hg := (HB.out.below hb5).lt
               have hw5 := (below_then HL.out hb5).size
               clear HB HL hb5))
          clear hst hsz
          generalize w5.alloc _ = W6 at HB5 HL5 HV ⊢
          generalize w5.heap.size = g8 at HV hg hw5 ⊢
          clear w5
          obtain ⟨x0, hx0⟩ : ∃ z, z = iv 0 := ⟨_, rfl⟩
          obtain ⟨k2, hk2⟩ : ∃ z, z = l * 256 := ⟨_, rfl⟩
          obtain ⟨x1, hx1⟩ : ∃ z, z = x0 ^^^ 16842784 := ⟨_, rfl⟩
          obtain ⟨x2, hx2⟩ : ∃ z, z = x1 ^^^ k2 := ⟨_, rfl⟩
          have l0 : x0 < 4294967296 := by rw [hx0]; decide
          have l1 : x1 < 4294967296 := by rw [hx1]; exact xor_lt l0 (by decide)
          have lk : k2 < 4294967296 := by omega
          have a0 : IntKind.i64.wrap (256 * (l : Int)) = (k2 : Int) := by rw [IntKind.wrap_i64]; omega
          have a1 : bits .xor .u64 (x0 : Int) (16842784 : Int) = (x1 : Int) := by rw [hx1]; exact xor64 x0 16842784 l0 (by decide)
          have a2 : IntKind.u64.wrap (k2 : Int) = (k2 : Int) := keep_u64 (by omega) (by omega)
          have a3 : bits .xor .u64 (x1 : Int) (k2 : Int) = (x2 : Int) := by rw [hx2]; exact xor64 x1 k2 l1 lk
          have HX := Sd.mk (show upd iv 0 x2 = H0 l from by
            unfold H0
            rw [hx2, hx1, hx0, hk2]
            rw [xor_perm])
          have c0 := HV.out.cell (i := 0) (by decide) hx0.symm
          have f0 := HV.out.frz 0
          clear hx0 hk2 hx1 hx2
          go_upto_region 12 with (fail)
          clear c0 f0 a0 a1 a2 a3 l0 l1 lk
          have HV6 := Sd.mk (HV.out.set (i := 0) (by decide) x2)
          rw [HX.out] at HV6
          have HB6 := Sd.mk (HB5.out.set (g2 := g8) (by omega) 0 (.int .u64 x2))
          have HL6 := Sd.mk (HL5.out.setCell (p := ⟨g8, 0, none⟩) hw5 (.int .u64 x2))
          clear HV HB5 HL5 HX
          generalize W6.setCell _ _ = W7 at HV6 HB6 HL6 ⊢
          clear W6 HNB HPM hm
          go_wp2
          go_loopg [9] (qn N + 1) (fun gk v9 wr => ∃ q, q + gk = qn N + 1 ∧ v9 = .int .i64 ((64 * q : Nat) : Int) ∧ Sd (VB .u64 8 133 g8 (st l B N q) wr) ∧ Sd (Bys w.heap.size g cap m B wr) ∧ Sd (Below w.heap.size w wr))
          case atStart => exact ⟨0, by omega, rfl, HV6, HB6, HL6⟩
          case round =>
            clear HV6 HB6 HL6
            obtain ⟨q, hq, rfl, HV, HB, HL⟩ := hrel
            obtain ⟨z, hz⟩ : ∃ z, z = 64 * q := ⟨_, rfl⟩
            rw [← hz]
            have hmP := HP.out
            by_cases hlt : q ≤ qn N
            · have hzm : (z : Int) < m := by omega
              obtain ⟨z2, hz2⟩ : ∃ z2, z2 = z + 64 := ⟨_, rfl⟩
              have wz : IntKind.i64.wrap ((z : Int) + 64) = (z2 : Int) := by rw [IntKind.wrap_i64]; omega
              have wu : IntKind.u64.wrap (z2 : Int) = (z2 : Int) := keep_u64 (by omega) (by omega)
              have wn : IntKind.u64.wrap (N : Int) = (N : Int) := keep_u64 (by omega) (by omega)
              obtain ⟨bl, hbl⟩ : ∃ b, b = decide (q = qn N) := ⟨_, rfl⟩
              have he : ((z2 : Int) == (m : Int)) = bl := by
                rw [hbl]
                by_cases h : q = qn N
                · rw [decide_eq_true h, beq_iff_eq]; omega
                · rw [decide_eq_false h, beq_eq_false_iff_ne]; omega
              obtain ⟨nn, hnn⟩ : ∃ x, x = if bl then N else z2 := ⟨_, rfl⟩
              have HNN := Sd.mk hnn
              have HBL := Sd.mk hbl
              have HZ := Sd.mk hz
              have HZ2 := Sd.mk hz2
              have zz2 : (z : Int) ≤ (z2 : Int) := by omega
              have hcp := HB.out.le
              have z2c : (z2 : Int) ≤ (cap : Int) := by omega
              clear hbl hnn hz hz2 hmP hcp
              go_upto_if 69 with (fail)
              go_cut [11] from 70 to 71 (fun v11 wx => v11 = .int .u64 nn ∧ Sd (VB .u64 8 133 g8 (st l B N q) wx) ∧ Sd (Bys w.heap.size g cap m B wx) ∧ Sd (Below w.heap.size w wx))
              case first =>
                cases bl with
                | false =>
                  go_wp2
                  go_meet
                  exact ⟨by rw [HNN.out]; rfl, HV, HB, HL⟩
                | true =>
                  go_wp2
                  go_meet
                  exact ⟨by rw [HNN.out]; rfl, HV, HB, HL⟩
              case rest =>
                clear HV HB HL
                obtain ⟨rfl, HV, HB, HL⟩ := hcut
                go_wp2
                refine wp_region_still_tail 8 (by kernel_rfl) (by kernel_rfl) ?_
                simp only [List.take_succ_cons, List.take_zero, List.drop_succ_cons, List.drop_zero]
                refine wpStill_step (fun K hK => ?_)
                refine RefB.still_load_vec (by kernel_rfl) 133 _ rfl rfl (show VB .u64 8 133 _ _ _ from HV.out) Tryz.underlying133 (by kernel_rfl) (hK _ ?_)
                clear hK K
                repeat still_step
                refine wpStill_nil ?_
                change wpList _ _ _ _ _ wc.drew
                have HV2 := Sd.mk (show VB .u64 8 133 g8 (st l B N q) wc.drew from HV.out)
                have HB2 := Sd.mk HB.out.drew
                have HL2 := Sd.mk (below_drew' HL.out)
                clear HV HB HL
                generalize wc.drew = W8 at HV2 HB2 HL2 ⊢
                have h64 : z2 - z = 64 := by have := HZ2.out; omega
                have hcz : ¬ cap = z := by have := HZ2.out; omega
                have nlt : nn < 18446744073709551616 := by rw [HNN.out]; split <;> omega
                have WdS : Wd (st l B N q) := by unfold st; rw [if_pos hlt]; exact Wd.hs (by omega) (by have := HZ.out; omega)
                have hbt : ∀ i, cut B q i < 256 := cut_lt (fun i => by rw [← HBB.out]; exact byt_lt _ _) q
                have BT := Sd.mk (show RefB.Bts W8 g z (cut B q) from by have := HP.out; rw [HZ.out]; exact HB2.out.bts (by omega))
                have WS := Sd.mk WdS
                have BS := Sd.mk hbt
                have HS := Sd.mk (show blockF (st l B N q) (cut B q) nn bl = st l B N (q + 1) from by
                  rw [HNN.out, HBL.out]
                  by_cases h : q = qn N
                  · rw [decide_eq_true h, if_pos rfl]
                    unfold st
                    rw [if_pos hlt, if_neg (by omega), h]
                    rfl
                  · rw [decide_eq_false h, if_neg (by decide), HZ2.out, HZ.out]
                    unfold st
                    rw [if_pos hlt, if_pos (by omega)]
                    rfl)
                clear WdS hbt
                go_wp2_with (first
                  | (go_at_call 65; (refine (RefB.block_any _ (st l B N q) g z (cap - z) (cut B q) nn bl WS.out BS.out BT.out nlt).mono ?_); rintro e w9 ⟨rfl, hb9⟩
                     have HV9 := Sd.mk (VB.below HV2.out hb9)
                     have HB9 := Sd.mk (HB2.out.below hb9)
                     have HL9 := Sd.mk (below_then HL2.out hb9)
                     have hst := RefB.store_cells_vec (P := Tryz.prog) HV9.out (blockF (st l B N q) (cut B q) nn bl)
                     have hsz := vec_size .u64 8 (blockF (st l B N q) (cut B q) nn bl)
                     clear HV2 HB2 HL2 BT hb9))
                have HV10 := Sd.mk (HV9.out.row (blockF (st l B N q) (cut B q) nn bl))
                have HB10 := Sd.mk (HB9.out.row (g2 := g8) (by omega) (vec .u64 8 (blockF (st l B N q) (cut B q) nn bl)))
                have HL10 := Sd.mk (row_below HL9.out hw5 (vec .u64 8 (blockF (st l B N q) (cut B q) nn bl)))
                rw [HS.out] at HV10 HB10 HL10
                rw [HS.out]
                go_roundg (gk - 1)
                case measure => omega
                case rel =>
                  refine ⟨q + 1, by omega, ?_, HV10, HB10, HL10⟩
                  have := HZ.out
                  have := HZ2.out
                  congr 1
                  omega
            · have hzm : decide (z < m) = false := decide_eq_false (by omega)
              have hzn : m ≤ z := by omega
              obtain rfl : q = qn N + 1 := by omega
              have HV1 := Sd.mk (show VB .u64 8 133 g8 (fin l B N) wr from by
                have := HV.out
                unfold st at this
                rw [if_neg (by omega)] at this
                exact this)
              have WdX := Sd.mk (show Wd (fin l B N) from (Wd.hs (by omega) (by unfold qn; omega)).block _ (by omega) _)
              have HR := Sd.mk (show dig key.size (strm key s) = ⟨(outs (fin l B N) 8).toArray⟩ from by
                unfold dig
                rw [HBB.out, ← HN.out, ← LL.out])
              generalize fin l B N = X at HV1 WdX HR
              clear HV HB hz hmP
              go_wp2
              go_loopg [12, 13] 8 (fun gk v12 v13 wr => ∃ i, i + gk = 8 ∧ v12 = .string ⟨(outs X i).toArray⟩ ∧ v13 = .int .i64 (i : Nat) ∧ Sd (VB .u64 8 133 g8 X wr) ∧ Sd (Below w.heap.size w wr))
              case atStart => exact ⟨0, rfl, rfl, rfl, HV1, HL⟩
              case round =>
                clear HV1 HL
                obtain ⟨i, hi, rfl, rfl, HV, HL⟩ := hrel
                by_cases hlt : i < 8
                · have hii : (i : Int) < 8 := by omega
                  obtain ⟨x, hx⟩ : ∃ z, z = X i := ⟨_, rfl⟩
                  have lx : x < 4294967296 := by rw [hx]; exact WdX.out i
                  have c0 := HV.out.cell (i := i) hlt hx.symm
                  obtain ⟨x1, hx1⟩ : ∃ z, z = x / 256 := ⟨_, rfl⟩
                  obtain ⟨x2, hx2⟩ : ∃ z, z = x / 65536 := ⟨_, rfl⟩
                  obtain ⟨a3, ha3⟩ : ∃ z, z = x / 16777216 := ⟨_, rfl⟩
                  obtain ⟨a0, ha0⟩ : ∃ z, z = x % 256 := ⟨_, rfl⟩
                  obtain ⟨a1, ha1⟩ : ∃ z, z = x1 % 256 := ⟨_, rfl⟩
                  obtain ⟨a2, ha2⟩ : ∃ z, z = x2 % 256 := ⟨_, rfl⟩
                  have p0 : (x : Int) % 256 = (a0 : Int) := by omega
                  have p0t : (x : Int).tmod 256 = (a0 : Int) := by rw [Int.tmod_eq_emod_of_nonneg (by omega)]; omega
                  have p1 : (x : Int) / 256 = (x1 : Int) := by omega
                  have p1t : (x : Int).tdiv 256 = (x1 : Int) := by rw [Int.tdiv_eq_ediv_of_nonneg (by omega)]; omega
                  have q1 : (x1 : Int) % 256 = (a1 : Int) := by omega
                  have q1t : (x1 : Int).tmod 256 = (a1 : Int) := by rw [Int.tmod_eq_emod_of_nonneg (by omega)]; omega
                  have p2 : (x : Int) / 65536 = (x2 : Int) := by omega
                  have p2t : (x : Int).tdiv 65536 = (x2 : Int) := by rw [Int.tdiv_eq_ediv_of_nonneg (by omega)]; omega
                  have q2 : (x2 : Int) % 256 = (a2 : Int) := by omega
                  have q2t : (x2 : Int).tmod 256 = (a2 : Int) := by rw [Int.tmod_eq_emod_of_nonneg (by omega)]; omega
                  have p3 : (x : Int) / 16777216 = (a3 : Int) := by omega
                  have p3t : (x : Int).tdiv 16777216 = (a3 : Int) := by rw [Int.tdiv_eq_ediv_of_nonneg (by omega)]; omega
                  have u1 : IntKind.u64.wrap (x1 : Int) = (x1 : Int) := keep_u64 (by omega) (by omega)
                  have u2 : IntKind.u64.wrap (x2 : Int) = (x2 : Int) := keep_u64 (by omega) (by omega)
                  have u3 : IntKind.u64.wrap (a3 : Int) = (a3 : Int) := keep_u64 (by omega) (by omega)
                  have v0 : IntKind.u8.wrap (a0 : Int) = (a0 : Int) := by rw [IntKind.wrap_u8]; omega
                  have v1 : IntKind.u8.wrap (a1 : Int) = (a1 : Int) := by rw [IntKind.wrap_u8]; omega
                  have v2 : IntKind.u8.wrap (a2 : Int) = (a2 : Int) := by rw [IntKind.wrap_u8]; omega
                  have v3 : IntKind.u8.wrap (a3 : Int) = (a3 : Int) := by rw [IntKind.wrap_u8]; omega
                  have hk1 : (convert 85 9 (.slice (some ⟨wr.heap.size, 0, none⟩) 4 4)).run Tryz.prog (wr.alloc (.cells #[.int .u8 a0, .int .u8 a1, .int .u8 a2, .int .u8 a3] 5)).drew = .ok (.string (strOfNums [(a0 : Int), a1, a2, a3])) (wr.alloc (.cells #[.int .u8 a0, .int .u8 a1, .int .u8 a2, .int .u8 a3] 5)).drew :=
                    Num.conv4 (P := Tryz.prog) Tryz.underlying85 Tryz.underlying5 Tryz.underlying9 wr.drew a0 a1 a2 a3
                  obtain ⟨y, hy⟩ : ∃ y, y = strOfNums [(a0 : Int), a1, a2, a3] := ⟨_, rfl⟩
                  rw [← hy] at hk1
                  obtain ⟨o, ho⟩ : ∃ o : ByteArray, o = ⟨(outs X i).toArray⟩ := ⟨_, rfl⟩
                  have HO := Sd.mk (show o ++ y = ⟨(outs X (i + 1)).toArray⟩ from by
                    apply ByteArray.ext
                    apply Array.toList_inj.1
                    rw [app_list, ho, hy]
                    show outs X i ++ _ = outs X i ++ b4 (X i)
                    congr 1
                    rw [← hx]
                    unfold b4
                    rw [ha0, ha1, ha2, ha3, hx1, hx2, Nat.mod_eq_of_lt (show x / 16777216 < 256 by omega)]
                    rfl)
                  have hos : o.size = 4 * i := by
                    rw [ho]
                    show (outs X i).toArray.size = _
                    rw [List.size_toArray, outs_length]
                  have hys : y.size = 4 := by rw [hy]; rfl
                  have hcat : ¬9223372036854775807 < o.size + y.size := by omega
                  rw [← ho]
                  clear hx hx1 hx2 ha0 ha1 ha2 ha3 hy ho hos hys
                  go_wp2
                  go_region
                  have HV1 := Sd.mk (show VB .u64 8 133 g8 X (wr.alloc (.cells #[.int .u8 a0, .int .u8 a1, .int .u8 a2, .int .u8 a3] 5)).drew from blk_keep HV.out (below_drew' (below_one wr _)))
                  have HL1 := Sd.mk (below_drew' (below_then HL.out (below_one wr (.cells #[.int .u8 a0, .int .u8 a1, .int .u8 a2, .int .u8 a3] 5))))
                  clear hk1 HV HL c0
                  generalize (wr.alloc _).drew = w9 at HV1 HL1 ⊢
                  go_wp2
                  go_roundg (gk - 1)
                  case measure => omega
                  case rel => exact ⟨i + 1, by omega, by rw [HO.out], by go_num, HV1, HL1⟩
                · have hii : decide ((i : Int) < 8) = false := decide_eq_false (by omega)
                  obtain rfl : i = 8 := by omega
                  go_wp2
                  go_ret
                  refine ⟨?_, HL.out⟩
                  rw [HR.out]
                  rfl
        · have b1 : ((m : Int) % 64 != 0) = true := by
            have : ¬ m % 64 = 0 := fun h => hme (hiff.1 h)
            rw [bne_iff_ne]; omega
          clear hiff
          go_wp2_with (first
            | (at_builtin; refine app_zero (w0 := w) w.heap.size rfl (.tmp 42) (.tmp 43) rfl HB.out (HNB.out m HNm.out) HL.out (by omega) rfl rfl ?_; intro g1 cap1 w1 hB1 hL1))
          go_roundg (gk - 1)
          case measure => omega
          case rel => exact ⟨g1, cap1, m + 1, by omega, rfl, ⟨by have := HNm.out; omega⟩, ⟨hB1⟩, ⟨hL1⟩⟩
end Go.Proofs.YtnomgkmeomlccaaGreat.RefS

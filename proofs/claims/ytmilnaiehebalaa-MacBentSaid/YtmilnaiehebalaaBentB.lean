/- MacBent: walked. -/
import Derived.Test.YtmilnaiehebalaaBentA
set_option linter.unusedVariables false
set_option linter.unusedSimpArgs false
namespace Go.Proofs.Ytmilnaiehebalaa.Mac
open Go.RowKit Rd Api Own Mv Step Num Dig Sg RefS

/-- the array's block -/
def Kf (w : World) (g5 : Nat) (a b c d : Nat) (W : World) : Prop := W.heap[g5]? = some (.cells #[.int .u8 a, .int .u8 b, .int .u8 c, .int .u8 d] 51 (0, 0)) ∧ Below w.heap.size w W
theorem mv_kf (w : World) (g5 a b c d : Nat) : Mv (Kf w g5 a b c d) := mv_and (mv_blk _ _) (mv_bel w)
theorem Kf.all {w : World} {g5 a b c d : Nat} {W : World} (h : Kf w g5 a b c d W) : W.cell? ⟨g5, 0, none⟩ = some (.int .u8 a) ∧ W.cell? ⟨g5, 1, none⟩ = some (.int .u8 b) ∧ W.cell? ⟨g5, 2, none⟩ = some (.int .u8 c) ∧ W.cell? ⟨g5, 3, none⟩ = some (.int .u8 d) := ⟨blk_at h.1 0 _ rfl, blk_at h.1 1 _ rfl, blk_at h.1 2 _ rfl, blk_at h.1 3 _ rfl⟩

theorem own_lower {W : World} {base b : Nat} {v : Value} {xs : List ByteArray} (h : OwnR fS 1 W base 9 v xs) (hb : b ≤ base) : OwnR fS 1 W b 9 v xs := by
  rcases h.2 with ⟨rfl, h0⟩ | ⟨g, cap, cur, rfl, h1, h2⟩
  · exact ⟨h.1, .inl ⟨rfl, h0⟩⟩
  · exact ⟨h.1, .inr ⟨g, cap, cur, rfl, Nat.le_trans hb h1, h2⟩⟩
theorem mk_bytes (n : Nat) (B : Nat → Nat) (hB : ∀ j, j < n → B j < 256) : ∃ T : ByteArray, T.size = n ∧ ∀ j, j < n → byt T j = B j := by
  refine ⟨⟨((List.range n).map fun j => UInt8.ofNat (B j)).toArray⟩, by simp [ByteArray.size], fun j hj => ?_⟩
  rw [byt_get]
  simp only [List.getElem?_map, List.getElem?_range hj, Option.map_some, Option.getD_some]
  rw [UInt8.toNat_ofNat']
  have := hB j hj
  omega
theorem xor8 (a b : Nat) (ha : a < 256) (hb : b < 256) : bits .xor .u8 (a : Int) (b : Int) = ((a ^^^ b : Nat) : Int) := by
  rw [Word.xor_nat .u8 a b ha hb, IntKind.wrap_u8]
  have : a ^^^ b < 256 := Nat.xor_lt_two_pow (n := 8) ha hb
  omega

set_option maxHeartbeats 8000000 in
set_option maxRecDepth 100000 in
theorem mb_few (w : World) (seed tx : ByteArray) (h60 : seed.size ≤ 60) (t60 : tx.size ≤ 60) (a b c d : Nat) (la : a < 256) (lb : b < 256) (lc : c < 256) (ld : d < 256) :
    Calls Try.prog 11 #[.string seed, .string tx, .agg #[.int .u8 a, .int .u8 b, .int .u8 c, .int .u8 d]] w fun e w' => e = .returned (.bool true) ∧ Below w.heap.size w w' := by
  have d1 : decide ((60 : Int) < (seed.size : Int)) = false := decide_eq_false (by omega)
  have d2 : decide ((60 : Int) < (tx.size : Int)) = false := decide_eq_false (by omega)
  have hs2 : seed.size ≤ 35184372088832 := by omega
  have ht2 : tx.size ≤ 35184372088832 := by omega
  have HK := Sd.mk (show Kf w w.heap.size a b c d (w.alloc (.cells #[.int .u8 a, .int .u8 b, .int .u8 c, .int .u8 d] 51)) from ⟨blk_new _ _, below_one _ _⟩)
  obtain ⟨r0, hr0⟩ : ∃ z, z = a % 7 := ⟨_, rfl⟩
  obtain ⟨m, hm⟩ : ∃ z, z = 1 + r0 := ⟨_, rfl⟩
  have m17 : 1 ≤ m ∧ m ≤ 7 := by omega
  have p0 : ((a : Int)).tmod 7 = (r0 : Int) := by rw [Int.tmod_eq_emod_of_nonneg (by omega)]; omega
  have p0b : ((a : Int)) % 7 = (r0 : Int) := by omega
  have p1 : IntKind.i64.wrap (r0 : Int) = (r0 : Int) := by rw [IntKind.wrap_i64]; omega
  have p2 : IntKind.i64.wrap (1 + (r0 : Int)) = (m : Int) := by rw [IntKind.wrap_i64]; omega
  obtain ⟨fr, hfr⟩ : ∃ z, z = b % m := ⟨_, rfl⟩
  obtain ⟨k, hk⟩ : ∃ z, z = c % m := ⟨_, rfl⟩
  have p3 : IntKind.i64.wrap (b : Int) = (b : Int) := by rw [IntKind.wrap_i64]; omega
  have p4 : IntKind.i64.wrap (c : Int) = (c : Int) := by rw [IntKind.wrap_i64]; omega
  have p5 : ((b : Int)).tmod (m : Int) = (fr : Int) := by rw [Int.tmod_eq_emod_of_nonneg (by omega), hfr]; rfl
  have p5b : ((b : Int)) % (m : Int) = (fr : Int) := by rw [hfr]; rfl
  have p6 : ((c : Int)).tmod (m : Int) = (k : Int) := by rw [Int.tmod_eq_emod_of_nonneg (by omega), hk]; rfl
  have p6b : ((c : Int)) % (m : Int) = (k : Int) := by rw [hk]; rfl
  have hfm : fr < m := by rw [hfr]; exact Nat.mod_lt _ (by omega)
  have hkm : k < m := by rw [hk]; exact Nat.mod_lt _ (by omega)
  have hmz : ¬ (m : Int) = 0 := by omega
  have hmzn : ¬ m = 0 := by omega
  have HM := Sd.mk m17
  have HF := Sd.mk (show 0 ≤ (fr : Int) ∧ (fr : Int) < (m : Int) by omega)
  have hsg := Sd.mk (fun W => sign_ok W seed fr m tx HF.out m17 hs2 ht2)
  have m7 : m ≤ 7 := m17.2
  clear h60 t60 hr0 hm m17 hfr hk
  go_enter Try.func11, Try.ntmps11
  go_upto_region 1 with (fail)
  generalize w.alloc _ = W at HK ⊢
  go_upto_region 3 with (first
    | (go_at_call 20; (with_reducible refine (awake_any _).mono ?_); rintro e w1 ⟨rfl, hb1⟩; have HK1 := Sd.mk ((mv_kf _ _ _ _ _ _).below HK.out hb1); clear hb1 HK))
  obtain ⟨c0, c1, c2, c3⟩ := HK1.out.all
  go_upto_region 4 with (fail)
  go_quiet (fail)
  go_upto_region 5 with (fail)
  have HK2 := Sd.mk ((mv_kf _ _ _ _ _ _).drewN HK1.out nq)
  clear c0 c1 c2 c3 HK1
  generalize w1.drewN nq = W2 at HK2 ⊢
  have hsz := tagsF_length seed fr tx m
  go_upto_region 6 with (first
    | (go_at_call 25; (with_reducible refine (hsg.out _).mono ?_); rintro e w3 ⟨v, rfl, hown, hb3⟩; have HK3 := Sd.mk ((mv_kf _ _ _ _ _ _).below HK2.out hb3); have HO3 := Sd.mk hown
       obtain ⟨A, cc, hv, hsl⟩ := own_sl HO3.out (tagsF_le _ _ _ _)
       obtain ⟨gv, cap, hv2, hgb, hgl, -⟩ := own_put HO3.out (k := k) (by rw [hsz]; exact hkm)
       rw [hv] at hv2
       simp only [Value.slice.injEq, true_and] at hv2
       obtain ⟨rfl, rfl⟩ := hv2
       rw [hsz] at hv
       subst hv
       clear hb3 hown))
  have HSL := Sd.mk (hsl.below (below_one w3 (.cells #[.int .i64 fr, .slice (some ⟨gv, 0, none⟩) m cc] 44)))
  have HO := Sd.mk (OwnR.below (own_lower HO3.out HK2.out.2.size) (below_one w3 (.cells #[.int .i64 fr, .slice (some ⟨gv, 0, none⟩) m cc] 44)))
  have HK := Sd.mk ((mv_kf _ _ _ _ _ _).alloc HK3.out (.cells #[.int .i64 fr, .slice (some ⟨gv, 0, none⟩) m cc] 44))
  have R10 := Sd.mk (blk_new w3 (.cells #[.int .i64 fr, .slice (some ⟨gv, 0, none⟩) m cc] 44))
  have hW2 := HK3.out.2.size
  have hgw := Nat.le_trans HK2.out.2.size hgb
  clear hsl HO3 HK3 HK2 hsg
  generalize w3.alloc _ = w4 at HSL HO HK R10 ⊢
  generalize w3.heap.size = g10 at R10 hgl hW2 ⊢
  clear w3
  obtain ⟨y0, hy0⟩ : ∃ y, mtag seed (endF fr) (endF (k : Nat)) tx = y := ⟨_, rfl⟩
  have hy16 : y0.size = 16 := by rw [← hy0]; exact mtag_size _ _ _ _
  have hcell : w4.cell? ⟨gv, k, none⟩ = some (.string y0) := by
    obtain ⟨b1, o1, he, hc, -⟩ := str_at HSL.out.row (i := k) (by rw [hsz]; exact hkm)
    simp only [Option.some.injEq, Addr.mk.injEq, and_true] at he
    obtain ⟨rfl, rfl⟩ := he
    rw [Nat.zero_add] at hc
    have h1 := tagsF_at seed fr tx hkm
    rw [List.getElem?_eq_getElem (by rw [hsz]; exact hkm)] at h1
    rw [hc, Option.some.inj h1, hy0]
  have a0 := blk_at R10.out 0 _ rfl
  have a1 := blk_at R10.out 1 _ rfl
  have e16 : ((y0.size : Int) != 16) = false := by rw [bne_eq_false_iff_eq]; omega
  have hki : (k : Int) < (m : Int) := by omega
  have hcv := Lib.run_convert_string_bytes (P := Try.prog) w4 9 34 5 y0 Try.underlying9 Try.underlying34 Try.underlying5
  obtain ⟨hbys, hbel⟩ := bys_conv w4 y0 (by omega)
  rw [hy16] at hcv hbys
  have HY := Sd.mk hy0
  have H16 := Sd.mk hy16
  clear hy0 hy16
  go_upto_region 9 with (fail)
  have HBY := Sd.mk hbys
  have HBE := Sd.mk hbel
  have HK5 := Sd.mk ((mv_kf _ _ _ _ _ _).below HK.out hbel)
  clear hbys hbel hcv a0 a1 hcell e16
  generalize Lib.bytesWorld w4 _ _ = W5 at HBY HBE HK5 ⊢
  obtain ⟨c0, c1, c2, c3⟩ := HK5.out.all
  obtain ⟨pp, hpp⟩ : ∃ z, z = d % 16 := ⟨_, rfl⟩
  obtain ⟨q0, hq0⟩ : ∃ z, z = d / 16 := ⟨_, rfl⟩
  obtain ⟨q1, hq1⟩ : ∃ z, z = q0 % 8 := ⟨_, rfl⟩
  have u0 : ((d : Int)).tmod 16 = (pp : Int) := by rw [Int.tmod_eq_emod_of_nonneg (by omega)]; omega
  have u0b : ((d : Int)) % 16 = (pp : Int) := by omega
  have u1 : ((d : Int)).tdiv 16 = (q0 : Int) := by rw [Int.tdiv_eq_ediv_of_nonneg (by omega)]; omega
  have u1b : ((d : Int)) / 16 = (q0 : Int) := by omega
  have u2 : IntKind.u8.wrap (q0 : Int) = (q0 : Int) := by rw [IntKind.wrap_u8]; omega
  have u3 : ((q0 : Int)).tmod 8 = (q1 : Int) := by rw [Int.tmod_eq_emod_of_nonneg (by omega)]; omega
  have u3b : ((q0 : Int)) % 8 = (q1 : Int) := by omega
  have u4 : (pp : Int) < 16 := by omega
  have hp16 : pp < 16 := by omega
  have hq8 : q1 < 8 := by omega
  obtain ⟨x, hx⟩ : ∃ x, x = byt y0 pp := ⟨_, rfl⟩
  have hb := HBY.out.at' pp hp16
  rw [← hx] at hb
  have fb := HBY.out.fr pp (Nat.lt_of_lt_of_le hp16 HBY.out.le)
  obtain ⟨z2, hz2⟩ : ∃ z : Nat, z = 2 ^ q1 := ⟨_, rfl⟩
  have z2b : z2 < 256 := by rw [hz2]; exact Nat.pow_lt_pow_right (by decide) hq8
  have z2p : 0 < z2 := by rw [hz2]; exact Nat.pow_pos (by decide)
  have s1 : IntKind.u8.wrap ((2 : Int) ^ q1) = (z2 : Int) := by
    rw [show ((2 : Int) ^ q1) = (z2 : Int) by rw [hz2]; exact (Int.natCast_pow 2 q1).symm, IntKind.wrap_u8]
    omega
  have xb : x < 256 := by rw [hx]; exact byt_lt _ _
  obtain ⟨z, hz⟩ : ∃ z, z = x ^^^ z2 := ⟨_, rfl⟩
  have s2 : bits .xor .u8 (x : Int) (z2 : Int) = (z : Int) := by rw [hz]; exact xor8 x z2 xb z2b
  have zb : z < 256 := by rw [hz]; exact Nat.xor_lt_two_pow (n := 8) xb z2b
  have zx : z ≠ x := fun e => by
    have e2 : x ^^^ (x ^^^ z2) = x ^^^ x := by rw [← hz, e]
    rw [← Nat.xor_assoc, Nat.xor_self, Nat.zero_xor] at e2
    omega
  have HX := Sd.mk hx
  clear hpp hq0 hq1 hx hz2 hz
  go_still_tail 12, (by kernel_rfl)
  change wpList _ _ _ _ _ W5.drew
  have HBY1 := Sd.mk HBY.out.drew
  have HBE1 := Sd.mk (below_drew' HBE.out)
  clear c0 c1 c2 c3 hb fb HK5 HBY HBE
  generalize W5.drew = W6 at HBY1 HBE1 ⊢
  have fb := HBY1.out.fr pp (Nat.lt_of_lt_of_le hp16 HBY1.out.le)
  obtain ⟨ub, hb⟩ := Option.isSome_iff_exists.1 (HBY1.out.is pp (Nat.lt_of_lt_of_le hp16 HBY1.out.le))
  go_upto_region 10 with (fail)
  clear fb hb
  obtain ⟨T, hT1, hT2⟩ := mk_bytes 16 (Vec.upd (byt y0) pp z) (fun j hj => by
    unfold Vec.upd; split
    · exact zb
    · exact byt_lt _ _)
  have hTne : T ≠ y0 := fun e => by
    have := hT2 pp hp16
    rw [Vec.upd_same, e, ← HX.out] at this
    exact zx this.symm
  have HBY2 := Sd.mk (Bys.put HBY1.out hp16 z)
  have HB2 := Sd.mk (HBE1.out.setCell (p := ⟨w4.heap.size, pp, none⟩) (Nat.le_refl _) (.int .u8 z))
  clear HBY1 HBE1
  generalize W6.setCell _ _ = W7 at HBY2 HB2 ⊢
  have cv := bys_string HBY2.out T hT1 hT2
  have HO7 := Sd.mk (OwnR.below HO.out HB2.out)
  have R7 := Sd.mk (blk_keep R10.out HB2.out)
  have B7 := Sd.mk (below_then HK.out.2 HB2.out)
  obtain ⟨gv2, cap2, hve, -, hgl2, ⟨uu, huu⟩, hfz, hput⟩ := own_put HO7.out (k := k) (by rw [hsz]; exact hkm)
  rw [hsz] at hve
  simp only [Value.slice.injEq, Option.some.injEq, Addr.mk.injEq, true_and, and_true] at hve
  obtain ⟨rfl, rfl⟩ := hve
  have a1 := blk_at R7.out 1 _ rfl
  have hgne : g10 ≠ gv := by omega
  have HT1 := Sd.mk hT1
  have HTN := Sd.mk hTne
  have HPUT := Sd.mk (hput T)
  clear hT1 hT2 hTne hput HO HK R10 HSL
  go_upto_region 11 with (fail)
  clear cv a1 huu hfz
  have R8 := Sd.mk ((heap_set W7 gv k (.string T) g10 hgne).trans R7.out)
  have B8 := Sd.mk (B7.out.setCell (p := ⟨gv, k, none⟩) hgw (.string T))
  clear R7 B7 HO7 HB2 HBY2
  generalize W7.setCell _ _ = W8 at HPUT R8 B8 ⊢
  obtain ⟨A8, c8, hv8, hsl8⟩ := own_sl HPUT.out (fun x hx => by
    rcases List.mem_or_eq_of_mem_set hx with h | h
    · exact tagsF_le _ _ _ _ x h
    · rw [h, HT1.out]; decide)
  have hlen8 : ((tagsF seed fr tx m).set k T).length = m := by rw [List.length_set, hsz]
  rw [hlen8] at hv8
  simp only [Value.slice.injEq, true_and] at hv8
  obtain ⟨rfl, rfl⟩ := hv8
  have HS8 := Sd.mk hsl8
  clear hsl8 p0 p0b p1 p2 p3 p4 p5 p5b p6 p6b u0 u0b u1 u1b u2 u3 u3b s1 s2
  obtain ⟨xs, hxs⟩ : ∃ xs, xs = (tagsF seed fr tx m).set k T := ⟨_, rfl⟩
  have HXS := Sd.mk (fun (i : Nat) (hi : i < m) (r : Bool) (hr : r = decide (i ≠ k)) => (show r = true ↔ holdsF seed (i : Nat) (m : Nat) tx fr xs from by
    rw [hr, hxs, decide_eq_true_iff]
    exact (bent_hold seed fr tx m i k T HM.out HF.out hi HT1.out (by rw [HY.out]; exact HTN.out)).symm))
  rw [← hxs] at HS8 HPUT hlen8
  clear hxs
  go_wp2
  go_loopg [13] m (fun gk v13 wr => ∃ i, i + gk = m ∧ v13 = .int .i64 (i : Nat) ∧ Sd (Below W8.heap.size W8 wr))
  case atStart => exact ⟨0, by omega, rfl, ⟨Below.refl _ _⟩⟩
  case round =>
    obtain ⟨i, hi, rfl, HX8⟩ := hrel
    have a0 := cell_below HX8.out (blk_at R8.out 0 _ rfl)
    have a1 := cell_below HX8.out (blk_at R8.out 1 _ rfl)
    by_cases hlt : i < m
    · have hii : (i : Int) < m := by omega
      obtain ⟨r, hr⟩ : ∃ r, r = decide (i ≠ k) := ⟨_, rfl⟩
      have hiff := Sd.mk (HXS.out i hlt r hr)
      have nb : ((i : Int) != (k : Int)) = r := by
        rw [hr]
        by_cases e : i = k
        · subst e; simp
        · rw [decide_eq_true e, bne_iff_ne]; omega
      clear hr
      go_wp2_with (first
        | (go_at_call 28; (refine (holds_len _ seed tx i m fr (some ⟨gv, 0, none⟩) cc xs m hlen8 (HS8.out.below HX8.out) hs2 ht2 r hiff.out).mono ?_); rintro e w6 ⟨rfl, hb6⟩; have HX9 := Sd.mk (below_then HX8.out hb6); clear a0 a1 HX8 hb6))
      go_roundg (gk - 1)
      case measure => omega
      case rel => exact ⟨i + 1, by omega, by go_num, HX9⟩
    · have hii : decide (i < m) = false := decide_eq_false (by omega)
      obtain rfl : i = m := by omega
      have HO9 := Sd.mk (OwnR.below HPUT.out HX8.out)
      have R9 := Sd.mk (blk_keep R8.out HX8.out)
      have B9 := Sd.mk (below_then B8.out HX8.out)
      clear a0 a1 HX8 HPUT R8 B8
      have a1 := blk_at R9.out 1 _ rfl
      go_wp2_with (first
        | (at_builtin; refine append_one (f := fS) (n := 1) (fun _ => rfl) (fun _ _ hu => by simp [fS] at hu; subst hu; rfl) w.heap.size rfl (.tmp 109) (.tmp 110) 26 9 (.string ByteArray.empty) 16 rfl Try.underlying26 info_str rfl (by decide) (.slice (some ⟨gv, 0, none⟩) i cc) xs { data := #[120] } rfl rfl HO9.out B9.out B9.out.size (by rw [hlen8]; omega) (by rw [hlen8]; omega) ?_; intro v6 w6 hown hbel hgrow
           have r10 := blk_grown R9.out hgrow (OwnR.blk HO9.out R9.out (by decide))
           have hle : ∀ y ∈ xs ++ [{ data := #[120] }], y.size ≤ maxLen := (fun y hy => (by
             rcases List.mem_append.1 hy with h | h
             · obtain ⟨j, hj, rfl⟩ := List.getElem_of_mem h
               obtain ⟨-, -, -, -, hle⟩ := str_at HS8.out.row hj
               exact hle
             · simp at h; subst h; decide))
           have hown7 : ∀ u, OwnR fS 1 (w6.setCell ⟨g10, 1, none⟩ u) w.heap.size 9 v6 (xs ++ [{ data := #[120] }]) := (fun u => OwnR.grown hown (row := some g10) ⟨rfl, rfl, rfl, by simp [World.setCell], fun j hj hr => heap_set _ _ _ _ j (fun e => hr (by rw [e]))⟩ (.inr (OwnR.blk hown r10 (by decide))))
           have hlen9 : (xs ++ [({ data := #[120] } : ByteArray)]).length = i + 1 := (by rw [List.length_append, hlen8]; rfl)
           obtain ⟨A6, q6, hv6, -⟩ := own_sl hown hle
           have hsl7 : ∀ u, Sl Rk.str (w6.setCell ⟨g10, 1, none⟩ u) A6 q6 (xs ++ [{ data := #[120] }]) := (fun u => (by
             obtain ⟨A7, q7, hv7, hs⟩ := own_sl (hown7 u) hle
             rw [hv6] at hv7
             simp only [Value.slice.injEq, true_and] at hv7
             obtain ⟨rfl, rfl⟩ := hv7
             exact hs))
           have SL7 := Sd.mk hsl7; have LN9 := Sd.mk hlen9
           rw [hlen9] at hv6
           clear hown hown7 hle hsl7 hlen9
           subst hv6
           have c6 := blk_at r10 1 _ rfl; have c60 := blk_at r10 0 _ rfl; have f6 := blk_frz r10 1)
        | (go_at_call 28; (refine (holds_len _ seed tx 0 i fr A6 q6 (xs ++ [{ data := #[120] }]) (i + 1) LN9.out (SL7.out _) hs2 ht2 false ⟨fun h => (by cases h), fun h => absurd h.2.2.2.1 (by rw [LN9.out]; omega)⟩).mono ?_); rintro e w8 ⟨rfl, hb8⟩))
      go_ret
      exact ⟨rfl, below_then (hbel.setCell (p := ⟨g10, 1, none⟩) hW2 _) hb8⟩

set_option maxHeartbeats 4000000 in
set_option maxRecDepth 100000 in
theorem mb_row (w : World) (seed : ByteArray) (hs : seed.size ≤ 140737488351232) (tx : ByteArray) (ht : tx.size ≤ 140737488351232) (l : List Int) (ds : Array Value) (h : (Rk.arr (Rk.int .u8) 4).K w l ds.toList) :
    Calls Try.prog 11 #[.string seed, .string tx, .agg ds] w fun e w' => e = .returned (.bool true) ∧ Below w.heap.size w w' := by
  obtain ⟨a, b, c, d, e1, la, lb, lc, ld⟩ := four_bytes h
  obtain rfl := Api.arr_of e1
  by_cases h1 : seed.size ≤ 60
  · by_cases h2 : tx.size ≤ 60
    · exact mb_few w seed tx h1 h2 a b c d la lb lc ld
    · have d1 : decide ((60 : Int) < (seed.size : Int)) = false := decide_eq_false (by omega)
      have d2 : decide ((60 : Int) < (tx.size : Int)) = true := decide_eq_true (by omega)
      go_enter Try.func11, Try.ntmps11
      go_wp2_with (first
        | (go_at_call 20; (with_reducible refine (awake_any _).mono ?_); rintro e w1 ⟨rfl, hb1⟩; (first | (have B1 := Sd.mk (below_then B0.out hb1)) | have B0 := Sd.mk (below_then (below_one _ _) hb1)); clear hb1))
      go_ret
      exact ⟨rfl, B1.out⟩
  · have d1 : decide ((60 : Int) < (seed.size : Int)) = true := decide_eq_true (by omega)
    go_enter Try.func11, Try.ntmps11
    go_wp2_with (first
      | (go_at_call 20; (with_reducible refine (awake_any _).mono ?_); rintro e w1 ⟨rfl, hb1⟩; (first | (have B1 := Sd.mk (below_then B0.out hb1)) | have B0 := Sd.mk (below_then (below_one _ _) hb1)); clear hb1))
    go_ret
    exact ⟨rfl, B1.out⟩
end Go.Proofs.Ytmilnaiehebalaa.Mac

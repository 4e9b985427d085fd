/- The digest under way: written. -/
import Derived.Test.YtnomgkmeomlccaaGreatDigN
import Derived.Laws.CopyRow
import Derived.Deep.RegionLaw
set_option linter.unusedVariables false
set_option linter.unusedSimpArgs false
namespace Go.Proofs.YtnomgkmeomlccaaGreat.Dig
open Go.RowKit Rd Api Own Mv Word Vec Mix Tab Step

theorem Only.below {g : Nat} {w W W1 : World} (h : Only g w W) (hb : Below W.heap.size W W1) : Only g w W1 :=
  ⟨fun a b c => below_then' (h.bel a b c) (Nat.le_trans c h.size) hb, fun k hk hg => (hb.block k (Nat.lt_of_lt_of_le hk h.size)).trans (h.oth k hk hg), Nat.le_trans h.size hb.size⟩
theorem Only.refl (g : Nat) (w : World) : Only g w w := ⟨fun a _ _ => a, fun _ _ _ => rfl, Nat.le_refl _⟩
theorem Only.row {g : Nat} {w W : World} (h : Only g w W) (cs : Array Value) : Only g w (W.setRow g cs) :=
  ⟨fun a b c => row_below (h.bel a b c) b cs, fun k hk hg => (row_heap W g cs k hg).trans (h.oth k hk hg), by have := h.size; simpa [World.setRow] using this⟩
theorem load_cells {P : Program} {k : IntKind} {n : Nat} {g : Nat} {V : Nat → Nat} {W : World} (h : ∀ i, i < n → W.cell? ⟨g, i, none⟩ = some (.int k (V i))) {t e : TypeId} (hu : P.underlying t = some (.array n e)) (hi : (P.info? t).map (·.size) = some n) :
    (Instr.loadAt t (.pointer (some ⟨g, 0, none⟩))).run P W = .ok (.agg (vec k n V)) W := by
  simp only [Instr.loadAt, Instr.sureAddr, Sem.run_bind, Sem.run_pure, Result.andThen_ok]
  have hl : (loadCells ⟨g, 0, none⟩ (vec k n V).toList.length).run P W = .ok (vec k n V).toList.toArray W :=
    run_loadCells_list (P := P) (w := W) ⟨g, 0, none⟩ (vec k n V).toList (fun j v hv => by
      have hadd : (⟨g, 0, none⟩ : Addr).add j = ⟨g, j, none⟩ := by unfold Addr.add; split <;> simp_all
      have hj : j < n := by
        rcases Nat.lt_or_ge j n with x | x
        · exact x
        · rw [List.getElem?_eq_none (by rw [Array.length_toList, vec_size]; exact x)] at hv; cases hv
      have hv' : (vec k n V)[j]? = some v := by simpa using hv
      rw [vec_at k V hj] at hv'
      rw [hadd, h j hj]
      exact hv')
  cases hq : P.info? t with
  | none => rw [hq] at hi; cases hi
  | some d =>
    have hs : d.size = n := by rw [hq] at hi; simpa using hi
    rw [Array.length_toList, vec_size] at hl
    simp [loadVar, isAgg, run_underlying hu, sizeOf, typeInfo, hq, hs, hl]
theorem still_load_cells {P : Program} {ops : Array Oper} {o : Oper} {a : Act} {w : World} {K : Act → Prop} (hw : Region.wanted o (yielded ops a.tmps) = true) (t : TypeId) (x : Operand) (ho : o.op = .load t x) {g : Nat}
    (hx : a.eval x = .pointer (some ⟨g, 0, none⟩)) {k : IntKind} {n : Nat} {V : Nat → Nat} (h : ∀ i, i < n → w.cell? ⟨g, i, none⟩ = some (.int k (V i))) {e : TypeId} (hu : P.underlying t = some (.array n e)) (hi : (P.info? t).map (·.size) = some n)
    (hK : K (a.put o.dst (.agg (vec k n V)))) : if Region.wanted o (yielded ops a.tmps) then o.still P a w K else K (a.put o.dst undef) := by
  rw [if_pos hw]
  unfold Oper.still execOp
  simp only [ho, hx]
  have := load_cells (P := P) h hu hi
  simp only [Sem.run_bind, this, Result.andThen_ok, Sem.run_pure]
  exact ⟨rfl, hK⟩

theorem dc_at (H : Nat → Nat) (r : ByteArray) (z : Nat) : ∀ i, i < 8 → (dc H r z)[i]? = some (.int .u32 (H i))
  | 0, _ | 1, _ | 2, _ | 3, _ | 4, _ | 5, _ | 6, _ | 7, _ => rfl
/-- a digest's block -/
def DB (g : Nat) (H : Nat → Nat) (r : ByteArray) (z : Nat) (W : World) : Prop := W.heap[g]? = some (.cells (dc H r z) 163 (0, 0))
theorem DB.at {g : Nat} {H : Nat → Nat} {r : ByteArray} {z : Nat} {W : World} (h : DB g H r z W) : ∀ i, i < 8 → W.cell? ⟨g, i, none⟩ = some (.int .u32 (H i)) := fun i hi => blk_at h i _ (dc_at H r z i hi)
theorem DB.c8 {g : Nat} {H : Nat → Nat} {r : ByteArray} {z : Nat} {W : World} (h : DB g H r z W) : W.cell? ⟨g, 8, none⟩ = some (.string r) := blk_at h 8 _ rfl
theorem DB.c9 {g : Nat} {H : Nat → Nat} {r : ByteArray} {z : Nat} {W : World} (h : DB g H r z W) : W.cell? ⟨g, 9, none⟩ = some (.int .u64 z) := blk_at h 9 _ rfl
theorem DB.frz {g : Nat} {H : Nat → Nat} {r : ByteArray} {z : Nat} {W : World} (h : DB g H r z W) (i : Nat) : W.frozen? ⟨g, i, none⟩ = false := blk_frz h i
theorem DB.set8 {g : Nat} {H : Nat → Nat} {r : ByteArray} {z : Nat} {W : World} (h : DB g H r z W) (r1 : ByteArray) : DB g H r1 z (W.setCell ⟨g, 8, none⟩ (.string r1)) := (blk_set3 h 8 _).trans rfl
theorem DB.set9 {g : Nat} {H : Nat → Nat} {r : ByteArray} {z : Nat} {W : World} (h : DB g H r z W) (z1 : Nat) : DB g H r z1 (W.setCell ⟨g, 9, none⟩ (.int .u64 z1)) := (blk_set3 h 9 _).trans rfl
theorem DB.row {g : Nat} {H : Nat → Nat} {r : ByteArray} {z : Nat} {W : World} (h : DB g H r z W) (H1 : Nat → Nat) : DB g H1 r z (W.setRow g (dc H1 r z)) := setRow_heap W g _ _ _ _ h
theorem DB.below {g : Nat} {H : Nat → Nat} {r : ByteArray} {z : Nat} {W W1 : World} (h : DB g H r z W) (hb : Below W.heap.size W W1) : DB g H r z W1 := blk_keep h hb
theorem DB.store {P : Program} {g : Nat} {H : Nat → Nat} {r : ByteArray} {z : Nat} {W : World} (h : DB g H r z W) (H1 : Nat → Nat) : (storeCells ⟨g, 0, none⟩ (vec .u32 8 H1).toList 0).run P W = .ok () (W.setRow g (dc H1 r z)) := by
  rw [run_storeCells_at (P := P) g 0 163 (vec .u32 8 H1).toList 0 _ W h (by rw [Array.length_toList, vec_size]; show 8 ≤ 10; decide) (fun v hv => (Array.all_eq_true_iff_forall_mem.1 (vec_one .u32 8 H1)) v (by simpa using hv))]
  congr 2

theorem DB.drew {g : Nat} {H : Nat → Nat} {r : ByteArray} {z : Nat} {W : World} (h : DB g H r z W) : DB g H r z W.drew := h
theorem DB.all {w : World} {g : Nat} {H : Nat → Nat} {r : ByteArray} {z : Nat} {W : World} (h : DB g H r z W) (k : Only g w W) : W.cell? ⟨g, 0, none⟩ = some (.int .u32 (H 0)) ∧ W.cell? ⟨g, 1, none⟩ = some (.int .u32 (H 1)) ∧ W.cell? ⟨g, 2, none⟩ = some (.int .u32 (H 2)) ∧ W.cell? ⟨g, 3, none⟩ = some (.int .u32 (H 3)) ∧ W.cell? ⟨g, 4, none⟩ = some (.int .u32 (H 4)) ∧ W.cell? ⟨g, 5, none⟩ = some (.int .u32 (H 5)) ∧ W.cell? ⟨g, 6, none⟩ = some (.int .u32 (H 6)) ∧ W.cell? ⟨g, 7, none⟩ = some (.int .u32 (H 7)) ∧ W.cell? ⟨g, 9, none⟩ = some (.int .u64 z) ∧ Sd (DB g H r z W ∧ Only g w W) :=
  ⟨h.at 0 (by decide), h.at 1 (by decide), h.at 2 (by decide), h.at 3 (by decide), h.at 4 (by decide), h.at 5 (by decide), h.at 6 (by decide), h.at 7 (by decide), h.c9, ⟨h, k⟩⟩
theorem step_lit (w : World) (H : Nat → Nat) (b : ByteArray) (size : Nat) (last : Bool) (hH : Wd H) (hb : b.size = 64) (hs : size < 18446744073709551616) {c : ByteArray} (hc : b = c) :
    Calls Tryz.prog 93 #[.agg #[.int .u32 (H 0), .int .u32 (H 1), .int .u32 (H 2), .int .u32 (H 3), .int .u32 (H 4), .int .u32 (H 5), .int .u32 (H 6), .int .u32 (H 7)], .string c, .int .u64 size, .bool last] w fun e w' => e = .returned (.agg (vec .u32 8 (blockF H (byt b) size last))) ∧ Below w.heap.size w w' := by
  subst hc; exact step_any w H b size last hH hb hs

set_option maxHeartbeats 4000000 in
set_option maxRecDepth 100000 in
theorem write_any (w : World) (g k : Nat) (S b : ByteArray) (hD : Dg g k S w) (hk : k ≤ 64) (hsb : S.size + b.size ≤ 4611686018427387904) :
    Calls Tryz.prog 61 #[.pointer (some ⟨g, 0, none⟩), .string b] w fun e w' => e = .returned (.tuple #[]) ∧ Dg g k (S ++ b) w' ∧ Only g w w' := by
  have hR0 := rest_le S
  obtain ⟨R, hR⟩ : ∃ z, z = rest S := ⟨_, rfl⟩
  obtain ⟨T, hT⟩ : ∃ z, z = S ++ b := ⟨_, rfl⟩
  obtain ⟨q0, hq0⟩ : ∃ z, z = qn S.size := ⟨_, rfl⟩
  have hTs : T.size ≤ 4611686018427387904 := by rw [hT, app_size]; exact hsb
  have hq1 : q0 = 0 ∨ 64 * q0 < T.size := by
    rw [hq0, hT, app_size]
    rcases qn_lt (n := S.size) with h | h
    · exact .inl h
    · exact .inr (by omega)
  have HQ0 := Sd.mk hq1
  have hRb : R ++ b = T.extract (64 * q0) T.size := by rw [hR, hT, hq0]; exact rest_app S b
  have HD : DB g (hs k (byt T) q0) R (64 * q0) w := by
    unfold Dg at hD
    rw [hs_app k S b, ← hT, ← hR, ← hq0] at hD
    exact hD
  rw [← hT]
  rw [← hR] at hR0
  have hcat : ¬9223372036854775807 < R.size + b.size := by omega
  have HD := Sd.mk HD
  have HRb := Sd.mk hRb
  have HO := Sd.mk (Only.refl g w)
  clear hR hT hq0 hq1 hD hRb
  have c8 := HD.out.c8
  go_enter Tryz.func61, Tryz.ntmps61
  go_upto_region 1 with (fail)
  rw [HRb.out]
  clear c8 hcat
  go_loopg [4] (T.size + 1) (fun gk v4 wr => ∃ q R1, T.size + 1 ≤ q + gk ∧ v4 = .string (T.extract (64 * q) T.size) ∧ Sd (q = 0 ∨ 64 * q < T.size) ∧ Sd (DB g (hs k (byt T) q) R1 (64 * q) wr) ∧ Sd (Only g w wr))
  case atStart => exact ⟨q0, R, by omega, rfl, HQ0, HD, HO⟩
  case round =>
    clear HD HQ0 HO HRb hR0
    obtain ⟨q, R1, hgk, rfl, HQ, HD, HO⟩ := hrel
    have hgk1 : 1 ≤ gk := by have := HQ.out; omega
    obtain ⟨A, hA⟩ : ∃ z, z = T.extract (64 * q) T.size := ⟨_, rfl⟩
    have hAs : A.size = T.size - 64 * q := by rw [hA]; exact ext_size (Nat.le_refl _)
    obtain ⟨n, hn⟩ : ∃ z, z = A.size := ⟨_, rfl⟩
    have hns : (A.size : Int) = (n : Int) := by omega
    rw [← hA]
    have HAs := Sd.mk hAs
    have HA := Sd.mk hA
    by_cases hlt : 64 < n
    -- <L1
    · have hlti : (64 : Int) < n := by omega
      have hlei : (64 : Int) ≤ n := by omega
      have hlen : 64 ≤ n := by omega
      have hleA : 64 ≤ A.size := by omega
      obtain ⟨z, hz⟩ : ∃ z, z = 64 * q := ⟨_, rfl⟩
      obtain ⟨z2, hz2⟩ : ∃ z2, z2 = 64 * q + 64 := ⟨_, rfl⟩
      have hw : IntKind.u64.wrap ((z : Int) + 64) = (z2 : Int) := by rw [keep_u64 (by omega) (by omega)]; omega
      rw [← hz] at HD
      have hqT : 64 * q + 64 ≤ T.size := by omega
      have c9 := HD.out.c9
      have f9 := HD.out.frz 9
      have Hz := Sd.mk hz
      have Hz2 := Sd.mk hz2
      have bA : byt (A.extract 0 64) = cut (byt T) q := by rw [hA, cut_head hqT]; exact byt_cut
      have sA : (A.extract 0 64).size = 64 := by rw [ext_size (by omega)]
      have tA : A.extract 64 A.size = T.extract (64 * (q + 1)) T.size := by rw [hA]; exact cut_tail hqT
      obtain ⟨C, hC⟩ : ∃ z, z = A.extract 0 64 := ⟨_, rfl⟩
      rw [← hC] at bA sA
      have HC := Sd.mk hC
      have BA := Sd.mk bA
      have TA := Sd.mk tA
      have z2lt : z2 < 18446744073709551616 := by omega
      have WdH := Sd.mk (Wd.hs hk (A := byt T) (q := q) (by omega))
      clear hA hAs hn hz hz2 hC bA tA
      go_upto_region 3 with (fail)
      clear c9 f9
      have HD2 := Sd.mk (HD.out.set9 z2)
      have HO2 := Sd.mk (HO.out.set 9 (.int .u64 z2))
      clear HD HO
      generalize wr.setCell _ _ = W1 at HD2 HO2 ⊢
      generalize hH : hs k (byt T) q = H at HD2 WdH ⊢
      have HH := Sd.mk hH
      clear hH
      obtain ⟨d0, d1, d2, d3, d4, d5, d6, d7, d9, hX⟩ := DB.all HD2.out HO2.out
      clear HD2 HO2
      go_region_law (first | (go_simp; go_at_call 93; (refine (step_lit _ H C z2 false WdH.out sA z2lt HC.out).mono ?_); rintro e w5 ⟨rfl, hb5⟩; have HD5 := Sd.mk (DB.below hX.out.1.drew hb5); have HO5 := Sd.mk (Only.below hX.out.2.drew hb5); have hst := DB.store (P := Tryz.prog) HD5.out (blockF H (byt C) z2 false); have hsz := vec_size .u32 8 (blockF H (byt C) z2 false)) | fail)
      all_goals
        have HD6 := Sd.mk (HD5.out.row (blockF H (byt C) z2 false))
        have HO6 := Sd.mk (Only.row HO5.out (dc (blockF H (byt C) z2 false) R1 z2))
        clear hst hsz hb5 HD5 HO5
        generalize w5.setRow _ _ = W6 at HD6 HO6 ⊢
        go_wp2
        go_roundg (gk - 1)
        case measure => omega
        case rel =>
          have e1 := HAs.out
          refine ⟨q + 1, R1, by omega, by rw [TA.out], ⟨.inr (by omega)⟩, ⟨?_⟩, HO6⟩
          have := HD6.out
          rw [BA.out, Hz2.out, ← HH.out] at this
          exact this
    -- L1>
    · have hlti : decide ((64 : Int) < n) = false := decide_eq_false (by omega)
      have HQ2 := Sd.mk (qn_of HQ.out (show T.size ≤ 64 * q + 64 by omega))
      have f8 := HD.out.frz 8
      have c8 := HD.out.c8
      clear hA HQ
      clear hAs
      go_wp2
      go_end0
      refine ⟨rfl, ?_, HO.out.set 8 _⟩
      have := HD.out.set8 A
      unfold Dg
      rw [← HQ2.out]
      unfold rest
      rw [← HQ2.out, ← HA.out]
      exact this
end Go.Proofs.YtnomgkmeomlccaaGreat.Dig

/- The program's mix, walked. -/
import Derived.Test.YtnomgkmeomlccaaGreatVec
set_option linter.unusedVariables false
set_option linter.unusedSimpArgs false
namespace Go.Proofs.YtnomgkmeomlccaaGreat.Mix
open Go.RowKit Rd Api Own Mv Word Vec

/-- only block g was written, of what was there -/
structure Only (g : Nat) (w w' : World) : Prop where
  bel : ∀ {B : Nat} {w0 : World}, Below B w0 w → B ≤ g → B ≤ w.heap.size → Below B w0 w'
  oth : ∀ k, k < w.heap.size → k ≠ g → w'.heap[k]? = w.heap[k]?
  size : w.heap.size ≤ w'.heap.size
theorem Only.alloc (g : Nat) (w : World) (o : Obj) : Only g w (w.alloc o) := ⟨fun h h1 h2 => h.alloc h2 _, fun k hk _ => Below.heap_alloc w o k hk, (below_one w o).size⟩
theorem Only.drew {g : Nat} {w W : World} (h : Only g w W) : Only g w W.drew := ⟨fun a b c => below_drew' (h.bel a b c), h.oth, h.size⟩
theorem Only.drewN {g : Nat} {w W : World} (h : Only g w W) (n : Nat) : Only g w (W.drewN n) := ⟨fun a b c => below_drewN (h.bel a b c) n, h.oth, h.size⟩
theorem Only.set {g : Nat} {w W : World} (h : Only g w W) (i : Nat) (u : Value) : Only g w (W.setCell ⟨g, i, none⟩ u) :=
  ⟨fun a b c => (h.bel a b c).setCell b _, fun k hk hg => (heap_set W g i u k hg).trans (h.oth k hk hg), by have := h.size; simpa [World.setCell] using this⟩

theorem add32 (a b x : Nat) : IntKind.u32.wrap ((b : Int) + x) = ((b + x) % 4294967296 : Nat) ∧ IntKind.u32.wrap ((a : Int) + ((b + x) % 4294967296 : Nat)) = gA a b x ∧ IntKind.u32.wrap ((a : Int) + b) = gC a b := by
  refine ⟨?_, ?_, ?_⟩
  · rw [IntKind.wrap_u32]; omega
  · rw [IntKind.wrap_u32]; unfold gA; omega
  · rw [IntKind.wrap_u32]; unfold gC; omega

set_option maxHeartbeats 8000000 in
set_option maxRecDepth 100000 in
theorem mix_any (w : World) (g : Nat) (V : Nat → Nat) (a b c d x y : Nat) (hG : VB .u32 16 205 g V w) (hV : ∀ i, V i < 4294967296) (hx : x < 4294967296) (hy : y < 4294967296) (h4 : W4 a b c d) :
    Calls Tryz.prog 122 #[.pointer (some ⟨g, 0, none⟩), .agg #[.int .i64 a, .int .i64 b, .int .i64 c, .int .i64 d], .int .u32 x, .int .u32 y] w fun e w' => e = .returned (.tuple #[]) ∧ VB .u32 16 205 g (mixV V a b c d x y) w' ∧ Only g w w' := by
  have H4 := Sd.mk h4
  obtain ⟨⟨ha, hb, hc, hd⟩, ⟨hab, hac, had⟩, ⟨hbc, hbd⟩, hcd⟩ := h4
  have i1 : (a : Int) < 16 := by omega
  have i2 : (b : Int) < 16 := by omega
  have i3 : (c : Int) < 16 := by omega
  have i4 : (d : Int) < 16 := by omega
  obtain ⟨va, hva⟩ : ∃ z, z = V a := ⟨_, rfl⟩
  have la : va < 4294967296 := by rw [hva]; exact hV _
  have Ha := Sd.mk hva
  clear hva
  obtain ⟨vb, hvb⟩ : ∃ z, z = V b := ⟨_, rfl⟩
  have lb : vb < 4294967296 := by rw [hvb]; exact hV _
  have Hb := Sd.mk hvb
  clear hvb
  obtain ⟨vc, hvc⟩ : ∃ z, z = V c := ⟨_, rfl⟩
  have lc : vc < 4294967296 := by rw [hvc]; exact hV _
  have Hc := Sd.mk hvc
  clear hvc
  obtain ⟨vd, hvd⟩ : ∃ z, z = V d := ⟨_, rfl⟩
  have ld : vd < 4294967296 := by rw [hvd]; exact hV _
  have Hd := Sd.mk hvd
  clear hvd
  obtain ⟨A1, hA1⟩ : ∃ z, z = gA va vb x := ⟨_, rfl⟩
  have lA1 : A1 < 4294967296 := by rw [hA1]; exact gA_lt _ _ _
  obtain ⟨f0, k0, -⟩ := add32 va vb x
  rw [← hA1] at k0
  generalize (vb + x) % 4294967296 = t0 at f0 k0
  have HA1 := Sd.mk hA1
  clear hA1
  obtain ⟨D1, hD1⟩ : ∃ z, z = gR vd A1 16 := ⟨_, rfl⟩
  have lD1 : D1 < 4294967296 := by rw [hD1]; exact gR_lt _ _ _
  have k1 := xor32 vd A1 ld lA1
  have r1 : ∀ w, Calls Tryz.prog 138 #[.int .u32 (vd ^^^ A1 : Nat), .int .i64 16] w fun e w' => e = .returned (.int .u32 D1) ∧ w' = w := by rw [hD1]; exact fun w => rot_any w _ 16 (xor_lt ld lA1) (by decide)
  have R1 := Sd.mk r1
  clear r1
  have HD1 := Sd.mk hD1
  clear hD1
  obtain ⟨C1, hC1⟩ : ∃ z, z = gC vc D1 := ⟨_, rfl⟩
  have lC1 : C1 < 4294967296 := by rw [hC1]; exact gC_lt _ _
  obtain ⟨-, -, k2⟩ := add32 vc D1 0
  rw [← hC1] at k2
  have HC1 := Sd.mk hC1
  clear hC1
  obtain ⟨B1, hB1⟩ : ∃ z, z = gR vb C1 12 := ⟨_, rfl⟩
  have lB1 : B1 < 4294967296 := by rw [hB1]; exact gR_lt _ _ _
  have k3 := xor32 vb C1 lb lC1
  have r3 : ∀ w, Calls Tryz.prog 138 #[.int .u32 (vb ^^^ C1 : Nat), .int .i64 12] w fun e w' => e = .returned (.int .u32 B1) ∧ w' = w := by rw [hB1]; exact fun w => rot_any w _ 12 (xor_lt lb lC1) (by decide)
  have R3 := Sd.mk r3
  clear r3
  have HB1 := Sd.mk hB1
  clear hB1
  obtain ⟨A2, hA2⟩ : ∃ z, z = gA A1 B1 y := ⟨_, rfl⟩
  have lA2 : A2 < 4294967296 := by rw [hA2]; exact gA_lt _ _ _
  obtain ⟨f4, k4, -⟩ := add32 A1 B1 y
  rw [← hA2] at k4
  generalize (B1 + y) % 4294967296 = t4 at f4 k4
  have HA2 := Sd.mk hA2
  clear hA2
  obtain ⟨D2, hD2⟩ : ∃ z, z = gR D1 A2 8 := ⟨_, rfl⟩
  have lD2 : D2 < 4294967296 := by rw [hD2]; exact gR_lt _ _ _
  have k5 := xor32 D1 A2 lD1 lA2
  have r5 : ∀ w, Calls Tryz.prog 138 #[.int .u32 (D1 ^^^ A2 : Nat), .int .i64 8] w fun e w' => e = .returned (.int .u32 D2) ∧ w' = w := by rw [hD2]; exact fun w => rot_any w _ 8 (xor_lt lD1 lA2) (by decide)
  have R5 := Sd.mk r5
  clear r5
  have HD2 := Sd.mk hD2
  clear hD2
  obtain ⟨C2, hC2⟩ : ∃ z, z = gC C1 D2 := ⟨_, rfl⟩
  have lC2 : C2 < 4294967296 := by rw [hC2]; exact gC_lt _ _
  obtain ⟨-, -, k6⟩ := add32 C1 D2 0
  rw [← hC2] at k6
  have HC2 := Sd.mk hC2
  clear hC2
  obtain ⟨B2, hB2⟩ : ∃ z, z = gR B1 C2 7 := ⟨_, rfl⟩
  have lB2 : B2 < 4294967296 := by rw [hB2]; exact gR_lt _ _ _
  have k7 := xor32 B1 C2 lB1 lC2
  have r7 : ∀ w, Calls Tryz.prog 138 #[.int .u32 (B1 ^^^ C2 : Nat), .int .i64 7] w fun e w' => e = .returned (.int .u32 B2) ∧ w' = w := by rw [hB2]; exact fun w => rot_any w _ 7 (xor_lt lB1 lC2) (by decide)
  have R7 := Sd.mk r7
  clear r7
  have HB2 := Sd.mk hB2
  clear hB2
  have hlt := blk_lt' hG
  go_enter Tryz.func122, Tryz.ntmps122
  go_upto_region 1 with (fail)
  have X := Sd.mk (show VB .u32 16 205 g V (w.alloc (.cells #[.int .i64 a, .int .i64 b, .int .i64 c, .int .i64 d] 209)) from blk_keep hG (below_one _ _))
  have O := Sd.mk (Only.alloc g w (.cells #[.int .i64 a, .int .i64 b, .int .i64 c, .int .i64 d] 209))
  have Q := Sd.mk (blk_new w (.cells #[.int .i64 a, .int .i64 b, .int .i64 c, .int .i64 d] 209))
  clear hG
  generalize w.alloc _ = W at X O Q ⊢
  have q0 := blk_at Q.out 0 _ rfl; have q1 := blk_at Q.out 1 _ rfl; have q2 := blk_at Q.out 2 _ rfl; have q3 := blk_at Q.out 3 _ rfl
  have ca := X.out.cell ha Ha.out.symm
  have cb := X.out.cell hb Hb.out.symm
  have cc := X.out.cell hc Hc.out.symm
  have cd := X.out.cell hd Hd.out.symm
  go_quiet (fail)
  have X' := Sd.mk (show VB .u32 16 205 g V (W.drewN nq) from X.out)
  have O' := Sd.mk (O.out.drewN nq)
  have Q' := Sd.mk (show (W.drewN nq).heap[w.heap.size]? = some _ from Q.out)
  clear X O Q q0 q1 q2 q3 ca cb cc cd
  generalize W.drewN nq = W1 at X' O' Q' ⊢
  go_upto_region 10 with (first | (go_at_call 138; (with_reducible refine (R1.out _).mono ?_); rintro e w' ⟨rfl, rfl⟩) | (go_at_call 138; (with_reducible refine (R3.out _).mono ?_); rintro e w' ⟨rfl, rfl⟩) | (go_at_call 138; (with_reducible refine (R5.out _).mono ?_); rintro e w' ⟨rfl, rfl⟩) | (go_at_call 138; (with_reducible refine (R7.out _).mono ?_); rintro e w' ⟨rfl, rfl⟩))
  have q0 := blk_at Q'.out 0 _ rfl; have q1 := blk_at Q'.out 1 _ rfl; have q2 := blk_at Q'.out 2 _ rfl; have q3 := blk_at Q'.out 3 _ rfl
  have ca := X'.out.cell ha Ha.out.symm
  have cb := X'.out.cell hb Hb.out.symm
  have cc := X'.out.cell hc Hc.out.symm
  have cd := X'.out.cell hd Hd.out.symm
  have za := X'.out.frz a
  have zb := X'.out.frz b
  have zc := X'.out.frz c
  have zd := X'.out.frz d
  have hne : g ≠ w.heap.size := by omega
  have hba : b ≠ a := hab.symm; have hca : c ≠ a := hac.symm; have hda : d ≠ a := had.symm; have hcb : c ≠ b := hbc.symm; have hdb : d ≠ b := hbd.symm; have hdc : d ≠ c := hcd.symm
  go_region
  go_wp2
  go_end0
  have hm : mixV V a b c d x y = put4 V a b c d ⟨A2, B2, C2, D2⟩ := by
    unfold mixV mix4
    dsimp only
    rw [← Ha.out, ← Hb.out, ← Hc.out, ← Hd.out, ← HA1.out, ← HD1.out, ← HC1.out, ← HB1.out, ← HA2.out, ← HD2.out, ← HC2.out, ← HB2.out]
  refine ⟨rfl, ?_, ((((O'.out.set a _).set b _).set c _).set d _).drew⟩
  rw [hm]
  exact (((X'.out.set ha A2).set hb B2).set hc C2).set hd D2
end Go.Proofs.YtnomgkmeomlccaaGreat.Mix

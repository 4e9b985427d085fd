/- Rows of words: the mix of four, plain; and the walk of the reference's. -/
import Derived.Test.YtnomgkmeomlccaaGreatWord
import Derived.StillTailTactics
import Derived.Laws.Rows
import Derived.Deep.CutBlock
import Derived.Deep.DeepCutAuto
import Derived.Laws.Tables
set_option linter.unusedVariables false
set_option linter.unusedSimpArgs false
namespace Go.Proofs.YtnomgkmeomlccaaGreat.Vec
open Go.RowKit Rd Api Own Mv Word

def vec (k : IntKind) (n : Nat) (V : Nat → Nat) : Array Value := ((List.range n).map fun i => Value.int k (V i)).toArray
theorem vec_size (k : IntKind) (n : Nat) (V : Nat → Nat) : (vec k n V).size = n := by simp [vec]
theorem vec_at (k : IntKind) {n : Nat} (V : Nat → Nat) {i : Nat} (hi : i < n) : (vec k n V)[i]? = some (.int k (V i)) := by simp [vec, hi]
def upd (V : Nat → Nat) (i x : Nat) : Nat → Nat := fun j => if j = i then x else V j
theorem upd_same (V : Nat → Nat) (i x : Nat) : upd V i x i = x := by simp [upd]
theorem upd_ne {V : Nat → Nat} {i x j : Nat} (h : j ≠ i) : upd V i x j = V j := by simp [upd, h]
theorem vec_upd (k : IntKind) {n : Nat} (V : Nat → Nat) {i : Nat} (hi : i < n) (x : Nat) : (vec k n V).setIfInBounds i (.int k x) = vec k n (upd V i x) := by
  apply Array.ext_getElem?
  intro j
  rw [Array.getElem?_setIfInBounds, vec_size]
  by_cases h : i = j
  · subst h
    rw [if_pos rfl, if_pos hi, vec_at k _ hi, upd_same]
  · rw [if_neg h]
    by_cases hj : j < n
    · rw [vec_at k _ hj, vec_at k _ hj, upd_ne (fun e => h e.symm)]
    · have h1 : n ≤ j := by omega
      rw [Array.getElem?_eq_none (by rw [vec_size]; exact h1), Array.getElem?_eq_none (by rw [vec_size]; exact h1)]

def gA (a b x : Nat) : Nat := (a + b + x) % 4294967296
def gC (c d : Nat) : Nat := (c + d) % 4294967296
def gR (d a n : Nat) : Nat := rr (d ^^^ a) n
theorem gA_lt (a b x : Nat) : gA a b x < 4294967296 := Nat.mod_lt _ (by decide)
theorem gC_lt (a b : Nat) : gC a b < 4294967296 := Nat.mod_lt _ (by decide)
theorem gR_lt (a b n : Nat) : gR a b n < 4294967296 := rr_lt _ _

/-- the four words, mixed with two -/
structure Four where
  a : Nat
  b : Nat
  c : Nat
  d : Nat
def mix4 (a b c d x y : Nat) : Four :=
  let A := gA a b x
  let D := gR d A 16
  let C := gC c D
  let B := gR b C 12
  let A2 := gA A B y
  let D2 := gR D A2 8
  let C2 := gC C D2
  ⟨A2, gR B C2 7, C2, D2⟩
def put4 (V : Nat → Nat) (a b c d : Nat) (f : Four) : Nat → Nat := upd (upd (upd (upd V a f.a) b f.b) c f.c) d f.d
def mixV (V : Nat → Nat) (a b c d x y : Nat) : Nat → Nat := put4 V a b c d (mix4 (V a) (V b) (V c) (V d) x y)

/-- a row of words in a block of its own -/
def VB (k : IntKind) (n : Nat) (t : TypeId) (g : Nat) (V : Nat → Nat) (W : World) : Prop := W.heap[g]? = some (.cells (vec k n V) t (0, 0))
theorem VB.cell {k : IntKind} {n : Nat} {t : TypeId} {g : Nat} {V : Nat → Nat} {W : World} (h : VB k n t g V W) {i x : Nat} (hi : i < n) (hx : V i = x) : W.cell? ⟨g, i, none⟩ = some (.int k x) := by
  subst hx
  exact blk_at h i _ (vec_at k V hi)
theorem VB.frz {k : IntKind} {n : Nat} {t : TypeId} {g : Nat} {V : Nat → Nat} {W : World} (h : VB k n t g V W) (i : Nat) : W.frozen? ⟨g, i, none⟩ = false := blk_frz h i
theorem VB.set {k : IntKind} {n : Nat} {t : TypeId} {g : Nat} {V : Nat → Nat} {W : World} (h : VB k n t g V W) {i : Nat} (hi : i < n) (x : Nat) : VB k n t g (upd V i x) (W.setCell ⟨g, i, none⟩ (.int k x)) := by
  unfold VB
  rw [← vec_upd k V hi x]
  exact blk_set3 h i _

theorem add64 (a b x : Nat) (ha : a < 4294967296) (hb : b < 4294967296) (hx : x < 4294967296) :
    IntKind.u64.wrap ((a : Int) + b) = (a : Int) + b ∧ IntKind.u64.wrap ((a : Int) + b + x) = (a : Int) + b + x ∧ ((a : Int) + b + x).tmod 4294967296 = gA a b x ∧ ((a : Int) + b).tmod 4294967296 = gC a b := by
  refine ⟨keep_u64 (by omega) (by omega), keep_u64 (by omega) (by omega), ?_, ?_⟩
  · rw [Int.tmod_eq_emod_of_nonneg (by omega)]; unfold gA; omega
  · rw [Int.tmod_eq_emod_of_nonneg (by omega)]; unfold gC; omega

def W4 (a b c d : Nat) : Prop := (a < 16 ∧ b < 16 ∧ c < 16 ∧ d < 16) ∧ (a ≠ b ∧ a ≠ c ∧ a ≠ d) ∧ (b ≠ c ∧ b ≠ d) ∧ c ≠ d

/-- the row under way, the result's row behind it, and what was there -/
structure In (k : IntKind) (n : Nat) (t : TypeId) (w : World) (g : Nat) (V : Nat → Nat) (W : World) : Prop where
  row : VB k n t g V W
  res : ∃ U, VB k n t (g + 1) U W
  ge : w.heap.size ≤ g
  bel : Below w.heap.size w W
theorem VB.drew {k : IntKind} {n : Nat} {t : TypeId} {g : Nat} {V : Nat → Nat} {W : World} (h : VB k n t g V W) : VB k n t g V W.drew := h
theorem VB.other {k : IntKind} {n : Nat} {t : TypeId} {g : Nat} {V : Nat → Nat} {W : World} (h : VB k n t g V W) {g' : Nat} (hg : g ≠ g') (i : Nat) (u : Value) : VB k n t g V (W.setCell ⟨g', i, none⟩ u) := (heap_set W g' i u g hg).trans h
theorem In.drew {k : IntKind} {n : Nat} {t : TypeId} {w : World} {g : Nat} {V : Nat → Nat} {W : World} (h : In k n t w g V W) : In k n t w g V W.drew := ⟨h.row, h.res, h.ge, below_drew' h.bel⟩
theorem In.set {k : IntKind} {n : Nat} {t : TypeId} {w : World} {g : Nat} {V : Nat → Nat} {W : World} (h : In k n t w g V W) {i : Nat} (hi : i < n) (x : Nat) : In k n t w g (upd V i x) (W.setCell ⟨g, i, none⟩ (.int k x)) :=
  ⟨h.row.set hi x, h.res.imp fun U r => r.other (by omega) _ _, h.ge, h.bel.setCell h.ge _⟩

theorem vec_one (k : IntKind) (n : Nat) (V : Nat → Nat) : (vec k n V).all (·.oneCell') = true := by
  refine Array.all_eq_true_iff_forall_mem.2 fun v hv => ?_
  simp only [vec, List.mem_toArray, List.mem_map] at hv
  obtain ⟨i, -, rfl⟩ := hv
  rfl
theorem load_vec {P : Program} {k : IntKind} {n : Nat} {t : TypeId} {g : Nat} {V : Nat → Nat} {W : World} (h : VB k n t g V W) {e : TypeId} (hu : P.underlying t = some (.array n e)) (hi : (P.info? t).map (·.size) = some n) :
    (Instr.loadAt t (.pointer (some ⟨g, 0, none⟩))).run P W = .ok (.agg (vec k n V)) W := by
  simp only [Instr.loadAt, Instr.sureAddr, Sem.run_bind, Sem.run_pure, Result.andThen_ok]
  exact run_loadVar_row W g t t _ _ _ h hu rfl (by rw [vec_size]; exact hi)
theorem store_vec {P : Program} {k : IntKind} {n : Nat} {t : TypeId} {g : Nat} {U : Nat → Nat} {W : World} (h : VB k n t g U W) (hi : (P.info? t).map (·.size) = some n) (V : Nat → Nat) :
    (Instr.storeAt t (.pointer (some ⟨g, 0, none⟩)) (.agg (vec k n V))).run P W = .ok () (W.setRow g (vec k n V)) := by
  simp only [Instr.storeAt, Instr.sureAddr, Sem.run_bind, Sem.run_pure, Result.andThen_ok]
  exact run_storeVar_row W g t t _ _ h (by rw [vec_size]; exact hi) (by rw [vec_size, vec_size]) (vec_one k n V)
theorem row_heap (W : World) (g : Nat) (cs : Array Value) (i : Nat) (h : i ≠ g) : (W.setRow g cs).heap[i]? = W.heap[i]? := by
  simp only [World.setRow, Array.getElem?_modify]
  rw [if_neg (fun e => h e.symm)]
theorem row_below {B : Nat} {w W : World} (h : Below B w W) {g : Nat} (hg : B ≤ g) (cs : Array Value) : Below B w (W.setRow g cs) :=
  ⟨h.os, h.tape, h.output, by simpa [World.setRow] using h.size, fun k hk => (row_heap W g cs k (by omega)).trans (h.block k hk)⟩
theorem VB.row {k : IntKind} {n : Nat} {t : TypeId} {g : Nat} {U : Nat → Nat} {W : World} (h : VB k n t g U W) (V : Nat → Nat) : VB k n t g V (W.setRow g (vec k n V)) := setRow_heap W g _ _ t _ h

theorem chain8 (V : Nat → Nat) {a b c d : Nat} (h4 : W4 a b c d) (A1 D1 C1 B1 A2 D2 C2 B2 : Nat) :
    upd (upd (upd (upd (upd (upd (upd (upd V a A1) d D1) c C1) b B1) a A2) d D2) c C2) b B2 = put4 V a b c d ⟨A2, B2, C2, D2⟩ := by
  obtain ⟨-, ⟨hab, hac, had⟩, ⟨hbc, hbd⟩, hcd⟩ := h4
  funext j
  simp only [put4, upd]
  by_cases h1 : j = a
  · subst h1; simp [hab, hac, had]
  · by_cases h2 : j = b
    · subst h2; simp [hbc, hbd, h1]
    · by_cases h3 : j = c
      · subst h3; simp [h1, h2, hcd]
      · by_cases h5 : j = d
        · subst h5; simp [h1, h2, h3]
        · simp [h1, h2, h3, h5]

set_option maxHeartbeats 8000000 in
set_option maxRecDepth 100000 in
theorem refmix_any (w : World) (V : Nat → Nat) (a b c d x y : Nat) (hV : ∀ i, V i < 4294967296) (hx : x < 4294967296) (hy : y < 4294967296) (h4 : W4 a b c d) :
    Calls Tryz.prog 97 #[.agg (vec .u64 16 V), .int .i64 a, .int .i64 b, .int .i64 c, .int .i64 d, .int .u64 x, .int .u64 y] w fun e w' => e = .returned (.agg (vec .u64 16 (mixV V a b c d x y))) ∧ Below w.heap.size w w' := by
  have H4 := Sd.mk h4
  obtain ⟨⟨ha, hb, hc, hd⟩, ⟨hab, hac, had⟩, ⟨hbc, hbd⟩, hcd⟩ := h4
  have i1 : (a : Int) < 16 := by omega
  have i2 : (b : Int) < 16 := by omega
  have i3 : (c : Int) < 16 := by omega
  have i4 : (d : Int) < 16 := by omega
  obtain ⟨va, hva⟩ : ∃ z, z = V a := ⟨_, rfl⟩
  obtain ⟨vb, hvb⟩ : ∃ z, z = V b := ⟨_, rfl⟩
  obtain ⟨vc, hvc⟩ : ∃ z, z = V c := ⟨_, rfl⟩
  obtain ⟨vd, hvd⟩ : ∃ z, z = V d := ⟨_, rfl⟩
  have la : va < 4294967296 := by rw [hva]; exact hV _
  have lb : vb < 4294967296 := by rw [hvb]; exact hV _
  have lc : vc < 4294967296 := by rw [hvc]; exact hV _
  have ld : vd < 4294967296 := by rw [hvd]; exact hV _
  have Ha := Sd.mk hva
  have Hb := Sd.mk hvb
  have Hc := Sd.mk hvc
  have Hd := Sd.mk hvd
  clear hva hvb hvc hvd
  obtain ⟨A1, hA1⟩ : ∃ z, z = gA va vb x := ⟨_, rfl⟩
  have lA1 : A1 < 4294967296 := by rw [hA1]; exact gA_lt _ _ _
  obtain ⟨f0, g0, k0, -⟩ := add64 va vb x la lb hx
  rw [← hA1] at k0
  have HA1 := Sd.mk hA1
  clear hA1
  obtain ⟨D1, hD1⟩ : ∃ z, z = gR vd A1 16 := ⟨_, rfl⟩
  have lD1 : D1 < 4294967296 := by rw [hD1]; exact gR_lt _ _ _
  have k1 := xor64 vd A1 ld lA1
  have r1 : ∀ w, Calls Tryz.prog 124 #[.int .u64 (vd ^^^ A1 : Nat), .int .u64 16] w fun e w' => e = .returned (.int .u64 D1) ∧ w' = w := by rw [hD1]; exact fun w => right_any w _ 16 (xor_lt ld lA1) (by decide)
  have R1 := Sd.mk r1
  clear r1
  have HD1 := Sd.mk hD1
  clear hD1
  obtain ⟨C1, hC1⟩ : ∃ z, z = gC vc D1 := ⟨_, rfl⟩
  have lC1 : C1 < 4294967296 := by rw [hC1]; exact gC_lt _ _
  obtain ⟨f2, -, -, k2⟩ := add64 vc D1 0 lc lD1 (by decide)
  rw [← hC1] at k2
  have HC1 := Sd.mk hC1
  clear hC1
  obtain ⟨B1, hB1⟩ : ∃ z, z = gR vb C1 12 := ⟨_, rfl⟩
  have lB1 : B1 < 4294967296 := by rw [hB1]; exact gR_lt _ _ _
  have k3 := xor64 vb C1 lb lC1
  have r3 : ∀ w, Calls Tryz.prog 124 #[.int .u64 (vb ^^^ C1 : Nat), .int .u64 12] w fun e w' => e = .returned (.int .u64 B1) ∧ w' = w := by rw [hB1]; exact fun w => right_any w _ 12 (xor_lt lb lC1) (by decide)
  have R3 := Sd.mk r3
  clear r3
  have HB1 := Sd.mk hB1
  clear hB1
  obtain ⟨A2, hA2⟩ : ∃ z, z = gA A1 B1 y := ⟨_, rfl⟩
  have lA2 : A2 < 4294967296 := by rw [hA2]; exact gA_lt _ _ _
  obtain ⟨f4, g4, k4, -⟩ := add64 A1 B1 y lA1 lB1 hy
  rw [← hA2] at k4
  have HA2 := Sd.mk hA2
  clear hA2
  obtain ⟨D2, hD2⟩ : ∃ z, z = gR D1 A2 8 := ⟨_, rfl⟩
  have lD2 : D2 < 4294967296 := by rw [hD2]; exact gR_lt _ _ _
  have k5 := xor64 D1 A2 lD1 lA2
  have r5 : ∀ w, Calls Tryz.prog 124 #[.int .u64 (D1 ^^^ A2 : Nat), .int .u64 8] w fun e w' => e = .returned (.int .u64 D2) ∧ w' = w := by rw [hD2]; exact fun w => right_any w _ 8 (xor_lt lD1 lA2) (by decide)
  have R5 := Sd.mk r5
  clear r5
  have HD2 := Sd.mk hD2
  clear hD2
  obtain ⟨C2, hC2⟩ : ∃ z, z = gC C1 D2 := ⟨_, rfl⟩
  have lC2 : C2 < 4294967296 := by rw [hC2]; exact gC_lt _ _
  obtain ⟨f6, -, -, k6⟩ := add64 C1 D2 0 lC1 lD2 (by decide)
  rw [← hC2] at k6
  have HC2 := Sd.mk hC2
  clear hC2
  obtain ⟨B2, hB2⟩ : ∃ z, z = gR B1 C2 7 := ⟨_, rfl⟩
  have lB2 : B2 < 4294967296 := by rw [hB2]; exact gR_lt _ _ _
  have k7 := xor64 B1 C2 lB1 lC2
  have r7 : ∀ w, Calls Tryz.prog 124 #[.int .u64 (B1 ^^^ C2 : Nat), .int .u64 7] w fun e w' => e = .returned (.int .u64 B2) ∧ w' = w := by rw [hB2]; exact fun w => right_any w _ 7 (xor_lt lB1 lC2) (by decide)
  have R7 := Sd.mk r7
  clear r7
  have HB2 := Sd.mk hB2
  clear hB2
  go_enter Tryz.func97, Tryz.ntmps97
  go_wp2
  have X0 : In .u64 16 173 w w.heap.size V ((w.alloc (.cells (vec .u64 16 V) 173)).alloc (.cells (vec .u64 16 fun _ => 0) 173)) := ⟨blk_keep (blk_new w _) (below_one _ _), ⟨_, blk_new1 w _ _⟩, Nat.le_refl _, below_then (below_one _ _) (below_one _ _)⟩
  have X := Sd.mk X0
  clear X0
  rw [show (vec .u64 16 fun _ => 0) = #[Value.int IntKind.u64 0, Value.int IntKind.u64 0, Value.int IntKind.u64 0, Value.int IntKind.u64 0, Value.int IntKind.u64 0, Value.int IntKind.u64 0, Value.int IntKind.u64 0, Value.int IntKind.u64 0, Value.int IntKind.u64 0, Value.int IntKind.u64 0, Value.int IntKind.u64 0, Value.int IntKind.u64 0, Value.int IntKind.u64 0, Value.int IntKind.u64 0, Value.int IntKind.u64 0, Value.int IntKind.u64 0] from rfl] at X
  generalize (World.alloc (World.alloc w (.cells (vec .u64 16 V) 173)) _) = W at X ⊢
  have ca := X.out.row.cell ha (Ha.out.symm)
  have cb := X.out.row.cell hb (Hb.out.symm)
  go_still_tail 12, (by kernel_rfl)
  change wpList _ _ _ _ _ W.drew
  clear ca cb
  have Y := Sd.mk X.out.drew
  clear X
  generalize W.drew = W2 at Y ⊢
  clear W
  have ca := Y.out.row.cell ha (Ha.out.symm)
  have fa := Y.out.row.frz a
  go_wp2
  clear ca fa
  have X := Sd.mk (Y.out.set ha A1)
  clear Y
  generalize W2.setCell _ _ = W at X ⊢
  clear W2
  have ca := X.out.row.cell hd ((upd_ne (Ne.symm had)).trans (Hd.out.symm))
  have cb := X.out.row.cell ha (upd_same _ _ _)
  go_still_tail 10, (by kernel_rfl)
  still_call (R1.out _)
  repeat still_step
  refine wpStill_nil ?_
  change wpList _ _ _ _ _ W.drew
  clear ca cb
  have Y := Sd.mk X.out.drew
  clear X
  generalize W.drew = W2 at Y ⊢
  clear W
  have ca := Y.out.row.cell hd ((upd_ne (Ne.symm had)).trans (Hd.out.symm))
  have fa := Y.out.row.frz d
  go_wp2
  clear ca fa
  have X := Sd.mk (Y.out.set hd D1)
  clear Y
  generalize W2.setCell _ _ = W at X ⊢
  clear W2
  have ca := X.out.row.cell hc ((upd_ne hcd).trans ((upd_ne (Ne.symm hac)).trans (Hc.out.symm)))
  have cb := X.out.row.cell hd (upd_same _ _ _)
  go_still_tail 10, (by kernel_rfl)
  change wpList _ _ _ _ _ W.drew
  clear ca cb
  have Y := Sd.mk X.out.drew
  clear X
  generalize W.drew = W2 at Y ⊢
  clear W
  have ca := Y.out.row.cell hc ((upd_ne hcd).trans ((upd_ne (Ne.symm hac)).trans (Hc.out.symm)))
  have fa := Y.out.row.frz c
  go_wp2
  clear ca fa
  have X := Sd.mk (Y.out.set hc C1)
  clear Y
  generalize W2.setCell _ _ = W at X ⊢
  clear W2
  have ca := X.out.row.cell hb ((upd_ne hbc).trans ((upd_ne hbd).trans ((upd_ne (Ne.symm hab)).trans (Hb.out.symm))))
  have cb := X.out.row.cell hc (upd_same _ _ _)
  go_still_tail 10, (by kernel_rfl)
  still_call (R3.out _)
  repeat still_step
  refine wpStill_nil ?_
  change wpList _ _ _ _ _ W.drew
  clear ca cb
  have Y := Sd.mk X.out.drew
  clear X
  generalize W.drew = W2 at Y ⊢
  clear W
  have ca := Y.out.row.cell hb ((upd_ne hbc).trans ((upd_ne hbd).trans ((upd_ne (Ne.symm hab)).trans (Hb.out.symm))))
  have fa := Y.out.row.frz b
  go_wp2
  clear ca fa
  have X := Sd.mk (Y.out.set hb B1)
  clear Y
  generalize W2.setCell _ _ = W at X ⊢
  clear W2
  have ca := X.out.row.cell ha ((upd_ne hab).trans ((upd_ne hac).trans ((upd_ne had).trans (upd_same _ _ _))))
  have cb := X.out.row.cell hb (upd_same _ _ _)
  go_still_tail 12, (by kernel_rfl)
  change wpList _ _ _ _ _ W.drew
  clear ca cb
  have Y := Sd.mk X.out.drew
  clear X
  generalize W.drew = W2 at Y ⊢
  clear W
  have ca := Y.out.row.cell ha ((upd_ne hab).trans ((upd_ne hac).trans ((upd_ne had).trans (upd_same _ _ _))))
  have fa := Y.out.row.frz a
  go_wp2
  clear ca fa
  have X := Sd.mk (Y.out.set ha A2)
  clear Y
  generalize W2.setCell _ _ = W at X ⊢
  clear W2
  have ca := X.out.row.cell hd ((upd_ne (Ne.symm had)).trans ((upd_ne (Ne.symm hbd)).trans ((upd_ne (Ne.symm hcd)).trans (upd_same _ _ _))))
  have cb := X.out.row.cell ha (upd_same _ _ _)
  go_still_tail 10, (by kernel_rfl)
  still_call (R5.out _)
  repeat still_step
  refine wpStill_nil ?_
  change wpList _ _ _ _ _ W.drew
  clear ca cb
  have Y := Sd.mk X.out.drew
  clear X
  generalize W.drew = W2 at Y ⊢
  clear W
  have ca := Y.out.row.cell hd ((upd_ne (Ne.symm had)).trans ((upd_ne (Ne.symm hbd)).trans ((upd_ne (Ne.symm hcd)).trans (upd_same _ _ _))))
  have fa := Y.out.row.frz d
  go_wp2
  clear ca fa
  have X := Sd.mk (Y.out.set hd D2)
  clear Y
  generalize W2.setCell _ _ = W at X ⊢
  clear W2
  have ca := X.out.row.cell hc ((upd_ne hcd).trans ((upd_ne (Ne.symm hac)).trans ((upd_ne (Ne.symm hbc)).trans (upd_same _ _ _))))
  have cb := X.out.row.cell hd (upd_same _ _ _)
  go_still_tail 10, (by kernel_rfl)
  change wpList _ _ _ _ _ W.drew
  clear ca cb
  have Y := Sd.mk X.out.drew
  clear X
  generalize W.drew = W2 at Y ⊢
  clear W
  have ca := Y.out.row.cell hc ((upd_ne hcd).trans ((upd_ne (Ne.symm hac)).trans ((upd_ne (Ne.symm hbc)).trans (upd_same _ _ _))))
  have fa := Y.out.row.frz c
  go_wp2
  clear ca fa
  have X := Sd.mk (Y.out.set hc C2)
  clear Y
  generalize W2.setCell _ _ = W at X ⊢
  clear W2
  have ca := X.out.row.cell hb ((upd_ne hbc).trans ((upd_ne hbd).trans ((upd_ne (Ne.symm hab)).trans (upd_same _ _ _))))
  have cb := X.out.row.cell hc (upd_same _ _ _)
  go_still_tail 10, (by kernel_rfl)
  still_call (R7.out _)
  repeat still_step
  refine wpStill_nil ?_
  change wpList _ _ _ _ _ W.drew
  clear ca cb
  have Y := Sd.mk X.out.drew
  clear X
  generalize W.drew = W2 at Y ⊢
  clear W
  have ca := Y.out.row.cell hb ((upd_ne hbc).trans ((upd_ne hbd).trans ((upd_ne (Ne.symm hab)).trans (upd_same _ _ _))))
  have fa := Y.out.row.frz b
  have Z := Sd.mk (Y.out.set hb B2)
  obtain ⟨U, hU⟩ := Z.out.res
  have Q := Sd.mk hU
  clear hU
  go_upto_region 9 with (fail)
  generalize W2.setCell _ _ = W at Z Q ⊢
  apply wp_region_lit
  refine wpList_load_row rfl 173 _ rfl w.heap.size rfl _ _ _ _ Z.out.row Tryz.underlying173 rfl (by rw [vec_size]; kernel_rfl) ?_
  refine wpList_plain rfl fun _ hK => wp_store_row 173 _ _ rfl (w.heap.size + 1) _ rfl rfl _ _ Q.out (by rw [vec_size]; kernel_rfl) (by rw [vec_size, vec_size]) (vec_one _ _ _) (hK _ _ ?_)
  go_wp2
  refine bodyPost_ret (results_cell_row Tryz.results97 _ _ (w.heap.size + 1) 173 _ (0, 0) _ rfl (Q.out.row (upd (upd (upd (upd (upd (upd (upd (upd V a A1) d D1) c C1) b B1) a A2) d D2) c C2) b B2)) Tryz.underlying173 rfl (by rw [vec_size]; kernel_rfl)) rfl ?_
  refine ⟨?_, row_below Z.out.bel (by omega) _⟩
  refine congrArg (fun z => Ending.returned (.agg (vec .u64 16 z))) ?_
  rw [chain8 V H4.out]
  unfold mixV mix4
  dsimp only
  rw [← Ha.out, ← Hb.out, ← Hc.out, ← Hd.out, ← HA1.out, ← HD1.out, ← HC1.out, ← HB1.out, ← HA2.out, ← HD2.out, ← HC2.out, ← HB2.out]
end Go.Proofs.YtnomgkmeomlccaaGreat.Vec

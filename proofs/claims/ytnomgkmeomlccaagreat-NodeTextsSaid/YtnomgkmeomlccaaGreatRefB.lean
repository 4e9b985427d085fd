/- The reference's block, walked. -/
import Derived.Test.YtnomgkmeomlccaaGreatStepW
set_option linter.unusedVariables false
set_option linter.unusedSimpArgs false
namespace Go.Proofs.YtnomgkmeomlccaaGreat.RefB
open Go.RowKit Rd Api Own Mv Word Vec Mix Tab Step

/-- the reference's own rows -/
structure Rtp (w : World) (H M V : Nat → Nat) (W : World) : Prop where
  h : VB .u64 8 133 w.heap.size H W
  r : ∃ U, VB .u64 8 133 (w.heap.size + 1) U W
  m : VB .u64 16 173 (w.heap.size + 1 + 1) M W
  v : VB .u64 16 173 (w.heap.size + 1 + 1 + 1) V W
  bel : Below w.heap.size w W
theorem Rtp.below {w : World} {H M V : Nat → Nat} {W W1 : World} (h : Rtp w H M V W) (hb : Below W.heap.size W W1) : Rtp w H M V W1 :=
  ⟨VB.below h.h hb, h.r.imp fun _ r => VB.below r hb, VB.below h.m hb, VB.below h.v hb, below_then h.bel hb⟩
theorem Rtp.drew {w : World} {H M V : Nat → Nat} {W : World} (h : Rtp w H M V W) : Rtp w H M V W.drew := ⟨h.h, h.r, h.m, h.v, below_drew' h.bel⟩
theorem Rtp.drewN {w : World} {H M V : Nat → Nat} {W : World} (h : Rtp w H M V W) (n : Nat) : Rtp w H M V (W.drewN n) := ⟨h.h, h.r, h.m, h.v, below_drewN h.bel n⟩
theorem Rtp.setM {w : World} {H M V : Nat → Nat} {W : World} (h : Rtp w H M V W) {i : Nat} (hi : i < 16) (x : Nat) : Rtp w H (upd M i x) V (W.setCell ⟨w.heap.size + 1 + 1, i, none⟩ (.int .u64 x)) :=
  ⟨h.h.other (by omega) _ _, h.r.imp fun _ r => r.other (by omega) _ _, h.m.set hi x, h.v.other (by omega) _ _, h.bel.setCell (by simp only; omega) _⟩
theorem Rtp.setV {w : World} {H M V : Nat → Nat} {W : World} (h : Rtp w H M V W) {i : Nat} (hi : i < 16) (x : Nat) : Rtp w H M (upd V i x) (W.setCell ⟨w.heap.size + 1 + 1 + 1, i, none⟩ (.int .u64 x)) :=
  ⟨h.h.other (by omega) _ _, h.r.imp fun _ r => r.other (by omega) _ _, h.m.other (by omega) _ _, h.v.set hi x, h.bel.setCell (by simp only; omega) _⟩
theorem Rtp.setH {w : World} {H M V : Nat → Nat} {W : World} (h : Rtp w H M V W) {i : Nat} (hi : i < 8) (x : Nat) : Rtp w (upd H i x) M V (W.setCell ⟨w.heap.size, i, none⟩ (.int .u64 x)) :=
  ⟨h.h.set hi x, h.r.imp fun _ r => r.other (by omega) _ _, h.m.other (by omega) _ _, h.v.other (by omega) _ _, h.bel.setCell (by simp only; omega) _⟩
theorem Rtp.toM {w : World} {H M M1 V : Nat → Nat} {W : World} (h : Rtp w H M V W) (e : ∀ i, i < 16 → M i = M1 i) : Rtp w H M1 V W := ⟨h.h, h.r, by unfold VB; rw [← vec_ext .u64 e]; exact h.m, h.v, h.bel⟩
theorem Rtp.toV {w : World} {H M V V1 : Nat → Nat} {W : World} (h : Rtp w H M V W) (e : ∀ i, i < 16 → V i = V1 i) : Rtp w H M V1 W := ⟨h.h, h.r, h.m, by unfold VB; rw [← vec_ext .u64 e]; exact h.v, h.bel⟩
theorem Rtp.toH {w : World} {H H1 M V : Nat → Nat} {W : World} (h : Rtp w H M V W) (e : ∀ i, i < 8 → H i = H1 i) : Rtp w H1 M V W := ⟨by unfold VB; rw [← vec_ext .u64 e]; exact h.h, h.r, h.m, h.v, h.bel⟩
theorem Rtp.lt {w : World} {H M V : Nat → Nat} {W : World} (h : Rtp w H M V W) : w.heap.size + 1 + 1 + 1 < W.heap.size := blk_lt' h.v

theorem rtp_start (w : World) (H : Nat → Nat) : Rtp w H (fun _ => 0) (fun _ => 0) ((((w.alloc (.cells (vec .u64 8 H) 133)).alloc (.cells #[.int .u64 0, .int .u64 0, .int .u64 0, .int .u64 0, .int .u64 0, .int .u64 0, .int .u64 0, .int .u64 0] 133)).alloc (.cells #[.int .u64 0, .int .u64 0, .int .u64 0, .int .u64 0, .int .u64 0, .int .u64 0, .int .u64 0, .int .u64 0, .int .u64 0, .int .u64 0, .int .u64 0, .int .u64 0, .int .u64 0, .int .u64 0, .int .u64 0, .int .u64 0] 173)).alloc (.cells #[.int .u64 0, .int .u64 0, .int .u64 0, .int .u64 0, .int .u64 0, .int .u64 0, .int .u64 0, .int .u64 0, .int .u64 0, .int .u64 0, .int .u64 0, .int .u64 0, .int .u64 0, .int .u64 0, .int .u64 0, .int .u64 0] 173)) := by
  have e8 : #[.int .u64 0, .int .u64 0, .int .u64 0, .int .u64 0, .int .u64 0, .int .u64 0, .int .u64 0, .int .u64 0] = vec .u64 8 fun _ => 0 := by kernel_rfl
  have e16 : #[.int .u64 0, .int .u64 0, .int .u64 0, .int .u64 0, .int .u64 0, .int .u64 0, .int .u64 0, .int .u64 0, .int .u64 0, .int .u64 0, .int .u64 0, .int .u64 0, .int .u64 0, .int .u64 0, .int .u64 0, .int .u64 0] = vec .u64 16 fun _ => 0 := by kernel_rfl
  rw [e8, e16]
  have b1 := below_one w (.cells (vec .u64 8 H) 133)
  have b2 := below_one (w.alloc (.cells (vec .u64 8 H) 133)) (.cells (vec .u64 8 fun _ => 0) 133)
  have b3 := below_one ((w.alloc (.cells (vec .u64 8 H) 133)).alloc (.cells (vec .u64 8 fun _ => 0) 133)) (.cells (vec .u64 16 fun _ => 0) 173)
  have b4 := below_one (((w.alloc (.cells (vec .u64 8 H) 133)).alloc (.cells (vec .u64 8 fun _ => 0) 133)).alloc (.cells (vec .u64 16 fun _ => 0) 173)) (.cells (vec .u64 16 fun _ => 0) 173)
  refine ⟨blk_keep (blk_keep (blk_keep (blk_new _ _) b2) b3) b4, ⟨_, blk_keep (blk_keep (blk_new1 _ _ _) b3) b4⟩, blk_keep (blk_new2 _ _ _ _) b4, ?_, below_then (below_then (below_then b1 b2) b3) b4⟩
  have := blk_new (((w.alloc (.cells (vec .u64 8 H) 133)).alloc (.cells (vec .u64 8 fun _ => 0) 133)).alloc (.cells (vec .u64 16 fun _ => 0) 173)) (.cells (vec .u64 16 fun _ => 0) 173)
  have e : ((((w.alloc (.cells (vec .u64 8 H) 133)).alloc (.cells (vec .u64 8 fun _ => 0) 133)).alloc (.cells (vec .u64 16 fun _ => 0) 173))).heap.size = w.heap.size + 1 + 1 + 1 := by simp
  rw [e] at this
  exact this


theorem row_same {W : World} {g : Nat} {k : IntKind} {n : Nat} {t : TypeId} {V : Nat → Nat} (h : VB k n t g V W) {g' : Nat} (hg : g ≠ g') (cs : Array Value) : VB k n t g V (W.setRow g' cs) := (row_heap W g' cs g hg).trans h
theorem Rtp.rowV {w : World} {H M V : Nat → Nat} {W : World} (h : Rtp w H M V W) (V1 : Nat → Nat) : Rtp w H M V1 (W.setRow (w.heap.size + 1 + 1 + 1) (vec .u64 16 V1)) :=
  ⟨row_same h.h (by omega) _, h.r.imp fun _ r => row_same r (by omega) _, row_same h.m (by omega) _, VB.row h.v V1, row_below h.bel (by omega) _⟩
theorem store_cells_vec {P : Program} {k : IntKind} {n : Nat} {t : TypeId} {g : Nat} {U : Nat → Nat} {W : World} (h : VB k n t g U W) (V : Nat → Nat) :
    (storeCells ⟨g, 0, none⟩ (vec k n V).toList 0).run P W = .ok () (W.setRow g (vec k n V)) := by
  have := run_storeCells_from (P := P) g t (vec k n V).toList 0 _ W h (by rw [vec_size]; simp [vec_size]) (fun v hv => (Array.all_eq_true_iff_forall_mem.1 (vec_one k n V)) v (by simpa using hv))
  rw [this]
  congr 2
theorem still_load_vec {P : Program} {ops : Array Oper} {o : Oper} {a : Act} {w : World} {K : Act → Prop} (hw : Region.wanted o (yielded ops a.tmps) = true) (t : TypeId) (x : Operand) (ho : o.op = .load t x) {g : Nat}
    (hx : a.eval x = .pointer (some ⟨g, 0, none⟩)) {k : IntKind} {n : Nat} {V : Nat → Nat} (h : VB k n t g V w) {e : TypeId} (hu : P.underlying t = some (.array n e)) (hi : (P.info? t).map (·.size) = some n)
    (hK : K (a.put o.dst (.agg (vec k n V)))) : if Region.wanted o (yielded ops a.tmps) then o.still P a w K else K (a.put o.dst undef) := by
  rw [if_pos hw]
  unfold Oper.still execOp
  simp only [ho, hx]
  have := load_vec (P := P) h hu hi
  simp only [Sem.run_bind, this, Result.andThen_ok, Sem.run_pure]
  exact ⟨rfl, hK⟩

def rowStr (r : Nat) : ByteArray := (["0123456789abcdef", "ea489fd61c02b753", "b8c052fdae367194", "7931dcbe265a40f8", "905724afe1bc683d", "2c6a0b834d75fe19", "c51fed4a0763928b", "db7ec13950f4862a", "6fe9b308c2d714a5", "a2847615fb9e3cd0"].getD r "").toUTF8
def placeN (c : Nat) : Nat := if 97 ≤ c then c - 87 else c - 48

set_option maxHeartbeats 4000000 in
set_option maxRecDepth 100000 in
theorem place_any (w : World) (c : Nat) (hc : c < 256) (h48 : 48 ≤ c) : Calls Tryz.prog 98 #[.int .u8 c] w fun e w' => e = .returned (.int .i64 (placeN c)) ∧ w' = w := by
  by_cases h : 97 ≤ c
  · have hd : decide ((97 : Int) ≤ c) = true := decide_eq_true (by omega)
    have h0 : IntKind.i64.wrap (c : Int) = c := by rw [IntKind.wrap_i64]; omega
    have h1 : IntKind.i64.wrap ((c : Int) - 97) = (c : Int) - 97 := by rw [IntKind.wrap_i64]; omega
    have h2 : IntKind.i64.wrap ((c : Int) - 97 + 10) = (placeN c : Nat) := by rw [IntKind.wrap_i64]; unfold placeN; rw [if_pos h]; omega
    clear h
    go_enter Tryz.func98, Tryz.ntmps98
    go_wp2
    go_ret
    exact ⟨rfl, rfl⟩
  · have hd : decide ((97 : Int) ≤ c) = false := decide_eq_false (by omega)
    have h0 : IntKind.i64.wrap (c : Int) = c := by rw [IntKind.wrap_i64]; omega
    have h2 : IntKind.i64.wrap ((c : Int) - 48) = (placeN c : Nat) := by rw [IntKind.wrap_i64]; unfold placeN; rw [if_neg h]; omega
    clear h
    go_enter Tryz.func98, Tryz.ntmps98
    go_wp2
    go_ret
    exact ⟨rfl, rfl⟩

theorem rows_ok : ∀ r, r < 10 → (rowStr r).size = 16 ∧ ∀ p, p < 16 → 48 ≤ byt (rowStr r) p ∧ placeN (byt (rowStr r) p) = tab r p := by decide +kernel

theorem index_one {P : Program} {t e : TypeId} {n : Nat} (hu : P.underlying t = some (.array n e)) (he : P.underlying e = some .string) (hi : (P.info? e).map (·.size) = some 1) (cs : Array Value) {r : Nat} (hr : r < n) {v : Value} (hv : cs[r]? = some v) (W : World) :
    (Instr.index t (.agg cs) (.int .i64 (r : Nat))).run P W = .ok v W := by
  cases hq : P.info? e with
  | none => rw [hq] at hi; cases hi
  | some d =>
    have hs : d.size = 1 := by rw [hq] at hi; simpa using hi
    simp [Instr.index, part, asIntOf, isAgg, run_underlying hu, run_underlying he, sizeOf, typeInfo, hq, hs, hr, hv]

theorem rows_lit : ∀ r, r < 10 → (#[Value.string { data := #[48, 49, 50, 51, 52, 53, 54, 55, 56, 57, 97, 98, 99, 100, 101, 102] }, Value.string { data := #[101, 97, 52, 56, 57, 102, 100, 54, 49, 99, 48, 50, 98, 55, 53, 51] }, Value.string { data := #[98, 56, 99, 48, 53, 50, 102, 100, 97, 101, 51, 54, 55, 49, 57, 52] }, Value.string { data := #[55, 57, 51, 49, 100, 99, 98, 101, 50, 54, 53, 97, 52, 48, 102, 56] }, Value.string { data := #[57, 48, 53, 55, 50, 52, 97, 102, 101, 49, 98, 99, 54, 56, 51, 100] }, Value.string { data := #[50, 99, 54, 97, 48, 98, 56, 51, 52, 100, 55, 53, 102, 101, 49, 57] }, Value.string { data := #[99, 53, 49, 102, 101, 100, 52, 97, 48, 55, 54, 51, 57, 50, 56, 98] }, Value.string { data := #[100, 98, 55, 101, 99, 49, 51, 57, 53, 48, 102, 52, 56, 54, 50, 97] }, Value.string { data := #[54, 102, 101, 57, 98, 51, 48, 56, 99, 50, 100, 55, 49, 52, 97, 53] }, Value.string { data := #[97, 50, 56, 52, 55, 54, 49, 53, 102, 98, 57, 101, 51, 99, 100, 48] }] : Array Value)[r]? = some (.string (rowStr r))
  | 0, _ => by kernel_rfl
  | 1, _ => by kernel_rfl
  | 2, _ => by kernel_rfl
  | 3, _ => by kernel_rfl
  | 4, _ => by kernel_rfl
  | 5, _ => by kernel_rfl
  | 6, _ => by kernel_rfl
  | 7, _ => by kernel_rfl
  | 8, _ => by kernel_rfl
  | 9, _ => by kernel_rfl

set_option maxHeartbeats 4000000 in
set_option maxRecDepth 100000 in
theorem row_any (w : World) (r : Nat) (hr : r < 10) : Calls Tryz.prog 96 #[.int .i64 r] w fun e w' => e = .returned (.string (rowStr r)) ∧ w' = w := by
  have hx := index_one (P := Tryz.prog) Tryz.underlying215 Tryz.underlying9 (by kernel_rfl) #[Value.string { data := #[48, 49, 50, 51, 52, 53, 54, 55, 56, 57, 97, 98, 99, 100, 101, 102] }, Value.string { data := #[101, 97, 52, 56, 57, 102, 100, 54, 49, 99, 48, 50, 98, 55, 53, 51] }, Value.string { data := #[98, 56, 99, 48, 53, 50, 102, 100, 97, 101, 51, 54, 55, 49, 57, 52] }, Value.string { data := #[55, 57, 51, 49, 100, 99, 98, 101, 50, 54, 53, 97, 52, 48, 102, 56] }, Value.string { data := #[57, 48, 53, 55, 50, 52, 97, 102, 101, 49, 98, 99, 54, 56, 51, 100] }, Value.string { data := #[50, 99, 54, 97, 48, 98, 56, 51, 52, 100, 55, 53, 102, 101, 49, 57] }, Value.string { data := #[99, 53, 49, 102, 101, 100, 52, 97, 48, 55, 54, 51, 57, 50, 56, 98] }, Value.string { data := #[100, 98, 55, 101, 99, 49, 51, 57, 53, 48, 102, 52, 56, 54, 50, 97] }, Value.string { data := #[54, 102, 101, 57, 98, 51, 48, 56, 99, 50, 100, 55, 49, 52, 97, 53] }, Value.string { data := #[97, 50, 56, 52, 55, 54, 49, 53, 102, 98, 57, 101, 51, 99, 100, 48] }] hr (rows_lit r hr)
  go_enter Tryz.func96, Tryz.ntmps96
  go_wp2
  go_ret
  exact ⟨rfl, rfl⟩
end Go.Proofs.YtnomgkmeomlccaaGreat.RefB

/- The tables: walked. -/
import Derived.Test.YtnomgkmeomlccaaGreatMix
set_option linter.unusedVariables false
set_option linter.unusedSimpArgs false
namespace Go.Proofs.YtnomgkmeomlccaaGreat.Tab
open Go.RowKit Rd Api Own Mv Word Vec Mix

def iv (i : Nat) : Nat := [1779033703, 3144134277, 1013904242, 2773480762, 1359893119, 2600822924, 528734635, 1541459225].getD i 0
def rows : List Nat := [0, 1, 2, 3, 4, 5, 6, 7, 8, 9, 10, 11, 12, 13, 14, 15,
  14, 10, 4, 8, 9, 15, 13, 6, 1, 12, 0, 2, 11, 7, 5, 3,
  11, 8, 12, 0, 5, 2, 15, 13, 10, 14, 3, 6, 7, 1, 9, 4,
  7, 9, 3, 1, 13, 12, 11, 14, 2, 6, 5, 10, 4, 0, 15, 8,
  9, 0, 5, 7, 2, 4, 10, 15, 14, 1, 11, 12, 6, 8, 3, 13,
  2, 12, 6, 10, 0, 11, 8, 3, 4, 13, 7, 5, 15, 14, 1, 9,
  12, 5, 1, 15, 14, 13, 4, 10, 0, 7, 6, 3, 9, 2, 8, 11,
  13, 11, 7, 14, 12, 1, 3, 9, 5, 0, 15, 4, 8, 6, 2, 10,
  6, 15, 14, 9, 11, 3, 0, 8, 12, 2, 13, 7, 1, 4, 10, 5,
  10, 2, 8, 4, 7, 6, 1, 5, 15, 11, 9, 14, 3, 12, 13, 0]
/-- the word of a round, by its place -/
def tab (r p : Nat) : Nat := rows.getD (16 * r + p) 0
def ats : List Nat := [0, 4, 8, 12, 1, 5, 9, 13, 2, 6, 10, 14, 3, 7, 11, 15, 0, 5, 10, 15, 1, 6, 11, 12, 2, 7, 8, 13, 3, 4, 9, 14]
def rowsF (i : Nat) : Nat := rows.getD i 0
def atsF (i : Nat) : Nat := ats.getD i 0
def at4 (i j : Nat) : Nat := ats.getD (4 * i + j) 0

set_option maxHeartbeats 8000000 in
set_option maxRecDepth 100000 in
theorem begin_any (w : World) : Calls Tryz.prog 91 #[] w fun e w' => e = .returned (.agg (vec .u32 8 iv)) ∧ Below w.heap.size w w' := by
  have e0 : (vec .u32 8 fun _ => 0) = #[.int .u32 0, .int .u32 0, .int .u32 0, .int .u32 0, .int .u32 0, .int .u32 0, .int .u32 0, .int .u32 0] := by kernel_rfl
  go_enter Tryz.func91, Tryz.ntmps91
  go_upto_region 1 with (fail)
  have X := Sd.mk (show VB .u32 8 160 w.heap.size (fun _ => 0) (w.alloc (.cells #[.int .u32 0, .int .u32 0, .int .u32 0, .int .u32 0, .int .u32 0, .int .u32 0, .int .u32 0, .int .u32 0] 160)) from by unfold VB; rw [e0]; exact blk_new _ _)
  have B := Sd.mk (below_one w (.cells #[.int .u32 0, .int .u32 0, .int .u32 0, .int .u32 0, .int .u32 0, .int .u32 0, .int .u32 0, .int .u32 0] 160))
  clear e0
  generalize w.alloc _ = W at X B ⊢
  apply wp_region_lit
  refine wpList_build rfl 160 _ rfl (by kernel_rfl) ?_
  refine wpList_store_row rfl 160 _ _ rfl w.heap.size (vec .u32 8 iv) (by kernel_rfl) (by kernel_rfl) 160 _ X.out (by kernel_rfl) (by rw [vec_size, vec_size]) (vec_one _ _ _) ?_
  go_wp2
  refine bodyPost_ret (results_cell_row Tryz.results91 _ _ w.heap.size 160 _ (0, 0) _ (by kernel_rfl) (X.out.row _) Tryz.underlying160 rfl (by rw [vec_size]; kernel_rfl)) rfl ?_
  exact ⟨rfl, row_below B.out (Nat.le_refl _) _⟩

set_option maxHeartbeats 8000000 in
set_option maxRecDepth 100000 in
theorem iv_any (w : World) : Calls Tryz.prog 64 #[] w fun e w' => e = .returned (.agg (vec .u64 8 iv)) ∧ Below w.heap.size w w' := by
  have e0 : (vec .u64 8 fun _ => 0) = #[.int .u64 0, .int .u64 0, .int .u64 0, .int .u64 0, .int .u64 0, .int .u64 0, .int .u64 0, .int .u64 0] := by kernel_rfl
  go_enter Tryz.func64, Tryz.ntmps64
  go_upto_region 1 with (fail)
  have X := Sd.mk (show VB .u64 8 133 w.heap.size (fun _ => 0) (w.alloc (.cells #[.int .u64 0, .int .u64 0, .int .u64 0, .int .u64 0, .int .u64 0, .int .u64 0, .int .u64 0, .int .u64 0] 133)) from by unfold VB; rw [e0]; exact blk_new _ _)
  have B := Sd.mk (below_one w (.cells #[.int .u64 0, .int .u64 0, .int .u64 0, .int .u64 0, .int .u64 0, .int .u64 0, .int .u64 0, .int .u64 0] 133))
  clear e0
  generalize w.alloc _ = W at X B ⊢
  apply wp_region_lit
  refine wpList_build rfl 133 _ rfl (by kernel_rfl) ?_
  refine wpList_store_row rfl 133 _ _ rfl w.heap.size (vec .u64 8 iv) (by kernel_rfl) (by kernel_rfl) 133 _ X.out (by kernel_rfl) (by rw [vec_size, vec_size]) (vec_one _ _ _) ?_
  go_wp2
  refine bodyPost_ret (results_cell_row Tryz.results64 _ _ w.heap.size 133 _ (0, 0) _ (by kernel_rfl) (X.out.row _) Tryz.underlying133 rfl (by rw [vec_size]; kernel_rfl)) rfl ?_
  exact ⟨rfl, row_below B.out (Nat.le_refl _) _⟩

set_option maxHeartbeats 8000000 in
set_option maxRecDepth 100000 in
theorem mixes_any (w : World) : Calls Tryz.prog 121 #[] w fun e w' => e = .returned (.agg (vec .i64 32 atsF)) ∧ Below w.heap.size w w' := by
  have e0 : (vec .i64 32 fun _ => 0) = #[.int .i64 0, .int .i64 0, .int .i64 0, .int .i64 0, .int .i64 0, .int .i64 0, .int .i64 0, .int .i64 0, .int .i64 0, .int .i64 0, .int .i64 0, .int .i64 0, .int .i64 0, .int .i64 0, .int .i64 0, .int .i64 0, .int .i64 0, .int .i64 0, .int .i64 0, .int .i64 0, .int .i64 0, .int .i64 0, .int .i64 0, .int .i64 0, .int .i64 0, .int .i64 0, .int .i64 0, .int .i64 0, .int .i64 0, .int .i64 0, .int .i64 0, .int .i64 0] := by kernel_rfl
  go_enter Tryz.func121, Tryz.ntmps121
  go_upto_region 1 with (fail)
  have X := Sd.mk (show VB .i64 32 210 w.heap.size (fun _ => 0) (w.alloc (.cells #[.int .i64 0, .int .i64 0, .int .i64 0, .int .i64 0, .int .i64 0, .int .i64 0, .int .i64 0, .int .i64 0, .int .i64 0, .int .i64 0, .int .i64 0, .int .i64 0, .int .i64 0, .int .i64 0, .int .i64 0, .int .i64 0, .int .i64 0, .int .i64 0, .int .i64 0, .int .i64 0, .int .i64 0, .int .i64 0, .int .i64 0, .int .i64 0, .int .i64 0, .int .i64 0, .int .i64 0, .int .i64 0, .int .i64 0, .int .i64 0, .int .i64 0, .int .i64 0] 210)) from by unfold VB; rw [e0]; exact blk_new _ _)
  have B := Sd.mk (below_one w (.cells #[.int .i64 0, .int .i64 0, .int .i64 0, .int .i64 0, .int .i64 0, .int .i64 0, .int .i64 0, .int .i64 0, .int .i64 0, .int .i64 0, .int .i64 0, .int .i64 0, .int .i64 0, .int .i64 0, .int .i64 0, .int .i64 0, .int .i64 0, .int .i64 0, .int .i64 0, .int .i64 0, .int .i64 0, .int .i64 0, .int .i64 0, .int .i64 0, .int .i64 0, .int .i64 0, .int .i64 0, .int .i64 0, .int .i64 0, .int .i64 0, .int .i64 0, .int .i64 0] 210))
  clear e0
  generalize w.alloc _ = W at X B ⊢
  apply wp_region_lit
  refine wpList_build rfl 209 _ rfl (by kernel_rfl) ?_
  refine wpList_build rfl 209 _ rfl (by kernel_rfl) ?_
  refine wpList_build rfl 209 _ rfl (by kernel_rfl) ?_
  refine wpList_build rfl 209 _ rfl (by kernel_rfl) ?_
  refine wpList_build rfl 209 _ rfl (by kernel_rfl) ?_
  refine wpList_build rfl 209 _ rfl (by kernel_rfl) ?_
  refine wpList_build rfl 209 _ rfl (by kernel_rfl) ?_
  refine wpList_build rfl 209 _ rfl (by kernel_rfl) ?_
  refine wpList_build rfl 210 _ rfl (by kernel_rfl) ?_
  refine wpList_store_row rfl 210 _ _ rfl w.heap.size (vec .i64 32 atsF) (by kernel_rfl) (by kernel_rfl) 210 _ X.out (by kernel_rfl) (by rw [vec_size, vec_size]) (vec_one _ _ _) ?_
  go_wp2
  refine bodyPost_ret (results_cell_row Tryz.results121 _ _ w.heap.size 210 _ (0, 0) _ (by kernel_rfl) (X.out.row _) Tryz.underlying210 rfl (by rw [vec_size]; kernel_rfl)) rfl ?_
  exact ⟨rfl, row_below B.out (Nat.le_refl _) _⟩

set_option maxHeartbeats 8000000 in
set_option maxRecDepth 100000 in
theorem table_any (w : World) : Calls Tryz.prog 120 #[] w fun e w' => e = .returned (.agg (vec .i64 160 rowsF)) ∧ Below w.heap.size w w' := by
  have e0 : (vec .i64 160 fun _ => 0) = Tryz.zeroCells207 := by kernel_rfl
  go_enter Tryz.func120, Tryz.ntmps120
  go_upto_region 1 with (fail)
  have X := Sd.mk (show VB .i64 160 207 w.heap.size (fun _ => 0) (w.alloc (.cells Tryz.zeroCells207 207)) from by unfold VB; rw [e0]; exact blk_new _ _)
  have B := Sd.mk (below_one w (.cells Tryz.zeroCells207 207))
  clear e0
  generalize w.alloc _ = W at X B ⊢
  apply wp_region_lit
  refine wpList_build rfl 206 _ rfl (by kernel_rfl) ?_
  refine wpList_build rfl 206 _ rfl (by kernel_rfl) ?_
  refine wpList_build rfl 206 _ rfl (by kernel_rfl) ?_
  refine wpList_build rfl 206 _ rfl (by kernel_rfl) ?_
  refine wpList_build rfl 206 _ rfl (by kernel_rfl) ?_
  refine wpList_build rfl 206 _ rfl (by kernel_rfl) ?_
  refine wpList_build rfl 206 _ rfl (by kernel_rfl) ?_
  refine wpList_build rfl 206 _ rfl (by kernel_rfl) ?_
  refine wpList_build rfl 206 _ rfl (by kernel_rfl) ?_
  refine wpList_build rfl 206 _ rfl (by kernel_rfl) ?_
  refine wpList_build rfl 207 _ rfl (by kernel_rfl) ?_
  refine wpList_store_row rfl 207 _ _ rfl w.heap.size (vec .i64 160 rowsF) (by kernel_rfl) (by kernel_rfl) 207 _ X.out (by kernel_rfl) (by rw [vec_size, vec_size]) (vec_one _ _ _) ?_
  go_wp2
  refine bodyPost_ret (results_cell_row Tryz.results120 _ _ w.heap.size 207 _ (0, 0) _ (by kernel_rfl) (X.out.row _) Tryz.underlying207 rfl (by rw [vec_size]; kernel_rfl)) rfl ?_
  exact ⟨rfl, row_below B.out (Nat.le_refl _) _⟩
end Go.Proofs.YtnomgkmeomlccaaGreat.Tab

/- The tables: walked. -/
import Derived.Test.YtdmdfpbklflijaaMix
set_option linter.unusedVariables false
set_option linter.unusedSimpArgs false
namespace Go.Proofs.Ytdmdfpbklflijaa.Tab
open Go.RowKit Rd Api Own Mv Word Vec Mix

def iv (i : Nat) : Nat := [1779033703, 3144134277, 1013904242, 2773480762, 1359893119, 2600822924, 528734635, 1541459225].getD i 0
def rows : List Nat := [0, 1, 2, 3, 4, 5, 6, 7, 8, 9, 10, 11, 12, 13, 14, 15,
  14, 10, 4, 8, 9, 15, 13, 6, 1, 12, 0, 2, 11, 7, 5, 3,
  11, 8, 12, 0, 5, 2, 15, 13, 10, 14, 3, 6, 7, 1, 9, 4,
  7, 9, 3, 1, 13, 12, 11, 14, 2, 6, 5, 10, 4, 0, 15, 8,
  9, 0, 5, 7, 2, 4, 10, 15, 14, 1, 11, 12, 6, 8, 3, 13,
  2, 12, 6, 10, 0, 11, 8, 3, 4, 13, 7, 5, 15, 14, 1, 9,
  12, 5, 1, 15, 14, 13, 4, 10, 0, 7, 6, 3, 9, 2, 8, 11,
  13, 11, 7, 14, 12, 1, 3, 9, 5, 0, 15, 4, 8, 6, 2, 10,
  6, 15, 14, 9, 11, 3, 0, 8, 12, 2, 13, 7, 1, 4, 10, 5,
  10, 2, 8, 4, 7, 6, 1, 5, 15, 11, 9, 14, 3, 12, 13, 0]
/-- the word of a round, by its place -/
def tab (r p : Nat) : Nat := rows.getD (16 * r + p) 0
def ats : List Nat := [0, 4, 8, 12, 1, 5, 9, 13, 2, 6, 10, 14, 3, 7, 11, 15, 0, 5, 10, 15, 1, 6, 11, 12, 2, 7, 8, 13, 3, 4, 9, 14]
def rowsF (i : Nat) : Nat := rows.getD i 0
def atsF (i : Nat) : Nat := ats.getD i 0
def at4 (i j : Nat) : Nat := ats.getD (4 * i + j) 0

set_option maxHeartbeats 8000000 in
set_option maxRecDepth 100000 in
theorem begin_any (w : World) : Calls Try.prog 108 #[] w fun e w' => e = .returned (.agg (vec .u32 8 iv)) ∧ Below w.heap.size w w' := by
  have e0 : (vec .u32 8 fun _ => 0) = #[.int .u32 0, .int .u32 0, .int .u32 0, .int .u32 0, .int .u32 0, .int .u32 0, .int .u32 0, .int .u32 0] := by kernel_rfl
  go_enter Try.func108, Try.ntmps108
  go_upto_region 1 with (fail)
  have X := Sd.mk (show VB .u32 8 151 w.heap.size (fun _ => 0) (w.alloc (.cells #[.int .u32 0, .int .u32 0, .int .u32 0, .int .u32 0, .int .u32 0, .int .u32 0, .int .u32 0, .int .u32 0] 151)) from by unfold VB; rw [e0]; exact blk_new _ _)
  have B := Sd.mk (below_one w (.cells #[.int .u32 0, .int .u32 0, .int .u32 0, .int .u32 0, .int .u32 0, .int .u32 0, .int .u32 0, .int .u32 0] 151))
  clear e0
  generalize w.alloc _ = W at X B ⊢
  apply wp_region_lit
  refine wpList_build rfl 151 _ rfl (by kernel_rfl) ?_
  refine wpList_store_row rfl 151 _ _ rfl w.heap.size (vec .u32 8 iv) (by kernel_rfl) (by kernel_rfl) 151 _ X.out (by kernel_rfl) (by rw [vec_size, vec_size]) (vec_one _ _ _) ?_
  go_wp2
  refine bodyPost_ret (results_cell_row Try.results108 _ _ w.heap.size 151 _ (0, 0) _ (by kernel_rfl) (X.out.row _) Try.underlying151 rfl (by rw [vec_size]; kernel_rfl)) rfl ?_
  exact ⟨rfl, row_below B.out (Nat.le_refl _) _⟩

set_option maxHeartbeats 8000000 in
set_option maxRecDepth 100000 in
theorem iv_any (w : World) : Calls Try.prog 66 #[] w fun e w' => e = .returned (.agg (vec .u64 8 iv)) ∧ Below w.heap.size w w' := by
  have e0 : (vec .u64 8 fun _ => 0) = #[.int .u64 0, .int .u64 0, .int .u64 0, .int .u64 0, .int .u64 0, .int .u64 0, .int .u64 0, .int .u64 0] := by kernel_rfl
  go_enter Try.func66, Try.ntmps66
  go_upto_region 1 with (fail)
  have X := Sd.mk (show VB .u64 8 106 w.heap.size (fun _ => 0) (w.alloc (.cells #[.int .u64 0, .int .u64 0, .int .u64 0, .int .u64 0, .int .u64 0, .int .u64 0, .int .u64 0, .int .u64 0] 106)) from by unfold VB; rw [e0]; exact blk_new _ _)
  have B := Sd.mk (below_one w (.cells #[.int .u64 0, .int .u64 0, .int .u64 0, .int .u64 0, .int .u64 0, .int .u64 0, .int .u64 0, .int .u64 0] 106))
  clear e0
  generalize w.alloc _ = W at X B ⊢
  apply wp_region_lit
  refine wpList_build rfl 106 _ rfl (by kernel_rfl) ?_
  refine wpList_store_row rfl 106 _ _ rfl w.heap.size (vec .u64 8 iv) (by kernel_rfl) (by kernel_rfl) 106 _ X.out (by kernel_rfl) (by rw [vec_size, vec_size]) (vec_one _ _ _) ?_
  go_wp2
  refine bodyPost_ret (results_cell_row Try.results66 _ _ w.heap.size 106 _ (0, 0) _ (by kernel_rfl) (X.out.row _) Try.underlying106 rfl (by rw [vec_size]; kernel_rfl)) rfl ?_
  exact ⟨rfl, row_below B.out (Nat.le_refl _) _⟩

set_option maxHeartbeats 8000000 in
set_option maxRecDepth 100000 in
theorem mixes_any (w : World) : Calls Try.prog 130 #[] w fun e w' => e = .returned (.agg (vec .i64 32 atsF)) ∧ Below w.heap.size w w' := by
  have e0 : (vec .i64 32 fun _ => 0) = #[.int .i64 0, .int .i64 0, .int .i64 0, .int .i64 0, .int .i64 0, .int .i64 0, .int .i64 0, .int .i64 0, .int .i64 0, .int .i64 0, .int .i64 0, .int .i64 0, .int .i64 0, .int .i64 0, .int .i64 0, .int .i64 0, .int .i64 0, .int .i64 0, .int .i64 0, .int .i64 0, .int .i64 0, .int .i64 0, .int .i64 0, .int .i64 0, .int .i64 0, .int .i64 0, .int .i64 0, .int .i64 0, .int .i64 0, .int .i64 0, .int .i64 0, .int .i64 0] := by kernel_rfl
  go_enter Try.func130, Try.ntmps130
  go_upto_region 1 with (fail)
  have X := Sd.mk (show VB .i64 32 182 w.heap.size (fun _ => 0) (w.alloc (.cells #[.int .i64 0, .int .i64 0, .int .i64 0, .int .i64 0, .int .i64 0, .int .i64 0, .int .i64 0, .int .i64 0, .int .i64 0, .int .i64 0, .int .i64 0, .int .i64 0, .int .i64 0, .int .i64 0, .int .i64 0, .int .i64 0, .int .i64 0, .int .i64 0, .int .i64 0, .int .i64 0, .int .i64 0, .int .i64 0, .int .i64 0, .int .i64 0, .int .i64 0, .int .i64 0, .int .i64 0, .int .i64 0, .int .i64 0, .int .i64 0, .int .i64 0, .int .i64 0] 182)) from by unfold VB; rw [e0]; exact blk_new _ _)
  have B := Sd.mk (below_one w (.cells #[.int .i64 0, .int .i64 0, .int .i64 0, .int .i64 0, .int .i64 0, .int .i64 0, .int .i64 0, .int .i64 0, .int .i64 0, .int .i64 0, .int .i64 0, .int .i64 0, .int .i64 0, .int .i64 0, .int .i64 0, .int .i64 0, .int .i64 0, .int .i64 0, .int .i64 0, .int .i64 0, .int .i64 0, .int .i64 0, .int .i64 0, .int .i64 0, .int .i64 0, .int .i64 0, .int .i64 0, .int .i64 0, .int .i64 0, .int .i64 0, .int .i64 0, .int .i64 0] 182))
  clear e0
  generalize w.alloc _ = W at X B ⊢
  apply wp_region_lit
  refine wpList_build rfl 181 _ rfl (by kernel_rfl) ?_
  refine wpList_build rfl 181 _ rfl (by kernel_rfl) ?_
  refine wpList_build rfl 181 _ rfl (by kernel_rfl) ?_
  refine wpList_build rfl 181 _ rfl (by kernel_rfl) ?_
  refine wpList_build rfl 181 _ rfl (by kernel_rfl) ?_
  refine wpList_build rfl 181 _ rfl (by kernel_rfl) ?_
  refine wpList_build rfl 181 _ rfl (by kernel_rfl) ?_
  refine wpList_build rfl 181 _ rfl (by kernel_rfl) ?_
  refine wpList_build rfl 182 _ rfl (by kernel_rfl) ?_
  refine wpList_store_row rfl 182 _ _ rfl w.heap.size (vec .i64 32 atsF) (by kernel_rfl) (by kernel_rfl) 182 _ X.out (by kernel_rfl) (by rw [vec_size, vec_size]) (vec_one _ _ _) ?_
  go_wp2
  refine bodyPost_ret (results_cell_row Try.results130 _ _ w.heap.size 182 _ (0, 0) _ (by kernel_rfl) (X.out.row _) Try.underlying182 rfl (by rw [vec_size]; kernel_rfl)) rfl ?_
  exact ⟨rfl, row_below B.out (Nat.le_refl _) _⟩

set_option maxHeartbeats 8000000 in
set_option maxRecDepth 100000 in
theorem table_any (w : World) : Calls Try.prog 129 #[] w fun e w' => e = .returned (.agg (vec .i64 160 rowsF)) ∧ Below w.heap.size w w' := by
  have e0 : (vec .i64 160 fun _ => 0) = Try.zeroCells179 := by kernel_rfl
  go_enter Try.func129, Try.ntmps129
  go_upto_region 1 with (fail)
  have X := Sd.mk (show VB .i64 160 179 w.heap.size (fun _ => 0) (w.alloc (.cells Try.zeroCells179 179)) from by unfold VB; rw [e0]; exact blk_new _ _)
  have B := Sd.mk (below_one w (.cells Try.zeroCells179 179))
  clear e0
  generalize w.alloc _ = W at X B ⊢
  apply wp_region_lit
  refine wpList_build rfl 178 _ rfl (by kernel_rfl) ?_
  refine wpList_build rfl 178 _ rfl (by kernel_rfl) ?_
  refine wpList_build rfl 178 _ rfl (by kernel_rfl) ?_
  refine wpList_build rfl 178 _ rfl (by kernel_rfl) ?_
  refine wpList_build rfl 178 _ rfl (by kernel_rfl) ?_
  refine wpList_build rfl 178 _ rfl (by kernel_rfl) ?_
  refine wpList_build rfl 178 _ rfl (by kernel_rfl) ?_
  refine wpList_build rfl 178 _ rfl (by kernel_rfl) ?_
  refine wpList_build rfl 178 _ rfl (by kernel_rfl) ?_
  refine wpList_build rfl 178 _ rfl (by kernel_rfl) ?_
  refine wpList_build rfl 179 _ rfl (by kernel_rfl) ?_
  refine wpList_store_row rfl 179 _ _ rfl w.heap.size (vec .i64 160 rowsF) (by kernel_rfl) (by kernel_rfl) 179 _ X.out (by kernel_rfl) (by rw [vec_size, vec_size]) (vec_one _ _ _) ?_
  go_wp2
  refine bodyPost_ret (results_cell_row Try.results129 _ _ w.heap.size 179 _ (0, 0) _ (by kernel_rfl) (X.out.row _) Try.underlying179 rfl (by rw [vec_size]; kernel_rfl)) rfl ?_
  exact ⟨rfl, row_below B.out (Nat.le_refl _) _⟩
end Go.Proofs.Ytdmdfpbklflijaa.Tab

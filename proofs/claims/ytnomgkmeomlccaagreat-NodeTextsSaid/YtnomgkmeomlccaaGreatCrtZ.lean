/- The first certificate (for a seat without the reference's): walked. -/
import Derived.Test.YtnomgkmeomlccaaGreatSumC
import Derived.Test.YtnomgkmeomlccaaGreatRwz
set_option linter.unusedVariables false
set_option linter.unusedSimpArgs false
namespace Go.Proofs.YtnomgkmeomlccaaGreat.Crt
open Go.RowKit Go.Sort Rd Api Own Mv App Num Dig Rp

def FIRST : ByteArray := { data := #[102, 105, 114, 115, 116] }
def FB : ByteArray := sum FIRST
theorem FB_size : FB.size = 32 := sum_size _
theorem sum_first (w : World) (d : ByteArray) (hd : sum FIRST = d) : Calls Tryz.prog 37 #[.string { data := #[102, 105, 114, 115, 116] }] w fun e w' => e = .returned (.string d) ∧ RowKit.Below w.heap.size w w' := by
  subst hd; exact blake_sum_any w FIRST (by decide)
def rblk : Obj := .cells #[.int .i64 0, .string { data := #[] }, .slice none 0 0] 24
set_option maxHeartbeats 2000000 in
theorem first_any (w : World) (d : ByteArray) (hd : FB = d) : Calls Tryz.prog 30 #[] w fun e w' => e = .returned (.agg #[.int .i64 0, .string d, .slice none 0 0]) ∧ RowKit.Below w.heap.size w w' := by
  have HR := Sd.mk (blk_new w rblk)
  have HB := Sd.mk (below_one w rblk)
  have HS := Sd.mk (sum_first (w.alloc rblk) d hd)
  go_enter Tryz.func30, Tryz.ntmps30
  go_upto_region 1 with (fail)
  change Code.wp _ _ _ _ (w.alloc rblk)
  generalize hg : w.heap.size = Br at HR ⊢
  generalize w.alloc rblk = W1 at HR HB HS ⊢
  go_wp2_with (first
    | (go_at_call 37; (with_reducible refine HS.out.mono ?_); rintro e w4 ⟨rfl, hb4⟩; have HR4 := Sd.mk (blk_keep HR.out hb4); have HB4 := Sd.mk (below_then HB.out hb4); have a0 := blk_at HR4.out 0 _ rfl; have a1 := blk_at HR4.out 1 _ rfl; have a2 := blk_at HR4.out 2 _ rfl; have f0 := blk_frz HR4.out 0; have f1 := blk_frz HR4.out 1; have f2 := blk_frz HR4.out 2; clear hb4))
  obtain ⟨y0, y1, y2⟩ := fin3_cells HR4.out (.int .i64 0) (.string d) (.slice none 0 0)
  have HF := Sd.mk (show RowKit.Below w.heap.size w (fin3 Br w4 (.int .i64 0) (.string d) (.slice none 0 0)) from ((HB4.out.setCell (p := ⟨Br, 0, none⟩) (by simp only; omega) _).setCell (p := ⟨Br, 1, none⟩) (by simp only; omega) _).setCell (p := ⟨Br, 2, none⟩) (by simp only; omega) _)
  clear a0 a1 a2 f0 f1 f2
  change bodyPost _ _ _ _ _ (fin3 Br w4 (.int .i64 0) (.string d) (.slice none 0 0))
  generalize fin3 Br w4 _ _ _ = w9 at y0 y1 y2 HF ⊢
  exact bodyPost_ret (v := .agg #[.int .i64 0, .string d, .slice none 0 0]) (by simp [results, Tryz.results30, go_sem, y0, y1, y2]) rfl ⟨rfl, HF.out⟩
theorem field_cert (w : World) (d : ByteArray) : (Instr.field 24 (.agg #[.int .i64 0, .string d, .slice none 0 0]) 1).run Tryz.prog w = .ok (.string d) w := by kernel_rfl
end Go.Proofs.YtnomgkmeomlccaaGreat.Crt

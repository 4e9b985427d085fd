/- The first certificate and its digest, the program's and the reference's (where the certificates' own laws are not at hand): walked. -/
import Derived.Test.YtnomgkmeomlccaaSumC
import Derived.Test.YtnomgkmeomlccaaRw
set_option linter.unusedVariables false
set_option linter.unusedSimpArgs false
namespace Go.Proofs.Ytnomgkmeomlccaa.Crt
open Go.RowKit Go.Sort Rd Api Own Mv App Num Dig Rp

def FIRST : ByteArray := { data := #[102, 105, 114, 115, 116] }
def FB : ByteArray := sum FIRST
theorem FB_size : FB.size = 32 := sum_size _
theorem sum_first (w : World) (d : ByteArray) (hd : sum FIRST = d) : Calls Try.prog 64 #[.string { data := #[102, 105, 114, 115, 116] }] w fun e w' => e = .returned (.string d) ∧ RowKit.Below w.heap.size w w' := by
  subst hd; exact blake_sum_any w FIRST (by decide)
def rblk : Obj := .cells #[.int .i64 0, .string { data := #[] }, .slice none 0 0] 39
set_option maxHeartbeats 2000000 in
theorem first_any (w : World) (d : ByteArray) (hd : FB = d) : Calls Try.prog 68 #[] w fun e w' => e = .returned (.agg #[.int .i64 0, .string d, .slice none 0 0]) ∧ RowKit.Below w.heap.size w w' := by
  have HR := Sd.mk (blk_new w rblk)
  have HB := Sd.mk (below_one w rblk)
  have HS := Sd.mk (sum_first (w.alloc rblk) d hd)
  go_enter Try.func68, Try.ntmps68
  go_upto_region 1 with (fail)
  change Code.wp _ _ _ _ (w.alloc rblk)
  generalize hg : w.heap.size = Br at HR ⊢
  generalize w.alloc rblk = W1 at HR HB HS ⊢
  go_wp2_with (first
    | (go_at_call 64; (with_reducible refine HS.out.mono ?_); rintro e w4 ⟨rfl, hb4⟩; have HR4 := Sd.mk (blk_keep HR.out hb4); have HB4 := Sd.mk (below_then HB.out hb4); have a0 := blk_at HR4.out 0 _ rfl; have a1 := blk_at HR4.out 1 _ rfl; have a2 := blk_at HR4.out 2 _ rfl; have f0 := blk_frz HR4.out 0; have f1 := blk_frz HR4.out 1; have f2 := blk_frz HR4.out 2; clear hb4))
  obtain ⟨y0, y1, y2⟩ := fin3_cells HR4.out (.int .i64 0) (.string d) (.slice none 0 0)
  have HF := Sd.mk (show RowKit.Below w.heap.size w (fin3 Br w4 (.int .i64 0) (.string d) (.slice none 0 0)) from ((HB4.out.setCell (p := ⟨Br, 0, none⟩) (by simp only; omega) _).setCell (p := ⟨Br, 1, none⟩) (by simp only; omega) _).setCell (p := ⟨Br, 2, none⟩) (by simp only; omega) _)
  clear a0 a1 a2 f0 f1 f2
  change bodyPost _ _ _ _ _ (fin3 Br w4 (.int .i64 0) (.string d) (.slice none 0 0))
  generalize fin3 Br w4 _ _ _ = w9 at y0 y1 y2 HF ⊢
  exact bodyPost_ret (v := .agg #[.int .i64 0, .string d, .slice none 0 0]) (by simp [results, Try.results68, go_sem, y0, y1, y2]) rfl ⟨rfl, HF.out⟩
theorem field_cert (w : World) (d : ByteArray) : (Instr.field 39 (.agg #[.int .i64 0, .string d, .slice none 0 0]) 1).run Try.prog w = .ok (.string d) w := by kernel_rfl
theorem refsum_first (w : World) (d : ByteArray) (hd : FB = d) : Calls Try.prog 66 #[.string { data := #[] }, .string { data := #[102, 105, 114, 115, 116] }] w fun e w' => e = .returned (.string d) ∧ RowKit.Below w.heap.size w w' := by
  subst hd; exact ref0_any w FIRST (by decide)
set_option maxHeartbeats 1000000 in
theorem reffirst_any (w : World) (d : ByteArray) (hd : FB = d) : Calls Try.prog 30 #[] w fun e w' => e = .returned (.string d) ∧ RowKit.Below w.heap.size w w' := by
  go_enter Try.func30, Try.ntmps30
  go_wp2_with (first
    | (go_at_call 66; (with_reducible refine (refsum_first _ d hd).mono ?_); rintro e w1 ⟨rfl, hb⟩; have HB := Sd.mk hb; clear hb))
  go_ret
  exact ⟨rfl, HB.out⟩
end Go.Proofs.Ytnomgkmeomlccaa.Crt

/- A memory that is opened on a log without records; the parts of a new node: walked. -/
import Derived.Test.YtnomgkmeomlccaaGreatOpa
import Derived.Test.YtnomgkmeomlccaaGreatCrtZ
import Derived.Test.YtnomgkmeomlccaaGreatArr
import Derived.BigQuiet
set_option linter.unusedVariables false
set_option linter.unusedSimpArgs false
namespace Go.Proofs.YtnomgkmeomlccaaGreat.Opn
open Go.RowKit Go.Sort Rd Api _root_.Go.Proofs.YtnomgkmeomlccaaGreat.Own Mv Dig

theorem recall_any (w : World) : Calls Tryz.prog 45 #[.slice none 0 0] w fun e w' => e = .returned (.tuple #[.agg #[.int .i64 0, .int .i64 0], .slice none 0 0]) ∧ RowKit.Below w.heap.size w w' := by
  go_enter Tryz.func45, Tryz.ntmps45
  go_upto_region 4 with (fail)
  have HB := Sd.mk (show RowKit.Below w.heap.size w ((w.alloc (.cells #[.int .i64 0, .int .i64 0] 58)).alloc (.cells #[.int .i64 0, .int .i64 0] 58)) from below_then (below_one w _) (below_one _ _))
  have X0 := Sd.mk (show ((w.alloc (.cells #[.int .i64 0, .int .i64 0] 58)).alloc (.cells #[.int .i64 0, .int .i64 0] 58)).heap[w.heap.size]? = some (.cells #[.int .i64 0, .int .i64 0] 58 (0, 0)) from blk_keep (blk_new w _) (below_one _ _))
  have Y0 := Sd.mk (show ((w.alloc (.cells #[.int .i64 0, .int .i64 0] 58)).alloc (.cells #[.int .i64 0, .int .i64 0] 58)).heap[w.heap.size + 1]? = some (.cells #[.int .i64 0, .int .i64 0] 58 (0, 0)) from blk_new1 _ _ _)
  obtain ⟨n0, hn0⟩ : ∃ k, w.heap.size = k := ⟨_, rfl⟩
  generalize (w.alloc (.cells #[.int .i64 0, .int .i64 0] 58)).alloc (.cells #[.int .i64 0, .int .i64 0] 58) = W1 at HB X0 Y0 ⊢
  rw [hn0] at X0 Y0 HB ⊢
  go_loopg [5, 14] 1 (fun gk v5 v14 wr => gk = 1 ∧ v5 = .slice none 0 0 ∧ v14 = .int .i64 0 ∧ wr = W1)
  case atStart => exact ⟨rfl, rfl, rfl, rfl⟩
  case round =>
    obtain ⟨rfl, rfl, rfl, rfl⟩ := hrel
    have c0 := blk_at Y0.out 0 _ rfl
    have c1 := blk_at Y0.out 1 _ rfl
    have d0 := blk_at X0.out 0 _ rfl
    have d1 := blk_at X0.out 1 _ rfl
    have f0 := blk_frz X0.out 0
    have f1 := blk_frz X0.out 1
    go_wp2
    have X8 : ((wr.setCell ⟨n0, 0, none⟩ (.int .i64 0)).setCell ⟨n0, 1, none⟩ (.int .i64 0)).heap[n0]? = some (.cells #[.int .i64 0, .int .i64 0] 58 (0, 0)) := (blk_set3 (blk_set3 X0.out 0 _) 1 _).trans rfl
    have y0 := blk_at X8 0 _ rfl
    have y1 := blk_at X8 1 _ rfl
    have HF := (HB.out.setCell (p := ⟨n0, 0, none⟩) (by simp only; omega) (.int .i64 0)).setCell (p := ⟨n0, 1, none⟩) (by simp only; omega) (.int .i64 0)
    exact bodyPost_ret (v := .tuple #[.agg #[.int .i64 0, .int .i64 0], .slice none 0 0]) (by simp [results, Tryz.results45, go_sem, y0, y1]) rfl ⟨rfl, by rw [hn0]; exact HF⟩
theorem grown_b {w W W1 : World} {row : Option Nat} (h : w.grownBy W row) (hb : RowKit.Below W.heap.size W W1) : w.grownBy W1 row :=
  ⟨hb.os.trans h.os, hb.tape.trans h.tape, hb.output.trans h.output, Nat.le_trans h.size hb.size, fun k hk hr => (hb.block k (Nat.lt_of_lt_of_le hk h.size)).trans (h.block k hk hr)⟩
set_option maxHeartbeats 2000000 in
theorem open_any (w : World) (g : Nat) (hg : Lg g w) : Calls Tryz.prog 21 #[.pointer (some ⟨g, 0, none⟩)] w fun e w' => ∃ s, e = .returned (.tuple #[.pointer (some ⟨s, 0, none⟩), .int .i64 0]) ∧ w'.heap[s]? = some (.cells #[.pointer (some ⟨g, 0, none⟩), .int .i64 0, .int .i64 0, .slice none 0 0] 93 (0, 0)) ∧ w.heap.size ≤ s ∧ w.grownBy w' (some g) := by
  have HG := Sd.mk hg
  go_enter Tryz.func21, Tryz.ntmps21
  go_wp2_with (first
    | (go_at_call 43; (with_reducible refine (cut_any _ g HG.out).mono ?_); rintro e w1 ⟨rfl, hg1, hb1⟩; have HG1 := Sd.mk hg1; have HB1 := Sd.mk hb1; clear hg1 hb1)
    | (go_at_call 44; (with_reducible refine (read_any _ g HG1.out).mono ?_); rintro e w2 ⟨rfl, hb2⟩; have HB2 := Sd.mk hb2; clear hb2)
    | (go_at_call 45; (with_reducible refine (recall_any _).mono ?_); rintro e w3 ⟨rfl, hb3⟩; have HB3 := Sd.mk hb3; clear hb3))
  have hb3 := below_then HB2.out HB3.out
  have hb5 := below_then hb3 (below_then (below_one w3 (.cells #[.int .i64 0, .int .i64 0] 58)) (below_one (w3.alloc (.cells #[.int .i64 0, .int .i64 0] 58)) (.cells #[.pointer (some ⟨g, 0, none⟩), .int .i64 0, .int .i64 0, .slice none 0 0] 93)))
  exact bodyPost_ret (v := .tuple #[.pointer (some ⟨w3.heap.size + 1, 0, none⟩), .int .i64 0]) (by simp [results, Tryz.results21, go_sem]) rfl ⟨_, rfl, blk_new1 _ _ _, Nat.le_trans HB1.out.size (Nat.le_trans hb3.size (Nat.le_succ _)), grown_b HB1.out hb5⟩
/-- the parts of a new node, as far as anybody has to know: a pointer to what wasn't there -/
def Fresh (w : World) (e : Ending) (w' : World) : Prop := ∃ a, e = .returned (.pointer (some ⟨a, 0, none⟩)) ∧ RowKit.Below w.heap.size w w'
theorem bfirst_any (w : World) : Calls Tryz.prog 46 #[] w fun e w' => e = .returned (.string Crt.FB) ∧ RowKit.Below w.heap.size w w' := by
  obtain ⟨d, hd⟩ : ∃ d, Crt.FB = d := ⟨_, rfl⟩
  have HD := Sd.mk hd
  rw [hd]
  clear hd
  have hfc := fun W => Crt.field_cert W d
  go_enter Tryz.func46, Tryz.ntmps46
  go_wp2_with (first
    | (go_at_call 30; (with_reducible refine (Crt.first_any _ d HD.out).mono ?_); rintro e w1 ⟨rfl, hb⟩; have HB := Sd.mk hb; clear hb))
  go_ret
  exact ⟨rfl, HB.out⟩
theorem fnew_any (w : World) : Calls Tryz.prog 22 #[] w (Fresh w) := by
  have hmm := @run_makeMap Tryz.prog
  obtain ⟨fb, hfb⟩ : ∃ d, Crt.FB = d := ⟨_, rfl⟩
  have hf := bfirst_any
  rw [hfb] at hf
  clear hfb
  go_enter Tryz.func22, Tryz.ntmps22
  go_wp2_with (first
    | (go_at_call 46; (with_reducible refine (hf _).mono ?_); rintro e w1 ⟨rfl, hb⟩; have HB := Sd.mk hb; clear hb))
  go_ret
  exact ⟨_, rfl, below_then HB.out (below_then (below_one _ _) (below_one _ _))⟩
theorem knew_any (w : World) : Calls Tryz.prog 24 #[] w (Fresh w) := by
  have hmm := @run_makeMap Tryz.prog
  go_enter Tryz.func24, Tryz.ntmps24
  go_wp2
  go_ret
  exact ⟨_, rfl, below_then (below_one _ _) (below_one _ _)⟩
theorem pnew_any (w : World) : Calls Tryz.prog 26 #[] w (Fresh w) := by
  have hmm := @run_makeMap Tryz.prog
  go_enter Tryz.func26, Tryz.ntmps26
  go_wp2
  go_ret
  exact ⟨_, rfl, below_then (below_one _ _) (below_one _ _)⟩
def LEDGER : ByteArray := { data := #[108, 101, 100, 103, 101, 114] }
theorem sum_ledger (w : World) (d : ByteArray) (hd : Dig.sum LEDGER = d) : Calls Tryz.prog 37 #[.string { data := #[108, 101, 100, 103, 101, 114] }] w fun e w' => e = .returned (.string d) ∧ RowKit.Below w.heap.size w w' := by
  subst hd; exact blake_sum_any w LEDGER (by decide)
theorem lnew_any (w : World) : Calls Tryz.prog 25 #[] w (Fresh w) := by
  have hmm := @run_makeMap Tryz.prog
  obtain ⟨d, hd⟩ : ∃ d, Dig.sum LEDGER = d := ⟨_, rfl⟩
  have hs := sum_ledger w d hd
  clear hd
  go_enter Tryz.func25, Tryz.ntmps25
  go_wp2_with (first
    | (go_at_call 37; (with_reducible refine hs.mono ?_); rintro e w1 ⟨rfl, hb⟩; have HB := Sd.mk hb; clear hb))
  go_ret
  exact ⟨_, rfl, below_then HB.out (below_then (below_one _ _) (below_then (below_one _ _) (below_one _ _)))⟩
theorem tnew_any (w : World) (s : ByteArray) (a b : Int) : Calls Tryz.prog 27 #[.string s, .int .i64 a, .int .i64 b] w (Fresh w) := by
  go_enter Tryz.func27, Tryz.ntmps27
  go_wp2
  go_ret
  exact ⟨_, rfl, below_one _ _⟩
theorem span_any (w : World) : Calls Tryz.prog 47 #[.int .i64 0] w fun e w' => e = .returned (.int .i64 4) ∧ RowKit.Below w.heap.size w w' := by
  go_enter Tryz.func47, Tryz.ntmps47
  go_wp2
  go_ret
  exact ⟨by kernel_rfl, Below.refl _ _⟩
set_option maxRecDepth 100000 in
theorem mnew_any (w : World) : Calls Tryz.prog 28 #[.int .i64 1] w fun e w' => ∃ a, e = .returned (.pointer (some ⟨a, 0, none⟩)) ∧ w'.heap[a]? = some (.cells #[.int .i64 1, .int .i64 0, .int .i64 4] 112 (0, 0)) ∧ w.heap.size ≤ a ∧ RowKit.Below w.heap.size w w' := by
  go_enter Tryz.func28, Tryz.ntmps28
  go_wp2_with (first
    | (go_at_call 47; (with_reducible refine (span_any _).mono ?_); rintro e w1 ⟨rfl, hb⟩; have HB := Sd.mk hb; clear hb))
  rw [show min (1 : Int) 1000001 = 1 from by decide]
  go_ret
  exact ⟨_, rfl, blk_new w1 _, HB.out.size, below_then HB.out (below_one _ _)⟩
set_option maxHeartbeats 4000000 in
set_option maxRecDepth 100000 in
theorem gnew_any (w : World) : Calls Tryz.prog 29 #[.int .i64 1] w (Fresh w) := by
  go_enter Tryz.func29, Tryz.ntmps29
  have hmk : ∀ W, (Instr.makeSlice 113 (.int .i64 (min 1 7)) (.int .i64 (min 1 7))).run Tryz.prog W = .ok (.slice (some ⟨W.heap.size, 0, none⟩) 1 1) (W.alloc (.cells #[.int .i64 0] 3)) := fun W => by kernel_rfl
  go_wp2
  go_ret
  exact ⟨_, rfl, below_then (below_one _ _) (below_one _ _)⟩
end Go.Proofs.YtnomgkmeomlccaaGreat.Opn

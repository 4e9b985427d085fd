/- node.Open of a node alone, on a log without records: walked. -/
import Derived.Test.YtnomgkmeomlccaaGreatOpb
import Derived.Lib.LazyBuf
import Derived.Deep.RegionLaw
import Derived.Deep.RegionHeld3
import Derived.Deep.CutRange
set_option linter.unusedVariables false
set_option linter.unusedSimpArgs false
namespace Go.Proofs.YtnomgkmeomlccaaGreat.Opn
open Go.RowKit Go.Sort Rd Api _root_.Go.Proofs.YtnomgkmeomlccaaGreat.Own Mv Dig

theorem nodes_1 (w : World) : Calls Tryz.prog 20 #[.int .i64 1] w fun e w' => e = .returned (.bool true) ∧ RowKit.Below w.heap.size w w' := by
  go_enter Tryz.func20, Tryz.ntmps20
  go_wp2
  go_ret
  exact ⟨rfl, Below.refl _ _⟩
theorem state_any (w : World) (s g : Nat) (hs : w.heap[s]? = some (.cells #[.pointer (some ⟨g, 0, none⟩), .int .i64 0, .int .i64 0, .slice none 0 0] 93 (0, 0))) :
    Calls Tryz.prog 23 #[.pointer (some ⟨s, 0, none⟩)] w fun e w' => e = .returned (.agg #[.int .i64 0, .int .i64 0]) ∧ RowKit.Below w.heap.size w w' := by
  have HB := Sd.mk (below_one w (.cells #[.int .i64 0, .int .i64 0] 58))
  have S0 := Sd.mk (blk_keep hs (below_one w (.cells #[.int .i64 0, .int .i64 0] 58)))
  have X0 := Sd.mk (blk_new w (.cells #[.int .i64 0, .int .i64 0] 58))
  clear hs
  go_enter Tryz.func23, Tryz.ntmps23
  go_upto_region 1 with (fail)
  obtain ⟨n0, hn0⟩ : ∃ k, w.heap.size = k := ⟨_, rfl⟩
  generalize w.alloc (.cells #[.int .i64 0, .int .i64 0] 58) = W1 at HB X0 S0 ⊢
  rw [hn0] at X0 HB ⊢
  have c1 := blk_at S0.out 1 _ rfl
  have c2 := blk_at S0.out 2 _ rfl
  have d0 := blk_at X0.out 0 _ rfl
  have d1 := blk_at X0.out 1 _ rfl
  have f0 := blk_frz X0.out 0
  have f1 := blk_frz X0.out 1
  go_wp2
  have X8 : ((W1.setCell ⟨n0, 0, none⟩ (.int .i64 0)).setCell ⟨n0, 1, none⟩ (.int .i64 0)).heap[n0]? = some (.cells #[.int .i64 0, .int .i64 0] 58 (0, 0)) := (blk_set3 (blk_set3 X0.out 0 _) 1 _).trans rfl
  have y0 := blk_at X8 0 _ rfl
  have y1 := blk_at X8 1 _ rfl
  have HF := (HB.out.setCell (p := ⟨n0, 0, none⟩) (by simp only; omega) (.int .i64 0)).setCell (p := ⟨n0, 1, none⟩) (by simp only; omega) (.int .i64 0)
  exact bodyPost_ret (v := .agg #[.int .i64 0, .int .i64 0]) (by simp [results, Tryz.results23, go_sem, y0, y1]) rfl ⟨rfl, by rw [hn0]; exact HF⟩
set_option maxRecDepth 100000 in
theorem clone_nil (w : World) : Calls Tryz.prog 48 #[.slice none 0 0] w fun e w' => e = .returned (.slice none 0 0) ∧ RowKit.Below w.heap.size w w' := by
  have hnil := fun W1 a n c => Go.run_eql_slice_nil (P := Tryz.prog) W1 73 27 a n c Tryz.underlying73
  go_enter Tryz.func48, Tryz.ntmps48
  go_wp2
  go_ret
  exact ⟨rfl, Below.refl _ _⟩
theorem blocks_any (w : World) (s g : Nat) (hs : w.heap[s]? = some (.cells #[.pointer (some ⟨g, 0, none⟩), .int .i64 0, .int .i64 0, .slice none 0 0] 93 (0, 0))) :
    Calls Tryz.prog 31 #[.pointer (some ⟨s, 0, none⟩)] w fun e w' => e = .returned (.slice none 0 0) ∧ RowKit.Below w.heap.size w w' := by
  have c3 := blk_at hs 3 _ rfl
  go_enter Tryz.func31, Tryz.ntmps31
  go_wp2_with (first
    | (go_at_call 48; (with_reducible refine (clone_nil _).mono ?_); rintro e w1 ⟨rfl, hb⟩; have HB := Sd.mk hb; clear hb))
  go_ret
  exact ⟨rfl, HB.out⟩
set_option maxHeartbeats 1000000 in
theorem open_no (w : World) (s : ByteArray) (g : Nat) : Calls Tryz.prog 8 #[.string s, .int .i64 1, .int .i64 1, .pointer (some ⟨g, 0, none⟩)] w fun e w' => e = .returned (.tuple #[.pointer none, .int .i64 1]) ∧ RowKit.Below w.heap.size w w' := by
  go_enter Tryz.func8, Tryz.ntmps8
  go_wp2_with (first
    | (go_at_call 20; (with_reducible refine (nodes_1 _).mono ?_); rintro e w1 ⟨rfl, hb⟩; have HB := Sd.mk hb; clear hb))
  exact bodyPost_ret (v := .tuple #[.pointer none, .int .i64 1]) (by simp [results, Tryz.results8, go_sem]) rfl ⟨rfl, HB.out⟩
set_option maxHeartbeats 4000000 in
set_option maxRecDepth 100000 in
theorem node_any (w : World) (s : ByteArray) (g : Nat) (hg : Lg g w) : Calls Tryz.prog 8 #[.string s, .int .i64 0, .int .i64 1, .pointer (some ⟨g, 0, none⟩)] w fun e w' => ∃ x tm, e = .returned (.tuple #[.pointer (some ⟨x, 0, none⟩), .int .i64 0]) ∧ w'.cell? ⟨x, 11, none⟩ = some (.pointer (some ⟨tm, 0, none⟩)) ∧ w'.cell? ⟨tm, 0, none⟩ = some (.int .i64 1) ∧ w.grownBy w' (some g) := by
  have mixed : Tryz.prog.follows .mixedOrders = true := by kernel_rfl
  have HG := Sd.mk hg
  obtain ⟨fd, hfd⟩ : ∃ d, Crt.FB = d := ⟨_, rfl⟩
  have HFD := Sd.mk hfd
  clear hg hfd
  go_enter Tryz.func8, Tryz.ntmps8
  go_upto_region 6 with (first
    | (go_at_call 20; (with_reducible refine (nodes_1 _).mono ?_); rintro e w1 ⟨rfl, hb⟩; have HB1 := Sd.mk hb; have HG1 := Sd.mk (show Lg g w1 from blk_keep HG.out hb); clear hb)
    | (go_at_call 21; (with_reducible refine (open_any _ g HG1.out).mono ?_); rintro e w2 ⟨sp, rfl, hs2, hsl, hb2⟩; have HS2 := Sd.mk (And.intro hs2 hsl); have HB2 := Sd.mk hb2; clear hs2 hsl hb2))
  go_upto_region 7 with (first
    | (go_at_call 22; (with_reducible refine (fnew_any _).mono ?_); rintro e w3 ⟨a3, rfl, hb⟩; have HB3 := Sd.mk hb; clear hb)
    | (go_at_call 23; (with_reducible refine (state_any _ _ g (blk_keep HS2.out.1 HB3.out)).mono ?_); rintro e w4 ⟨rfl, hb⟩; have HB4 := Sd.mk (below_then HB3.out hb); clear hb)
    | (go_at_call 24; (with_reducible refine (knew_any _).mono ?_); rintro e w5 ⟨a5, rfl, hb⟩; have HB5 := Sd.mk (below_then HB4.out hb); clear hb)
    | (go_at_call 25; (with_reducible refine (lnew_any _).mono ?_); rintro e w6 ⟨a6, rfl, hb⟩; have HB6 := Sd.mk (below_then HB5.out hb); clear hb)
    | (go_at_call 26; (with_reducible refine (pnew_any _).mono ?_); rintro e w7 ⟨a7, rfl, hb⟩; have HB7 := Sd.mk (below_then HB6.out hb); clear hb)
    | (go_at_call 27; (with_reducible refine (tnew_any _ _ _ _).mono ?_); rintro e w8 ⟨a8, rfl, hb⟩; have HB8 := Sd.mk (below_then HB7.out hb); clear hb)
    | (go_at_call 28; (with_reducible refine (mnew_any _).mono ?_); rintro e w9 ⟨a9, rfl, -, -, hb⟩; have HB9 := Sd.mk (below_then HB8.out hb); clear hb)
    | (go_at_call 29; (with_reducible refine (gnew_any _).mono ?_); rintro e w10 ⟨a10, rfl, hb⟩; have HB10 := Sd.mk (below_then HB9.out hb); clear hb)
    | (go_at_call 30; (with_reducible refine (Crt.first_any _ fd HFD.out).mono ?_); rintro e w11 ⟨rfl, hb⟩; have HB11 := Sd.mk (below_then HB10.out hb); clear hb))
  have X12 := Sd.mk (blk_new w11 (.cells #[.string s, .int .i64 0, .int .i64 1, .pointer (some ⟨sp, 0, none⟩), .pointer (some ⟨a3, 0, none⟩), .int .i64 0, .int .i64 0, .pointer (some ⟨a5, 0, none⟩), .pointer (some ⟨a6, 0, none⟩), .pointer (some ⟨a7, 0, none⟩), .pointer (some ⟨a8, 0, none⟩), .pointer (some ⟨a9, 0, none⟩), .pointer (some ⟨a10, 0, none⟩), .int .i64 0, .string fd, .slice none 0 0, .int .i64 0, .string { data := #[] }, .slice none 0 0, .slice none 0 0, .int .i64 0, .slice none 0 0, .bool false] 76))
  have HB12 := Sd.mk (below_then HB11.out (below_one w11 (.cells #[.string s, .int .i64 0, .int .i64 1, .pointer (some ⟨sp, 0, none⟩), .pointer (some ⟨a3, 0, none⟩), .int .i64 0, .int .i64 0, .pointer (some ⟨a5, 0, none⟩), .pointer (some ⟨a6, 0, none⟩), .pointer (some ⟨a7, 0, none⟩), .pointer (some ⟨a8, 0, none⟩), .pointer (some ⟨a9, 0, none⟩), .pointer (some ⟨a10, 0, none⟩), .int .i64 0, .string fd, .slice none 0 0, .int .i64 0, .string { data := #[] }, .slice none 0 0, .slice none 0 0, .int .i64 0, .slice none 0 0, .bool false] 76)))
  change Code.wp _ _ _ _ (w11.alloc (.cells #[.string s, .int .i64 0, .int .i64 1, .pointer (some ⟨sp, 0, none⟩), .pointer (some ⟨a3, 0, none⟩), .int .i64 0, .int .i64 0, .pointer (some ⟨a5, 0, none⟩), .pointer (some ⟨a6, 0, none⟩), .pointer (some ⟨a7, 0, none⟩), .pointer (some ⟨a8, 0, none⟩), .pointer (some ⟨a9, 0, none⟩), .pointer (some ⟨a10, 0, none⟩), .int .i64 0, .string fd, .slice none 0 0, .int .i64 0, .string { data := #[] }, .slice none 0 0, .slice none 0 0, .int .i64 0, .slice none 0 0, .bool false] 76))
  obtain ⟨x, hx⟩ : ∃ k, w11.heap.size = k := ⟨_, rfl⟩
  have HX := Sd.mk (show w2.heap.size ≤ x by rw [← hx]; exact HB11.out.size)
  generalize w11.alloc (.cells #[.string s, .int .i64 0, .int .i64 1, .pointer (some ⟨sp, 0, none⟩), .pointer (some ⟨a3, 0, none⟩), .int .i64 0, .int .i64 0, .pointer (some ⟨a5, 0, none⟩), .pointer (some ⟨a6, 0, none⟩), .pointer (some ⟨a7, 0, none⟩), .pointer (some ⟨a8, 0, none⟩), .pointer (some ⟨a9, 0, none⟩), .pointer (some ⟨a10, 0, none⟩), .int .i64 0, .string fd, .slice none 0 0, .int .i64 0, .string { data := #[] }, .slice none 0 0, .slice none 0 0, .int .i64 0, .slice none 0 0, .bool false] 76) = W12 at X12 HB12 ⊢
  rw [hx] at X12 ⊢
  clear hx
  go_upto_region 8 with (first
    | (go_at_call 31; (with_reducible refine (blocks_any _ _ g (blk_keep HS2.out.1 HB12.out)).mono ?_); rintro e w13 ⟨rfl, hb⟩; have HB13 := Sd.mk (below_then HB12.out hb); have X13 := Sd.mk (blk_keep X12.out hb); clear hb))
  go_loopg [60] 1 (fun gk v60 wr => gk = 1 ∧ v60 = .int .i64 0 ∧ wr = w13)
  case atStart => exact ⟨rfl, rfl, rfl⟩
  case round =>
    obtain ⟨rfl, rfl, rfl⟩ := hrel
    go_wp2
    go_cut [] from 87 to 102 (fun wx => ∃ tm, Sd (wx.heap[x]? = some (.cells #[.string s, .int .i64 0, .int .i64 1, .pointer (some ⟨sp, 0, none⟩), .pointer (some ⟨a3, 0, none⟩), .int .i64 0, .int .i64 0, .pointer (some ⟨a5, 0, none⟩), .pointer (some ⟨a6, 0, none⟩), .pointer (some ⟨a7, 0, none⟩), .pointer (some ⟨a8, 0, none⟩), .pointer (some ⟨tm, 0, none⟩), .pointer (some ⟨a10, 0, none⟩), .int .i64 0, .string fd, .slice none 0 0, .int .i64 0, .string { data := #[] }, .slice none 0 0, .slice none 0 0, .int .i64 0, .slice none 0 0, .bool false] 76 (0, 0))) ∧ Sd (wx.heap[tm]? = some (.cells #[.int .i64 1, .int .i64 0, .int .i64 4] 112 (0, 0))) ∧ Sd (tm ≠ x) ∧ Sd (RowKit.Below w2.heap.size w2 wx))
    case first =>
      have c5 := blk_at X13.out 5 _ rfl
      have c13 := blk_at X13.out 13 _ rfl
      go_region_with (first
        | (go_at_call 28; (refine (mnew_any _).mono ?_); rintro e w14 ⟨tm, rfl, ht, hl, hb⟩; have hb := below_then (below_drew' (Below.refl _ _)) hb; have HT := Sd.mk (And.intro ht hl); have HB14 := Sd.mk (below_then HB13.out hb); have X14 := Sd.mk (blk_keep X13.out hb); clear ht hl hb; have d11 := blk_at X14.out 11 _ rfl; have f11 := blk_frz X14.out 11))
      all_goals (
        have hne : tm ≠ x := fun e => (by have := HT.out.2; have := blk_lt' X13.out; rw [e] at *; exact absurd this (Nat.not_lt.2 (by assumption)))
        go_wp2
        go_meet
        exact ⟨tm, ⟨(blk_set3 X14.out 11 _).trans rfl⟩, ⟨(heap_set _ _ _ _ tm hne).trans HT.out.1⟩, ⟨hne⟩, ⟨HB14.out.setCell (p := ⟨x, 11, none⟩) (by simp only; exact HX.out) _⟩⟩)
    case rest =>
      obtain ⟨tm, XN, XT, HNE, HBX⟩ := hcut
      clear X12 X13 HB12
      have d21 := blk_at XN.out 21 _ rfl
      have f21 := blk_frz XN.out 21
      go_wp2
      have X8 : (wc.setCell ⟨x, 21, none⟩ (.slice none 0 0)).heap[x]? = some (.cells #[.string s, .int .i64 0, .int .i64 1, .pointer (some ⟨sp, 0, none⟩), .pointer (some ⟨a3, 0, none⟩), .int .i64 0, .int .i64 0, .pointer (some ⟨a5, 0, none⟩), .pointer (some ⟨a6, 0, none⟩), .pointer (some ⟨a7, 0, none⟩), .pointer (some ⟨a8, 0, none⟩), .pointer (some ⟨tm, 0, none⟩), .pointer (some ⟨a10, 0, none⟩), .int .i64 0, .string fd, .slice none 0 0, .int .i64 0, .string { data := #[] }, .slice none 0 0, .slice none 0 0, .int .i64 0, .slice none 0 0, .bool false] 76 (0, 0)) := (blk_set3 XN.out 21 _).trans rfl
      have XT8 : (wc.setCell ⟨x, 21, none⟩ (.slice none 0 0)).heap[tm]? = some (.cells #[.int .i64 1, .int .i64 0, .int .i64 4] 112 (0, 0)) := (heap_set _ _ _ _ tm HNE.out).trans XT.out
      have HF := HBX.out.setCell (p := ⟨x, 21, none⟩) (by simp only; exact HX.out) (.slice none 0 0)
      exact bodyPost_ret (v := .tuple #[.pointer (some ⟨x, 0, none⟩), .int .i64 0]) (by simp [results, Tryz.results8, go_sem]) rfl ⟨x, tm, rfl, blk_at X8 11 _ rfl, blk_at XT8 0 _ rfl, grown_b (Rp.grown_then (Rp.grown_below HB1.out _) HB2.out) HF⟩
/-- growing at a block that wasn't there -/
theorem below_grow {w W W1 : World} {g : Nat} (hb : RowKit.Below w.heap.size w W) (hg : W.grownBy W1 (some g)) (hn : w.heap.size ≤ g := by exact Nat.le_refl _) : RowKit.Below w.heap.size w W1 :=
  ⟨hg.os.trans hb.os, hg.tape.trans hb.tape, hg.output.trans hb.output, Nat.le_trans hb.size hg.size, fun k hk => (hg.block k (Nat.lt_of_lt_of_le hk hb.size) (fun e => by have := Option.some.inj e; omega)).trans (hb.block k hk)⟩
theorem tview_any (w : World) (tm : Nat) (h : w.cell? ⟨tm, 0, none⟩ = some (.int .i64 1)) : Calls Tryz.prog 36 #[.pointer (some ⟨tm, 0, none⟩)] w fun e w' => e = .returned (.int .i64 1) ∧ RowKit.Below w.heap.size w w' := by
  go_enter Tryz.func36, Tryz.ntmps36
  go_wp2
  go_ret
  exact ⟨rfl, Below.refl _ _⟩
theorem view_any (w : World) (x tm : Nat) (h1 : w.cell? ⟨x, 11, none⟩ = some (.pointer (some ⟨tm, 0, none⟩))) (h : w.cell? ⟨tm, 0, none⟩ = some (.int .i64 1)) : Calls Tryz.prog 10 #[.pointer (some ⟨x, 0, none⟩)] w fun e w' => e = .returned (.int .i64 1) ∧ RowKit.Below w.heap.size w w' := by
  go_enter Tryz.func10, Tryz.ntmps10
  go_wp2_with (first
    | (go_at_call 36; (with_reducible refine (tview_any _ tm h).mono ?_); rintro e w1 ⟨rfl, hb⟩; have HB := Sd.mk hb; clear hb))
  go_ret
  exact ⟨rfl, HB.out⟩
set_option maxHeartbeats 2000000 in
theorem awake_any (w : World) : Calls Tryz.prog 4 #[] w fun e w' => e = .returned (.bool true) ∧ RowKit.Below w.heap.size w w' := by
  go_enter Tryz.func4, Tryz.ntmps4
  go_upto_region 2 with (first
    | (go_at_call 9; (with_reducible refine (new_any _).mono ?_); rintro e w1 ⟨rfl, hg, hb⟩; have HB1 := Sd.mk hb; clear hb hg)
    | (go_at_call 8; (with_reducible refine (open_no _ _ _).mono ?_); rintro e w2 ⟨rfl, hb⟩; have HB2 := Sd.mk (below_then HB1.out hb); clear hb))
  go_upto_region 3 with (first
    | (go_at_call 9; (with_reducible refine (new_any _).mono ?_); rintro e w3 ⟨rfl, hg, hb⟩; have HG3 := Sd.mk hg; have HB3 := Sd.mk hb; clear hb hg)
    | (go_at_call 8; (with_reducible refine (node_any _ _ _ HG3.out).mono ?_); rintro e w4 ⟨x, tm, rfl, h1, h2, hgr⟩; have HB4 := Sd.mk (below_then HB2.out (below_grow HB3.out hgr)); clear hgr))
  go_wp2_with (first
    | (go_at_call 10; (with_reducible refine (view_any _ x tm h1 h2).mono ?_); rintro e w5 ⟨rfl, hb⟩; have HB5 := Sd.mk (below_then HB4.out hb); clear hb))
  go_ret
  exact ⟨rfl, HB5.out⟩
end Go.Proofs.YtnomgkmeomlccaaGreat.Opn

/- CertFirst: walked. -/
import Derived.Test.YtdmdfpbklflijaaCop
set_option linter.unusedVariables false
set_option linter.unusedSimpArgs false
namespace Go.Proofs.Ytdmdfpbklflijaa.Crt
open Go.RowKit Go.Sort Rd Api Own Mv App Num Dig Mac Rp

def SEED : ByteArray := { data := #[115, 101, 101, 100] }
theorem sl_one {W : World} {g : Nat} {x : Sg.Sig} {A : Option Addr} {n c : Nat} (h : W.heap[g]? = some (.cells #[.int .i64 x.node, .slice A n c] 39 (0, 0))) (hn : n = x.tags.length) (hs : Sl Rk.str W A c x.tags) : Sl sgK W (some ⟨g, 0, none⟩) 1 [x] := by
  subst hn
  refine ⟨Nat.le_refl _, by omega, fun i y hy => ?_⟩
  match i, hy with
  | 0, hy =>
    simp only [List.getElem?_cons_zero, Option.some.injEq] at hy
    subst hy
    refine ⟨g, 0, [.int .i64 x.node, .slice A x.tags.length c], rfl, ⟨[.int .i64 x.node], [.slice A x.tags.length c], rfl, rfl, [.slice A x.tags.length c], [], rfl, sl_to hs, rfl⟩, fun j v hv => ?_⟩
    have := blk_at h j v (by simpa using hv)
    simpa using this
  | i + 1, hy => simp at hy
theorem new4 (w : World) (a b c d : Obj) : ((((w.alloc a).alloc b).alloc c).alloc d).heap[w.heap.size]? = some a ∧ ((((w.alloc a).alloc b).alloc c).alloc d).heap[w.heap.size + 1]? = some b ∧ ((((w.alloc a).alloc b).alloc c).alloc d).heap[w.heap.size + 1 + 1]? = some c ∧ ((((w.alloc a).alloc b).alloc c).alloc d).heap[w.heap.size + 1 + 1 + 1]? = some d ∧ RowKit.Below w.heap.size w ((((w.alloc a).alloc b).alloc c).alloc d) := by
  have b1 := below_one w a
  have b2 := below_one (w.alloc a) b
  have b3 := below_one ((w.alloc a).alloc b) c
  have b4 := below_one (((w.alloc a).alloc b).alloc c) d
  refine ⟨blk_keep (blk_keep (blk_keep (blk_new w a) b2) b3) b4, blk_keep (blk_keep (blk_new1 w a b) b3) b4, blk_keep (blk_new2 w a b c) b4, ?_, below_then (below_then (below_then b1 b2) b3) b4⟩
  have := blk_new (((w.alloc a).alloc b).alloc c) d
  simpa using this
set_option maxHeartbeats 1000000 in
theorem hold0 (w : World) (tn n : Int) (c : Cert) (A : Option Addr) (k : Nat) (h : Sl sgK w A k c.sigs) (m : Nat) (hm : m = c.sigs.length) (hf : certFew c) (hv : c.view = 0) (r : Bool) (hr : r = true ↔ c.block = FB ∧ c.sigs = []) :
    Calls Try.prog 16 #[.string { data := #[115, 101, 101, 100] }, .int .i64 tn, .int .i64 n, .agg #[.int .i64 0, .string c.block, .slice A m k]] w fun e w' => e = .returned (.bool r) ∧ RowKit.Below w.heap.size w w' := by
  have := holds_0 w SEED tn n c A k h m hm (certB_few hf) hv r (hr.trans ⟨fun h => ⟨by obtain ⟨v, b, s⟩ := c; simp only at hv h; obtain ⟨rfl, rfl⟩ := h; subst hv; exact first_right, h⟩, fun h => h.2⟩)
  rw [hv] at this
  exact this
set_option maxHeartbeats 8000000 in
set_option maxRecDepth 100000 in
theorem certfirst_law (w : World) (s : Sg.Sig) (A : Option Addr) (c : Nat) (hs0 : Sl Rk.str w A c s.tags) (m : Nat) (hm : m = s.tags.length) (b : ByteArray) (a0 a1 : Nat) (ha0 : a0 < 256) (ha1 : a1 < 256) :
    Calls Try.prog 5 #[.agg #[.int .i64 s.node, .slice A m c], .string b, .agg #[.int .u8 (a0 : Nat), .int .u8 (a1 : Nat)]] w fun e w' => e = .returned (.bool true) ∧ RowKit.Below w.heap.size w w' := by
  have mixed : Try.prog.follows .mixedOrders = true := by kernel_rfl
  have hb0 := below_one w (.cells #[.int .i64 s.node, .slice A m c] 39)
  have hb1 := below_one (w.alloc (.cells #[.int .i64 s.node, .slice A m c] 39)) (.cells #[.int .u8 (a0 : Nat), .int .u8 (a1 : Nat)] 40)
  have HB := Sd.mk (below_then hb0 hb1)
  have HS := Sd.mk ((hs0.below hb0).below hb1)
  have X0 := Sd.mk (blk_keep (blk_new w (.cells #[.int .i64 s.node, .slice A m c] 39)) hb1)
  have Y0 := Sd.mk (blk_new1 w (.cells #[.int .i64 s.node, .slice A m c] 39) (.cells #[.int .u8 (a0 : Nat), .int .u8 (a1 : Nat)] 40))
  have mk := Nat.le_trans hs0.le hs0.cap
  rw [← hm] at mk
  have HM := Sd.mk hm
  have HFS := Sd.mk (fun W (h : Sl Rk.str W A c s.tags) => show Calls Try.prog 20 #[.agg #[.int .i64 s.node, .slice A m c]] W (Sg.Tells (Sg.sigFew s) W) from by have := Sg.sig_any W s A c h; rwa [← hm] at this)
  clear hs0 hm hb0 hb1
  obtain ⟨b50, hb50⟩ : ∃ r, decide ((50 : Int) < (b.size : Int)) = r := ⟨_, rfl⟩
  have H50 := Sd.mk (show b50 = false → b.size ≤ 50 from fun h => by rw [h] at hb50; have := of_decide_eq_false hb50; omega)
  obtain ⟨d, hd⟩ : ∃ d, FB = d := ⟨_, rfl⟩
  have HD := Sd.mk hd
  have HD32 := Sd.mk (show d.size = 32 by rw [← hd]; exact FB_size)
  clear hd
  obtain ⟨r0, hr0⟩ : ∃ z, z = a0 % 7 := ⟨_, rfl⟩
  have p0 : ((a0 : Int)).tmod 7 = (r0 : Int) := by rw [Int.tmod_eq_emod_of_nonneg (by omega)]; omega
  have p0b : ((a0 : Int)) % 7 = (r0 : Int) := by omega
  have r7 : r0 < 7 := by omega
  obtain ⟨n, hn⟩ : ∃ n, n = 1 + r0 := ⟨_, rfl⟩
  have p1 : (1 : Int) + (r0 : Int) = (n : Int) := by omega
  have n1 : 1 ≤ n := by omega
  have n7 : n ≤ 7 := by omega
  obtain ⟨tn, htn⟩ : ∃ z, z = a1 % n := ⟨_, rfl⟩
  have p5 : ((a1 : Int)).tmod (n : Int) = (tn : Int) := by rw [Int.tmod_eq_emod_of_nonneg (by omega), htn]; rfl
  have hn0 : ((n : Int) == 0) = false := beq_eq_false_iff_ne.2 (by omega)
  have hn0b : ¬ (n : Int) = 0 := by omega
  have hn0c : ¬ n = 0 := by omega
  clear hr0 hn htn
  go_enter Try.func5, Try.ntmps5
  go_upto_region 2 with (fail)
  generalize hB5 : w.heap.size + 1 = B5 at Y0 ⊢
  generalize hB3 : w.heap.size = B3 at X0 ⊢
  generalize (w.alloc _).alloc _ = W1 at X0 Y0 HB HS ⊢
  have c0 := blk_at X0.out 0 _ rfl
  have c1 := blk_at X0.out 1 _ rfl
  cases b50 with
  | true =>
    go_wp2_with (first
      | (go_at_call 12; (with_reducible refine (awake_any _).mono ?_); rintro e w2 ⟨rfl, hb⟩; (first | (have HB4 := Sd.mk (below_then HB3.out hb)) | (have HB2 := Sd.mk (below_then HB.out hb); have X2 := Sd.mk (blk_keep X0.out hb); have HS2 := Sd.mk (HS.out.below hb); have c0 := blk_at X2.out 0 _ rfl; have c1 := blk_at X2.out 1 _ rfl)); clear hb)
      | (go_at_call 20; (with_reducible refine (HFS.out _ HS2.out).mono ?_); rintro e w3 ⟨r, rfl, ht, hb⟩; have HB3 := Sd.mk (below_then HB2.out hb); clear ht hb; cases r))
    all_goals
      go_ret
      exact ⟨rfl, HB4.out⟩
  | false =>
    go_wp2_with (first
      | (go_at_call 12; (with_reducible refine (awake_any _).mono ?_); rintro e w2 ⟨rfl, hb⟩; (first | (have HB4 := Sd.mk (below_then HB3.out hb)) | (have HB2 := Sd.mk (below_then HB.out hb); have X2 := Sd.mk (blk_keep X0.out hb); have Y2 := Sd.mk (blk_keep Y0.out hb); have HS2 := Sd.mk (HS.out.below hb); have c0 := blk_at X2.out 0 _ rfl; have c1 := blk_at X2.out 1 _ rfl)); clear hb)
      | (go_at_call 20; (with_reducible refine (HFS.out _ HS2.out).mono ?_); rintro e w3 ⟨r, rfl, ht, hb⟩; have HB3 := Sd.mk (below_then HB2.out hb); have X3 := Sd.mk (blk_keep X2.out hb); have Y3 := Sd.mk (blk_keep Y2.out hb); have HS3 := Sd.mk (HS2.out.below hb); have HTR := Sd.mk ht; have u0 := blk_at Y3.out 0 _ rfl; have u1 := blk_at Y3.out 1 _ rfl; clear ht hb; cases r)
      | (go_at_call 21; (with_reducible refine (first_any _ d HD.out).mono ?_); rintro e w4 ⟨rfl, hb⟩; have HB5 := Sd.mk (below_then HB3.out hb); have X4 := Sd.mk (blk_keep X3.out hb); have HS4 := Sd.mk (HS3.out.below hb); have c0 := blk_at X4.out 0 _ rfl; have c1 := blk_at X4.out 1 _ rfl; have c0a : ∀ o, (w4.alloc o).cell? ⟨B3, 0, none⟩ = some (.int .i64 s.node) := (fun o => cell_below (below_one w4 o) c0); have c1a : ∀ o, (w4.alloc o).cell? ⟨B3, 1, none⟩ = some (.slice A m c) := (fun o => cell_below (below_one w4 o) c1); clear hb u0 u1))
    · go_ret
      exact ⟨rfl, HB4.out⟩
    obtain ⟨z1, z2, z3, z4, hb4⟩ := new4 w4 (.cells #[.int .i64 0, .string d, .slice none 0 0] 24) (.cells #[.int .i64 s.node, .slice A m c] 39) (.cells #[.int .i64 0, .string d, .slice (some ⟨w4.heap.size + 1, 0, none⟩) 1 1] 24) (.cells #[.int .i64 0, .string b, .slice none 0 0] 24)
    have Z1 := Sd.mk z1
    have Z2 := Sd.mk z2
    have Z3 := Sd.mk z3
    have Z4 := Sd.mk z4
    have HB6 := Sd.mk (below_then HB5.out hb4)
    have HS6 := Sd.mk (HS4.out.below hb4)
    clear z1 z2 z3 z4 hb4 c0 c1 c0a c1a X2 X3 X4 Y2 Y3 HB5 HB3 HB2 HB HS HS2 HS3 HS4 X0 Y0 HFS
    generalize World.alloc _ _ = W6 at Z1 Z2 Z3 Z4 HB6 HS6 ⊢
    generalize w4.heap.size + 1 + 1 + 1 = q4 at Z4 ⊢
    generalize w4.heap.size + 1 + 1 = q3 at Z3 ⊢
    generalize w4.heap.size + 1 = q2 at Z2 Z3 ⊢
    generalize w4.heap.size = q1 at Z1 ⊢
    have i0 := fun d os => cell_regrown (blk_at Z1.out 0 _ rfl) d os
    have i1 := fun d os => cell_regrown (blk_at Z1.out 1 _ rfl) d os
    have i2 := fun d os => cell_regrown (blk_at Z1.out 2 _ rfl) d os
    have j0 := fun d os => cell_regrown (blk_at Z3.out 0 _ rfl) d os
    have j1 := fun d os => cell_regrown (blk_at Z3.out 1 _ rfl) d os
    have j2 := fun d os => cell_regrown (blk_at Z3.out 2 _ rfl) d os
    have k0 := fun d os => cell_regrown (blk_at Z4.out 0 _ rfl) d os
    have k1 := fun d os => cell_regrown (blk_at Z4.out 1 _ rfl) d os
    have k2 := fun d os => cell_regrown (blk_at Z4.out 2 _ rfl) d os
    have HF := Sd.mk (HTR.out trivial)
    have hb50' := H50.out trivial
    obtain ⟨t7, ht7⟩ : ∃ t, vtxt 7 b = t := ⟨_, rfl⟩
    have HT7 := Sd.mk ht7
    obtain ⟨rb, hrb⟩ : ∃ r, (b.toList == d.toList) = r := ⟨_, rfl⟩
    have HC1 := Sd.mk (fun W => hold0 W (tn : Nat) (n : Nat) ⟨0, d, []⟩ none 0 (sgk_nil W) 0 rfl ⟨by simp, by show d.size ≤ 50; rw [HD32.out]; omega, fun s hs => by simp at hs⟩ rfl true ⟨fun _ => ⟨HD.out.symm, rfl⟩, fun _ => rfl⟩)
    have HC2 := Sd.mk (fun W (hW : RowKit.Below W6.heap.size W6 W) => hold0 W (tn : Nat) (n : Nat) ⟨0, d, [s]⟩ _ 1 (sl_one (blk_keep Z2.out hW) HM.out (HS6.out.below hW)) 1 rfl ⟨by simp, by show d.size ≤ 50; rw [HD32.out]; omega, fun x hx => by rw [List.mem_singleton] at hx; rw [hx]; exact HF.out⟩ rfl false ⟨fun h => (by cases h), fun h => (by cases h.2)⟩)
    have HC3 := Sd.mk (fun W => hold0 W (tn : Nat) (n : Nat) ⟨0, b, []⟩ none 0 (sgk_nil W) 0 rfl ⟨by simp, hb50', fun s hs => by simp at hs⟩ rfl rb (by rw [← hrb, str_beq, decide_eq_true_eq, HD.out]; simp))
    clear ht7
    refine wp_region_quiet_below (by assumption) (by kernel_rfl) ?_
    repeat (go_big_quiet_step ((first
      | (go_at_call 22; refine Calls.regrown_of (reffirst_any _ d HD.out))
      | (go_at_call 16; with_reducible refine Calls.regrown_of (HC1.out _))
      | (go_at_call 16; with_reducible refine Calls.regrown_of (HC2.out _ (below_regrown _ _ _)))
      | (go_at_call 16; with_reducible refine Calls.regrown_of (HC3.out _))
      | (go_at_call 23; refine Calls.regrown_of (text_any _ 7 b (by omega) t7 HT7.out))
      | (go_at_call 24; refine Calls.regrown_of (reftext_any _ 7 b (by omega) t7 HT7.out)))))
    refine wpQuiet_nil ?_
    rintro W9 ⟨⟨nq, osq⟩, rfl⟩
    have HB9 := Sd.mk (below_then HB6.out (below_regrown W6 nq osq))
    go_wp2
    go_ret
    exact ⟨by simp, by have h := HB9.out; rwa [hB3] at h⟩
theorem cf_row (w : World) (s : Sg.Sig) (cs : Array Value) (hc : Sg.sigK.K w s cs.toList) (b : ByteArray) (hb : b.size ≤ 140737488351232) (l : List Int) (ds : Array Value) (h : (Rk.arr (Rk.int .u8) 2).K w l ds.toList) :
    Calls Try.prog 5 #[.agg cs, .string b, .agg ds] w fun e w' => e = .returned (.bool true) ∧ RowKit.Below w.heap.size w w' := by
  obtain ⟨x, r, c0, c1, -, e1, ⟨rfl, w0⟩, y, r2, c2, c3, -, rfl, ⟨rfl, w1⟩, -, rfl⟩ := h
  obtain ⟨A, c, e2, -, hsl⟩ := Sg.sig_open hc
  obtain rfl := Api.arr_of e1
  obtain rfl := Api.arr_of e2
  have f : ∀ x : Int, (Lit.int .u8 x).wf = true → 0 ≤ x ∧ x ≤ 255 := fun x hx => by simpa [Lit.wf, IntKind.min, IntKind.max, IntKind.bits, IntKind.signed] using hx
  obtain ⟨x', rfl⟩ : ∃ m' : Nat, x = (m' : Int) := ⟨x.toNat, by have := f x w0; omega⟩
  obtain ⟨y', rfl⟩ : ∃ m' : Nat, y = (m' : Int) := ⟨y.toNat, by have := f y w1; omega⟩
  exact certfirst_law w s A c hsl _ rfl b x' y' (by have := f _ w0; omega) (by have := f _ w1; omega)
end Go.Proofs.Ytdmdfpbklflijaa.Crt

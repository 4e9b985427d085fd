/- A block that can't be: it is told that it isn't well; the law's awake: walked. -/
import Derived.Test.YtnomgkmeomlccaaBlkA
set_option linter.unusedVariables false
set_option linter.unusedSimpArgs false
namespace Go.Proofs.Ytnomgkmeomlccaa.Blk
open Go.RowKit Go.Sort Rd Api Own Mv App Num Dig

def fin6 (Br : Nat) (W : World) (a b c d e f : Value) : World := (((((W.setCell ⟨Br, 0, none⟩ a).setCell ⟨Br, 1, none⟩ b).setCell ⟨Br, 2, none⟩ c).setCell ⟨Br, 3, none⟩ d).setCell ⟨Br, 4, none⟩ e).setCell ⟨Br, 5, none⟩ f
theorem fin6_blk {Br : Nat} {W : World} {x0 x1 x2 x3 x4 x5 : Value} {t : TypeId} (h : W.heap[Br]? = some (.cells #[x0, x1, x2, x3, x4, x5] t (0, 0))) (a b c d e f : Value) : (fin6 Br W a b c d e f).heap[Br]? = some (.cells #[a, b, c, d, e, f] t (0, 0)) :=
  (blk_set3 (blk_set3 (blk_set3 (blk_set3 (blk_set3 (blk_set3 h 0 _) 1 _) 2 _) 3 _) 4 _) 5 _).trans rfl
theorem fin6_cells {Br : Nat} {W : World} {x0 x1 x2 x3 x4 x5 : Value} {t : TypeId} (h : W.heap[Br]? = some (.cells #[x0, x1, x2, x3, x4, x5] t (0, 0))) (a b c d e f : Value) :
    (fin6 Br W a b c d e f).cell? ⟨Br, 0, none⟩ = some a ∧ (fin6 Br W a b c d e f).cell? ⟨Br, 1, none⟩ = some b ∧ (fin6 Br W a b c d e f).cell? ⟨Br, 2, none⟩ = some c ∧ (fin6 Br W a b c d e f).cell? ⟨Br, 3, none⟩ = some d ∧ (fin6 Br W a b c d e f).cell? ⟨Br, 4, none⟩ = some e ∧ (fin6 Br W a b c d e f).cell? ⟨Br, 5, none⟩ = some f := by
  have k := fin6_blk h a b c d e f
  exact ⟨blk_at k 0 _ rfl, blk_at k 1 _ rfl, blk_at k 2 _ rfl, blk_at k 3 _ rfl, blk_at k 4 _ rfl, blk_at k 5 _ rfl⟩
theorem fin6_grown (Br : Nat) (W : World) (a b c d e f : Value) : W.grownBy (fin6 Br W a b c d e f) (some Br) :=
  Rp.grown_then (Rp.grown_set W Br 0 a) (Rp.grown_then (Rp.grown_set _ Br 1 b) (Rp.grown_then (Rp.grown_set _ Br 2 c) (Rp.grown_then (Rp.grown_set _ Br 3 d) (Rp.grown_then (Rp.grown_set _ Br 4 e) (Rp.grown_set _ Br 5 f)))))
theorem num_out (m lo hi : Int) (r : ByteArray) (h0 : 0 ≤ m) (h1 : m ≤ 2147483647) (h2 : ¬ (lo ≤ m ∧ m ≤ hi)) : Rp.numF lo hi ⟨num4 m ++ r, false⟩ = (0, ⟨r, true⟩) := by
  have hc : Rp.cutF 4 ⟨num4 m ++ r, false⟩ = (num4 m, ⟨r, false⟩) := Rp.cut_app _ _ _ rfl
  have hv : Rp.valF ⟨num4 m ++ r, false⟩ = m := by unfold Rp.valF; rw [hc]; exact Rp.num_val m h0 h1
  rw [Rp.num_no (by simp [Rp.numB, hc, hv]; omega), hc]
theorem num_bad (lo hi : Int) (b : ByteArray) : Rp.numF lo hi ⟨b, true⟩ = (0, ⟨b, true⟩) := rfl
theorem cert_bad (b : ByteArray) : Rp.certF ⟨b, true⟩ = (⟨0, Rp.ET, []⟩, ⟨b, true⟩) := rfl
set_option maxHeartbeats 8000000 in
set_option maxRecDepth 100000 in
theorem rdblk_bad {g : Nat} {s : Rp.RS} {W : World} (h : Rp.Rb g s W) (hz : s.b.size ≤ 9223372036854775807) (b : ByteArray) (hb : Rp.numF 1 1000000 s = (0, ⟨b, true⟩)) :
    Calls Try.prog 132 #[.pointer (some ⟨g, 0, none⟩)] W fun e w' => ∃ A c, e = .returned (.agg #[.int .i64 0, .int .i64 0, .int .i64 0, .string Rp.ET, .slice A 0 c, .slice none 0 0]) ∧ Rp.Gd g W ⟨b, true⟩ w' := by
  have hbz : b.size ≤ 9223372036854775807 := by have := Rp.num_le 1 1000000 s; rw [hb] at this; simp only at this; omega
  have b0 := below_one W (.cells #[.int .i64 0, .int .i64 0, .int .i64 0, .string { data := #[] }, .slice none 0 0, .slice none 0 0] 42)
  have HG0 := Sd.mk (⟨h.below b0, Rp.grown_below b0 (some g)⟩ : Rp.Gd g W s (W.alloc (.cells #[.int .i64 0, .int .i64 0, .int .i64 0, .string { data := #[] }, .slice none 0 0, .slice none 0 0] 42)))
  have X0 := Sd.mk (blk_new W (.cells #[.int .i64 0, .int .i64 0, .int .i64 0, .string { data := #[] }, .slice none 0 0, .slice none 0 0] 42))
  have HLT := Sd.mk (show g < W.heap.size from blk_lt' h)
  have HSZ := Sd.mk (show W.heap.size + 1 ≤ (W.alloc (.cells #[.int .i64 0, .int .i64 0, .int .i64 0, .string { data := #[] }, .slice none 0 0, .slice none 0 0] 42)).heap.size by simp)
  have HN1 := Sd.mk (Rp.number_any (h.below b0) 1 1000000 hz 0 _ hb)
  have HN2 := Sd.mk (fun W1 (h1 : Rp.Rb g ⟨b, true⟩ W1) => Rp.number_any h1 0 6 hbz 0 _ (num_bad 0 6 b))
  have HN3 := Sd.mk (fun W1 (h1 : Rp.Rb g ⟨b, true⟩ W1) => Rp.number_any h1 0 3 hbz 0 _ (num_bad 0 3 b))
  have HCE := Sd.mk (fun W1 (h1 : Rp.Rb g ⟨b, true⟩ W1) => Rp.cert_any h1 hbz _ _ (cert_bad b))
  have HCK := Sd.mk (fun W1 (h1 : Rp.Rb g ⟨b, true⟩ W1) => Rp.check_any h1 false ⟨b, true⟩ rfl)
  clear h hz hb b0 hbz
  go_enter Try.func132, Try.ntmps132
  go_upto_region 1 with (fail)
  generalize hBr : W.heap.size = Br at X0 HLT HSZ ⊢
  generalize W.alloc _ = W1 at X0 HG0 HN1 HSZ ⊢
  go_upto_region 2 with (first
    | (go_at_call 150; (with_reducible refine HN1.out.mono ?_); rintro e w1 ⟨rfl, hg⟩; have HG1 := Sd.mk (HG0.out.then hg); have X1 := Sd.mk (blk_grown X0.out hg.gr (fun e => by have := Option.some.inj e; have := HLT.out; omega)); clear hg)
    | (go_at_call 150; (with_reducible refine (HN2.out _ HG1.out.rb).mono ?_); rintro e w2 ⟨rfl, hg⟩; have HG2 := Sd.mk (HG1.out.then hg); have X2 := Sd.mk (blk_grown X1.out hg.gr (fun e => by have := Option.some.inj e; have := HLT.out; omega)); clear hg)
    | (go_at_call 151; (with_reducible refine (HCE.out _ HG2.out.rb).mono ?_); rintro e w3 ⟨A, c, rfl, -, hg⟩; have hb3 := below_one w3 (.cells #[.int .i64 0, .int .i64 0, .int .i64 0, .string Rp.ET, .slice A 0 c, .slice none 0 0] 42); have HG3 := Sd.mk ((HG2.out.then hg).bel hb3); have X3 := Sd.mk (blk_keep (blk_grown X2.out hg.gr (fun e => by have := Option.some.inj e; have := HLT.out; omega)) hb3); have X5 := Sd.mk (blk_new w3 (.cells #[.int .i64 0, .int .i64 0, .int .i64 0, .string Rp.ET, .slice A 0 c, .slice none 0 0] 42)); have HNE := Sd.mk (show g ≠ w3.heap.size by have h1 := (HG2.out.then hg).gr.size; have := HLT.out; have := hBr; omega); clear hg hb3))
  generalize w3.heap.size = Bc at X5 HNE ⊢
  generalize w3.alloc _ = W3 at X3 X5 HG3 ⊢
  clear HN1 HN2 HCE HG0 HG1 HG2 X0 X1 X2 HSZ
  have p0 := blk_at X5.out 0 _ rfl
  have p2 := blk_at X5.out 2 _ rfl
  go_upto_region 4 with (first
    | (go_at_call 152; (with_reducible refine (HCK.out _ HG3.out.rb).mono ?_); rintro e w4 ⟨rfl, hg⟩; have HG4 := Sd.mk (HG3.out.then hg); have X4 := Sd.mk (blk_grown X3.out hg.gr (fun e => by have := Option.some.inj e; have := HLT.out; omega)); have X54 := Sd.mk (blk_grown X5.out hg.gr (fun e => HNE.out (Option.some.inj e))); clear hg)
    | (go_at_call 150; (with_reducible refine (HN3.out _ HG4.out.rb).mono ?_); rintro e w5 ⟨rfl, hg⟩; have HG5 := Sd.mk (HG4.out.then hg); have X3a := Sd.mk (blk_grown X4.out hg.gr (fun e => by have := Option.some.inj e; have := HLT.out; omega)); have X5a := Sd.mk (blk_grown X54.out hg.gr (fun e => HNE.out (Option.some.inj e))); clear hg))
  clear p0 p2 X3 X5 X4 X54 HG3 HG4 HCK HN3
  go_loopg [21] 0 (fun gk v21 wr => gk = 0 ∧ v21 = .int .i64 0 ∧ Sd (wr = w5))
  case atStart => exact ⟨rfl, rfl, ⟨rfl⟩⟩
  case round =>
    obtain ⟨rfl, rfl, HE⟩ := hrel
    obtain rfl := HE.out
    have p0 := blk_at X5a.out 0 _ rfl
    have p1 := blk_at X5a.out 1 _ rfl
    have p2 := blk_at X5a.out 2 _ rfl
    have p3 := blk_at X5a.out 3 _ rfl
    have p4 := blk_at X5a.out 4 _ rfl
    have p5 := blk_at X5a.out 5 _ rfl
    have r0 := blk_at X3a.out 0 _ rfl
    have r1 := blk_at X3a.out 1 _ rfl
    have r2 := blk_at X3a.out 2 _ rfl
    have r3 := blk_at X3a.out 3 _ rfl
    have r4 := blk_at X3a.out 4 _ rfl
    have r5 := blk_at X3a.out 5 _ rfl
    have f0 := blk_frz X3a.out 0
    have f1 := blk_frz X3a.out 1
    have f2 := blk_frz X3a.out 2
    have f3 := blk_frz X3a.out 3
    have f4 := blk_frz X3a.out 4
    have f5 := blk_frz X3a.out 5
    go_wp2
    obtain ⟨y0, y1, y2, y3, y4, y5⟩ := fin6_cells X3a.out (.int .i64 0) (.int .i64 0) (.int .i64 0) (.string Rp.ET) (.slice A 0 c) (.slice none 0 0)
    have HF := Sd.mk (show Rp.Gd g W ⟨b, true⟩ (fin6 Br wr (.int .i64 0) (.int .i64 0) (.int .i64 0) (.string Rp.ET) (.slice A 0 c) (.slice none 0 0)) from
      ⟨blk_grown HG5.out.rb (fin6_grown Br wr _ _ _ _ _ _) (fun e => by have := Option.some.inj e; have := HLT.out; omega), Rp.grown_new HG5.out.gr (fin6_grown Br wr _ _ _ _ _ _) (by omega)⟩)
    clear p0 p1 p2 p3 p4 p5 r0 r1 r2 r3 r4 r5 f0 f1 f2 f3 f4 f5
    change bodyPost _ _ _ _ _ (fin6 Br wr (.int .i64 0) (.int .i64 0) (.int .i64 0) (.string Rp.ET) (.slice A 0 c) (.slice none 0 0))
    generalize fin6 Br wr _ _ _ _ _ _ = W9 at y0 y1 y2 y3 y4 y5 HF ⊢
    exact bodyPost_ret (v := .agg #[.int .i64 0, .int .i64 0, .int .i64 0, .string Rp.ET, .slice A 0 c, .slice none 0 0]) (by simp [results, Try.results132, go_sem, y0, y1, y2, y3, y4, y5]) rfl ⟨⟨A, c, rfl⟩, HF.out⟩
set_option maxHeartbeats 8000000 in
set_option maxRecDepth 100000 in
theorem read_bad (w : World) (t : ByteArray) (hz : t.size ≤ 9223372036854775807) (b : ByteArray) (hb : Rp.numF 1 1000000 ⟨t, false⟩ = (0, ⟨b, true⟩)) :
    Calls Try.prog 103 #[.string t] w fun e w' => e = .returned (.tuple #[.agg #[.int .i64 0, .int .i64 0, .int .i64 0, .string { data := #[] }, .slice none 0 0, .slice none 0 0], .int .i64 2]) ∧ RowKit.Below w.heap.size w w' := by
  have b0 := below_one w (.cells #[.int .i64 0, .int .i64 0, .int .i64 0, .string { data := #[] }, .slice none 0 0, .slice none 0 0] 42)
  have HR := Sd.mk (show Rp.Rb (w.heap.size + 1) ⟨t, false⟩ ((w.alloc (.cells #[.int .i64 0, .int .i64 0, .int .i64 0, .string { data := #[] }, .slice none 0 0, .slice none 0 0] 42)).alloc (.cells #[.string t, .bool false] 184)) from blk_new1 _ _ _)
  have HC := Sd.mk (rdblk_bad HR.out hz b hb)
  have HB := Sd.mk (below_then b0 (below_one (w.alloc (.cells #[.int .i64 0, .int .i64 0, .int .i64 0, .string { data := #[] }, .slice none 0 0, .slice none 0 0] 42)) (.cells #[.string t, .bool false] 184)))
  have HX := Sd.mk (show ((w.alloc (.cells #[.int .i64 0, .int .i64 0, .int .i64 0, .string { data := #[] }, .slice none 0 0, .slice none 0 0] 42)).alloc (.cells #[.string t, .bool false] 184)).heap[w.heap.size]? = some (.cells #[.int .i64 0, .int .i64 0, .int .i64 0, .string { data := #[] }, .slice none 0 0, .slice none 0 0] 42 (0, 0)) from blk_keep (blk_new w _) (below_one _ _))
  have HSZ := Sd.mk (show ((w.alloc (.cells #[.int .i64 0, .int .i64 0, .int .i64 0, .string { data := #[] }, .slice none 0 0, .slice none 0 0] 42)).alloc (.cells #[.string t, .bool false] 184)).heap.size = w.heap.size + 1 + 1 by simp)
  clear hb hz b0
  go_enter Try.func103, Try.ntmps103
  go_upto_region 2 with (fail)
  generalize hk1 : w.heap.size + 1 = g at HR HC HSZ ⊢
  generalize hk0 : w.heap.size = Br at HB HX ⊢
  generalize (w.alloc _).alloc _ = W1 at HR HC HB HX HSZ ⊢
  go_upto_region 3 with (first
    | (go_at_call 132; (with_reducible refine HC.out.mono ?_); rintro e w2 ⟨A, c, rfl, hg⟩; have hb3 := below_one w2 (.cells #[.int .i64 0, .int .i64 0, .int .i64 0, .string Rp.ET, .slice A 0 c, .slice none 0 0] 42); have HR2 := Sd.mk (hg.rb.below hb3); have HX2 := Sd.mk (blk_keep (blk_grown HX.out hg.gr (fun e => by have := Option.some.inj e; omega)) hb3); have HB2 := Sd.mk (below_then' (B := Br) (below_grown HB.out hg.gr (by rw [HSZ.out]; omega) (fun k e => by have := Option.some.inj e; omega)) (by have := hg.gr.size; rw [HSZ.out] at this; omega) hb3); clear hg hb3))
  generalize w2.alloc _ = W2 at HR2 HX2 HB2 ⊢
  clear HC HR HB HX
  have r0 := blk_at HX2.out 0 _ rfl
  have r1 := blk_at HX2.out 1 _ rfl
  have r2 := blk_at HX2.out 2 _ rfl
  have r3 := blk_at HX2.out 3 _ rfl
  have r4 := blk_at HX2.out 4 _ rfl
  have r5 := blk_at HX2.out 5 _ rfl
  have f0 := blk_frz HX2.out 0
  have f1 := blk_frz HX2.out 1
  have f2 := blk_frz HX2.out 2
  have f3 := blk_frz HX2.out 3
  have f4 := blk_frz HX2.out 4
  have f5 := blk_frz HX2.out 5
  have HDN := Sd.mk (Rp.done_any HR2.out false rfl)
  go_wp2_with (first
    | (go_at_call 133; (with_reducible refine HDN.out.mono ?_); rintro e w3 ⟨rfl, rfl⟩))
  obtain ⟨y0, y1, y2, y3, y4, y5⟩ := fin6_cells HX2.out (.int .i64 0) (.int .i64 0) (.int .i64 0) (.string { data := #[] }) (.slice none 0 0) (.slice none 0 0)
  have HF := Sd.mk (below_grown HB2.out (fin6_grown Br w3 (.int .i64 0) (.int .i64 0) (.int .i64 0) (.string { data := #[] }) (.slice none 0 0) (.slice none 0 0)) (by have := HB2.out.size; have := blk_lt' HX2.out; omega) (fun k e => by obtain rfl := Option.some.inj e; exact Nat.le_refl _))
  clear r0 r1 r2 r3 r4 r5 f0 f1 f2 f3 f4 f5
  change bodyPost _ _ _ _ _ (fin6 Br w3 (.int .i64 0) (.int .i64 0) (.int .i64 0) (.string { data := #[] }) (.slice none 0 0) (.slice none 0 0))
  generalize fin6 Br w3 _ _ _ _ _ _ = W9 at y0 y1 y2 y3 y4 y5 HF ⊢
  exact bodyPost_ret (v := .tuple #[.agg #[.int .i64 0, .int .i64 0, .int .i64 0, .string { data := #[] }, .slice none 0 0, .slice none 0 0], .int .i64 2]) (by simp [results, Try.results103, go_sem, y0, y1, y2, y3, y4, y5]) rfl ⟨rfl, by have h := HF.out; first | exact h | rwa [← hk0] at h⟩
set_option maxHeartbeats 8000000 in
set_option maxRecDepth 100000 in
theorem wblk_any (w : World) (x : Block) (A : Option Addr) (n c : Nat) (B : Option Addr) (m d : Nat) (hg : Sl Rp.sgK w A c x.just.sigs) (hn : n = x.just.sigs.length) (hs : Sl rqN w B d x.batch) (hm : m = x.batch.length) (t : ByteArray) (ht : blkB x = t) (hz : t.size ≤ 35184372088832) :
    Calls Try.prog 104 #[.agg #[.int .i64 x.view, .int .i64 x.prop, .int .i64 x.just.view, .string x.just.block, .slice A n c, .slice B m d]] w fun e w' => e = .returned (.string t) ∧ RowKit.Below w.heap.size w w' := by
  have mixed : Try.prog.follows .mixedOrders = true := by kernel_rfl
  obtain ⟨n1, hn1⟩ : ∃ z, num4 x.view = z := ⟨_, rfl⟩
  obtain ⟨n2, hn2⟩ : ∃ z, num4 x.prop = z := ⟨_, rfl⟩
  obtain ⟨cb, hcb⟩ : ∃ z, Rp.certB x.just = z := ⟨_, rfl⟩
  obtain ⟨bt, hbt⟩ : ∃ z, batchB x.batch = z := ⟨_, rfl⟩
  have ht2 : n1 ++ n2 ++ cb ++ bt = t := by rw [← ht, ← hn1, ← hn2, ← hcb, ← hbt]; rfl
  have hsz : n1.size + n2.size + cb.size + bt.size = t.size := by rw [← ht2, Rp.app_size, Rp.app_size, Rp.app_size]
  have HT := Sd.mk ht2
  have g1 : ¬9223372036854775807 < n1.size + n2.size := by omega
  have g2 : ¬9223372036854775807 < n1.size + n2.size + cb.size := by omega
  have g3 : ¬9223372036854775807 < n1.size + n2.size + cb.size + bt.size := by omega
  have H1 := Sd.mk hn1
  have H2 := Sd.mk hn2
  have HB0 := Sd.mk (below_one w (.cells #[.int .i64 x.view, .int .i64 x.prop, .int .i64 x.just.view, .string x.just.block, .slice A n c, .slice B m d] 42))
  have X0 := Sd.mk (blk_new w (.cells #[.int .i64 x.view, .int .i64 x.prop, .int .i64 x.just.view, .string x.just.block, .slice A n c, .slice B m d] 42))
  have HBT := Sd.mk (fun W (hb : RowKit.Below (w.alloc (.cells #[.int .i64 x.view, .int .i64 x.prop, .int .i64 x.just.view, .string x.just.block, .slice A n c, .slice B m d] 42)).heap.size (w.alloc (.cells #[.int .i64 x.view, .int .i64 x.prop, .int .i64 x.just.view, .string x.just.block, .slice A n c, .slice B m d] 42)) W) => wbatch_any W B d x.batch ((hs.below (below_one w (.cells #[.int .i64 x.view, .int .i64 x.prop, .int .i64 x.just.view, .string x.just.block, .slice A n c, .slice B m d] 42))).below hb) m hm bt hbt (by omega))
  have HCT := Sd.mk (fun W (hb : RowKit.Below (w.alloc (.cells #[.int .i64 x.view, .int .i64 x.prop, .int .i64 x.just.view, .string x.just.block, .slice A n c, .slice B m d] 42)).heap.size (w.alloc (.cells #[.int .i64 x.view, .int .i64 x.prop, .int .i64 x.just.view, .string x.just.block, .slice A n c, .slice B m d] 42)) W) => Rp.wcert_any W x.just A c ((hg.below (below_one w (.cells #[.int .i64 x.view, .int .i64 x.prop, .int .i64 x.just.view, .string x.just.block, .slice A n c, .slice B m d] 42))).below hb) n hn cb hcb (by omega))
  clear hn1 hn2 hcb hbt ht ht2 hsz hs hm hz hg hn
  go_enter Try.func104, Try.ntmps104
  go_upto_region 1 with (fail)
  generalize hBx : w.heap.size = Bx at X0 ⊢
  generalize w.alloc _ = W1 at HB0 X0 HBT HCT ⊢
  have c0 := fun d os => cell_regrown (blk_at X0.out 0 _ rfl) d os
  have c1 := fun d os => cell_regrown (blk_at X0.out 1 _ rfl) d os
  have c2 := fun d os => cell_regrown (blk_at X0.out 2 _ rfl) d os
  have c3 := fun d os => cell_regrown (blk_at X0.out 3 _ rfl) d os
  have c4 := fun d os => cell_regrown (blk_at X0.out 4 _ rfl) d os
  have c5 := fun d os => cell_regrown (blk_at X0.out 5 _ rfl) d os
  refine wp_region_quiet_below (by assumption) (by kernel_rfl) ?_
  repeat (go_big_quiet_step ((first | (go_at_call 97; with_reducible refine Calls.regrown_of (Wtx.number_eq _ x.view n1 H1.out)) | (go_at_call 97; with_reducible refine Calls.regrown_of (Wtx.number_eq _ x.prop n2 H2.out)) | (go_at_call 134; refine Calls.regrown_of (HCT.out _ (below_regrown _ _ _))) | (go_at_call 98; refine Calls.regrown_of (HBT.out _ (below_regrown _ _ _))))))
  refine wpQuiet_nil ?_
  rintro W9 ⟨⟨nq, osq⟩, rfl⟩
  have HB9 := Sd.mk (below_then HB0.out (below_regrown W1 nq osq))
  go_wp2
  go_ret
  exact ⟨by rw [HT.out]; rfl, by have h := HB9.out; first | exact h | rwa [hBx] at h⟩
/-- the zero block's bytes, and what is left of them when the view has been read -/
def Z16 : ByteArray := num4 0 ++ (Rp.certB ⟨0, Rp.ET, []⟩ ++ batchB [])
theorem zero_bytes : blkB ⟨0, 0, ⟨0, Rp.ET, []⟩, []⟩ = num4 0 ++ Z16 := by
  unfold blkB Z16
  rw [Rp.app_assoc, Rp.app_assoc]
theorem zero_read : Rp.numF 1 1000000 ⟨num4 0 ++ Z16, false⟩ = (0, ⟨Z16, true⟩) := num_out 0 1 1000000 Z16 (by omega) (by omega) (by omega)
set_option maxHeartbeats 8000000 in
set_option maxRecDepth 100000 in
theorem right_zero (w : World) : Calls Try.prog 71 #[.agg #[.int .i64 0, .int .i64 0, .int .i64 0, .string { data := #[] }, .slice none 0 0, .slice none 0 0]] w fun e w' => e = .returned (.bool false) ∧ RowKit.Below w.heap.size w w' := by
  obtain ⟨t, ht⟩ : ∃ t, num4 0 ++ Z16 = t := ⟨_, rfl⟩
  have htz : t.size = 20 := by rw [← ht]; rfl
  have hb0 := below_one w (.cells #[.int .i64 0, .int .i64 0, .int .i64 0, .string { data := #[] }, .slice none 0 0, .slice none 0 0] 42)
  have HB := Sd.mk hb0
  have HWB := Sd.mk (wblk_any (w.alloc (.cells #[.int .i64 0, .int .i64 0, .int .i64 0, .string { data := #[] }, .slice none 0 0, .slice none 0 0] 42)) ⟨0, 0, ⟨0, { data := #[] }, []⟩, []⟩ none 0 0 none 0 0 ⟨Nat.le_refl _, by omega, fun i x hx => by simp at hx⟩ rfl ⟨Nat.le_refl _, by omega, fun i x hx => by simp at hx⟩ rfl t (by rw [← ht]; exact zero_bytes) (by omega))
  have HRB := Sd.mk (fun W => read_bad W t (by omega) Z16 (by rw [← ht]; exact zero_read))
  have X0 := Sd.mk (blk_new w (.cells #[.int .i64 0, .int .i64 0, .int .i64 0, .string { data := #[] }, .slice none 0 0, .slice none 0 0] 42))
  clear ht htz hb0
  go_enter Try.func71, Try.ntmps71
  go_upto_region 1 with (fail)
  generalize hBx : w.heap.size = Bx at X0 ⊢
  generalize w.alloc _ = W1 at HB X0 HWB ⊢
  have c0 := blk_at X0.out 0 _ rfl
  have c1 := blk_at X0.out 1 _ rfl
  have c2 := blk_at X0.out 2 _ rfl
  have c3 := blk_at X0.out 3 _ rfl
  have c4 := blk_at X0.out 4 _ rfl
  have c5 := blk_at X0.out 5 _ rfl
  go_wp2_with (first
    | (go_at_call 104; (with_reducible refine HWB.out.mono ?_); rintro e w2 ⟨rfl, hb⟩; have HB2 := Sd.mk (below_then HB.out hb); clear hb)
    | (go_at_call 103; (with_reducible refine (HRB.out _).mono ?_); rintro e w3 ⟨rfl, hb⟩; have HB3 := Sd.mk (below_then (below_then HB2.out hb) (below_one w3 (.cells #[.int .i64 0, .int .i64 0, .int .i64 0, .string { data := #[] }, .slice none 0 0, .slice none 0 0] 42))); clear hb))
  go_ret
  exact ⟨rfl, by have h := HB3.out; first | exact h | rwa [hBx] at h⟩
set_option maxHeartbeats 8000000 in
set_option maxRecDepth 100000 in
theorem well_zero (w : World) (seed : ByteArray) (tn n : Int) : Calls Try.prog 33 #[.string seed, .int .i64 tn, .int .i64 n, .agg #[.int .i64 0, .int .i64 0, .int .i64 0, .string { data := #[] }, .slice none 0 0, .slice none 0 0]] w fun e w' => e = .returned (.int .i64 2) ∧ RowKit.Below w.heap.size w w' := by
  have mixed : Try.prog.follows .mixedOrders = true := by kernel_rfl
  have HB := Sd.mk (below_one w (.cells #[.int .i64 0, .int .i64 0, .int .i64 0, .string { data := #[] }, .slice none 0 0, .slice none 0 0] 42))
  have X0 := Sd.mk (blk_new w (.cells #[.int .i64 0, .int .i64 0, .int .i64 0, .string { data := #[] }, .slice none 0 0, .slice none 0 0] 42))
  go_enter Try.func33, Try.ntmps33
  go_upto_region 1 with (fail)
  generalize hBx : w.heap.size = Bx at X0 ⊢
  generalize w.alloc _ = W1 at HB X0 ⊢
  have c0 := fun d os => cell_regrown (blk_at X0.out 0 _ rfl) d os
  have c1 := fun d os => cell_regrown (blk_at X0.out 1 _ rfl) d os
  have c2 := fun d os => cell_regrown (blk_at X0.out 2 _ rfl) d os
  have c3 := fun d os => cell_regrown (blk_at X0.out 3 _ rfl) d os
  have c4 := fun d os => cell_regrown (blk_at X0.out 4 _ rfl) d os
  have c5 := fun d os => cell_regrown (blk_at X0.out 5 _ rfl) d os
  refine wp_region_quiet_below (by assumption) (by kernel_rfl) ?_
  repeat (go_big_quiet_step ((go_at_call 71; refine Calls.regrown_of (right_zero _))))
  refine wpQuiet_nil ?_
  rintro W9 ⟨⟨nq, osq⟩, rfl⟩
  have HB9 := Sd.mk (below_then HB.out (below_regrown W1 nq osq))
  go_wp2
  go_ret
  exact ⟨rfl, by have h := HB9.out; first | exact h | rwa [hBx] at h⟩
end Go.Proofs.Ytnomgkmeomlccaa.Blk

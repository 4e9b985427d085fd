/- Reading requests and blocks: plain; the reader's text and request: walked. Reading blocks: walked. A right block is told to be right: walked. -/
import Derived.Test.YtnomgkmeomlccaaBlkW
import Derived.Test.YtnomgkmeomlccaaMkOh
set_option linter.unusedVariables false
set_option linter.unusedSimpArgs false
namespace Go.Proofs.Ytnomgkmeomlccaa.Blk
open Go.RowKit Go.Sort Rd Api Own Mv App Num Dig
open Rp (RS numF cutF textF certF chk chk_ok num_app cut_app text_app cat_list bytes_ext app_assoc ET num_le cut_le num_in Gd)

def rqF (s : RS) : Rq × RS :=
  (⟨(numF 0 3 s).1, (numF 1 2147483647 (numF 0 3 s).2).1, (textF 40 (numF 1 2147483647 (numF 0 3 s).2).2).1⟩, (textF 40 (numF 1 2147483647 (numF 0 3 s).2).2).2)
def rqsF (s : RS) : Nat → List Rq × RS
  | 0 => ([], s)
  | k + 1 => ((rqsF s k).1 ++ [(rqF (rqsF s k).2).1], (rqF (rqsF s k).2).2)
theorem rqs_len (s : RS) : ∀ k, (rqsF s k).1.length = k
  | 0 => rfl
  | k + 1 => by simp [rqsF, rqs_len s k]
theorem rq_le (s : RS) : (rqF s).2.b.size ≤ s.b.size := by
  have h1 := num_le 0 3 s
  have h2 := num_le 1 2147483647 (numF 0 3 s).2
  have h3 := (Rp.text_le 40 (numF 1 2147483647 (numF 0 3 s).2).2).1
  show (textF 40 _).2.b.size ≤ _
  omega
theorem rqs_le (s : RS) : ∀ k, (rqsF s k).2.b.size ≤ s.b.size
  | 0 => Nat.le_refl _
  | k + 1 => Nat.le_trans (rq_le _) (rqs_le s k)
structure RightRq (r : Rq) : Prop where
  c : 0 ≤ r.c ∧ r.c ≤ 3
  s : 1 ≤ r.s ∧ r.s ≤ 2147483647
  b : r.b.size ≤ 40
theorem rq_app (x : Rq) (h : RightRq x) (r : ByteArray) : rqF ⟨rqB x ++ r, false⟩ = (x, ⟨r, false⟩) := by
  have e1 : rqB x ++ r = num4 x.c ++ (num4 x.s ++ (num4 (x.b.size : Int) ++ x.b ++ r)) := by
    unfold rqB Wtx.reqb Wtx.text; simp only [app_assoc]
  have e2 : numF 0 3 ⟨rqB x ++ r, false⟩ = (x.c, ⟨num4 x.s ++ (num4 (x.b.size : Int) ++ x.b ++ r), false⟩) := by rw [e1]; exact num_app _ _ _ _ h.c.1 (by have := h.c.2; omega) h.c.1 h.c.2
  have e3 : numF 1 2147483647 ⟨num4 x.s ++ (num4 (x.b.size : Int) ++ x.b ++ r), false⟩ = (x.s, ⟨num4 (x.b.size : Int) ++ x.b ++ r, false⟩) := num_app _ _ _ _ (by have := h.s.1; omega) h.s.2 h.s.1 h.s.2
  have e4 : textF 40 ⟨num4 (x.b.size : Int) ++ x.b ++ r, false⟩ = (x.b, ⟨r, false⟩) := text_app _ _ _ (by have := h.b; omega) (by have := h.b; omega)
  unfold rqF
  simp only [e2, e3, e4]
theorem rqsB_app (b : ByteArray) : ∀ l : List Rq, ∀ c : ByteArray, rqsB (b ++ c) l = b ++ rqsB c l
  | [], c => rfl
  | t :: l, c => by
    show rqsB (b ++ c ++ rqB t) l = b ++ rqsB (c ++ rqB t) l
    rw [app_assoc]; exact rqsB_app b l (c ++ rqB t)
theorem rqsB_ET (b : ByteArray) (l : List Rq) : rqsB b l = b ++ rqsB ET l := by
  have := rqsB_app b l ET
  rwa [show b ++ ET = b from bytes_ext (by rw [cat_list]; simp [ET])] at this
theorem rqs_app : ∀ (n : Nat) (l : List Rq), l.length = n → (∀ t ∈ l, RightRq t) → ∀ r : ByteArray, rqsF ⟨rqsB ET l ++ r, false⟩ n = (l, ⟨r, false⟩)
  | 0, l, hl, h, r => by
    obtain rfl := List.eq_nil_of_length_eq_zero hl
    show (([] : List Rq), (⟨ET ++ r, false⟩ : RS)) = _
    rw [show ET ++ r = r from bytes_ext (by rw [cat_list]; rfl)]
  | n + 1, l, hl, h, r => by
    obtain ⟨l', t, rfl⟩ : ∃ l' t, l = l' ++ [t] := ⟨l.dropLast, l.getLast (by intro e; rw [e] at hl; cases hl), (List.dropLast_concat_getLast _).symm⟩
    have hl' : l'.length = n := by simpa using hl
    have ih := rqs_app n l' hl' (fun x hx => h x (List.mem_append_left _ hx)) (rqB t ++ r)
    rw [rqsB_snoc, app_assoc]
    simp only [rqsF, ih]
    rw [rq_app t (h t (by simp)) r]
def blkF (s : RS) : Block × RS :=
  (⟨(numF 1 1000000 s).1, (numF 0 6 (numF 1 1000000 s).2).1, (certF (numF 0 6 (numF 1 1000000 s).2).2).1,
    (rqsF (numF 0 3 (chk (certF (numF 0 6 (numF 1 1000000 s).2).2).2 (decide ((certF (numF 0 6 (numF 1 1000000 s).2).2).1.view < (numF 1 1000000 s).1)))).2 (numF 0 3 (chk (certF (numF 0 6 (numF 1 1000000 s).2).2).2 (decide ((certF (numF 0 6 (numF 1 1000000 s).2).2).1.view < (numF 1 1000000 s).1)))).1.toNat).1⟩,
   (rqsF (numF 0 3 (chk (certF (numF 0 6 (numF 1 1000000 s).2).2).2 (decide ((certF (numF 0 6 (numF 1 1000000 s).2).2).1.view < (numF 1 1000000 s).1)))).2 (numF 0 3 (chk (certF (numF 0 6 (numF 1 1000000 s).2).2).2 (decide ((certF (numF 0 6 (numF 1 1000000 s).2).2).1.view < (numF 1 1000000 s).1)))).1.toNat).2)
structure RightBlock (x : Block) : Prop where
  v : 1 ≤ x.view ∧ x.view ≤ 1000000
  p : 0 ≤ x.prop ∧ x.prop ≤ 6
  c : Rp.RightCert x.just
  lt : x.just.view < x.view
  n : x.batch.length ≤ 3
  all : ∀ r ∈ x.batch, RightRq r
theorem blk_app (x : Block) (h : RightBlock x) (r : ByteArray) : blkF ⟨blkB x ++ r, false⟩ = (x, ⟨r, false⟩) := by
  have e1 : blkB x ++ r = num4 x.view ++ (num4 x.prop ++ (Rp.certB x.just ++ (num4 (x.batch.length : Int) ++ (rqsB ET x.batch ++ r)))) := by
    unfold blkB batchB; rw [rqsB_ET]; simp only [app_assoc]
  have e2 : numF 1 1000000 ⟨blkB x ++ r, false⟩ = (x.view, ⟨num4 x.prop ++ (Rp.certB x.just ++ (num4 (x.batch.length : Int) ++ (rqsB ET x.batch ++ r))), false⟩) := by rw [e1]; exact num_app _ _ _ _ (by have := h.v.1; omega) (by have := h.v.2; omega) h.v.1 h.v.2
  have e3 : numF 0 6 ⟨num4 x.prop ++ (Rp.certB x.just ++ (num4 (x.batch.length : Int) ++ (rqsB ET x.batch ++ r))), false⟩ = (x.prop, ⟨Rp.certB x.just ++ (num4 (x.batch.length : Int) ++ (rqsB ET x.batch ++ r)), false⟩) := num_app _ _ _ _ h.p.1 (by have := h.p.2; omega) h.p.1 h.p.2
  have e4 := Rp.cert_app x.just h.c (num4 (x.batch.length : Int) ++ (rqsB ET x.batch ++ r))
  have e5 : chk ⟨num4 (x.batch.length : Int) ++ (rqsB ET x.batch ++ r), false⟩ (decide (x.just.view < x.view)) = ⟨num4 (x.batch.length : Int) ++ (rqsB ET x.batch ++ r), false⟩ := by simp [chk, h.lt]
  have e6 : numF 0 3 ⟨num4 (x.batch.length : Int) ++ (rqsB ET x.batch ++ r), false⟩ = ((x.batch.length : Int), ⟨rqsB ET x.batch ++ r, false⟩) := num_app _ _ _ _ (by omega) (by have := h.n; omega) (by omega) (by have := h.n; omega)
  unfold blkF
  simp only [e2, e3, e4, e5, e6, Int.toNat_natCast, rqs_app _ x.batch rfl h.all r]
set_option maxHeartbeats 1000000 in
theorem rtext_any {g : Nat} {s : RS} {W : World} (h : Rp.Rb g s W) (most : Int) (hz : s.b.size ≤ 9223372036854775807) (x : ByteArray) (t : RS) (hx : textF most s = (x, t)) : Calls Try.prog 166 #[.pointer (some ⟨g, 0, none⟩), .int .i64 most] W fun e w' => e = .returned (.string x) ∧ Gd g W t w' := by
  obtain ⟨n, s1, hn⟩ : ∃ n s1, numF 0 most s = (n, s1) := ⟨_, _, rfl⟩
  have hz1 : s1.b.size ≤ 9223372036854775807 := by have := num_le 0 most s; rw [hn] at this; simp only at this; omega
  have hc : cutF n s1 = (x, t) := by rw [← hx]; unfold textF; rw [hn]
  have HN := Sd.mk (Rp.number_any h 0 most hz n s1 hn)
  have HC := Sd.mk (fun W1 (h1 : Rp.Rb g s1 W1) => Rp.cut_any h1 n hz1 x t hc)
  clear h hz hx hn hc hz1
  go_enter Try.func166, Try.ntmps166
  go_wp2_with (first
    | (go_at_call 150; (with_reducible refine HN.out.mono ?_); rintro e w1 ⟨rfl, hg⟩; have HG := Sd.mk hg; clear hg)
    | (go_at_call 164; (with_reducible refine (HC.out _ HG.out.rb).mono ?_); rintro e w2 ⟨rfl, hg⟩; have HG2 := Sd.mk (HG.out.then hg); clear hg))
  go_ret
  exact ⟨rfl, HG2.out⟩
def finR (Br : Nat) (W : World) (a b c : Value) : World := ((W.setCell ⟨Br, 0, none⟩ a).setCell ⟨Br, 1, none⟩ b).setCell ⟨Br, 2, none⟩ c
theorem finR_cells {Br : Nat} {W : World} {x y z : Value} {t : TypeId} (h : W.heap[Br]? = some (.cells #[x, y, z] t (0, 0))) (a b c : Value) : (finR Br W a b c).cell? ⟨Br, 0, none⟩ = some a ∧ (finR Br W a b c).cell? ⟨Br, 1, none⟩ = some b ∧ (finR Br W a b c).cell? ⟨Br, 2, none⟩ = some c := by
  have X8 : (finR Br W a b c).heap[Br]? = some (.cells #[a, b, c] t (0, 0)) := (blk_set3 (blk_set3 (blk_set3 h 0 _) 1 _) 2 _).trans rfl
  exact ⟨blk_at X8 0 _ rfl, blk_at X8 1 _ rfl, blk_at X8 2 _ rfl⟩
theorem finR_grown (Br : Nat) (W : World) (a b c : Value) : W.grownBy (finR Br W a b c) (some Br) := Rp.grown_then (Rp.grown_set W Br 0 a) (Rp.grown_then (Rp.grown_set _ Br 1 b) (Rp.grown_set _ Br 2 c))
set_option maxHeartbeats 4000000 in
set_option maxRecDepth 100000 in
theorem rreq_any {g : Nat} {s : RS} {W : World} (h : Rp.Rb g s W) (hz : s.b.size ≤ 9223372036854775807) (x : Rq) (t : RS) (hx : rqF s = (x, t)) : Calls Try.prog 153 #[.pointer (some ⟨g, 0, none⟩)] W fun e w' => e = .returned (.agg #[.int .i64 x.c, .int .i64 x.s, .string x.b]) ∧ Gd g W t w' := by
  obtain ⟨a, s1, h1⟩ : ∃ a s1, numF 0 3 s = (a, s1) := ⟨_, _, rfl⟩
  obtain ⟨b, s2, h2⟩ : ∃ b s2, numF 1 2147483647 s1 = (b, s2) := ⟨_, _, rfl⟩
  obtain ⟨c, s3, h3⟩ : ∃ c s3, textF 40 s2 = (c, s3) := ⟨_, _, rfl⟩
  have z1 : s1.b.size ≤ 9223372036854775807 := by have := num_le 0 3 s; rw [h1] at this; simp only at this; omega
  have z2 : s2.b.size ≤ 9223372036854775807 := by have := num_le 1 2147483647 s1; rw [h2] at this; simp only at this; omega
  have hx2 : (⟨a, b, c⟩, s3) = (x, t) := by rw [← hx]; unfold rqF; rw [h1]; simp only; rw [h2]; simp only; rw [h3]
  obtain ⟨rfl, rfl⟩ := Prod.mk.inj hx2
  have b0 := below_one W (.cells #[.int .i64 0, .int .i64 0, .string { data := #[] }] 47)
  have HG0 := Sd.mk (⟨h.below b0, Rp.grown_below b0 (some g)⟩ : Gd g W s (W.alloc (.cells #[.int .i64 0, .int .i64 0, .string { data := #[] }] 47)))
  have X0 := Sd.mk (blk_new W (.cells #[.int .i64 0, .int .i64 0, .string { data := #[] }] 47))
  have HLT := Sd.mk (show g < W.heap.size from blk_lt' h)
  have HN1 := Sd.mk (Rp.number_any (h.below b0) 0 3 hz a s1 h1)
  have HN2 := Sd.mk (fun W1 (k : Rp.Rb g s1 W1) => Rp.number_any k 1 2147483647 z1 b s2 h2)
  have HN3 := Sd.mk (fun W1 (k : Rp.Rb g s2 W1) => rtext_any k 40 z2 c s3 h3)
  clear h hz hx h1 h2 h3 z1 z2 hx2 b0
  go_enter Try.func153, Try.ntmps153
  go_upto_region 1 with (fail)
  generalize hBr : W.heap.size = Br at X0 HLT ⊢
  generalize W.alloc _ = W1 at X0 HG0 HN1 ⊢
  have f0 := blk_frz X0.out 0
  go_wp2_with (first
    | (go_at_call 150; (with_reducible refine HN1.out.mono ?_); rintro e w1 ⟨rfl, hg⟩; have HG1 := Sd.mk (HG0.out.then hg); have X1 := Sd.mk (blk_grown X0.out hg.gr (fun e => by have := Option.some.inj e; have := HLT.out; omega)); clear hg)
    | (go_at_call 150; (with_reducible refine (HN2.out _ HG1.out.rb).mono ?_); rintro e w2 ⟨rfl, hg⟩; have HG2 := Sd.mk (HG1.out.then hg); have X2 := Sd.mk (blk_grown X1.out hg.gr (fun e => by have := Option.some.inj e; have := HLT.out; omega)); clear hg)
    | (go_at_call 166; (with_reducible refine (HN3.out _ HG2.out.rb).mono ?_); rintro e w3 ⟨rfl, hg⟩; have HG3 := Sd.mk (HG2.out.then hg); have X3 := Sd.mk (blk_grown X2.out hg.gr (fun e => by have := Option.some.inj e; have := HLT.out; omega)); have r0 := blk_at X3.out 0 _ rfl; have r1 := blk_at X3.out 1 _ rfl; have r2 := blk_at X3.out 2 _ rfl; have f0 := blk_frz X3.out 0; have f1 := blk_frz X3.out 1; have f2 := blk_frz X3.out 2; clear hg))
  obtain ⟨y0, y1, y2⟩ := finR_cells X3.out (.int .i64 a) (.int .i64 b) (.string c)
  have HF := Sd.mk (show Gd g W s3 (finR Br w3 (.int .i64 a) (.int .i64 b) (.string c)) from ⟨blk_grown HG3.out.rb (finR_grown Br w3 _ _ _) (fun e => by have := Option.some.inj e; have := HLT.out; omega), Rp.grown_new HG3.out.gr (finR_grown Br w3 _ _ _) (by omega)⟩)
  clear r0 r1 r2 f0 f1 f2
  change bodyPost _ _ _ _ _ (finR Br w3 (.int .i64 a) (.int .i64 b) (.string c))
  generalize finR Br w3 _ _ _ = W9 at y0 y1 y2 HF ⊢
  exact bodyPost_ret (v := .agg #[.int .i64 a, .int .i64 b, .string c]) (by simp [results, Try.results153, go_sem, y0, y1, y2]) rfl ⟨rfl, HF.out⟩
end Go.Proofs.Ytnomgkmeomlccaa.Blk
set_option linter.unusedVariables false
set_option linter.unusedSimpArgs false

namespace Go.Proofs.Ytnomgkmeomlccaa.Blk
open Go.RowKit Go.Sort Rd Api Own Mv App Num Dig
open Rp (RS numF cutF textF certF chk chk_ok num_app cut_app text_app cat_list bytes_ext app_assoc ET num_le cut_le num_in Gd Cr)

theorem cr_up {W0 W1 W : World} {A : Option Addr} {n c : Nat} {xs : List Sg.Sig} (h : Cr W1 A n c xs W) (hle : W0.heap.size ≤ W1.heap.size) : Cr W0 A n c xs W := by
  obtain ⟨⟨rs, o, hl, ht⟩, h3⟩ := h
  exact ⟨⟨rs, o, hl, fun j r x h1 h2 => by
    obtain ⟨a, b, e, f⟩ := ht j r x h1 h2
    exact ⟨a, b, e, fun k hk => Nat.le_trans hle (f k hk)⟩⟩, fun k hk => Nat.le_trans hle (h3 k hk)⟩
theorem cr_grown {W0 W W1 : World} {A : Option Addr} {n c : Nat} {xs : List Sg.Sig} (h : Cr W0 A n c xs W) {row : Option Nat} (hg : W.grownBy W1 row) (hr : ∀ k, row = some k → ∃ cs t, W.heap[k]? = some (.cells cs t (0, 0)) ∧ 51 ≠ t ∧ 9 ≠ t) : Cr W0 A n c xs W1 := by
  cases row with
  | none =>
    obtain ⟨⟨rs, o, tg⟩, h3⟩ := h
    exact ⟨⟨rs, OwnR.grown o hg (by cases e : (Value.slice A n c).ownBlock with | none => exact .inl rfl | some k => exact .inr (by simp)), tg.grown hg (fun k e => by cases e)⟩, h3⟩
  | some k =>
    obtain ⟨cs, t, hk, h1, h2⟩ := hr k rfl
    exact h.grown hg rfl hk h1 h2
/-- amid a block's reading -/
structure Bw (W0 : World) (g : Nat) (s : RS) (view prop : Int) (x : Rp.Cert) (A : Option Addr) (n c : Nat) (B : Option Addr) (i d : Nat) (rs : List Rq) (Bc Br : Nat) (W : World) : Prop where
  gd : Gd g W0 s W
  bc : W.heap[Bc]? = some (.cells #[.int .i64 view, .int .i64 prop, .int .i64 x.view, .string x.block, .slice A n c, .slice B i d] 42 (0, 0))
  br : W.heap[Br]? = some (.cells #[.int .i64 0, .int .i64 0, .int .i64 0, .string { data := #[] }, .slice none 0 0, .slice none 0 0] 42 (0, 0))
  own : OwnR fR 3 W 0 47 (.slice B i d) rs
  cr : Cr W0 A n c x.sigs W
  fr : ∀ k, (Value.slice B i d).ownBlock = some k → W0.heap.size ≤ k
  lt : g < W0.heap.size
  ge : W0.heap.size ≤ Bc ∧ W0.heap.size ≤ Br ∧ Bc ≠ Br
section
variable {W0 : World} {g : Nat} {s t : RS} {view prop : Int} {x : Rp.Cert} {A : Option Addr} {n c : Nat} {B : Option Addr} {i d : Nat} {rs : List Rq} {Bc Br : Nat} {W W1 : World}
theorem Bw.below (h : Bw W0 g s view prop x A n c B i d rs Bc Br W) (hb : RowKit.Below W.heap.size W W1) : Bw W0 g s view prop x A n c B i d rs Bc Br W1 := ⟨h.gd.bel hb, blk_keep h.bc hb, blk_keep h.br hb, h.own.below hb, h.cr.below hb, h.fr, h.lt, h.ge⟩
theorem Bw.call (h : Bw W0 g s view prop x A n c B i d rs Bc Br W) (k : Gd g W t W1) : Bw W0 g t view prop x A n c B i d rs Bc Br W1 :=
  ⟨h.gd.then k, blk_grown h.bc k.gr (fun e => by have := h.lt; have := h.ge.1; have := Option.some.inj e; omega), blk_grown h.br k.gr (fun e => by have := h.lt; have := h.ge.2.1; have := Option.some.inj e; omega), OwnR.grown h.own k.gr (.inr (OwnR.blk h.own h.gd.rb (by decide))), cr_grown h.cr k.gr (fun j e => by obtain rfl := Option.some.inj e; exact ⟨_, _, h.gd.rb, by decide, by decide⟩), h.fr, h.lt, h.ge⟩
theorem Bw.push (h : Bw W0 g s view prop x A n c B i d rs Bc Br W) {N : Nat} (hN : W0.heap.size ≤ N) {r : Rq} {A6 : Option Addr} {j q6 : Nat} (hown : OwnR fR 3 W1 0 47 (.slice A6 j q6) (rs ++ [r])) (hg : W.grownBy W1 (Value.slice B i d).ownBlock) (hob : (Value.slice A6 j q6).ownBlock = (Value.slice B i d).ownBlock ∨ (Value.slice A6 j q6).ownBlock = some N) :
    Bw W0 g s view prop x A n c A6 j q6 (rs ++ [r]) Bc Br (W1.setCell ⟨Bc, 5, none⟩ (.slice A6 j q6)) := by
  have r6 := blk_grown h.bc hg (OwnR.blk h.own h.bc (by decide))
  have b6 := blk_grown h.br hg (OwnR.blk h.own h.br (by decide))
  have g6 : Rp.Rb g s W1 := blk_grown h.gd.rb hg (OwnR.blk h.own h.gd.rb (by decide))
  have hsz := h.gd.gr.size
  have hne : g ≠ Bc := by have := h.lt; have := h.ge.1; omega
  have c6 : Cr W0 A n c x.sigs W1 := cr_grown h.cr hg (fun k e => by
    obtain ⟨cs, hk⟩ := Rp.own_type h.own k e
    exact ⟨cs, _, hk, by decide, by decide⟩)
  refine ⟨⟨(heap_set _ _ _ _ _ hne).trans g6, ?_⟩, (blk_set3 r6 5 _).trans rfl, (heap_set _ _ _ _ _ (Ne.symm h.ge.2.2)).trans b6, OwnR.grown hown (row := some Bc) (Rp.grown_set _ _ _ _) (.inr (OwnR.blk hown r6 (by decide))), cr_grown c6 (Rp.grown_set _ _ _ _) (fun k e => by obtain rfl := Option.some.inj e; exact ⟨_, _, r6, by decide, by decide⟩), fun k hk => ?_, h.lt, h.ge⟩
  · have h1 := h.gd.gr
    refine ⟨hg.os.trans h1.os, hg.tape.trans h1.tape, hg.output.trans h1.output, ?_, fun k hk hr => ?_⟩
    · have := hg.size; simp only [World.setCell, Array.size_modify]; omega
    · rw [heap_set _ _ _ _ _ (by have := h.ge.1; omega), hg.block k (by omega) (fun e => by have := h.fr k e.symm; omega)]
      exact h1.block k hk hr
  · rcases hob with e | e
    · exact h.fr k (e ▸ hk)
    · rw [hk] at e; have := Option.some.inj e; omega
end
set_option maxHeartbeats 16000000 in
set_option maxRecDepth 100000 in
theorem rblk_any {g : Nat} {s : RS} {W : World} (h : Rp.Rb g s W) (hz : s.b.size ≤ 9223372036854775807) (y : Block) (t : RS) (hx : blkF s = (y, t)) :
    Calls Try.prog 132 #[.pointer (some ⟨g, 0, none⟩)] W fun e w' => ∃ A c B d, e = .returned (.agg #[.int .i64 y.view, .int .i64 y.prop, .int .i64 y.just.view, .string y.just.block, .slice A y.just.sigs.length c, .slice B y.batch.length d]) ∧ Cr W A y.just.sigs.length c y.just.sigs w' ∧ OwnR fR 3 w' 0 47 (.slice B y.batch.length d) y.batch ∧ (∀ k, (Value.slice B y.batch.length d).ownBlock = some k → W.heap.size ≤ k) ∧ Gd g W t w' := by
  have mixed : Try.prog.follows .mixedOrders = true := by kernel_rfl
  obtain ⟨view, s1, h1⟩ : ∃ a s1, numF 1 1000000 s = (a, s1) := ⟨_, _, rfl⟩
  obtain ⟨prop, s2, h2⟩ : ∃ a s2, numF 0 6 s1 = (a, s2) := ⟨_, _, rfl⟩
  obtain ⟨x, s3, h3⟩ : ∃ a s3, certF s2 = (a, s3) := ⟨_, _, rfl⟩
  obtain ⟨ok, hok⟩ : ∃ ok, decide (x.view < view) = ok := ⟨_, rfl⟩
  obtain ⟨m', s4, h4⟩ : ∃ a s4, numF 0 3 (chk s3 ok) = (a, s4) := ⟨_, _, rfl⟩
  have z1 : s1.b.size ≤ 9223372036854775807 := by have := num_le 1 1000000 s; rw [h1] at this; simp only at this; omega
  have z2 : s2.b.size ≤ 9223372036854775807 := by have := num_le 0 6 s1; rw [h2] at this; simp only at this; omega
  have z3 : s3.b.size ≤ 9223372036854775807 := by have := (Rp.cert_le s2).1; rw [h3] at this; simp only at this; omega
  have z4 : s4.b.size ≤ 9223372036854775807 := by have := num_le 0 3 (chk s3 ok); rw [h4] at this; simp only [chk] at this; omega
  have hm3 : 0 ≤ m' ∧ m' ≤ 3 := by have := num_in 0 3 (chk s3 ok) (.inr trivial); rw [h4] at this; simp only at this; omega
  obtain ⟨m, rfl⟩ : ∃ m : Nat, m' = (m : Int) := ⟨m'.toNat, by omega⟩
  have hm3' : m ≤ 3 := by omega
  have HX := Sd.mk (show (⟨view, prop, x, (rqsF s4 m).1⟩, (rqsF s4 m).2) = (y, t) by rw [← hx]; unfold blkF; simp only [h1, h2, h3, hok, h4, Int.toNat_natCast])
  have HZ4 := Sd.mk (fun k => Nat.le_trans (rqs_le s4 k) z4)
  have b0 := below_one W (.cells #[.int .i64 0, .int .i64 0, .int .i64 0, .string { data := #[] }, .slice none 0 0, .slice none 0 0] 42)
  have HG0 := Sd.mk (⟨h.below b0, Rp.grown_below b0 (some g)⟩ : Gd g W s (W.alloc (.cells #[.int .i64 0, .int .i64 0, .int .i64 0, .string { data := #[] }, .slice none 0 0, .slice none 0 0] 42)))
  have X0 := Sd.mk (blk_new W (.cells #[.int .i64 0, .int .i64 0, .int .i64 0, .string { data := #[] }, .slice none 0 0, .slice none 0 0] 42))
  have HLT := Sd.mk (show g < W.heap.size from blk_lt' h)
  have HN1 := Sd.mk (Rp.number_any (h.below b0) 1 1000000 hz view s1 h1)
  have HN2 := Sd.mk (fun W1 (k : Rp.Rb g s1 W1) => Rp.number_any k 0 6 z1 prop s2 h2)
  have HN3 := Sd.mk (fun W1 (k : Rp.Rb g s2 W1) => Rp.cert_any k z2 x s3 h3)
  have HCK := Sd.mk (fun W1 (k : Rp.Rb g s3 W1) => Rp.check_any k ok (chk s3 ok) rfl)
  have HN4 := Sd.mk (fun W1 (k : Rp.Rb g (chk s3 ok) W1) => Rp.number_any k 0 3 z3 (m : Int) s4 h4)
  have HOK := Sd.mk hok
  clear h hz hx h1 h2 h3 h4 z1 z2 z3 z4 hm3 b0
  go_enter Try.func132, Try.ntmps132
  go_upto_region 1 with (fail)
  generalize hBr : W.heap.size = Br at X0 ⊢
  generalize W.alloc _ = W1 at X0 HG0 HN1 ⊢
  go_upto_region 2 with (first
    | (go_at_call 150; (with_reducible refine HN1.out.mono ?_); rintro e w1 ⟨rfl, hg⟩; have HG1 := Sd.mk (HG0.out.then hg); have X1 := Sd.mk (blk_grown X0.out hg.gr (fun e => by have := Option.some.inj e; have := HLT.out; omega)); clear hg)
    | (go_at_call 150; (with_reducible refine (HN2.out _ HG1.out.rb).mono ?_); rintro e w2 ⟨rfl, hg⟩; have HG2 := Sd.mk (HG1.out.then hg); have X2 := Sd.mk (blk_grown X1.out hg.gr (fun e => by have := Option.some.inj e; have := HLT.out; omega)); clear hg)
    | (go_at_call 151; (with_reducible refine (HN3.out _ HG2.out.rb).mono ?_); rintro e w3 ⟨A, c, rfl, hcr, hg⟩; have hb3 := below_one w3 (.cells #[.int .i64 view, .int .i64 prop, .int .i64 x.view, .string x.block, .slice A x.sigs.length c, .slice none 0 0] 42); have HL := Sd.mk (show Bw W g s3 view prop x A x.sigs.length c none 0 0 [] w3.heap.size Br (w3.alloc (.cells #[.int .i64 view, .int .i64 prop, .int .i64 x.view, .string x.block, .slice A x.sigs.length c, .slice none 0 0] 42)) from ⟨(HG2.out.then hg).bel hb3, blk_new w3 _, blk_keep (blk_grown X2.out hg.gr (fun e => by have := Option.some.inj e; have := HLT.out; omega)) hb3, OwnR.nil _ _ _ _ _, (cr_up hcr HG2.out.gr.size).below hb3, fun k hk => by simp [Value.ownBlock] at hk, HLT.out, by have h1 := (HG2.out.then hg).gr.size; have h2 := blk_lt' (blk_grown X2.out hg.gr (fun e => by have := Option.some.inj e; have := HLT.out; omega)); omega⟩); clear hg hb3 hcr))
  clear HN1 HN2 HN3 HG0 HG1 HG2 X0 X1 X2
  obtain ⟨n, hn⟩ : ∃ n, x.sigs.length = n := ⟨_, rfl⟩
  rw [hn] at HL ⊢
  have HNL := Sd.mk hn
  clear hn
  generalize w3.heap.size = Bc at HL ⊢
  generalize w3.alloc _ = W3 at HL ⊢
  have hok2 := HOK.out
  have p0 := blk_at HL.out.bc 0 _ rfl
  have p2 := blk_at HL.out.bc 2 _ rfl
  go_upto_region 4 with (first
    | (go_at_call 152; (with_reducible refine (HCK.out _ HL.out.gd.rb).mono ?_); rintro e w4 ⟨rfl, hg⟩; have HL2 := Sd.mk (HL.out.call hg); clear hg)
    | (go_at_call 150; (with_reducible refine (HN4.out _ HL2.out.gd.rb).mono ?_); rintro e w5 ⟨rfl, hg⟩; have HL3 := Sd.mk (HL2.out.call hg); clear hg))
  clear p0 p2 HL HL2 HCK HN4 hok2
  go_loopg [21] m (fun gk v21 wr => ∃ (i : Nat) (B : Option Addr) (d : Nat), i + gk = m ∧ v21 = .int .i64 (i : Nat) ∧ Sd (Bw W g (rqsF s4 i).2 view prop x A n c B i d (rqsF s4 i).1 Bc Br wr))
  case atStart => exact ⟨0, none, 0, by omega, rfl, HL3⟩
  case round =>
    clear HL3
    obtain ⟨i, B, d, hi, rfl, HL⟩ := hrel
    by_cases hlt : i < m
    · have hii : (i : Int) < m := by omega
      obtain ⟨r, s5, hr⟩ : ∃ r s5, rqF (rqsF s4 i).2 = (r, s5) := ⟨_, _, rfl⟩
      have HT := Sd.mk (show rqsF s4 (i + 1) = ((rqsF s4 i).1 ++ [r], s5) by simp only [rqsF, hr])
      have HRQ := Sd.mk (fun W1 (k : Rp.Rb g (rqsF s4 i).2 W1) => rreq_any k (HZ4.out i) r s5 hr)
      have HRL := Sd.mk (rqs_len s4 i)
      obtain ⟨out, hout⟩ : ∃ out, (rqsF s4 i).1 = out := ⟨_, rfl⟩
      obtain ⟨si, hsi⟩ : ∃ si, (rqsF s4 i).2 = si := ⟨_, rfl⟩
      rw [hout] at HT HRL HL
      rw [hsi] at HRQ HL
      clear hr hout hsi
      go_upto_region 5 with (fail)
      have HD := Sd.mk (HL.out.below (below_drew' (Below.refl _ _)))
      have b5 := blk_at HD.out.bc 5 _ rfl
      clear HL
      refine Peel.region_peel (n := 7) (S := fun W1 => W1.cell? ⟨Bc, 5, none⟩ = some (.slice B i d)) (by kernel_rfl) (by kernel_rfl) b5 (fun hHeld => ?_)
      simp only [List.take_succ_cons, List.take_zero]
      generalize wr.drew = W5 at HD b5 hHeld ⊢
      (refine Peel.take 0 (v := ?_) rfl rfl (by kernel_rfl) (by kernel_rfl) (by kernel_rfl) (fun _ _ _ h => h) (by assumption) ?_ ?_; rotate_left; (focus (intro w hSw; (try dsimp only at hSw); (try simp only [List.getElem_toArray, List.getElem_cons_succ, List.getElem_cons_zero]); go_simp; try (with_reducible rfl))); try simp only [List.getElem_toArray, List.getElem_cons_succ, List.getElem_cons_zero, Act.put, List.setIfInBounds_toArray, List.set_cons_zero, List.set_cons_succ])
      (refine Peel.take 1 (v := ?_) rfl rfl (by kernel_rfl) (by kernel_rfl) (by kernel_rfl) (fun _ _ _ h => h) (by assumption) ?_ ?_; rotate_left; (focus (intro w hSw; (try dsimp only at hSw); (try simp only [List.getElem_toArray, List.getElem_cons_succ, List.getElem_cons_zero]); go_simp; try (with_reducible rfl))); try simp only [List.getElem_toArray, List.getElem_cons_succ, List.getElem_cons_zero, Act.put, List.setIfInBounds_toArray, List.set_cons_zero, List.set_cons_succ])
      (refine Peel.take 2 (v := ?_) rfl rfl (by kernel_rfl) (by kernel_rfl) (by kernel_rfl) (fun _ _ _ h => h) (by assumption) ?_ ?_; rotate_left; (focus (intro w hSw; (try dsimp only at hSw); (try simp only [List.getElem_toArray, List.getElem_cons_succ, List.getElem_cons_zero]); go_simp; try (with_reducible rfl))); try simp only [List.getElem_toArray, List.getElem_cons_succ, List.getElem_cons_zero, Act.put, List.setIfInBounds_toArray, List.set_cons_zero, List.set_cons_succ])
      (refine wpAnyH_ready (rs := [3]) (by kernel_rfl) (by simp) ?_; refine AllReadyH.cons rfl (fun K hK => ?_) AllReadyH.nil)
      go_simp
      go_at_call 153
      with_reducible refine (HRQ.out _ HD.out.gd.rb).mono ?_
      rintro e w6 ⟨rfl, hg⟩
      have HL2 := Sd.mk (HD.out.call hg)
      have y1 := blk_at HL2.out.bc 5 _ rfl
      clear hg
      (refine hK.out _ _ y1 (fun hHeld => ?_); (clear hK K; try simp only [List.getElem_toArray, List.getElem_cons_succ, List.getElem_cons_zero, Act.put, List.setIfInBounds_toArray, List.set_cons_zero, List.set_cons_succ]))
      (refine wpAnyH_ready (rs := [4]) (by kernel_rfl) (by simp) ?_; refine AllReadyH.cons rfl (fun K hK => ?_) AllReadyH.nil)
      go_simp
      have y2 := cell_below (below_one w6 (.cells #[.int .i64 r.c, .int .i64 r.s, .string r.b] 47)) y1
      (refine hK.out _ _ y2 (fun hHeld => ?_); (clear hK K; try simp only [List.getElem_toArray, List.getElem_cons_succ, List.getElem_cons_zero, Act.put, List.setIfInBounds_toArray, List.set_cons_zero, List.set_cons_succ]))
      (refine wpAnyH_ready (rs := [5]) (by kernel_rfl) (by simp) ?_; refine AllReadyH.cons rfl (fun K hK => ?_) AllReadyH.nil)
      (refine step_append_at (f := fR) (n := 3) (fun _ => rfl) fR_one rfl (.tmp 24) (.tmp 27) 33 47 (.agg #[.int .i64 0, .int .i64 0, .string ByteArray.empty]) 32 rfl Try.underlying33 info_rq rfl (by decide) (.slice B i d) out r rfl rfl HL2.out.own (by rw [HRL.out]; omega) (by rw [HRL.out]; omega) ?_; intro v6 w7 hown hgrow hob; obtain ⟨A6, q6, rfl⟩ := OwnR.slice hown; have hl6 : (out ++ [r]).length = i + 1 := (by rw [List.length_append, HRL.out]; rfl); rw [hl6] at hown hob ⊢; have r6 := blk_grown HL2.out.bc hgrow (OwnR.blk HL2.out.own HL2.out.bc (by decide)); have c6 := blk_at r6 5 _ rfl; have f6 := blk_frz r6 5; have HL6 := Sd.mk (HL2.out.push (by have := HL2.out.gd.gr.size; omega) hown hgrow hob); clear hown hgrow hob hl6)
      (refine hK.out _ _ c6 (fun hHeld => ?_); (clear hK K; try simp only [List.getElem_toArray, List.getElem_cons_succ, List.getElem_cons_zero, Act.put, List.setIfInBounds_toArray, List.set_cons_zero, List.set_cons_succ]))
      (refine Peel.take 6 (v := ?_) rfl rfl (by kernel_rfl) (by kernel_rfl) (by kernel_rfl) (fun _ _ _ h => h) (by assumption) ?_ ?_; rotate_left; (focus (intro w hSw; (try dsimp only at hSw); (try simp only [List.getElem_toArray, List.getElem_cons_succ, List.getElem_cons_zero]); go_simp; try (with_reducible rfl))); try simp only [List.getElem_toArray, List.getElem_cons_succ, List.getElem_cons_zero, Act.put, List.setIfInBounds_toArray, List.set_cons_zero, List.set_cons_succ])
      (refine wpAnyH_done (by kernel_rfl) ?_ _; simp only [Peel.Qn, List.drop_succ_cons, List.drop_zero]; clear hHeld)
      go_wp2
      have HL7 := Sd.mk (show Bw W g (rqsF s4 (i + 1)).2 view prop x A n c A6 (i + 1) q6 (rqsF s4 (i + 1)).1 Bc Br _ from by rw [HT.out]; exact HL6.out)
      clear c6 f6 r6 HL6 HD b5
      generalize w7.setCell _ _ = W7 at HL7 ⊢
      go_roundg (gk - 1)
      case measure => omega
      case rel => exact ⟨i + 1, A6, q6, by omega, by go_num, HL7⟩
    · have hii : decide (i < m) = false := decide_eq_false (by omega)
      have hii2 : decide ((i : Int) < m) = false := decide_eq_false (by omega)
      obtain rfl : i = m := by omega
      obtain ⟨rfl, rfl⟩ := Prod.mk.inj HX.out
      have HLN := Sd.mk (rqs_len s4 i)
      have p0 := blk_at HL.out.bc 0 _ rfl
      have p1 := blk_at HL.out.bc 1 _ rfl
      have p2 := blk_at HL.out.bc 2 _ rfl
      have p3 := blk_at HL.out.bc 3 _ rfl
      have p4 := blk_at HL.out.bc 4 _ rfl
      have p5 := blk_at HL.out.bc 5 _ rfl
      have r0 := blk_at HL.out.br 0 _ rfl
      have r1 := blk_at HL.out.br 1 _ rfl
      have r2 := blk_at HL.out.br 2 _ rfl
      have r3 := blk_at HL.out.br 3 _ rfl
      have r4 := blk_at HL.out.br 4 _ rfl
      have r5 := blk_at HL.out.br 5 _ rfl
      have f0 := blk_frz HL.out.br 0
      have f1 := blk_frz HL.out.br 1
      have f2 := blk_frz HL.out.br 2
      have f3 := blk_frz HL.out.br 3
      have f4 := blk_frz HL.out.br 4
      have f5 := blk_frz HL.out.br 5
      go_wp2
      obtain ⟨y0, y1, y2, y3, y4, y5⟩ := fin6_cells HL.out.br (.int .i64 view) (.int .i64 prop) (.int .i64 x.view) (.string x.block) (.slice A n c) (.slice B i d)
      have hgr := fin6_grown Br wr (.int .i64 view) (.int .i64 prop) (.int .i64 x.view) (.string x.block) (.slice A n c) (.slice B i d)
      have HG := Sd.mk (show Gd g W (rqsF s4 i).2 (fin6 Br wr (.int .i64 view) (.int .i64 prop) (.int .i64 x.view) (.string x.block) (.slice A n c) (.slice B i d)) from
        ⟨blk_grown HL.out.gd.rb hgr (fun e => by have := HL.out.lt; have := HL.out.ge.2.1; have := Option.some.inj e; omega), Rp.grown_new HL.out.gd.gr hgr HL.out.ge.2.1⟩)
      have HCR := Sd.mk (cr_grown HL.out.cr hgr (fun k e => by obtain rfl := Option.some.inj e; exact ⟨_, _, HL.out.br, by decide, by decide⟩))
      have HOW := Sd.mk (OwnR.grown HL.out.own hgr (.inr (OwnR.blk HL.out.own HL.out.br (by decide))))
      have HFR := Sd.mk HL.out.fr
      clear p0 p1 p2 p3 p4 p5 r0 r1 r2 r3 r4 r5 f0 f1 f2 f3 f4 f5 HL HX hgr
      change bodyPost _ _ _ _ _ (fin6 Br wr (.int .i64 view) (.int .i64 prop) (.int .i64 x.view) (.string x.block) (.slice A n c) (.slice B i d))
      generalize fin6 Br wr _ _ _ _ _ _ = W9 at y0 y1 y2 y3 y4 y5 HG HCR HOW ⊢
      exact bodyPost_ret (v := .agg #[.int .i64 view, .int .i64 prop, .int .i64 x.view, .string x.block, .slice A n c, .slice B i d]) (by simp [results, Try.results132, go_sem, y0, y1, y2, y3, y4, y5]) rfl ⟨A, c, B, d, by rw [HLN.out, HNL.out], by rw [HNL.out]; exact HCR.out, by rw [HLN.out]; exact HOW.out, by rw [HLN.out]; first | exact HFR.out | (rw [← hBr]; exact HFR.out), HG.out⟩
set_option maxHeartbeats 8000000 in
set_option maxRecDepth 100000 in
theorem read_ok (w : World) (b : ByteArray) (hz : b.size ≤ 9223372036854775807) (y : Block) (t : RS) (hx : blkF ⟨b, false⟩ = (y, t)) (hd : Rp.doneB t = true) (hzs : ∀ x ∈ y.just.sigs, ∀ u ∈ x.tags, u.size ≤ 9223372036854775807) :
    Calls Try.prog 103 #[.string b] w fun e w' => ∃ A c B d, e = .returned (.tuple #[.agg #[.int .i64 y.view, .int .i64 y.prop, .int .i64 y.just.view, .string y.just.block, .slice A y.just.sigs.length c, .slice B y.batch.length d], .int .i64 0]) ∧ Sl Rp.sgK w' A c y.just.sigs ∧ Sl rqN w' B d y.batch ∧ RowKit.Below w.heap.size w w' := by
  have b0 := below_one w (.cells #[.int .i64 0, .int .i64 0, .int .i64 0, .string { data := #[] }, .slice none 0 0, .slice none 0 0] 42)
  have HR := Sd.mk (show Rp.Rb (w.heap.size + 1) ⟨b, false⟩ ((w.alloc (.cells #[.int .i64 0, .int .i64 0, .int .i64 0, .string { data := #[] }, .slice none 0 0, .slice none 0 0] 42)).alloc (.cells #[.string b, .bool false] 184)) from blk_new1 _ _ _)
  have HC := Sd.mk (rblk_any HR.out hz y t hx)
  have HB := Sd.mk (below_then b0 (below_one (w.alloc (.cells #[.int .i64 0, .int .i64 0, .int .i64 0, .string { data := #[] }, .slice none 0 0, .slice none 0 0] 42)) (.cells #[.string b, .bool false] 184)))
  have HX := Sd.mk (show ((w.alloc (.cells #[.int .i64 0, .int .i64 0, .int .i64 0, .string { data := #[] }, .slice none 0 0, .slice none 0 0] 42)).alloc (.cells #[.string b, .bool false] 184)).heap[w.heap.size]? = some (.cells #[.int .i64 0, .int .i64 0, .int .i64 0, .string { data := #[] }, .slice none 0 0, .slice none 0 0] 42 (0, 0)) from blk_keep (blk_new w _) (below_one _ _))
  have HSZ := Sd.mk (show ((w.alloc (.cells #[.int .i64 0, .int .i64 0, .int .i64 0, .string { data := #[] }, .slice none 0 0, .slice none 0 0] 42)).alloc (.cells #[.string b, .bool false] 184)).heap.size = w.heap.size + 1 + 1 by simp)
  have HZS := Sd.mk hzs
  have HDD := Sd.mk hd
  clear hx hz b0 hd hzs
  go_enter Try.func103, Try.ntmps103
  go_upto_region 2 with (fail)
  generalize hk1 : w.heap.size + 1 = g at HR HC HSZ ⊢
  generalize hk0 : w.heap.size = Br at HB HX ⊢
  generalize (w.alloc _).alloc _ = W1 at HR HC HB HX HSZ ⊢
  go_upto_region 3 with (first
    | (go_at_call 132; (with_reducible refine HC.out.mono ?_); rintro e w2 ⟨A, c, B, d, rfl, hcr, how, -, hg⟩; have hb3 := below_one w2 (.cells #[.int .i64 y.view, .int .i64 y.prop, .int .i64 y.just.view, .string y.just.block, .slice A y.just.sigs.length c, .slice B y.batch.length d] 42); have HR2 := Sd.mk (hg.rb.below hb3); have HCR2 := Sd.mk (hcr.below hb3); have HOW2 := Sd.mk (how.below hb3); have X5 := Sd.mk (blk_new w2 (.cells #[.int .i64 y.view, .int .i64 y.prop, .int .i64 y.just.view, .string y.just.block, .slice A y.just.sigs.length c, .slice B y.batch.length d] 42)); have HX2 := Sd.mk (blk_keep (blk_grown HX.out hg.gr (fun e => by have := Option.some.inj e; omega)) hb3); have HB2 := Sd.mk (below_then' (B := Br) (below_grown HB.out hg.gr (by rw [HSZ.out]; omega) (fun k e => by have := Option.some.inj e; omega)) (by have := hg.gr.size; rw [HSZ.out] at this; omega) hb3); clear hg hb3 hcr how))
  generalize w2.heap.size = B5 at X5 ⊢
  generalize w2.alloc _ = W2 at HR2 HX2 HB2 HCR2 HOW2 X5 ⊢
  clear HC HR HB HX
  have r0 := blk_at HX2.out 0 _ rfl
  have r1 := blk_at HX2.out 1 _ rfl
  have r2 := blk_at HX2.out 2 _ rfl
  have r3 := blk_at HX2.out 3 _ rfl
  have r4 := blk_at HX2.out 4 _ rfl
  have r5 := blk_at HX2.out 5 _ rfl
  have p0 := blk_at X5.out 0 _ rfl
  have p1 := blk_at X5.out 1 _ rfl
  have p2 := blk_at X5.out 2 _ rfl
  have p3 := blk_at X5.out 3 _ rfl
  have p4 := blk_at X5.out 4 _ rfl
  have p5 := blk_at X5.out 5 _ rfl
  have f0 := blk_frz HX2.out 0
  have f1 := blk_frz HX2.out 1
  have f2 := blk_frz HX2.out 2
  have f3 := blk_frz HX2.out 3
  have f4 := blk_frz HX2.out 4
  have f5 := blk_frz HX2.out 5
  have HDN := Sd.mk (Rp.done_any HR2.out true HDD.out)
  go_wp2_with (first
    | (go_at_call 133; (with_reducible refine HDN.out.mono ?_); rintro e w3 ⟨rfl, rfl⟩))
  obtain ⟨y0, y1, y2, y3, y4, y5⟩ := fin6_cells HX2.out (.int .i64 y.view) (.int .i64 y.prop) (.int .i64 y.just.view) (.string y.just.block) (.slice A y.just.sigs.length c) (.slice B y.batch.length d)
  have hgr := fin6_grown Br w3 (.int .i64 y.view) (.int .i64 y.prop) (.int .i64 y.just.view) (.string y.just.block) (.slice A y.just.sigs.length c) (.slice B y.batch.length d)
  have HF := Sd.mk (below_grown HB2.out hgr (by have := HB2.out.size; have := blk_lt' HX2.out; omega) (fun k e => by obtain rfl := Option.some.inj e; exact Nat.le_refl _))
  have HCR3 := Sd.mk (cr_grown HCR2.out hgr (fun k e => by obtain rfl := Option.some.inj e; exact ⟨_, _, HX2.out, by decide, by decide⟩))
  have HOW3 := Sd.mk (OwnR.grown HOW2.out hgr (.inr (OwnR.blk HOW2.out HX2.out (by decide))))
  have HSQ := Sd.mk (show Sl rqN (fin6 Br w3 (.int .i64 y.view) (.int .i64 y.prop) (.int .i64 y.just.view) (.string y.just.block) (.slice A y.just.sigs.length c) (.slice B y.batch.length d)) B d y.batch from by
    obtain ⟨B', d', hv, hs2⟩ := OwnR.reads (d := rqN) (f := fR) (n := 3) (fun _ _ => rfl) (fun _ => rfl) rfl HOW3.out
    simp only [Value.slice.injEq] at hv
    obtain ⟨rfl, -, rfl⟩ := hv
    exact hs2)
  have HSG := Sd.mk (HCR3.out.reads rfl HZS.out)
  clear r0 r1 r2 r3 r4 r5 p0 p1 p2 p3 p4 p5 f0 f1 f2 f3 f4 f5 hgr
  change bodyPost _ _ _ _ _ (fin6 Br w3 (.int .i64 y.view) (.int .i64 y.prop) (.int .i64 y.just.view) (.string y.just.block) (.slice A y.just.sigs.length c) (.slice B y.batch.length d))
  generalize fin6 Br w3 _ _ _ _ _ _ = W9 at y0 y1 y2 y3 y4 y5 HF HSQ HSG ⊢
  exact bodyPost_ret (v := .tuple #[.agg #[.int .i64 y.view, .int .i64 y.prop, .int .i64 y.just.view, .string y.just.block, .slice A y.just.sigs.length c, .slice B y.batch.length d], .int .i64 0]) (by simp [results, Try.results103, go_sem, y0, y1, y2, y3, y4, y5]) rfl ⟨A, c, B, d, rfl, HSG.out, HSQ.out, by have h := HF.out; first | exact h | rwa [← hk0] at h⟩
end Go.Proofs.Ytnomgkmeomlccaa.Blk
set_option linter.unusedVariables false
set_option linter.unusedSimpArgs false
namespace Go.Proofs.Ytnomgkmeomlccaa.Blk
open Go.RowKit Go.Sort Rd Api Own Mv App Num Dig Rp
set_option maxHeartbeats 4000000 in
set_option maxRecDepth 100000 in
theorem sgeq_any (w : World) (x y : Sg.Sig) (A B : Option Addr) (c d : Nat) (h1 : Sl Rk.str w A c x.tags) (h2 : Sl Rk.str w B d y.tags) (n m : Nat) (hn : x.tags.length = n) (hm : y.tags.length = m) (r : Bool) (hr : r = true ↔ x = y) :
    Calls Try.prog 107 #[.agg #[.int .i64 x.node, .slice A n c], .agg #[.int .i64 y.node, .slice B m d]] w fun e w' => e = .returned (.bool r) ∧ Below w.heap.size w w' := by
  have HB := Sd.mk (below_then (below_one w (.cells #[.int .i64 x.node, .slice A n c] 51)) (below_one _ (.cells #[.int .i64 y.node, .slice B m d] 51)))
  have HE := Sd.mk (eqs_len _ A B c d x.tags y.tags (h1.below HB.out) (h2.below HB.out) n m hn hm (decide (x.tags = y.tags)) (by simp))
  obtain ⟨r0, hr0⟩ : ∃ r, (x.node == y.node) = r := ⟨_, rfl⟩
  obtain ⟨r1, hr1⟩ : ∃ r, decide (x.tags = y.tags) = r := ⟨_, rfl⟩
  rw [hr1] at HE
  have HR := Sd.mk (show r = (r0 && r1) by
    rw [Bool.eq_iff_iff, hr, ← hr0, ← hr1]
    obtain ⟨xn, xt⟩ := x
    obtain ⟨yn, yt⟩ := y
    simp)
  clear hr hr1 h1 h2 hn hm
  cases r0 with
  | false =>
    obtain rfl := HR.out
    go_enter Try.func107, Try.ntmps107
    go_wp2
    go_ret
    exact ⟨rfl, HB.out⟩
  | true =>
    obtain rfl : r = r1 := HR.out
    go_enter Try.func107, Try.ntmps107
    go_wp2_with (first
      | (go_at_call 108; (with_reducible refine HE.out.mono ?_); rintro e w1 ⟨rfl, hb⟩; have HB1 := Sd.mk (below_then HB.out hb); clear hb))
    go_ret
    exact ⟨rfl, HB1.out⟩
set_option maxHeartbeats 8000000 in
set_option maxRecDepth 100000 in
theorem eqf_any (w : World) (A B : Option Addr) (c d : Nat) (xs ys : List Sg.Sig) (h1 : Sl sgK w A c xs) (h2 : Sl sgK w B d ys) (n m : Nat) (hn : n = xs.length) (hm : m = ys.length) (r : Bool) (hr : r = true ↔ xs = ys) :
    Calls Try.prog 106 #[.slice A n c, .slice B m d, .func (.func 107) #[] #[]] w fun e w' => e = .returned (.bool r) ∧ Below w.heap.size w w' := by
  have H1 := Sd.mk h1
  have H2 := Sd.mk h2
  have HN := Sd.mk hn
  have HM := Sd.mk hm
  have HR := Sd.mk hr
  have nc := Nat.le_trans h1.le h1.cap
  have md := Nat.le_trans h2.le h2.cap
  rw [← hn] at nc
  rw [← hm] at md
  clear h1 h2 hn hm hr
  by_cases hnm : n = m
  · subst hnm
    go_enter Try.func106, Try.ntmps106
    go_wp2
    go_loopg [7, 8, 9, 17] n (fun gk v7 v8 v9 v17 wr => ∃ i, i + gk = n ∧ v17 = .int .i64 (i : Nat) ∧ Sd (∀ j : Nat, j < i → xs[j]? = ys[j]?) ∧ Sd (Below w.heap.size w wr))
    case atStart => exact ⟨0, by omega, rfl, ⟨fun j hj => by omega⟩, ⟨Below.refl _ _⟩⟩
    case round =>
      obtain ⟨i, hi, rfl, HE, HB⟩ := hrel
      by_cases hlt : i < n
      · have hii : (i : Int) < n := by omega
        obtain ⟨x, hx⟩ : ∃ x, xs[i]? = some x := ⟨_, List.getElem?_eq_getElem (show i < xs.length by rw [← HN.out]; exact hlt)⟩
        obtain ⟨y, hy⟩ : ∃ y, ys[i]? = some y := ⟨_, List.getElem?_eq_getElem (show i < ys.length by rw [← HM.out]; exact hlt)⟩
        obtain ⟨b1, o1, A1, c1, rfl, p0, p1, s1⟩ := sg_at H1.out hx
        obtain ⟨b2, o2, A2, c2, rfl, q0, q1, s2⟩ := sg_at H2.out hy
        have p0 := cell_below HB.out p0
        have p1 := cell_below HB.out p1
        have q0 := cell_below HB.out q0
        have q1 := cell_below HB.out q1
        have S1 := Sd.mk (s1.below HB.out)
        have S2 := Sd.mk (s2.below HB.out)
        have HX := Sd.mk hx
        have HY := Sd.mk hy
        clear hx hy s1 s2
        go_upto_region 6 with (fail)
        have X0 := Sd.mk (blk_new wr (.cells #[.int .i64 x.node, .slice A1 x.tags.length c1] 51))
        have hb := below_one wr (.cells #[.int .i64 x.node, .slice A1 x.tags.length c1] 51)
        have HB3 := Sd.mk (below_then HB.out hb)
        have S13 := Sd.mk (S1.out.below hb)
        have S23 := Sd.mk (S2.out.below hb)
        have q0 := cell_below hb q0
        have q1 := cell_below hb q1
        clear p0 p1 HB S1 S2 hb
        generalize wr.heap.size = Bv at X0 ⊢
        generalize wr.alloc _ = W3 at X0 HB3 S13 S23 q0 q1 ⊢
        go_upto_region 7 with (fail)
        have Y0 := Sd.mk (blk_new W3 (.cells #[.int .i64 y.node, .slice A2 y.tags.length c2] 51))
        have hb := below_one W3 (.cells #[.int .i64 y.node, .slice A2 y.tags.length c2] 51)
        have X1 := Sd.mk (blk_keep X0.out hb)
        have HB4 := Sd.mk (below_then HB3.out hb)
        have S14 := Sd.mk (S13.out.below hb)
        have S24 := Sd.mk (S23.out.below hb)
        clear q0 q1 HB3 S13 S23 hb X0
        generalize W3.heap.size = Bu at Y0 ⊢
        generalize W3.alloc _ = W4 at Y0 X1 HB4 S14 S24 ⊢
        have p0 := blk_at X1.out 0 _ rfl
        have p1 := blk_at X1.out 1 _ rfl
        have q0 := blk_at Y0.out 0 _ rfl
        have q1 := blk_at Y0.out 1 _ rfl
        by_cases hxy : x = y
        · have HE2 := Sd.mk (show ∀ j : Nat, j < i + 1 → xs[j]? = ys[j]? from fun j hj => by
            by_cases e : j = i
            · subst e; rw [HX.out, HY.out, hxy]
            · exact HE.out j (by omega))
          have HC := Sd.mk (sgeq_any W4 x y _ _ _ _ S14.out S24.out _ _ rfl rfl true (by simp [hxy]))
          clear hxy
          go_wp2_with (first
            | (go_at_call 107; (with_reducible refine HC.out.mono ?_); rintro e w5 ⟨rfl, hb⟩; have HB5 := Sd.mk (below_then HB4.out hb); clear hb))
          go_roundg (gk - 1)
          case measure => omega
          case rel => exact ⟨i + 1, by omega, by go_num, HE2, HB5⟩
        · obtain rfl : r = false := by
            cases r with
            | false => rfl
            | true =>
              have h := HR.out.1 rfl
              rw [h, HY.out] at HX
              exact absurd (Option.some.inj HX.out).symm hxy
          have HC := Sd.mk (sgeq_any W4 x y _ _ _ _ S14.out S24.out _ _ rfl rfl false (by simp [hxy]))
          clear hxy
          go_wp2_with (first
            | (go_at_call 107; (with_reducible refine HC.out.mono ?_); rintro e w5 ⟨rfl, hb⟩; have HB5 := Sd.mk (below_then HB4.out hb); clear hb))
          go_ret
          exact ⟨rfl, HB5.out⟩
      · have hii : decide (i < n) = false := decide_eq_false (by omega)
        obtain rfl : i = n := by omega
        obtain rfl : r = true := HR.out.2 (List.ext_getElem? fun j => by
          by_cases e : j < i
          · exact HE.out j e
          · rw [List.getElem?_eq_none (by have := HN.out; omega), List.getElem?_eq_none (by have := HM.out; omega)])
        go_wp2
        go_ret
        exact ⟨rfl, HB.out⟩
  · have hne : ((n : Int) != (m : Int)) = true := by rw [bne_iff_ne]; omega
    have hne2 : (n != m) = true := by rw [bne_iff_ne]; exact hnm
    obtain rfl : r = false := by
      cases r with
      | false => rfl
      | true => exact absurd (by rw [HN.out, HM.out, HR.out.1 rfl]) hnm
    clear hnm
    go_enter Try.func106, Try.ntmps106
    go_wp2
    go_ret
    exact ⟨rfl, Below.refl _ _⟩

end Go.Proofs.Ytnomgkmeomlccaa.Blk
namespace Go.Proofs.Ytnomgkmeomlccaa.Blk
open Go.RowKit Go.Sort Rd Api Own Mv App Num Dig
open Rp (RS numF cutF textF certF ET Gd Cr)

set_option maxHeartbeats 4000000 in
set_option maxRecDepth 100000 in
theorem eqr_same (w : World) (A B : Option Addr) (c d : Nat) (l : List Rq) (h1 : Sl rqN w A c l) (h2 : Sl rqN w B d l) (n : Nat) (hn : n = l.length) :
    Calls Try.prog 105 #[.slice A n c, .slice B n d] w fun e w' => e = .returned (.bool true) ∧ RowKit.Below w.heap.size w w' := by
  have R1 := Sd.mk h1
  have R2 := Sd.mk h2
  have lc := Nat.le_trans h1.le h1.cap
  have HN := Sd.mk hn
  have hc1 := h1.le
  have hc2 := h1.cap
  have hd1 := h2.le
  have hd2 := h2.cap
  rw [← hn] at lc hc1 hd1
  clear h1 h2 hn
  go_enter Try.func105, Try.ntmps105
  go_wp2
  go_loopg [5, 13] n (fun gk v5 v13 wr => ∃ i, i + gk = n ∧ v13 = .int .i64 (i : Nat) ∧ Sd (RowKit.Below w.heap.size w wr))
  case atStart => exact ⟨0, by omega, rfl, ⟨Below.refl _ _⟩⟩
  case round =>
    obtain ⟨i, hi, rfl, HB⟩ := hrel
    by_cases hlt : i < n
    · have hii : (i : Int) < n := by omega
      obtain ⟨y, hy⟩ : ∃ y, l[i]? = some y := ⟨l[i]'(by rw [← HN.out]; exact hlt), List.getElem?_eq_getElem _⟩
      obtain ⟨b1, o1, rfl, p0, p1, p2⟩ := rq_at R1.out.row hy
      obtain ⟨b2, o2, rfl, r0, r1, r2⟩ := rq_at R2.out.row hy
      have p0 := cell_below HB.out p0
      have p1 := cell_below HB.out p1
      have p2 := cell_below HB.out p2
      have r0 := cell_below HB.out r0
      have r1 := cell_below HB.out r1
      have r2 := cell_below HB.out r2
      clear hy
      go_upto_region 6 with (fail)
      go_quiet (fail)
      go_wp2
      go_roundg (gk - 1)
      case measure => omega
      case rel => exact ⟨i + 1, by omega, by go_num, ⟨below_drewN HB.out nq⟩⟩
    · have hii : decide (i < n) = false := decide_eq_false (by omega)
      have hii2 : decide ((i : Int) < (n : Int)) = false := decide_eq_false (by omega)
      go_wp2
      go_ret
      exact ⟨rfl, HB.out⟩
theorem blkB_right {y : Block} (h : RightBlock y) : (blkB y).size ≤ 100000 := by
  have h1 := rqsB_few y.batch (num4 (y.batch.length : Int)) (fun t ht => by have := (h.all t ht).b; omega)
  have h2 := Rp.sigsB_size
  have h3 : (Rp.certB y.just).size ≤ 10000 := by
    have hs : ∀ (l : List Sg.Sig) (b : ByteArray), (∀ s ∈ l, (Rp.sigB s).size ≤ 200) → (Rp.sigsB b l).size ≤ b.size + 200 * l.length := by
      intro l
      induction l with
      | nil => intro b _; simp [Rp.sigsB]
      | cons t l ih =>
        intro b hl
        have h1 := ih (b ++ Rp.sigB t) (fun u hu => hl u (by simp [hu]))
        have h2 := hl t (by simp)
        rw [Rp.app_size] at h1
        show (Rp.sigsB (b ++ Rp.sigB t) l).size ≤ _
        rw [List.length_cons]; omega
    have hc : ∀ (l : List ByteArray) (b : ByteArray), (∀ t ∈ l, t.size = 16) → (Rp.catB b l).size = b.size + 16 * l.length := by
      intro l
      induction l with
      | nil => intro b _; simp [Rp.catB]
      | cons t l ih =>
        intro b hl
        have h1 := ih (b ++ t) (fun u hu => hl u (by simp [hu]))
        have h2 := hl t (by simp)
        rw [Rp.app_size] at h1
        show (Rp.catB (b ++ t) l).size = _
        rw [List.length_cons]; omega
    have := hs y.just.sigs (num4 y.just.view ++ y.just.block ++ num4 (y.just.sigs.length : Int)) (fun s hs => by
      have hr := h.c.all s hs
      have := hc s.tags (num4 s.node ++ num4 (s.tags.length : Int)) hr.2.2.2
      rw [Rp.app_size, num4_size, num4_size] at this
      have := hr.2.2.1
      unfold Rp.sigB; omega)
    rw [Rp.app_size, Rp.app_size, num4_size, num4_size] at this
    have h4 := h.c.b
    have h5 := h.c.n
    unfold Rp.certB; omega
  have h4 := h.n
  unfold blkB batchB
  rw [Rp.app_size, Rp.app_size, Rp.app_size, num4_size, num4_size]
  rw [num4_size] at h1
  omega
set_option maxHeartbeats 8000000 in
set_option maxRecDepth 100000 in
theorem right_ok (w : World) (y : Block) (hr : RightBlock y) (A : Option Addr) (n c : Nat) (B : Option Addr) (m d : Nat) (hg : Sl Rp.sgK w A c y.just.sigs) (hn : n = y.just.sigs.length) (hs : Sl rqN w B d y.batch) (hm : m = y.batch.length) :
    Calls Try.prog 71 #[.agg #[.int .i64 y.view, .int .i64 y.prop, .int .i64 y.just.view, .string y.just.block, .slice A n c, .slice B m d]] w fun e w' => e = .returned (.bool true) ∧ RowKit.Below w.heap.size w w' := by
  subst hn
  subst hm
  obtain ⟨t, ht⟩ : ∃ t, blkB y = t := ⟨_, rfl⟩
  have htz := blkB_right hr
  rw [ht] at htz
  have hb0 := below_one w (.cells #[.int .i64 y.view, .int .i64 y.prop, .int .i64 y.just.view, .string y.just.block, .slice A y.just.sigs.length c, .slice B y.batch.length d] 42)
  have HB := Sd.mk hb0
  have HWB := Sd.mk (wblk_any (w.alloc (.cells #[.int .i64 y.view, .int .i64 y.prop, .int .i64 y.just.view, .string y.just.block, .slice A y.just.sigs.length c, .slice B y.batch.length d] 42)) y A y.just.sigs.length c B y.batch.length d (hg.below hb0) rfl (hs.below hb0) rfl t ht (by omega))
  have hrd : blkF ⟨t, false⟩ = (y, ⟨ET, false⟩) := by
    have := blk_app y hr ET
    rwa [show blkB y ++ ET = blkB y from Rp.bytes_ext (by rw [Rp.cat_list]; simp [ET]), ht] at this
  have HRB := Sd.mk (fun W => read_ok W t (by omega) y _ hrd rfl (fun x hx u hu => by have := (hr.c.all x hx).2.2.2 u hu; omega))
  have X0 := Sd.mk (blk_new w (.cells #[.int .i64 y.view, .int .i64 y.prop, .int .i64 y.just.view, .string y.just.block, .slice A y.just.sigs.length c, .slice B y.batch.length d] 42))
  have HG := Sd.mk (hg.below hb0)
  have HS := Sd.mk (hs.below hb0)
  clear ht htz hb0 hg hs hrd hr
  go_enter Try.func71, Try.ntmps71
  go_upto_region 1 with (fail)
  generalize hBx : w.heap.size = Bx at X0 ⊢
  generalize w.alloc _ = W1 at HB X0 HWB HG HS ⊢
  have u0 := blk_at X0.out 0 _ rfl
  have u1 := blk_at X0.out 1 _ rfl
  have u2 := blk_at X0.out 2 _ rfl
  have u3 := blk_at X0.out 3 _ rfl
  have u4 := blk_at X0.out 4 _ rfl
  have u5 := blk_at X0.out 5 _ rfl
  go_upto_region 2 with (first
    | (go_at_call 104; (with_reducible refine HWB.out.mono ?_); rintro e w2 ⟨rfl, hb⟩; have HB2 := Sd.mk (below_then HB.out hb); have X2 := Sd.mk (blk_keep X0.out hb); have HG2 := Sd.mk (HG.out.below hb); have HS2 := Sd.mk (HS.out.below hb); clear hb)
    | (go_at_call 103; (with_reducible refine (HRB.out _).mono ?_); rintro e w3 ⟨A2, c2, B2, d2, rfl, hsg, hsq, hb⟩; have hb3 := below_one w3 (.cells #[.int .i64 y.view, .int .i64 y.prop, .int .i64 y.just.view, .string y.just.block, .slice A2 y.just.sigs.length c2, .slice B2 y.batch.length d2] 42); have HB3 := Sd.mk (below_then (below_then HB2.out hb) hb3); have X3 := Sd.mk (blk_keep (blk_keep X2.out hb) hb3); have HG3 := Sd.mk ((HG2.out.below hb).below hb3); have HS3 := Sd.mk ((HS2.out.below hb).below hb3); have Y3 := Sd.mk (blk_new w3 (.cells #[.int .i64 y.view, .int .i64 y.prop, .int .i64 y.just.view, .string y.just.block, .slice A2 y.just.sigs.length c2, .slice B2 y.batch.length d2] 42)); have HG4 := Sd.mk (hsg.below hb3); have HS4 := Sd.mk (hsq.below hb3); clear hb hb3 hsg hsq))
  clear u0 u1 u2 u3 u4 u5 HWB HRB HB HB2 X0 X2 HG HS HG2 HS2
  have HQ0 := Sd.mk (fun W (hb : RowKit.Below (w3.alloc (.cells #[.int .i64 y.view, .int .i64 y.prop, .int .i64 y.just.view, .string y.just.block, .slice A2 y.just.sigs.length c2, .slice B2 y.batch.length d2] 42)).heap.size (w3.alloc (.cells #[.int .i64 y.view, .int .i64 y.prop, .int .i64 y.just.view, .string y.just.block, .slice A2 y.just.sigs.length c2, .slice B2 y.batch.length d2] 42)) W) => eqf_any W A2 A c2 c y.just.sigs y.just.sigs (HG4.out.below hb) (HG3.out.below hb) y.just.sigs.length y.just.sigs.length rfl rfl true ⟨fun _ => rfl, fun _ => rfl⟩)
  have HE0 := Sd.mk (fun W (hb : RowKit.Below (w3.alloc (.cells #[.int .i64 y.view, .int .i64 y.prop, .int .i64 y.just.view, .string y.just.block, .slice A2 y.just.sigs.length c2, .slice B2 y.batch.length d2] 42)).heap.size (w3.alloc (.cells #[.int .i64 y.view, .int .i64 y.prop, .int .i64 y.just.view, .string y.just.block, .slice A2 y.just.sigs.length c2, .slice B2 y.batch.length d2] 42)) W) => eqr_same W B2 B d2 d y.batch (HS4.out.below hb) (HS3.out.below hb) y.batch.length rfl)
  clear HG3 HS3 HG4 HS4
  generalize w3.heap.size = By at Y3 ⊢
  generalize w3.alloc _ = W4 at Y3 HB3 X3 HQ0 HE0 ⊢
  obtain ⟨nn, hnn⟩ : ∃ z, y.just.sigs.length = z := ⟨_, rfl⟩
  obtain ⟨mm, hmm⟩ : ∃ z, y.batch.length = z := ⟨_, rfl⟩
  rw [hnn] at HQ0 X3 Y3 ⊢
  rw [hmm] at HE0 X3 Y3 ⊢
  clear hnn hmm
  have u0 := blk_at X3.out 0 _ rfl
  have u1 := blk_at X3.out 1 _ rfl
  have u2 := blk_at X3.out 2 _ rfl
  have u3 := blk_at X3.out 3 _ rfl
  have u4 := blk_at X3.out 4 _ rfl
  have u5 := blk_at X3.out 5 _ rfl
  have e0 := blk_at Y3.out 0 _ rfl
  have e1 := blk_at Y3.out 1 _ rfl
  have e2 := blk_at Y3.out 2 _ rfl
  have e3 := blk_at Y3.out 3 _ rfl
  have e4 := blk_at Y3.out 4 _ rfl
  have e5 := blk_at Y3.out 5 _ rfl
  have HR := Sd.mk (Below.refl W4.heap.size W4)
  go_wp2_with (first
    | (go_at_call 105; (with_reducible refine (HE0.out _ HR.out).mono ?_); rintro e w5 ⟨rfl, hb⟩; have HB5 := Sd.mk hb; have X5 := Sd.mk (blk_keep X3.out hb); have Y5 := Sd.mk (blk_keep Y3.out hb); have u4 := blk_at X5.out 4 _ rfl; have e4 := blk_at Y5.out 4 _ rfl; clear hb)
    | (go_at_call 106; (with_reducible refine (HQ0.out _ HB5.out).mono ?_); rintro e w6 ⟨rfl, hb⟩; have HB6 := Sd.mk (below_then HB5.out hb); clear hb))
  go_ret
  exact ⟨rfl, by have h := below_then HB3.out HB6.out; first | exact h | rwa [hBx] at h⟩
end Go.Proofs.Ytnomgkmeomlccaa.Blk

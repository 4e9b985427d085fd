/- rule.Learn, rule.Commit, and the reference's: walked. The reference's Find, Learn and Commit: walked. -/
import Derived.Test.YtnomgkmeomlccaaForN
set_option linter.unusedVariables false
set_option linter.unusedSimpArgs false
namespace Go.Proofs.Ytnomgkmeomlccaa.Fst
open Go.RowKit Go.Sort Rd Api Own Mv App Num Dig
open Blk (Block Rq rqN fR digB coreB)
open Kee (Bk fB bkK Wk)

/-- a block that is found, or the zero one -/
structure Gt (w0 : World) (f : Fo) (h : ByteArray) (z : Bk) (ok : Bool) : Prop where
  yes : ok = true → ∃ x, ndAt f.nodes h = some x ∧ Bw w0 z x.b
  no : ok = false → ndAt f.nodes h = none
  sz : z.jb.size ≤ maxLen
theorem get_z {w0 W : World} {g : Nat} {f : Fo} (hf : Fw w0 g f W) (h : ByteArray) (hz : h.size ≤ maxLen) :
    Calls Try.prog 87 #[.pointer (some ⟨g, 0, none⟩), .string h] W fun e w' => ∃ z ok, e = .returned (.tuple #[.agg #[.int .i64 z.v, .int .i64 z.p, .int .i64 z.jv, .string z.jb, .slice z.sa z.sn z.sc, .slice z.a z.n z.c], .bool ok]) ∧ Gt w0 f h z ok ∧ RowKit.Below W.heap.size W w' := by
  refine (get_any hf h hz).mono ?_
  rintro e w' ⟨⟨hn, rfl⟩ | ⟨x, r, hx, hr, rfl⟩, hb⟩
  · exact ⟨⟨0, 0, 0, ⟨#[]⟩, none, 0, 0, none, 0, 0⟩, false, rfl, ⟨fun e => (by cases e), fun _ => hn, Nat.zero_le _⟩, hb⟩
  · refine ⟨⟨x.b.view, x.b.prop, x.b.just.view, x.b.just.block, r.sa, r.sn, r.sc, r.a, x.b.batch.length, r.c⟩, true, rfl, ⟨fun _ => ⟨x, hx, ⟨rfl, rfl, rfl, rfl, rfl, hr.wk.sl⟩, hr.sz⟩, fun e => (by cases e), just_le hr.sz⟩, hb⟩
def set6 (W : World) (g : Nat) (a b c d e f : Value) : World := (((((W.setCell ⟨g, 0, none⟩ a).setCell ⟨g, 1, none⟩ b).setCell ⟨g, 2, none⟩ c).setCell ⟨g, 3, none⟩ d).setCell ⟨g, 4, none⟩ e).setCell ⟨g, 5, none⟩ f
theorem set6_at {W : World} {g : Nat} {a b c d e f a' b' c' d' e' f' : Value} {t : TypeId} (h : W.heap[g]? = some (.cells #[a', b', c', d', e', f'] t (0, 0))) : (set6 W g a b c d e f).heap[g]? = some (.cells #[a, b, c, d, e, f] t (0, 0)) :=
  blk_set3 (blk_set3 (blk_set3 (blk_set3 (blk_set3 (blk_set3 h 0 a) 1 b) 2 c) 3 d) 4 e) 5 f
theorem below_set6 {w W : World} {B g : Nat} (h : RowKit.Below B w W) (hg : B ≤ g) (a b c d e f : Value) : RowKit.Below B w (set6 W g a b c d e f) :=
  (((((h.setCell (p := ⟨g, 0, none⟩) hg a).setCell (p := ⟨g, 1, none⟩) hg b).setCell (p := ⟨g, 2, none⟩) hg c).setCell (p := ⟨g, 3, none⟩) hg d).setCell (p := ⟨g, 4, none⟩) hg e).setCell (p := ⟨g, 5, none⟩) hg f
/-- a certificate's block, if it stands -/
structure Ce (w0 : World) (f : Fo) (v : Int) (h : ByteArray) (z : Bk) (ok : Bool) : Prop where
  yes : ok = true → ∃ x, ndAt f.nodes h = some x ∧ x.b.view = v ∧ Bw w0 z x.b
  no : ok = false → ∀ x, ndAt f.nodes h = some x → x.b.view ≠ v
  sz : z.jb.size ≤ maxLen
-- <L1
set_option maxHeartbeats 4000000 in
set_option maxRecDepth 100000 in
theorem cert_any {w0 W : World} {g : Nat} {f : Fo} (hf : Fw w0 g f W) (v : Int) (h : ByteArray) (hz : h.size ≤ maxLen) (sa : Option Addr) (sn sc : Nat) :
    Calls Try.prog 89 #[.pointer (some ⟨g, 0, none⟩), .agg #[.int .i64 v, .string h, .slice sa sn sc]] W fun e w' => ∃ z ok, e = .returned (.tuple #[.agg #[.int .i64 z.v, .int .i64 z.p, .int .i64 z.jv, .string z.jb, .slice z.sa z.sn z.sc, .slice z.a z.n z.c], .bool ok]) ∧ Ce w0 f v h z ok ∧ RowKit.Below W.heap.size W w' := by
  have mixed : Try.prog.follows .mixedOrders = true := by kernel_rfl
  have b0 := below_one W (.cells #[.int .i64 v, .string h, .slice sa sn sc] 39)
  have b1 := below_one (W.alloc (.cells #[.int .i64 v, .string h, .slice sa sn sc] 39)) (.cells #[.int .i64 0, .int .i64 0, .int .i64 0, .string ⟨#[]⟩, .slice none 0 0, .slice none 0 0] 42)
  have EC := Sd.mk (blk_keep (blk_new W (.cells #[.int .i64 v, .string h, .slice sa sn sc] 39)) b1)
  have EZ := Sd.mk (blk_new1 W (.cells #[.int .i64 v, .string h, .slice sa sn sc] 39) (.cells #[.int .i64 0, .int .i64 0, .int .i64 0, .string ⟨#[]⟩, .slice none 0 0, .slice none 0 0] 42))
  have HB := Sd.mk (below_then b0 b1)
  have HGET := Sd.mk (fun W1 (hb : RowKit.Below W.heap.size W W1) => get_z (hf.below hb) h hz)
  clear b0 b1 hf hz
  go_enter Try.func89, Try.ntmps89
  go_upto_region 1 with (fail)
  have HGE := Sd.mk (show W.heap.size ≤ W.heap.size + 1 by omega)
  generalize W.heap.size + 1 = g4 at EZ HGE ⊢
  generalize hg3 : W.heap.size = g3 at EC ⊢
  generalize (W.alloc _).alloc _ = W1 at EC EZ HB ⊢
  have k1 := blk_at EC.out 1 _ rfl
  go_upto_region 2 with (first
    | (go_at_call 87; (with_reducible refine (HGET.out _ HB.out).mono ?_); rintro e w2 ⟨z, ok, rfl, hgt, hb⟩; have HG := Sd.mk hgt; have HB2 := Sd.mk (below_then HB.out hb); have EC2 := Sd.mk (blk_keep EC.out hb); have EZ2 := Sd.mk (blk_keep EZ.out hb); clear hgt hb))
  clear k1
  have b5 := below_one w2 (.cells #[.int .i64 z.v, .int .i64 z.p, .int .i64 z.jv, .string z.jb, .slice z.sa z.sn z.sc, .slice z.a z.n z.c] 42)
  have E6 := Sd.mk (blk_new w2 (.cells #[.int .i64 z.v, .int .i64 z.p, .int .i64 z.jv, .string z.jb, .slice z.sa z.sn z.sc, .slice z.a z.n z.c] 42))
  have HB6 := Sd.mk (below_then HB2.out b5)
  have EC6 := Sd.mk (blk_keep EC2.out b5)
  have EZ6 := Sd.mk (blk_keep EZ2.out b5)
  have EZ2' := EZ2
  clear b5 EC EZ HB EC2 EZ2 HB2 HGET
  have hn1 : g3 ≠ g4 := fun e => by have h1 := EC6.out; rw [e, EZ6.out] at h1; simp at h1
  have hn2 : w2.heap.size ≠ g4 := fun e => by have h1 := E6.out; have h2 := blk_lt' EZ2'.out; omega
  generalize w2.heap.size = g6 at E6 hn2 ⊢
  generalize w2.alloc _ = W6 at E6 HB6 EC6 EZ6 ⊢
  (have q0 := blk_at E6.out 0 _ rfl; have q1 := blk_at E6.out 1 _ rfl; have q2 := blk_at E6.out 2 _ rfl; have q3 := blk_at E6.out 3 _ rfl; have q4 := blk_at E6.out 4 _ rfl; have q5 := blk_at E6.out 5 _ rfl)
  (have d0 := blk_at EZ6.out 0 _ rfl; have d1 := blk_at EZ6.out 1 _ rfl; have d2 := blk_at EZ6.out 2 _ rfl; have d3 := blk_at EZ6.out 3 _ rfl; have d4 := blk_at EZ6.out 4 _ rfl; have d5 := blk_at EZ6.out 5 _ rfl; have f0 := blk_frz EZ6.out 0; have f1 := blk_frz EZ6.out 1; have f2 := blk_frz EZ6.out 2; have f3 := blk_frz EZ6.out 3; have f4 := blk_frz EZ6.out 4; have f5 := blk_frz EZ6.out 5)
  have k0 := blk_at EC6.out 0 _ rfl
  cases ok with
  | false =>
    go_region
    clear k0 q0 q1 q2 q3 q4 q5 d0 d1 d2 d3 d4 d5 f0 f1 f2 f3 f4 f5
    (have E9 := Sd.mk (set6_at (a := .int .i64 z.v) (b := .int .i64 z.p) (c := .int .i64 z.jv) (d := .string z.jb) (e := .slice z.sa z.sn z.sc) (f := .slice z.a z.n z.c) EZ6.out); have HB9 := Sd.mk (below_drew' (below_set6 HB6.out HGE.out (.int .i64 z.v) (.int .i64 z.p) (.int .i64 z.jv) (.string z.jb) (.slice z.sa z.sn z.sc) (.slice z.a z.n z.c))); have E10 := Sd.mk (blk_keep E9.out (below_drew' (Below.refl _ _))); clear E9; unfold set6 at E10 HB9; generalize World.drew _ = W9 at E10 HB9 ⊢; go_wp2; (have y0 := blk_at E10.out 0 _ rfl; have y1 := blk_at E10.out 1 _ rfl; have y2 := blk_at E10.out 2 _ rfl; have y3 := blk_at E10.out 3 _ rfl; have y4 := blk_at E10.out 4 _ rfl; have y5 := blk_at E10.out 5 _ rfl); exact bodyPost_ret (v := .tuple #[.agg #[.int .i64 z.v, .int .i64 z.p, .int .i64 z.jv, .string z.jb, .slice z.sa z.sn z.sc, .slice z.a z.n z.c], .bool false]) (by simp [results, Try.results89, go_sem, y0, y1, y2, y3, y4, y5]) rfl ⟨z, false, rfl, ⟨fun e => (by cases e), fun _ x hx => (by have := HG.out.no rfl; rw [this] at hx; cases hx), HG.out.sz⟩, HB9.out⟩)
  | true =>
    rcases Decidable.em (z.v = v) with e | e
    · have ke : (z.v == v) = true := beq_iff_eq.2 e
      have HE := Sd.mk e
      clear e
      go_region
      clear k0 q0 q1 q2 q3 q4 q5 d0 d1 d2 d3 d4 d5 f0 f1 f2 f3 f4 f5
      (have E9 := Sd.mk (set6_at (a := .int .i64 z.v) (b := .int .i64 z.p) (c := .int .i64 z.jv) (d := .string z.jb) (e := .slice z.sa z.sn z.sc) (f := .slice z.a z.n z.c) EZ6.out); have HB9 := Sd.mk (below_drew' (below_set6 HB6.out HGE.out (.int .i64 z.v) (.int .i64 z.p) (.int .i64 z.jv) (.string z.jb) (.slice z.sa z.sn z.sc) (.slice z.a z.n z.c))); have E10 := Sd.mk (blk_keep E9.out (below_drew' (Below.refl _ _))); clear E9; unfold set6 at E10 HB9; generalize World.drew _ = W9 at E10 HB9 ⊢; go_wp2; (have y0 := blk_at E10.out 0 _ rfl; have y1 := blk_at E10.out 1 _ rfl; have y2 := blk_at E10.out 2 _ rfl; have y3 := blk_at E10.out 3 _ rfl; have y4 := blk_at E10.out 4 _ rfl; have y5 := blk_at E10.out 5 _ rfl); exact bodyPost_ret (v := .tuple #[.agg #[.int .i64 z.v, .int .i64 z.p, .int .i64 z.jv, .string z.jb, .slice z.sa z.sn z.sc, .slice z.a z.n z.c], .bool true]) (by simp [results, Try.results89, go_sem, y0, y1, y2, y3, y4, y5]) rfl ⟨z, true, rfl, ⟨fun _ => (by obtain ⟨x, hx, hw⟩ := HG.out.yes rfl; exact ⟨x, hx, by rw [← hw.wk.v]; exact HE.out, hw⟩), fun e => (by cases e), HG.out.sz⟩, HB9.out⟩)
    · have ke : (z.v == v) = false := beq_eq_false_iff_ne.2 e
      have HE := Sd.mk e
      clear e
      go_region
      clear k0 q0 q1 q2 q3 q4 q5 d0 d1 d2 d3 d4 d5 f0 f1 f2 f3 f4 f5
      (have E9 := Sd.mk (set6_at (a := .int .i64 z.v) (b := .int .i64 z.p) (c := .int .i64 z.jv) (d := .string z.jb) (e := .slice z.sa z.sn z.sc) (f := .slice z.a z.n z.c) EZ6.out); have HB9 := Sd.mk (below_drew' (below_set6 HB6.out HGE.out (.int .i64 z.v) (.int .i64 z.p) (.int .i64 z.jv) (.string z.jb) (.slice z.sa z.sn z.sc) (.slice z.a z.n z.c))); have E10 := Sd.mk (blk_keep E9.out (below_drew' (Below.refl _ _))); clear E9; unfold set6 at E10 HB9; generalize World.drew _ = W9 at E10 HB9 ⊢; go_wp2; (have y0 := blk_at E10.out 0 _ rfl; have y1 := blk_at E10.out 1 _ rfl; have y2 := blk_at E10.out 2 _ rfl; have y3 := blk_at E10.out 3 _ rfl; have y4 := blk_at E10.out 4 _ rfl; have y5 := blk_at E10.out 5 _ rfl); exact bodyPost_ret (v := .tuple #[.agg #[.int .i64 z.v, .int .i64 z.p, .int .i64 z.jv, .string z.jb, .slice z.sa z.sn z.sc, .slice z.a z.n z.c], .bool false]) (by simp [results, Try.results89, go_sem, y0, y1, y2, y3, y4, y5]) rfl ⟨z, false, rfl, ⟨fun e => (by cases e), fun _ x hx e2 => (by obtain ⟨y, hy, hw⟩ := HG.out.yes rfl; rw [hx] at hy; cases Option.some.inj hy; exact HE.out (by rw [hw.wk.v]; exact e2)), HG.out.sz⟩, HB9.out⟩)
/-- what is preferred behind a certificate -/
def lrn (f : Fo) (v : Int) (h : ByteArray) (sl : Int) : Int := match ndAt f.nodes h with
  | some x => if x.b.view = v then max sl x.b.just.view else sl
  | none => sl
theorem lrn_ge (f : Fo) (v : Int) (h : ByteArray) (sl : Int) : sl ≤ lrn f v h sl := by
  unfold lrn
  split
  · split
    · exact Int.le_max_left _ _
    · exact Int.le_refl _
  · exact Int.le_refl _
theorem lrn_no {f : Fo} {v : Int} {h : ByteArray} {sl : Int} (hn : ∀ x, ndAt f.nodes h = some x → x.b.view ≠ v) : lrn f v h sl = sl := by
  unfold lrn
  cases e : ndAt f.nodes h with
  | none => rfl
  | some x => exact if_neg (hn x e)
theorem lrn_yes {f : Fo} {v : Int} {h : ByteArray} {sl : Int} {x : Nd} (e : ndAt f.nodes h = some x) (hv : x.b.view = v) : lrn f v h sl = max sl x.b.just.view := by
  unfold lrn
  rw [e]
  exact if_pos hv
/-- what a certificate commits -/
def cmt (f : Fo) (v : Int) (h : ByteArray) : Option ByteArray := match ndAt f.nodes h with
  | none => none
  | some x => if x.b.view = v then (match ndAt f.nodes x.b.just.block with
    | none => none
    | some p => match ndAt f.nodes p.b.just.block with
      | none => none
      | some g => if x.b.view = p.b.view + 1 ∧ p.b.view = g.b.view + 1 then some p.b.just.block else none) else none
theorem cmt_no {f : Fo} {v : Int} {h : ByteArray} (hn : ∀ x, ndAt f.nodes h = some x → x.b.view ≠ v) : cmt f v h = none := by
  unfold cmt
  cases e : ndAt f.nodes h with
  | none => rfl
  | some x => exact if_neg (hn x e)
theorem cmt_no2 {f : Fo} {v : Int} {h : ByteArray} {x : Nd} (e : ndAt f.nodes h = some x) (e2 : ndAt f.nodes x.b.just.block = none) : cmt f v h = none := by
  simp only [cmt, e, e2, ite_self]
theorem cmt_no3 {f : Fo} {v : Int} {h : ByteArray} {x p : Nd} (e : ndAt f.nodes h = some x) (e2 : ndAt f.nodes x.b.just.block = some p) (e3 : ndAt f.nodes p.b.just.block = none) : cmt f v h = none := by
  simp only [cmt, e, e2, e3, ite_self]
theorem cmt_yes {f : Fo} {v : Int} {h : ByteArray} {x p g : Nd} (e : ndAt f.nodes h = some x) (hv : x.b.view = v) (e2 : ndAt f.nodes x.b.just.block = some p) (e3 : ndAt f.nodes p.b.just.block = some g) : cmt f v h = if x.b.view = p.b.view + 1 ∧ p.b.view = g.b.view + 1 then some p.b.just.block else none := by
  simp only [cmt, e, e2, e3, if_pos hv]
def sO (o : Option ByteArray) : ByteArray := o.getD ⟨#[]⟩
/-- the views are small -/
def Vs (f : Fo) : Prop := ∀ x ∈ f.nodes, 0 ≤ x.b.view ∧ x.b.view ≤ 1000
set_option maxHeartbeats 4000000 in
set_option maxRecDepth 100000 in
theorem learn_any {w0 W : World} {g : Nat} {f : Fo} (hf : Fw w0 g f W) (sv sl : Int) (v : Int) (h : ByteArray) (hz : h.size ≤ maxLen) (sa : Option Addr) (sn sc : Nat) (r : Int) (hr : lrn f v h sl = r) :
    Calls Try.prog 56 #[.pointer (some ⟨g, 0, none⟩), .agg #[.int .i64 sv, .int .i64 sl], .agg #[.int .i64 v, .string h, .slice sa sn sc]] W fun e w' => e = .returned (.agg #[.int .i64 sv, .int .i64 r]) ∧ RowKit.Below W.heap.size W w' := by
  subst hr
  have b0 := below_one W (.cells #[.int .i64 sv, .int .i64 sl] 89)
  have b1 := below_one (W.alloc (.cells #[.int .i64 sv, .int .i64 sl] 89)) (.cells #[.int .i64 v, .string h, .slice sa sn sc] 39)
  have b2 := below_one ((W.alloc (.cells #[.int .i64 sv, .int .i64 sl] 89)).alloc (.cells #[.int .i64 v, .string h, .slice sa sn sc] 39)) (.cells #[.int .i64 0, .int .i64 0] 89)
  have ES := Sd.mk (blk_keep (blk_new W (.cells #[.int .i64 sv, .int .i64 sl] 89)) (below_then b1 b2))
  have EC := Sd.mk (blk_keep (blk_new1 W (.cells #[.int .i64 sv, .int .i64 sl] 89) (.cells #[.int .i64 v, .string h, .slice sa sn sc] 39)) b2)
  have EZ := Sd.mk (blk_new ((W.alloc (.cells #[.int .i64 sv, .int .i64 sl] 89)).alloc (.cells #[.int .i64 v, .string h, .slice sa sn sc] 39)) (.cells #[.int .i64 0, .int .i64 0] 89))
  rw [show ((W.alloc (.cells #[.int .i64 sv, .int .i64 sl] 89)).alloc (.cells #[.int .i64 v, .string h, .slice sa sn sc] 39)).heap.size = W.heap.size + 1 + 1 by simp] at EZ
  have HB := Sd.mk (below_then b0 (below_then b1 b2))
  have HCR := Sd.mk (fun W1 (hb : RowKit.Below W.heap.size W W1) => cert_any (hf.below hb) v h hz sa sn sc)
  clear b0 b1 b2 hf hz
  go_enter Try.func56, Try.ntmps56
  go_upto_region 1 with (fail)
  have HGE := Sd.mk (show W.heap.size ≤ W.heap.size + 1 + 1 by omega)
  have hne : W.heap.size + 1 + 1 ≠ W.heap.size := by omega
  have hg0 := Sd.mk (Nat.le_refl W.heap.size)
  generalize W.heap.size + 1 + 1 = g6 at EZ HGE hne ⊢
  generalize W.heap.size + 1 = g5 at EC ⊢
  generalize ((W.alloc _).alloc _).alloc _ = W1 at ES EC EZ HB ⊢
  have k0 := blk_at EC.out 0 _ rfl
  have k1 := blk_at EC.out 1 _ rfl
  have k2 := blk_at EC.out 2 _ rfl
  go_upto_region 2 with (first
    | (go_at_call 89; (with_reducible refine (HCR.out _ HB.out).mono ?_); rintro e w2 ⟨z, ok, rfl, hgt, hb⟩; have HG := Sd.mk hgt; have HB2 := Sd.mk (below_then HB.out hb); have ES2 := Sd.mk (blk_keep ES.out hb); have EZ2 := Sd.mk (blk_keep EZ.out hb); clear hgt hb))
  clear k0 k1 k2
  have b5 := below_one w2 (.cells #[.int .i64 z.v, .int .i64 z.p, .int .i64 z.jv, .string z.jb, .slice z.sa z.sn z.sc, .slice z.a z.n z.c] 42)
  have E6 := Sd.mk (blk_new w2 (.cells #[.int .i64 z.v, .int .i64 z.p, .int .i64 z.jv, .string z.jb, .slice z.sa z.sn z.sc, .slice z.a z.n z.c] 42))
  have HB6 := Sd.mk (below_then HB2.out b5)
  have ES6 := Sd.mk (blk_keep ES2.out b5)
  have EZ6 := Sd.mk (blk_keep EZ2.out b5)
  clear b5 EC EZ HB ES ES2 EZ2 HB2 HCR
  generalize w2.heap.size = g7 at E6 ⊢
  generalize w2.alloc _ = W6 at E6 HB6 ES6 EZ6 ⊢
  have q2 := blk_at E6.out 2 _ rfl
  have s0 := blk_at ES6.out 0 _ rfl
  have s1 := blk_at ES6.out 1 _ rfl
  have s1f := blk_frz ES6.out 1
  have d0 := blk_at EZ6.out 0 _ rfl
  have d1 := blk_at EZ6.out 1 _ rfl
  have f0 := blk_frz EZ6.out 0
  have f1 := blk_frz EZ6.out 1
  cases ok with
  | false =>
    have HR := Sd.mk (show lrn f v h sl = sl from lrn_no (HG.out.no rfl))
    have E9 := Sd.mk (blk_set3 (blk_set3 EZ6.out 0 (.int .i64 sv)) 1 (.int .i64 sl))
    have HB9 := Sd.mk ((HB6.out.setCell (p := ⟨g6, 0, none⟩) HGE.out (.int .i64 sv)).setCell (p := ⟨g6, 1, none⟩) HGE.out (.int .i64 sl))
    go_wp2
    clear s0 s1 s1f d0 d1 f0 f1 q2
    generalize (World.setCell _ _ _).setCell _ _ = W9 at E9 HB9 ⊢
    have y0 := blk_at E9.out 0 _ rfl
    have y1 := blk_at E9.out 1 _ rfl
    rw [HR.out]
    exact bodyPost_ret (v := .agg #[.int .i64 sv, .int .i64 sl]) (by simp [results, Try.results56, go_sem, y0, y1]) rfl ⟨rfl, HB9.out⟩
  | true =>
    obtain ⟨x, hx, hv, hw⟩ := HG.out.yes rfl
    have HR := Sd.mk (show lrn f v h sl = max sl z.jv by rw [lrn_yes hx hv, hw.wk.jv])
    clear hx hv hw
    have HB9 := Sd.mk (((HB6.out.setCell (p := ⟨W.heap.size, 1, none⟩) hg0.out (.int .i64 (max sl z.jv))).setCell (p := ⟨g6, 0, none⟩) HGE.out (.int .i64 sv)).setCell (p := ⟨g6, 1, none⟩) HGE.out (.int .i64 (max sl z.jv)))
    have E9 := Sd.mk (blk_set3 (blk_set3 ((heap_set W6 W.heap.size 1 (.int .i64 (max sl z.jv)) g6 hne).trans EZ6.out) 0 (.int .i64 sv)) 1 (.int .i64 (max sl z.jv)))
    go_wp2
    clear s0 s1 s1f d0 d1 f0 f1 q2
    generalize ((World.setCell _ _ _).setCell _ _).setCell _ _ = W9 at E9 HB9 ⊢
    have y0 := blk_at E9.out 0 _ rfl
    have y1 := blk_at E9.out 1 _ rfl
    rw [HR.out]
    exact bodyPost_ret (v := .agg #[.int .i64 sv, .int .i64 (max sl z.jv)]) (by simp [results, Try.results56, go_sem, y0, y1]) rfl ⟨rfl, HB9.out⟩
set_option maxHeartbeats 4000000 in
set_option maxRecDepth 100000 in
theorem commit_any {w0 W : World} {g : Nat} {f : Fo} (hf : Fw w0 g f W) (hvs : Vs f) (v : Int) (h : ByteArray) (hz : h.size ≤ maxLen) (sa : Option Addr) (sn sc : Nat) (r : Option ByteArray) (hr : cmt f v h = r) :
    Calls Try.prog 54 #[.pointer (some ⟨g, 0, none⟩), .agg #[.int .i64 v, .string h, .slice sa sn sc]] W fun e w' => e = .returned (.tuple #[.string (sO r), .bool r.isSome]) ∧ RowKit.Below W.heap.size W w' := by
  subst hr
  have b0 := below_one W (.cells #[.int .i64 v, .string h, .slice sa sn sc] 39)
  have EC := Sd.mk (blk_new W (.cells #[.int .i64 v, .string h, .slice sa sn sc] 39))
  have HB := Sd.mk b0
  have HF := Sd.mk hf
  have HVS := Sd.mk hvs
  have HCR := Sd.mk (fun W1 (hb : RowKit.Below W.heap.size W W1) => cert_any (hf.below hb) v h hz sa sn sc)
  clear b0 hf hz hvs
  go_enter Try.func54, Try.ntmps54
  go_upto_region 1 with (fail)
  generalize hg3 : W.heap.size = g3 at EC ⊢
  generalize W.alloc _ = W1 at EC HB ⊢
  have k0 := blk_at EC.out 0 _ rfl
  have k1 := blk_at EC.out 1 _ rfl
  have k2 := blk_at EC.out 2 _ rfl
  go_upto_region 2 with (first
    | (go_at_call 89; (with_reducible refine (HCR.out _ HB.out).mono ?_); rintro e w2 ⟨z1, ok, rfl, hgt, hb⟩; have HG1 := Sd.mk hgt; have HB2 := Sd.mk (below_then HB.out hb); clear hgt hb))
  clear k0 k1 k2 EC HB HCR
  have b5 := below_one w2 (.cells #[.int .i64 z1.v, .int .i64 z1.p, .int .i64 z1.jv, .string z1.jb, .slice z1.sa z1.sn z1.sc, .slice z1.a z1.n z1.c] 42)
  have E1 := Sd.mk (blk_new w2 (.cells #[.int .i64 z1.v, .int .i64 z1.p, .int .i64 z1.jv, .string z1.jb, .slice z1.sa z1.sn z1.sc, .slice z1.a z1.n z1.c] 42))
  have HB3 := Sd.mk (below_then HB2.out b5)
  clear b5 HB2
  generalize w2.heap.size = g6 at E1 ⊢
  generalize w2.alloc _ = W3 at E1 HB3 ⊢
  cases ok with
  | false =>
    have HR := Sd.mk (cmt_no (HG1.out.no rfl))
    go_wp2
    go_ret2
    rw [HR.out]
    exact ⟨rfl, by have h := HB3.out; first | exact h | rwa [hg3] at h⟩
  | true =>
    obtain ⟨x, hx, hv, hw1⟩ := HG1.out.yes rfl
    have HX := Sd.mk (And.intro hx (And.intro hv hw1))
    clear hx hv hw1
    (have q0 := blk_at E1.out 0 _ rfl; have q1 := blk_at E1.out 1 _ rfl; have q2 := blk_at E1.out 2 _ rfl; have q3 := blk_at E1.out 3 _ rfl; have q4 := blk_at E1.out 4 _ rfl; have q5 := blk_at E1.out 5 _ rfl)
    go_upto_region 5 with (first
      | (go_at_call 28; (with_reducible refine (Blk.parent_any _ _ _ _ _ _ _).mono ?_); rintro e w4 ⟨rfl, hb⟩; have HB4 := Sd.mk (below_then HB3.out hb); have E14 := Sd.mk (blk_keep E1.out hb); clear hb)
      | (go_at_call 87; (with_reducible refine (get_z (HF.out.below HB4.out) z1.jb HG1.out.sz).mono ?_); rintro e w5 ⟨z2, ok2, rfl, hgt, hb⟩; have HG2 := Sd.mk hgt; have HB5 := Sd.mk (below_then HB4.out hb); have E15 := Sd.mk (blk_keep E14.out hb); clear hgt hb))
    clear q0 q1 q2 q3 q4 q5
    have b5 := below_one w5 (.cells #[.int .i64 z2.v, .int .i64 z2.p, .int .i64 z2.jv, .string z2.jb, .slice z2.sa z2.sn z2.sc, .slice z2.a z2.n z2.c] 42)
    have E2 := Sd.mk (blk_new w5 (.cells #[.int .i64 z2.v, .int .i64 z2.p, .int .i64 z2.jv, .string z2.jb, .slice z2.sa z2.sn z2.sc, .slice z2.a z2.n z2.c] 42))
    have E16 := Sd.mk (blk_keep E15.out b5)
    have HB6 := Sd.mk (below_then HB5.out b5)
    clear b5 HB3 HB4 HB5 E1 E14 E15
    generalize w5.heap.size = g8 at E2 ⊢
    generalize w5.alloc _ = W6 at E16 E2 HB6 ⊢
    cases ok2 with
    | false =>
      have HR := Sd.mk (show cmt f v h = none from cmt_no2 HX.out.1 (by rw [← HX.out.2.2.wk.jb]; exact HG2.out.no rfl))
      go_wp2
      go_ret2
      rw [HR.out]
      exact ⟨rfl, by have h := HB6.out; first | exact h | rwa [hg3] at h⟩
    | true =>
      obtain ⟨p, hp, hw2⟩ := HG2.out.yes rfl
      rw [HX.out.2.2.wk.jb] at hp
      have HP := Sd.mk (And.intro hp hw2)
      clear hp hw2
      (have q0 := blk_at E2.out 0 _ rfl; have q1 := blk_at E2.out 1 _ rfl; have q2 := blk_at E2.out 2 _ rfl; have q3 := blk_at E2.out 3 _ rfl; have q4 := blk_at E2.out 4 _ rfl; have q5 := blk_at E2.out 5 _ rfl)
      go_upto_region 8 with (first
        | (go_at_call 28; (with_reducible refine (Blk.parent_any _ _ _ _ _ _ _).mono ?_); rintro e w7 ⟨rfl, hb⟩; have HB7 := Sd.mk (below_then HB6.out hb); have E17 := Sd.mk (blk_keep E16.out hb); have E27 := Sd.mk (blk_keep E2.out hb); clear hb)
        | (go_at_call 87; (with_reducible refine (get_z (HF.out.below HB7.out) z2.jb HG2.out.sz).mono ?_); rintro e w8 ⟨z3, ok3, rfl, hgt, hb⟩; have HG3 := Sd.mk hgt; have HB8 := Sd.mk (below_then HB7.out hb); have E18 := Sd.mk (blk_keep E17.out hb); have E28 := Sd.mk (blk_keep E27.out hb); clear hgt hb))
      clear q0 q1 q2 q3 q4 q5
      have b5 := below_one w8 (.cells #[.int .i64 z3.v, .int .i64 z3.p, .int .i64 z3.jv, .string z3.jb, .slice z3.sa z3.sn z3.sc, .slice z3.a z3.n z3.c] 42)
      have E3 := Sd.mk (blk_new w8 (.cells #[.int .i64 z3.v, .int .i64 z3.p, .int .i64 z3.jv, .string z3.jb, .slice z3.sa z3.sn z3.sc, .slice z3.a z3.n z3.c] 42))
      have E19 := Sd.mk (blk_keep E18.out b5)
      have E29 := Sd.mk (blk_keep E28.out b5)
      have HB9 := Sd.mk (below_then HB8.out b5)
      clear b5 HB6 HB7 HB8 E16 E17 E18 E2 E27 E28
      generalize w8.heap.size = g9 at E3 ⊢
      generalize w8.alloc _ = W9 at E19 E29 E3 HB9 ⊢
      have m1 := blk_at E19.out 0 _ rfl
      have m2 := blk_at E29.out 0 _ rfl
      (have q0 := blk_at E3.out 0 _ rfl; have q1 := blk_at E3.out 1 _ rfl; have q2 := blk_at E3.out 2 _ rfl; have q3 := blk_at E3.out 3 _ rfl; have q4 := blk_at E3.out 4 _ rfl; have q5 := blk_at E3.out 5 _ rfl)
      cases ok3 with
      | false =>
        have HR := Sd.mk (show cmt f v h = none from cmt_no3 HX.out.1 HP.out.1 (by rw [← HP.out.2.wk.jb]; exact HG3.out.no rfl))
        go_wp2
        go_ret2
        rw [HR.out]
        exact ⟨rfl, by have h := HB9.out; first | exact h | rwa [hg3] at h⟩
      | true =>
        obtain ⟨y, hy, hw3⟩ := HG3.out.yes rfl
        rw [HP.out.2.wk.jb] at hy
        obtain ⟨v2a, v2b⟩ := HVS.out p (ndAt_some HP.out.1).1
        obtain ⟨v3a, v3b⟩ := HVS.out y (ndAt_some hy).1
        rw [← HP.out.2.wk.v] at v2a v2b
        rw [← hw3.wk.v] at v3a v3b
        have HR := Sd.mk (show cmt f v h = if z1.v = z2.v + 1 ∧ z2.v = z3.v + 1 then some p.b.just.block else none by rw [cmt_yes HX.out.1 HX.out.2.1 HP.out.1 hy, HX.out.2.2.wk.v, HP.out.2.wk.v, hw3.wk.v])
        have HDG := Sd.mk (Blk.dig_any W9 y.b z3.sa z3.sn z3.sc z3.a y.b.batch.length z3.c (hw3.wk.sl.below (by rw [← hg3] at *; exact (HF.out.below HB9.out).bel)) rfl p.b.just.block (ndAt_some hy).2 (by have := hw3.sz; omega))
        rw [← hw3.wk.v, ← hw3.wk.p, ← hw3.wk.jv, ← hw3.wk.jb, ← hw3.wk.n] at HDG
        clear hy hw3
        rcases Decidable.em (z1.v = z2.v + 1) with e1 | e1
        · have k1 : (z1.v == z2.v + 1) = true := beq_iff_eq.2 e1
          have k1b : (z1.v != z2.v + 1) = false := by rw [bne, k1]; rfl
          have HE1 := Sd.mk e1
          clear e1
          rcases Decidable.em (z2.v = z3.v + 1) with e2 | e2
          · have k2 : (z2.v == z3.v + 1) = true := beq_iff_eq.2 e2
            have k2b : (z2.v != z3.v + 1) = false := by rw [bne, k2]; rfl
            have HR2 := Sd.mk (show cmt f v h = some p.b.just.block by rw [HR.out, if_pos ⟨HE1.out, e2⟩])
            clear e2 HR
            go_wp2_with (first
              | (go_at_call 26; (with_reducible refine HDG.out.mono ?_); rintro e w10 ⟨rfl, hb⟩; have HB10 := Sd.mk (below_then HB9.out hb); clear hb))
            go_ret2
            rw [HR2.out]
            exact ⟨rfl, by have h := HB10.out; first | exact h | rwa [hg3] at h⟩
          · have k2 : (z2.v == z3.v + 1) = false := beq_eq_false_iff_ne.2 e2
            have k2b : (z2.v != z3.v + 1) = true := by rw [bne, k2]; rfl
            have HR2 := Sd.mk (show cmt f v h = none by rw [HR.out, if_neg (fun e => e2 e.2)])
            clear e2 HR HDG
            go_wp2
            go_ret2
            rw [HR2.out]
            exact ⟨rfl, by have h := HB9.out; first | exact h | rwa [hg3] at h⟩
        · have k1 : (z1.v == z2.v + 1) = false := beq_eq_false_iff_ne.2 e1
          have k1b : (z1.v != z2.v + 1) = true := by rw [bne, k1]; rfl
          have HR2 := Sd.mk (show cmt f v h = none by rw [HR.out, if_neg (fun e => e1 e.1)])
          clear e1 HR HDG
          go_wp2
          go_ret2
          rw [HR2.out]
          exact ⟨rfl, by have h := HB9.out; first | exact h | rwa [hg3] at h⟩
-- L1>
end Go.Proofs.Ytnomgkmeomlccaa.Fst
set_option linter.unusedVariables false
set_option linter.unusedSimpArgs false
namespace Go.Proofs.Ytnomgkmeomlccaa.Fst
open Go.RowKit Go.Sort Rd Api Own Mv App Num Dig
open Blk (Block Rq rqN fR digB coreB)
open Kee (Bk fB bkK Wk)

-- <L1
set_option maxHeartbeats 4000000 in
set_option maxRecDepth 100000 in
theorem fnd_any {w0 W : World} {f : Fo} {An Ao : Option Addr} {nn cn no co : Nat} (hv : Rv w0 f (.slice An nn cn) (.slice Ao no co) W) (hrt : Rt f) (h : ByteArray) :
    Calls Try.prog 90 #[.agg #[.string f.root, .int .i64 f.height, .slice An nn cn, .slice Ao no co], .string h] W fun e w' => ∃ z ok, e = .returned (.tuple #[.agg #[.int .i64 z.v, .int .i64 z.p, .int .i64 z.jv, .string z.jb, .slice z.sa z.sn z.sc, .slice z.a z.n z.c], .bool ok]) ∧ Gt w0 f h z ok ∧ RowKit.Below W.heap.size W w' := by
  obtain ⟨An', cn', Ao', co', is, js, e1, e2, s1, s2, a1, a2⟩ := hv.open
  simp only [Value.slice.injEq] at e1 e2
  obtain ⟨rfl, hnn, rfl⟩ := e1
  obtain ⟨rfl, hno, rfl⟩ := e2
  have b0 := below_one W (.cells #[.string f.root, .int .i64 f.height, .slice An nn cn, .slice Ao no co] 70)
  have b1 := below_one (W.alloc (.cells #[.string f.root, .int .i64 f.height, .slice An nn cn, .slice Ao no co] 70)) (.cells #[.int .i64 0, .int .i64 0, .int .i64 0, .string ⟨#[]⟩, .slice none 0 0, .slice none 0 0] 42)
  have EF := Sd.mk (blk_keep (blk_new W (.cells #[.string f.root, .int .i64 f.height, .slice An nn cn, .slice Ao no co] 70)) b1)
  have EZ := Sd.mk (blk_new1 W (.cells #[.string f.root, .int .i64 f.height, .slice An nn cn, .slice Ao no co] 70) (.cells #[.int .i64 0, .int .i64 0, .int .i64 0, .string ⟨#[]⟩, .slice none 0 0, .slice none 0 0] 42))
  have HB := Sd.mk (below_then b0 b1)
  obtain ⟨q, hq⟩ : ∃ z, ixz (atI (f.nodes.map (·.b)) h) = z := ⟨_, rfl⟩
  have HAT := Sd.mk (fun W1 (hb : RowKit.Below W.heap.size W W1) => at_any w0 W1 An cn is (f.nodes.map (·.b)) (s1.below hb) a1 nn (by rw [List.length_map]; exact hnn) h q hq)
  have HS := Sd.mk s1
  have HA := Sd.mk a1
  have HNN := Sd.mk hnn
  have nc1 := s1.le
  have nc2 := s1.cap
  rw [a1.len, List.length_map, ← hnn] at nc1
  have HQ := Sd.mk hq
  have HRT := Sd.mk hrt.none
  clear hv s1 s2 a1 a2 b0 b1 hq hnn hno hrt
  go_enter Try.func90, Try.ntmps90
  go_upto_region 1 with (fail)
  have HGE := Sd.mk (show W.heap.size ≤ W.heap.size + 1 by omega)
  generalize W.heap.size + 1 = g4 at EZ HGE ⊢
  generalize hg0 : W.heap.size = g0 at EF ⊢
  generalize (W.alloc _).alloc _ = W1 at EF EZ HB ⊢
  have c2 := blk_at EF.out 2 _ rfl
  go_upto_region 2 with (first
    | (go_at_call 79; (with_reducible refine (HAT.out _ HB.out).mono ?_); rintro e w2 ⟨rfl, hb⟩; have HB2 := Sd.mk (below_then HB.out hb); have EF2 := Sd.mk (blk_keep EF.out hb); have EZ2 := Sd.mk (blk_keep EZ.out hb); clear hb))
  clear c2 EF EZ HB HAT
  cases hat : atI (f.nodes.map (·.b)) h with
  | none =>
    have HN := Sd.mk (atI_none hat)
    have HQ2 := HQ.out
    rw [hat] at HQ2
    have hqv : (-1 : Int) = q := HQ2
    subst hqv
    clear hat HQ HQ2 hg0
    (have E9 := Sd.mk (set6_at (a := .int .i64 0) (b := .int .i64 0) (c := .int .i64 0) (d := .string ⟨#[]⟩) (e := .slice none 0 0) (f := .slice none 0 0) EZ2.out); have HB9 := Sd.mk (below_set6 HB2.out HGE.out (.int .i64 0) (.int .i64 0) (.int .i64 0) (.string ⟨#[]⟩) (.slice none 0 0) (.slice none 0 0)); unfold set6 at E9 HB9; (have d0 := blk_at EZ2.out 0 _ rfl; have d1 := blk_at EZ2.out 1 _ rfl; have d2 := blk_at EZ2.out 2 _ rfl; have d3 := blk_at EZ2.out 3 _ rfl; have d4 := blk_at EZ2.out 4 _ rfl; have d5 := blk_at EZ2.out 5 _ rfl; have f0 := blk_frz EZ2.out 0; have f1 := blk_frz EZ2.out 1; have f2 := blk_frz EZ2.out 2; have f3 := blk_frz EZ2.out 3; have f4 := blk_frz EZ2.out 4; have f5 := blk_frz EZ2.out 5); go_wp2; clear d0 d1 d2 d3 d4 d5 f0 f1 f2 f3 f4 f5; generalize (((((World.setCell _ _ _).setCell _ _).setCell _ _).setCell _ _).setCell _ _).setCell _ _ = W9 at E9 HB9 ⊢; (have y0 := blk_at E9.out 0 _ rfl; have y1 := blk_at E9.out 1 _ rfl; have y2 := blk_at E9.out 2 _ rfl; have y3 := blk_at E9.out 3 _ rfl; have y4 := blk_at E9.out 4 _ rfl; have y5 := blk_at E9.out 5 _ rfl); exact bodyPost_ret (v := .tuple #[.agg #[.int .i64 0, .int .i64 0, .int .i64 0, .string ⟨#[]⟩, .slice none 0 0, .slice none 0 0], .bool false]) (by simp [results, Try.results90, go_sem, y0, y1, y2, y3, y4, y5]) rfl ⟨⟨0, 0, 0, ⟨#[]⟩, none, 0, 0, none, 0, 0⟩, false, rfl, ⟨fun e => (by cases e), fun _ => HN.out, Nat.zero_le _⟩, HB9.out⟩)
  | some k =>
    obtain ⟨y, hy, hn⟩ := atI_some hat
    have hkn : k < nn := by rw [HNN.out]; exact (List.getElem?_eq_some_iff.1 hy).1
    obtain ⟨t, ht⟩ : ∃ z, is[k]? = some z := ⟨is[k]'(by rw [HA.out.len, List.length_map, ← HNN.out]; exact hkn), List.getElem?_eq_getElem _⟩
    have HW := Sd.mk (HA.out.get ht (show (f.nodes.map (·.b))[k]? = some y.b by rw [List.getElem?_map, hy]; rfl))
    obtain ⟨b3, o3, rfl, -, p1, p2, p3, p4, p5, p6⟩ := it_raw HS.out.row ht
    have y1 := cell_below HB2.out p1
    have y2 := cell_below HB2.out p2
    have y3 := cell_below HB2.out p3
    have y4 := cell_below HB2.out p4
    have y5 := cell_below HB2.out p5
    have y6 := cell_below HB2.out p6
    have HQ2 := HQ.out
    rw [hat] at HQ2
    have hqv : (k : Int) = q := HQ2
    subst hqv
    have kk0 : (0 : Int) ≤ (k : Int) := by omega
    have kk1 : (k : Int) < (nn : Int) := by omega
    have hne : (h.toList == f.root.toList) = false := by
      rw [Rp.str_beq]
      refine decide_eq_false (fun e => ?_)
      have h2 := HRT.out
      rw [← e, hn] at h2
      cases h2
    have HN := Sd.mk hn
    have c0 := blk_at EF2.out 0 _ rfl
    have c2 := blk_at EF2.out 2 _ rfl
    obtain ⟨r, hr⟩ : ∃ r, t.r = r := ⟨_, rfl⟩
    rw [hr] at y1 y2 y3 y4 y5 y6
    have HW2 := Sd.mk (show Bw w0 r y.b by rw [← hr]; exact HW.out.b)
    clear hat HQ HQ2 hy hn ht p1 p2 p3 p4 p5 p6 hg0 HW hr
    (have E9 := Sd.mk (set6_at (a := .int .i64 r.v) (b := .int .i64 r.p) (c := .int .i64 r.jv) (d := .string r.jb) (e := .slice r.sa r.sn r.sc) (f := .slice r.a r.n r.c) EZ2.out); have HB9 := Sd.mk (below_set6 HB2.out HGE.out (.int .i64 r.v) (.int .i64 r.p) (.int .i64 r.jv) (.string r.jb) (.slice r.sa r.sn r.sc) (.slice r.a r.n r.c)); unfold set6 at E9 HB9; (have d0 := blk_at EZ2.out 0 _ rfl; have d1 := blk_at EZ2.out 1 _ rfl; have d2 := blk_at EZ2.out 2 _ rfl; have d3 := blk_at EZ2.out 3 _ rfl; have d4 := blk_at EZ2.out 4 _ rfl; have d5 := blk_at EZ2.out 5 _ rfl; have f0 := blk_frz EZ2.out 0; have f1 := blk_frz EZ2.out 1; have f2 := blk_frz EZ2.out 2; have f3 := blk_frz EZ2.out 3; have f4 := blk_frz EZ2.out 4; have f5 := blk_frz EZ2.out 5); go_wp2; clear d0 d1 d2 d3 d4 d5 f0 f1 f2 f3 f4 f5; generalize (((((World.setCell _ _ _).setCell _ _).setCell _ _).setCell _ _).setCell _ _).setCell _ _ = W9 at E9 HB9 ⊢; (have y0 := blk_at E9.out 0 _ rfl; have y1 := blk_at E9.out 1 _ rfl; have y2 := blk_at E9.out 2 _ rfl; have y3 := blk_at E9.out 3 _ rfl; have y4 := blk_at E9.out 4 _ rfl; have y5 := blk_at E9.out 5 _ rfl); exact bodyPost_ret (v := .tuple #[.agg #[.int .i64 r.v, .int .i64 r.p, .int .i64 r.jv, .string r.jb, .slice r.sa r.sn r.sc, .slice r.a r.n r.c], .bool true]) (by simp [results, Try.results90, go_sem, y0, y1, y2, y3, y4, y5]) rfl ⟨r, true, rfl, ⟨fun _ => ⟨y, HN.out, HW2.out⟩, fun e => (by cases e), by rw [HW2.out.wk.jb]; exact just_le HW2.out.sz⟩, HB9.out⟩)
set_option maxHeartbeats 4000000 in
set_option maxRecDepth 100000 in
theorem reflearn_any {w0 W : World} {f : Fo} {An Ao : Option Addr} {nn cn no co : Nat} (hv : Rv w0 f (.slice An nn cn) (.slice Ao no co) W) (hrt : Rt f) (sv sl : Int) (v : Int) (h : ByteArray) (sa : Option Addr) (sn sc : Nat) (r : Int) (hr : lrn f v h sl = r) :
    Calls Try.prog 57 #[.agg #[.string f.root, .int .i64 f.height, .slice An nn cn, .slice Ao no co], .agg #[.int .i64 sv, .int .i64 sl], .agg #[.int .i64 v, .string h, .slice sa sn sc]] W fun e w' => e = .returned (.agg #[.int .i64 sv, .int .i64 r]) ∧ RowKit.Below W.heap.size W w' := by
  subst hr
  have b0 := below_one W (.cells #[.string f.root, .int .i64 f.height, .slice An nn cn, .slice Ao no co] 70)
  have b1 := below_one (W.alloc (.cells #[.string f.root, .int .i64 f.height, .slice An nn cn, .slice Ao no co] 70)) (.cells #[.int .i64 sv, .int .i64 sl] 89)
  have b2 := below_one ((W.alloc (.cells #[.string f.root, .int .i64 f.height, .slice An nn cn, .slice Ao no co] 70)).alloc (.cells #[.int .i64 sv, .int .i64 sl] 89)) (.cells #[.int .i64 v, .string h, .slice sa sn sc] 39)
  have b3 := below_one (((W.alloc (.cells #[.string f.root, .int .i64 f.height, .slice An nn cn, .slice Ao no co] 70)).alloc (.cells #[.int .i64 sv, .int .i64 sl] 89)).alloc (.cells #[.int .i64 v, .string h, .slice sa sn sc] 39)) (.cells #[.int .i64 0, .int .i64 0] 89)
  have EF := Sd.mk (blk_keep (blk_new W (.cells #[.string f.root, .int .i64 f.height, .slice An nn cn, .slice Ao no co] 70)) (below_then b1 (below_then b2 b3)))
  have ES := Sd.mk (blk_keep (blk_new1 W (.cells #[.string f.root, .int .i64 f.height, .slice An nn cn, .slice Ao no co] 70) (.cells #[.int .i64 sv, .int .i64 sl] 89)) (below_then b2 b3))
  have EC := Sd.mk (blk_keep (blk_new ((W.alloc (.cells #[.string f.root, .int .i64 f.height, .slice An nn cn, .slice Ao no co] 70)).alloc (.cells #[.int .i64 sv, .int .i64 sl] 89)) (.cells #[.int .i64 v, .string h, .slice sa sn sc] 39)) b3)
  have EZ := Sd.mk (blk_new (((W.alloc (.cells #[.string f.root, .int .i64 f.height, .slice An nn cn, .slice Ao no co] 70)).alloc (.cells #[.int .i64 sv, .int .i64 sl] 89)).alloc (.cells #[.int .i64 v, .string h, .slice sa sn sc] 39)) (.cells #[.int .i64 0, .int .i64 0] 89))
  rw [show ((W.alloc (.cells #[.string f.root, .int .i64 f.height, .slice An nn cn, .slice Ao no co] 70)).alloc (.cells #[.int .i64 sv, .int .i64 sl] 89)).heap.size = W.heap.size + 1 + 1 by simp] at EC
  rw [show (((W.alloc (.cells #[.string f.root, .int .i64 f.height, .slice An nn cn, .slice Ao no co] 70)).alloc (.cells #[.int .i64 sv, .int .i64 sl] 89)).alloc (.cells #[.int .i64 v, .string h, .slice sa sn sc] 39)).heap.size = W.heap.size + 1 + 1 + 1 by simp] at EZ
  have HB := Sd.mk (below_then b0 (below_then b1 (below_then b2 b3)))
  have HFD := Sd.mk (fun W1 (hb : RowKit.Below W.heap.size W W1) => fnd_any (hv.below hb) hrt h)
  clear b0 b1 b2 b3 hv hrt
  go_enter Try.func57, Try.ntmps57
  go_upto_region 1 with (fail)
  have HGE := Sd.mk (show W.heap.size ≤ W.heap.size + 1 + 1 + 1 by omega)
  generalize W.heap.size + 1 + 1 + 1 = g6 at EZ HGE ⊢
  generalize W.heap.size + 1 + 1 = g5 at EC ⊢
  generalize W.heap.size + 1 = g4 at ES ⊢
  generalize hg0 : W.heap.size = g0 at EF ⊢
  generalize (((W.alloc _).alloc _).alloc _).alloc _ = W1 at EF ES EC EZ HB ⊢
  have c0 := blk_at EF.out 0 _ rfl
  have c1 := blk_at EF.out 1 _ rfl
  have c2 := blk_at EF.out 2 _ rfl
  have c3 := blk_at EF.out 3 _ rfl
  have k1 := blk_at EC.out 1 _ rfl
  go_upto_region 2 with (first
    | (go_at_call 90; (with_reducible refine (HFD.out _ HB.out).mono ?_); rintro e w2 ⟨z, ok, rfl, hgt, hb⟩; have HG := Sd.mk hgt; have HB2 := Sd.mk (below_then HB.out hb); have EC2 := Sd.mk (blk_keep EC.out hb); have ES2 := Sd.mk (blk_keep ES.out hb); have EZ2 := Sd.mk (blk_keep EZ.out hb); clear hgt hb))
  clear c0 c1 c2 c3 k1 hg0
  have b5 := below_one w2 (.cells #[.int .i64 z.v, .int .i64 z.p, .int .i64 z.jv, .string z.jb, .slice z.sa z.sn z.sc, .slice z.a z.n z.c] 42)
  have E6 := Sd.mk (blk_new w2 (.cells #[.int .i64 z.v, .int .i64 z.p, .int .i64 z.jv, .string z.jb, .slice z.sa z.sn z.sc, .slice z.a z.n z.c] 42))
  have HB6 := Sd.mk (below_then HB2.out b5)
  have ES6 := Sd.mk (blk_keep ES2.out b5)
  have EC6 := Sd.mk (blk_keep EC2.out b5)
  have EZ6 := Sd.mk (blk_keep EZ2.out b5)
  clear b5 EF EC EZ HB ES ES2 EZ2 EC2 HB2 HFD
  generalize w2.heap.size = g7 at E6 ⊢
  generalize w2.alloc _ = W6 at E6 HB6 ES6 EZ6 EC6 ⊢
  have q0 := blk_at E6.out 0 _ rfl
  have q2 := blk_at E6.out 2 _ rfl
  have k0 := blk_at EC6.out 0 _ rfl
  have s0 := blk_at ES6.out 0 _ rfl
  have s1 := blk_at ES6.out 1 _ rfl
  have d0 := blk_at EZ6.out 0 _ rfl
  have d1 := blk_at EZ6.out 1 _ rfl
  have f0 := blk_frz EZ6.out 0
  have f1 := blk_frz EZ6.out 1
  cases ok with
  | false =>
    have HR := Sd.mk (show lrn f v h sl = sl by unfold lrn; rw [HG.out.no rfl])
    (have E9 := Sd.mk (blk_set3 (blk_set3 EZ6.out 0 (.int .i64 sv)) 1 (.int .i64 (sl))); have HB9 := Sd.mk ((HB6.out.setCell (p := ⟨g6, 0, none⟩) HGE.out (.int .i64 sv)).setCell (p := ⟨g6, 1, none⟩) HGE.out (.int .i64 (sl))); go_wp2; clear s0 s1 d0 d1 f0 f1 q0 q2 k0; generalize (World.setCell _ _ _).setCell _ _ = W9 at E9 HB9 ⊢; have y0 := blk_at E9.out 0 _ rfl; have y1 := blk_at E9.out 1 _ rfl; rw [HR.out]; exact bodyPost_ret (v := .agg #[.int .i64 sv, .int .i64 (sl)]) (by simp [results, Try.results57, go_sem, y0, y1]) rfl ⟨rfl, HB9.out⟩)
  | true =>
    obtain ⟨x, hx, hw⟩ := HG.out.yes rfl
    have HR0 := Sd.mk (show lrn f v h sl = if z.v = v then max sl z.jv else sl by unfold lrn; rw [hx, hw.wk.v, hw.wk.jv])
    clear hx hw
    rcases Decidable.em (z.v = v) with e | e
    · have ke : (z.v == v) = true := beq_iff_eq.2 e
      have HR1 := Sd.mk (show lrn f v h sl = max sl z.jv by rw [HR0.out, if_pos e])
      clear e HR0
      rcases Decidable.em (sl < z.jv) with e | e
      · have kl : decide (sl < z.jv) = true := decide_eq_true e
        have HR := Sd.mk (show lrn f v h sl = z.jv by rw [HR1.out]; omega)
        clear e HR1
        (have E9 := Sd.mk (blk_set3 (blk_set3 EZ6.out 0 (.int .i64 sv)) 1 (.int .i64 (z.jv))); have HB9 := Sd.mk ((HB6.out.setCell (p := ⟨g6, 0, none⟩) HGE.out (.int .i64 sv)).setCell (p := ⟨g6, 1, none⟩) HGE.out (.int .i64 (z.jv))); go_wp2; clear s0 s1 d0 d1 f0 f1 q0 q2 k0; generalize (World.setCell _ _ _).setCell _ _ = W9 at E9 HB9 ⊢; have y0 := blk_at E9.out 0 _ rfl; have y1 := blk_at E9.out 1 _ rfl; rw [HR.out]; exact bodyPost_ret (v := .agg #[.int .i64 sv, .int .i64 (z.jv)]) (by simp [results, Try.results57, go_sem, y0, y1]) rfl ⟨rfl, HB9.out⟩)
      · have kl : decide (sl < z.jv) = false := decide_eq_false e
        have HR := Sd.mk (show lrn f v h sl = sl by rw [HR1.out]; omega)
        clear e HR1
        (have E9 := Sd.mk (blk_set3 (blk_set3 EZ6.out 0 (.int .i64 sv)) 1 (.int .i64 (sl))); have HB9 := Sd.mk ((HB6.out.setCell (p := ⟨g6, 0, none⟩) HGE.out (.int .i64 sv)).setCell (p := ⟨g6, 1, none⟩) HGE.out (.int .i64 (sl))); go_wp2; clear s0 s1 d0 d1 f0 f1 q0 q2 k0; generalize (World.setCell _ _ _).setCell _ _ = W9 at E9 HB9 ⊢; have y0 := blk_at E9.out 0 _ rfl; have y1 := blk_at E9.out 1 _ rfl; rw [HR.out]; exact bodyPost_ret (v := .agg #[.int .i64 sv, .int .i64 (sl)]) (by simp [results, Try.results57, go_sem, y0, y1]) rfl ⟨rfl, HB9.out⟩)
    · have ke : (z.v == v) = false := beq_eq_false_iff_ne.2 e
      have HR := Sd.mk (show lrn f v h sl = sl by rw [HR0.out, if_neg e])
      clear e HR0
      (have E9 := Sd.mk (blk_set3 (blk_set3 EZ6.out 0 (.int .i64 sv)) 1 (.int .i64 (sl))); have HB9 := Sd.mk ((HB6.out.setCell (p := ⟨g6, 0, none⟩) HGE.out (.int .i64 sv)).setCell (p := ⟨g6, 1, none⟩) HGE.out (.int .i64 (sl))); go_wp2; clear s0 s1 d0 d1 f0 f1 q0 q2 k0; generalize (World.setCell _ _ _).setCell _ _ = W9 at E9 HB9 ⊢; have y0 := blk_at E9.out 0 _ rfl; have y1 := blk_at E9.out 1 _ rfl; rw [HR.out]; exact bodyPost_ret (v := .agg #[.int .i64 sv, .int .i64 (sl)]) (by simp [results, Try.results57, go_sem, y0, y1]) rfl ⟨rfl, HB9.out⟩)
set_option maxHeartbeats 8000000 in
set_option maxRecDepth 100000 in
theorem refcommit_any {w0 W : World} {f : Fo} {An Ao : Option Addr} {nn cn no co : Nat} (hv : Rv w0 f (.slice An nn cn) (.slice Ao no co) W) (hrt : Rt f) (hvs : Vs f) (v : Int) (h : ByteArray) (sa : Option Addr) (sn sc : Nat) (r : Option ByteArray) (hr : cmt f v h = r) :
    Calls Try.prog 55 #[.agg #[.string f.root, .int .i64 f.height, .slice An nn cn, .slice Ao no co], .agg #[.int .i64 v, .string h, .slice sa sn sc]] W fun e w' => e = .returned (.tuple #[.string (sO r), .bool r.isSome]) ∧ RowKit.Below W.heap.size W w' := by
  subst hr
  have b0 := below_one W (.cells #[.string f.root, .int .i64 f.height, .slice An nn cn, .slice Ao no co] 70)
  have b1 := below_one (W.alloc (.cells #[.string f.root, .int .i64 f.height, .slice An nn cn, .slice Ao no co] 70)) (.cells #[.int .i64 v, .string h, .slice sa sn sc] 39)
  have EF := Sd.mk (blk_keep (blk_new W (.cells #[.string f.root, .int .i64 f.height, .slice An nn cn, .slice Ao no co] 70)) b1)
  have EC := Sd.mk (blk_new1 W (.cells #[.string f.root, .int .i64 f.height, .slice An nn cn, .slice Ao no co] 70) (.cells #[.int .i64 v, .string h, .slice sa sn sc] 39))
  have HB := Sd.mk (below_then b0 b1)
  have HFD := Sd.mk (fun W1 (hb : RowKit.Below W.heap.size W W1) (s : ByteArray) => fnd_any (hv.below hb) hrt s)
  have HVS := Sd.mk hvs
  clear b0 b1 hv hrt hvs
  go_enter Try.func55, Try.ntmps55
  go_upto_region 1 with (fail)
  generalize W.heap.size + 1 = g3 at EC ⊢
  generalize hg0 : W.heap.size = g0 at EF ⊢
  generalize (W.alloc _).alloc _ = W1 at EF EC HB ⊢
  (have c0 := blk_at EF.out 0 _ rfl; have c1 := blk_at EF.out 1 _ rfl; have c2 := blk_at EF.out 2 _ rfl; have c3 := blk_at EF.out 3 _ rfl)
  have k1 := blk_at EC.out 1 _ rfl
  go_upto_region 2 with (first
    | (go_at_call 90; (with_reducible refine (HFD.out _ HB.out h).mono ?_); rintro e w2 ⟨z1, x1, rfl, hgt, hb⟩; have HG1 := Sd.mk hgt; have HB2 := Sd.mk (below_then HB.out hb); have EC2 := Sd.mk (blk_keep EC.out hb); have EF2 := Sd.mk (blk_keep EF.out hb); clear hgt hb))
  (clear c0 c1 c2 c3)
  clear k1
  have b5 := below_one w2 (.cells #[.int .i64 z1.v, .int .i64 z1.p, .int .i64 z1.jv, .string z1.jb, .slice z1.sa z1.sn z1.sc, .slice z1.a z1.n z1.c] 42)
  have E1 := Sd.mk (blk_new w2 (.cells #[.int .i64 z1.v, .int .i64 z1.p, .int .i64 z1.jv, .string z1.jb, .slice z1.sa z1.sn z1.sc, .slice z1.a z1.n z1.c] 42))
  have HB3 := Sd.mk (below_then HB2.out b5)
  have EC3 := Sd.mk (blk_keep EC2.out b5)
  have EF3 := Sd.mk (blk_keep EF2.out b5)
  clear b5 EF EC HB EC2 EF2 HB2
  generalize w2.heap.size = g6 at E1 ⊢
  generalize w2.alloc _ = W3 at E1 HB3 EC3 EF3 ⊢
  (have c0 := blk_at EF3.out 0 _ rfl; have c1 := blk_at EF3.out 1 _ rfl; have c2 := blk_at EF3.out 2 _ rfl; have c3 := blk_at EF3.out 3 _ rfl)
  have m3 := blk_at E1.out 3 _ rfl
  go_upto_region 3 with (first
    | (go_at_call 90; (with_reducible refine (HFD.out _ HB3.out z1.jb).mono ?_); rintro e w4 ⟨z2, x2, rfl, hgt, hb⟩; have HG2 := Sd.mk hgt; have HB4 := Sd.mk (below_then HB3.out hb); have EC4 := Sd.mk (blk_keep EC3.out hb); have EF4 := Sd.mk (blk_keep EF3.out hb); have E14 := Sd.mk (blk_keep E1.out hb); clear hgt hb))
  (clear c0 c1 c2 c3)
  clear m3
  have b5 := below_one w4 (.cells #[.int .i64 z2.v, .int .i64 z2.p, .int .i64 z2.jv, .string z2.jb, .slice z2.sa z2.sn z2.sc, .slice z2.a z2.n z2.c] 42)
  have E2 := Sd.mk (blk_new w4 (.cells #[.int .i64 z2.v, .int .i64 z2.p, .int .i64 z2.jv, .string z2.jb, .slice z2.sa z2.sn z2.sc, .slice z2.a z2.n z2.c] 42))
  have HB5 := Sd.mk (below_then HB4.out b5)
  have EC5 := Sd.mk (blk_keep EC4.out b5)
  have EF5 := Sd.mk (blk_keep EF4.out b5)
  have E15 := Sd.mk (blk_keep E14.out b5)
  clear b5 HB3 EC3 EF3 E1 HB4 EC4 EF4 E14
  generalize w4.heap.size = g8 at E2 ⊢
  generalize w4.alloc _ = W5 at E2 HB5 EC5 EF5 E15 ⊢
  (have c0 := blk_at EF5.out 0 _ rfl; have c1 := blk_at EF5.out 1 _ rfl; have c2 := blk_at EF5.out 2 _ rfl; have c3 := blk_at EF5.out 3 _ rfl)
  have m3 := blk_at E2.out 3 _ rfl
  go_upto_region 4 with (first
    | (go_at_call 90; (with_reducible refine (HFD.out _ HB5.out z2.jb).mono ?_); rintro e w6 ⟨z3, x3, rfl, hgt, hb⟩; have HG3 := Sd.mk hgt; have HB6 := Sd.mk (below_then HB5.out hb); have EC6 := Sd.mk (blk_keep EC5.out hb); have EF6 := Sd.mk (blk_keep EF5.out hb); have E16 := Sd.mk (blk_keep E15.out hb); have E26 := Sd.mk (blk_keep E2.out hb); clear hgt hb))
  (clear c0 c1 c2 c3)
  clear m3
  have b5 := below_one w6 (.cells #[.int .i64 z3.v, .int .i64 z3.p, .int .i64 z3.jv, .string z3.jb, .slice z3.sa z3.sn z3.sc, .slice z3.a z3.n z3.c] 42)
  have HB7 := Sd.mk (below_then HB6.out b5)
  have EC7 := Sd.mk (blk_keep EC6.out b5)
  have EF7 := Sd.mk (blk_keep EF6.out b5)
  have E17 := Sd.mk (blk_keep E16.out b5)
  have E27 := Sd.mk (blk_keep E26.out b5)
  clear b5 HB5 EC5 EF5 E15 E2 HB6 EC6 EF6 E16 E26
  generalize w6.heap.size = g10
  generalize w6.alloc _ = W7 at HB7 EC7 EF7 E17 E27 ⊢
  have n1 := blk_at E17.out 0 _ rfl
  have k0 := blk_at EC7.out 0 _ rfl
  cases x1 with
  | false =>
    have HR := Sd.mk (show cmt f v h = none by unfold cmt; rw [HG1.out.no rfl])
    (go_wp2; go_ret2; rw [HR.out]; exact ⟨rfl, by have h := HB7.out; first | exact h | rwa [hg0] at h⟩)
  | true =>
    obtain ⟨x, hx, hw1⟩ := HG1.out.yes rfl
    have HX := Sd.mk (And.intro hx hw1)
    clear hx hw1
    cases x2 with
    | false =>
      have HR := Sd.mk (show cmt f v h = none from cmt_no2 HX.out.1 (by rw [← HX.out.2.wk.jb]; exact HG2.out.no rfl))
      (go_wp2; go_ret2; rw [HR.out]; exact ⟨rfl, by have h := HB7.out; first | exact h | rwa [hg0] at h⟩)
    | true =>
      obtain ⟨p, hp, hw2⟩ := HG2.out.yes rfl
      rw [HX.out.2.wk.jb] at hp
      have HP := Sd.mk (And.intro hp hw2)
      clear hp hw2
      cases x3 with
      | false =>
        have HR := Sd.mk (show cmt f v h = none from cmt_no3 HX.out.1 HP.out.1 (by rw [← HP.out.2.wk.jb]; exact HG3.out.no rfl))
        (go_wp2; go_ret2; rw [HR.out]; exact ⟨rfl, by have h := HB7.out; first | exact h | rwa [hg0] at h⟩)
      | true =>
        obtain ⟨y, hy, -⟩ := HG3.out.yes rfl
        have HY := Sd.mk hy
        clear hy
        rcases Decidable.em (z1.v = v) with e | e
        · have ke : (z1.v == v) = true := beq_iff_eq.2 e
          have kn : (z1.v != v) = false := by rw [bne, ke]; rfl
          have HE := Sd.mk e
          clear e
          (have c0 := blk_at EF7.out 0 _ rfl; have c1 := blk_at EF7.out 1 _ rfl; have c2 := blk_at EF7.out 2 _ rfl; have c3 := blk_at EF7.out 3 _ rfl)
          have m3 := blk_at E27.out 3 _ rfl
          go_upto_region 7 with (first
            | (go_at_call 90; (with_reducible refine (HFD.out _ HB7.out z2.jb).mono ?_); rintro e w8 ⟨z4, x4, rfl, hgt, hb⟩; have HG4 := Sd.mk hgt; have HB8 := Sd.mk (below_then HB7.out hb); have E18 := Sd.mk (blk_keep E17.out hb); have E28 := Sd.mk (blk_keep E27.out hb); clear hgt hb))
          (clear c0 c1 c2 c3)
          clear m3 n1 k0 ke kn
          have b5 := below_one w8 (.cells #[.int .i64 z4.v, .int .i64 z4.p, .int .i64 z4.jv, .string z4.jb, .slice z4.sa z4.sn z4.sc, .slice z4.a z4.n z4.c] 42)
          have E4 := Sd.mk (blk_new w8 (.cells #[.int .i64 z4.v, .int .i64 z4.p, .int .i64 z4.jv, .string z4.jb, .slice z4.sa z4.sn z4.sc, .slice z4.a z4.n z4.c] 42))
          have HB9 := Sd.mk (below_then HB8.out b5)
          have E19 := Sd.mk (blk_keep E18.out b5)
          have E29 := Sd.mk (blk_keep E28.out b5)
          clear b5 HB7 EC7 EF7 E17 E27 HB8 E18 E28 HFD
          generalize w8.heap.size = g12 at E4 ⊢
          generalize w8.alloc _ = W9 at HB9 E4 E19 E29 ⊢
          have hx4 : x4 = true := by
            cases x4 with
            | true => rfl
            | false => have := HG4.out.no rfl; rw [HY.out] at this; cases this
          subst hx4
          obtain ⟨y2, hy2, hw4⟩ := HG4.out.yes rfl
          rw [HP.out.2.wk.jb] at hy2
          obtain ⟨v2a, v2b⟩ := HVS.out p (ndAt_some HP.out.1).1
          obtain ⟨v4a, v4b⟩ := HVS.out y2 (ndAt_some hy2).1
          rw [← HP.out.2.wk.v] at v2a v2b
          rw [← hw4.wk.v] at v4a v4b
          have HR := Sd.mk (show cmt f v h = if z1.v = z2.v + 1 ∧ z2.v = z4.v + 1 then some p.b.just.block else none by rw [cmt_yes HX.out.1 (by rw [← HX.out.2.wk.v]; exact HE.out) HP.out.1 hy2, HX.out.2.wk.v, HP.out.2.wk.v, hw4.wk.v])
          have HJB := Sd.mk HP.out.2.wk.jb
          clear hy2 hw4
          have n1 := blk_at E19.out 0 _ rfl
          have n2 := blk_at E29.out 0 _ rfl
          have n23 := blk_at E29.out 3 _ rfl
          have n4 := blk_at E4.out 0 _ rfl
          rcases Decidable.em (z2.v + 1 = z1.v) with e1 | e1
          · have k1 : (z2.v + 1 == z1.v) = true := beq_iff_eq.2 e1
            have k1b : (z2.v + 1 != z1.v) = false := by rw [bne, k1]; rfl
            have HE1 := Sd.mk e1
            clear e1
            rcases Decidable.em (z4.v + 1 = z2.v) with e2 | e2
            · have k2 : (z4.v + 1 == z2.v) = true := beq_iff_eq.2 e2
              have k2b : (z4.v + 1 != z2.v) = false := by rw [bne, k2]; rfl
              have HR2 := Sd.mk (show cmt f v h = some z2.jb by rw [HR.out, if_pos ⟨HE1.out.symm, e2.symm⟩, HJB.out])
              clear e2 HR
              go_wp2
              go_ret2
              rw [HR2.out]
              exact ⟨rfl, by have h := HB9.out; first | exact h | rwa [hg0] at h⟩
            · have k2 : (z4.v + 1 == z2.v) = false := beq_eq_false_iff_ne.2 e2
              have k2b : (z4.v + 1 != z2.v) = true := by rw [bne, k2]; rfl
              have HR2 := Sd.mk (show cmt f v h = none by rw [HR.out, if_neg (fun e => e2 e.2.symm)])
              clear e2 HR
              go_wp2
              go_ret2
              rw [HR2.out]
              exact ⟨rfl, by have h := HB9.out; first | exact h | rwa [hg0] at h⟩
          · have k1 : (z2.v + 1 == z1.v) = false := beq_eq_false_iff_ne.2 e1
            have k1b : (z2.v + 1 != z1.v) = true := by rw [bne, k1]; rfl
            have HR2 := Sd.mk (show cmt f v h = none by rw [HR.out, if_neg (fun e => e1 e.1.symm)])
            clear e1 HR
            go_wp2
            go_ret2
            rw [HR2.out]
            exact ⟨rfl, by have h := HB9.out; first | exact h | rwa [hg0] at h⟩
        · have ke : (z1.v == v) = false := beq_eq_false_iff_ne.2 e
          have kn : (z1.v != v) = true := by rw [bne, ke]; rfl
          have HR := Sd.mk (show cmt f v h = none from cmt_no (fun x' hx' e2 => by rw [HX.out.1] at hx'; cases Option.some.inj hx'; exact e (HX.out.2.wk.v.trans e2)))
          clear e
          (go_wp2; go_ret2; rw [HR.out]; exact ⟨rfl, by have h := HB7.out; first | exact h | rwa [hg0] at h⟩)
-- L1>
end Go.Proofs.Ytnomgkmeomlccaa.Fst

/- Whether a message is of a size that is looked at; its text, the node's and the reference's: walked. -/
import Derived.Test.YtnomgkmeomlccaaGreatBlkA
import Derived.Test.YtnomgkmeomlccaaGreatOpc
set_option linter.unusedVariables false
set_option linter.unusedSimpArgs false
namespace Go.Proofs.YtnomgkmeomlccaaGreat.Blk
open Go.RowKit Go.Sort Rd Api _root_.Go.Proofs.YtnomgkmeomlccaaGreat.Own Mv App Num Dig

set_option maxHeartbeats 8000000 in
set_option maxRecDepth 100000 in
theorem few_any (w : World) (x : Block) (A : Option Addr) (c : Nat) (B : Option Addr) (d : Nat) (h : Sl Rp.sgK w A c x.just.sigs) (h2 : Sl rqN w B d x.batch) (n m : Nat) (hn : n = x.just.sigs.length) (hm : m = x.batch.length) :
    Calls Tryz.prog 11 #[.agg #[.int .i64 x.view, .int .i64 x.prop, .int .i64 x.just.view, .string x.just.block, .slice A n c, .slice B m d]] w (Sg.Tells (blkFew x) w) := by
  have hb0 := below_one w (.cells #[.int .i64 x.view, .int .i64 x.prop, .int .i64 x.just.view, .string x.just.block, .slice A n c, .slice B m d] 27)
  have HB := Sd.mk hb0
  have HS := Sd.mk (h2.below hb0)
  have HFC := Sd.mk (fun W (hb : Below (w.alloc (.cells #[.int .i64 x.view, .int .i64 x.prop, .int .i64 x.just.view, .string x.just.block, .slice A n c, .slice B m d] 27)).heap.size (w.alloc (.cells #[.int .i64 x.view, .int .i64 x.prop, .int .i64 x.just.view, .string x.just.block, .slice A n c, .slice B m d] 27)) W) => Crt.few_any W x.just A c ((h.below hb0).below hb) n hn)
  have X0 := Sd.mk (blk_new w (.cells #[.int .i64 x.view, .int .i64 x.prop, .int .i64 x.just.view, .string x.just.block, .slice A n c, .slice B m d] 27))
  have mc := Nat.le_trans h2.le h2.cap
  rw [← hm] at mc
  have HM := Sd.mk hm
  clear h h2 hn hm hb0
  go_enter Tryz.func11, Tryz.ntmps11
  go_upto_region 2 with (fail)
  generalize w.heap.size = Bx at X0 ⊢
  generalize w.alloc _ = W1 at X0 HB HS HFC ⊢
  go_loopg [3] m (fun gk v3 wr => ∃ i, i + gk = m ∧ i ≤ 20 ∧ v3 = .int .i64 (i : Nat) ∧ Sd (∀ s ∈ x.batch.take i, s.b.size ≤ 60) ∧ Sd (Below W1.heap.size W1 wr))
  case atStart => exact ⟨0, by omega, by omega, rfl, ⟨fun t ht => by simp at ht⟩, ⟨Below.refl _ _⟩⟩
  case round =>
    obtain ⟨i, hi, hi20, rfl, HA, HW⟩ := hrel
    have X1 := Sd.mk (blk_keep X0.out HW.out)
    have c2 := blk_at X1.out 2 _ rfl
    have c3 := blk_at X1.out 3 _ rfl
    have c4 := blk_at X1.out 4 _ rfl
    have c5 := blk_at X1.out 5 _ rfl
    have bad : ∀ (v : Bool) (W' : World), v = false → Below W1.heap.size W1 W' → Sg.Tells (blkFew x) w (.returned (.bool v)) W' := fun v W' hv hb => ⟨v, rfl, fun h => (by rw [hv] at h; cases h), below_then HB.out hb⟩
    have HBAD := Sd.mk bad
    clear bad
    by_cases hlt : i < m
    · have hii : (i : Int) < m := by omega
      by_cases h20 : i < 20
      · have h20i : (i : Int) < 20 := by omega
        obtain ⟨y, hy⟩ : ∃ y, x.batch[i]? = some y := ⟨_, List.getElem?_eq_getElem (show i < x.batch.length by rw [← HM.out]; exact hlt)⟩
        obtain ⟨b1, o1, rfl, p0, p1, p2⟩ := rq_at HS.out.row hy
        have q2 := cell_below HW.out p2
        have HY := Sd.mk hy
        clear hy p0 p1 p2
        by_cases h60 : y.b.size ≤ 60
        · have d60 : decide ((60 : Int) < (y.b.size : Int)) = false := decide_eq_false (by omega)
          have HA2 := Sd.mk (show ∀ s ∈ x.batch.take (i + 1), s.b.size ≤ 60 from fun s hs => by
            rw [List.take_add_one, HY.out] at hs
            rcases List.mem_append.1 hs with e | e
            · exact HA.out s e
            · simp at e; subst e; exact h60)
          clear h60
          go_wp2
          go_roundg (gk - 1)
          case measure => omega
          case rel => exact ⟨i + 1, by omega, by omega, by go_num, HA2, HW⟩
        · have d60 : decide ((60 : Int) < (y.b.size : Int)) = true := decide_eq_true (by omega)
          clear h60
          go_wp2
          go_ret
          exact HBAD.out false _ rfl HW.out
      · have h20i : decide ((i : Int) < 20) = false := decide_eq_false (by omega)
        have h20b : decide (i < 20) = false := decide_eq_false (by omega)
        have h10 : decide ((m : Int) ≤ 6) = false := decide_eq_false (by omega)
        have h10b : decide (m ≤ 6) = false := decide_eq_false (by omega)
        go_wp2
        go_ret
        exact HBAD.out false _ rfl HW.out
    · have hii : decide (i < m) = false := decide_eq_false (by omega)
      have hii2 : decide ((i : Int) < (m : Int)) = false := decide_eq_false (by omega)
      have HAL := Sd.mk (show ∀ s ∈ x.batch, s.b.size ≤ 60 by have := HA.out; rwa [List.take_of_length_le (by rw [← HM.out]; omega)] at this)
      by_cases h10 : m ≤ 6
      · have d0 : decide ((m : Int) ≤ 6) = true := decide_eq_true (by omega)
        have d0b : decide (m ≤ 6) = true := decide_eq_true h10
        have HT := Sd.mk (show x.batch.length ≤ 6 by rw [← HM.out]; exact h10)
        clear h10
        go_wp2_with (first
          | (go_at_call 12; (with_reducible refine (HFC.out _ HW.out).mono ?_); rintro e w2 ⟨r, rfl, ht, hb⟩; have HTR := Sd.mk ht; have HB2 := Sd.mk (below_then HW.out hb); clear ht hb))
        go_ret
        exact ⟨r, rfl, fun hr => ⟨HT.out, HAL.out, HTR.out hr⟩, below_then HB.out HB2.out⟩
      · have d0 : decide ((m : Int) ≤ 6) = false := decide_eq_false (by omega)
        have d0b : decide (m ≤ 6) = false := decide_eq_false h10
        clear h10
        go_wp2
        go_ret
        exact HBAD.out false _ rfl HW.out
end Go.Proofs.YtnomgkmeomlccaaGreat.Blk
namespace Go.Proofs.YtnomgkmeomlccaaGreat.Opn
open Go.RowKit Go.Sort Rd Api _root_.Go.Proofs.YtnomgkmeomlccaaGreat.Own Mv App Num Dig
open Blk (Block Rq rqN rqK blkK digB coreB blkFew)

/-- a message -/
structure Msg where
  kind : Int
  frm : Int
  too : Int
  view : Int
  hash : ByteArray
  blk : Block
  crt : Rp.Cert
  sig : Sg.Sig
  req : Rq
  index : Int
  tag : ByteArray
def msgK : Rk Msg := Rk.iso (Rk.pair (Rk.int .i64) (Rk.pair (Rk.int .i64) (Rk.pair (Rk.int .i64) (Rk.pair (Rk.int .i64) (Rk.pair Rk.str (Rk.pair blkK (Rk.pair Crt.certK (Rk.pair Sg.sigK (Rk.pair rqK (Rk.pair (Rk.int .i64) (Rk.pair Rk.str Rk.unit))))))))))) (fun x => (x.kind, x.frm, x.too, x.view, x.hash, x.blk, x.crt, x.sig, x.req, x.index, x.tag, ()))
theorem opens_msg : Opens Tryz.prog 34 msgK :=
  opens_iso _ (fun (a, b, c, d, e, f, g, h, i, j, k, _) => ⟨a, b, c, d, e, f, g, h, i, j, k⟩) (fun _ => rfl) (opens_struct Tryz.underlying34 (by kernel_rfl) (fs_cons rfl (by kernel_rfl) (opens_int Tryz.underlying3) (fs_cons rfl (by kernel_rfl) (opens_int Tryz.underlying3) (fs_cons rfl (by kernel_rfl) (opens_int Tryz.underlying3) (fs_cons rfl (by kernel_rfl) (opens_int Tryz.underlying3) (fs_cons rfl (by kernel_rfl) (opens_str Tryz.underlying9) (fs_cons rfl (by kernel_rfl) Blk.opens_blk (fs_cons rfl (by kernel_rfl) Crt.opens_cert (fs_cons rfl (by kernel_rfl) Sg.opens_sig (fs_cons rfl (by kernel_rfl) Blk.opens_rq (fs_cons rfl (by kernel_rfl) (opens_int Tryz.underlying3) (fs_cons rfl (by kernel_rfl) (opens_str Tryz.underlying9) (fs_nil _)))))))))))))
/-- a message's cells, and what hangs on them -/
structure Ml (w : World) (x : Msg) (A : Option Addr) (n c : Nat) (B : Option Addr) (m d : Nat) (C : Option Addr) (k e : Nat) (D : Option Addr) (l f : Nat) : Prop where
  hn : n = x.blk.just.sigs.length
  hm : m = x.blk.batch.length
  hk : k = x.crt.sigs.length
  hl : l = x.sig.tags.length
  sa : Sl Rp.sgK w A c x.blk.just.sigs
  sb : Sl rqN w B d x.blk.batch
  sc : Sl Rp.sgK w C e x.crt.sigs
  sd : Sl Rk.str w D f x.sig.tags
theorem msg_open {w : World} {x : Msg} {cs : List Value} (h : msgK.K w x cs) : ∃ A n c B m d C k e D l f, cs = [.int .i64 x.kind, .int .i64 x.frm, .int .i64 x.too, .int .i64 x.view, .string x.hash, .int .i64 x.blk.view, .int .i64 x.blk.prop, .int .i64 x.blk.just.view, .string x.blk.just.block, .slice A n c, .slice B m d, .int .i64 x.crt.view, .string x.crt.block, .slice C k e, .int .i64 x.sig.node, .slice D l f, .int .i64 x.req.c, .int .i64 x.req.s, .string x.req.b, .int .i64 x.index, .string x.tag] ∧ Ml w x A n c B m d C k e D l f := by
  obtain ⟨_, _, rfl, ⟨rfl, h1⟩, _, _, rfl, ⟨rfl, h2⟩, _, _, rfl, ⟨rfl, h3⟩, _, _, rfl, ⟨rfl, h4⟩, _, _, rfl, h5, _, _, rfl, h6, _, _, rfl, h7, _, _, rfl, h8, _, _, rfl, h9, _, _, rfl, ⟨rfl, h10⟩, _, _, rfl, h11, rfl⟩ := h
  obtain ⟨rfl, -⟩ := h5
  obtain ⟨rfl, -⟩ := h11
  obtain ⟨A, c, B, d, rfl, s1, s2⟩ := Blk.blk_open h6
  obtain ⟨C, e, rfl, -, s3⟩ := Crt.cert_open h7
  obtain ⟨D, f, rfl, -, s4⟩ := Sg.sig_open h8
  obtain ⟨rfl, -⟩ := Blk.rqK_open h9
  exact ⟨A, _, c, B, _, d, C, _, e, D, _, f, rfl, rfl, rfl, rfl, rfl, s1, s2, Rp.sg_of s3, s4⟩
def msgFew (x : Msg) : Prop := blkFew x.blk ∧ x.crt.block.size ≤ 50 ∧ x.hash.size ≤ 50 ∧ x.req.b.size ≤ 60
/-- the text -/
def txB (x : Msg) : ByteArray := if x.kind = 1 then ⟨#[80]⟩ ++ digB x.blk else if x.kind = 3 then ⟨#[78]⟩ ++ num4 x.view ++ num4 x.crt.view ++ x.crt.block else if x.kind = 5 then ⟨#[65]⟩ ++ Wtx.reqb x.req.c x.req.s x.req.b ++ num4 x.index ++ x.hash else ⟨#[]⟩
set_option maxHeartbeats 8000000 in
set_option maxRecDepth 100000 in
theorem text_any (w : World) (x : Msg) (A : Option Addr) (n c : Nat) (B : Option Addr) (m d : Nat) (C : Option Addr) (k e : Nat) (D : Option Addr) (l f : Nat) (h : Ml w x A n c B m d C k e D l f) (hf : msgFew x) (t : ByteArray) (ht : txB x = t) :
    Calls Tryz.prog 6 #[.agg #[.int .i64 x.kind, .int .i64 x.frm, .int .i64 x.too, .int .i64 x.view, .string x.hash, .int .i64 x.blk.view, .int .i64 x.blk.prop, .int .i64 x.blk.just.view, .string x.blk.just.block, .slice A n c, .slice B m d, .int .i64 x.crt.view, .string x.crt.block, .slice C k e, .int .i64 x.sig.node, .slice D l f, .int .i64 x.req.c, .int .i64 x.req.s, .string x.req.b, .int .i64 x.index, .string x.tag]] w fun e w' => e = .returned (.string t) ∧ RowKit.Below w.heap.size w w' := by
  have mixed : Tryz.prog.follows .mixedOrders = true := by kernel_rfl
  have HB0 := Sd.mk (below_one w (.cells #[.int .i64 x.kind, .int .i64 x.frm, .int .i64 x.too, .int .i64 x.view, .string x.hash, .int .i64 x.blk.view, .int .i64 x.blk.prop, .int .i64 x.blk.just.view, .string x.blk.just.block, .slice A n c, .slice B m d, .int .i64 x.crt.view, .string x.crt.block, .slice C k e, .int .i64 x.sig.node, .slice D l f, .int .i64 x.req.c, .int .i64 x.req.s, .string x.req.b, .int .i64 x.index, .string x.tag] 34))
  have X0 := Sd.mk (blk_new w (.cells #[.int .i64 x.kind, .int .i64 x.frm, .int .i64 x.too, .int .i64 x.view, .string x.hash, .int .i64 x.blk.view, .int .i64 x.blk.prop, .int .i64 x.blk.just.view, .string x.blk.just.block, .slice A n c, .slice B m d, .int .i64 x.crt.view, .string x.crt.block, .slice C k e, .int .i64 x.sig.node, .slice D l f, .int .i64 x.req.c, .int .i64 x.req.s, .string x.req.b, .int .i64 x.index, .string x.tag] 34))
  obtain ⟨u, hu⟩ : ∃ u, digB x.blk = u := ⟨_, rfl⟩
  have hu32 : u.size = 32 := by rw [← hu]; exact Blk.digB_size _
  have HD := Sd.mk (fun W (hb : RowKit.Below (w.alloc (.cells #[.int .i64 x.kind, .int .i64 x.frm, .int .i64 x.too, .int .i64 x.view, .string x.hash, .int .i64 x.blk.view, .int .i64 x.blk.prop, .int .i64 x.blk.just.view, .string x.blk.just.block, .slice A n c, .slice B m d, .int .i64 x.crt.view, .string x.crt.block, .slice C k e, .int .i64 x.sig.node, .slice D l f, .int .i64 x.req.c, .int .i64 x.req.s, .string x.req.b, .int .i64 x.index, .string x.tag] 34)).heap.size (w.alloc (.cells #[.int .i64 x.kind, .int .i64 x.frm, .int .i64 x.too, .int .i64 x.view, .string x.hash, .int .i64 x.blk.view, .int .i64 x.blk.prop, .int .i64 x.blk.just.view, .string x.blk.just.block, .slice A n c, .slice B m d, .int .i64 x.crt.view, .string x.crt.block, .slice C k e, .int .i64 x.sig.node, .slice D l f, .int .i64 x.req.c, .int .i64 x.req.s, .string x.req.b, .int .i64 x.index, .string x.tag] 34)) W) => Blk.dig_any W x.blk A n c B m d ((h.sb.below HB0.out).below hb) h.hm u hu (Nat.le_trans (Blk.coreB_few hf.1) (by omega)))
  obtain ⟨n1, hn1⟩ : ∃ z, num4 x.view = z := ⟨_, rfl⟩
  obtain ⟨n2, hn2⟩ : ∃ z, num4 x.crt.view = z := ⟨_, rfl⟩
  obtain ⟨n3, hn3⟩ : ∃ z, num4 x.index = z := ⟨_, rfl⟩
  obtain ⟨r, hr⟩ : ∃ z, Wtx.reqb x.req.c x.req.s x.req.b = z := ⟨_, rfl⟩
  have z1 : n1.size = 4 := by rw [← hn1]; exact num4_size _
  have z2 : n2.size = 4 := by rw [← hn2]; exact num4_size _
  have z3 : n3.size = 4 := by rw [← hn3]; exact num4_size _
  have zr : r.size ≤ 72 := by rw [← hr, Wtx.reqb_size]; have := hf.2.2.2; omega
  have zb := hf.2.1
  have zh := hf.2.2.1
  have HR := Sd.mk (fun W => Wtx.req_any W x.req.c x.req.s x.req.b (Nat.le_trans hf.2.2.2 (by omega)) r hr)
  have H1 := Sd.mk hn1
  have H2 := Sd.mk hn2
  have H3 := Sd.mk hn3
  unfold txB at ht
  rw [hu, hn1, hn2, hn3, hr] at ht
  clear h hf hu hn1 hn2 hn3 hr
  by_cases k1 : x.kind = 1
  · have HT := Sd.mk (by rw [if_pos k1] at ht; exact ht)
    have K1 := Sd.mk k1
    have hcat : ¬9223372036854775807 < 1 + u.size := by omega
    have hcat2 : ¬9223372036854775807 < ({ data := #[80] } : ByteArray).size + u.size := by show ¬_ < 1 + u.size; omega
    clear ht k1 z1 z2 z3 zr zb zh hu32
    go_enter Tryz.func6, Tryz.ntmps6
    go_upto_region 1 with (fail)
    generalize hBx : w.heap.size = Bx at X0 ⊢
    generalize w.alloc _ = W1 at HB0 X0 HD ⊢
    have c0 : W1.cell? ⟨Bx, 0, none⟩ = some (.int .i64 1) := by rw [← K1.out]; exact blk_at X0.out 0 _ rfl
    have c5 := blk_at X0.out 5 _ rfl
    have c6 := blk_at X0.out 6 _ rfl
    have c7 := blk_at X0.out 7 _ rfl
    have c8 := blk_at X0.out 8 _ rfl
    have c9 := blk_at X0.out 9 _ rfl
    have c10 := blk_at X0.out 10 _ rfl
    go_wp2_with (first
      | (go_at_call 14; (with_reducible refine (HD.out _ (Below.refl _ _)).mono ?_); rintro e w2 ⟨rfl, hb⟩; have HB2 := Sd.mk (below_then HB0.out hb); clear hb))
    go_ret
    exact ⟨by rw [← HT.out]; rfl, by have h := HB2.out; first | exact h | rwa [hBx] at h⟩
  · rw [if_neg k1] at ht
    by_cases k3 : x.kind = 3
    · have HT := Sd.mk (by rw [if_pos k3] at ht; exact ht)
      have K3 := Sd.mk k3
      have g1 : ¬9223372036854775807 < 1 + n1.size := by omega
      have g2 : ¬9223372036854775807 < 1 + n1.size + n2.size := by omega
      have g3 : ¬9223372036854775807 < 1 + n1.size + n2.size + x.crt.block.size := by omega
      have i1 : ¬9223372036854775807 < ({ data := #[78] } : ByteArray).size + n1.size := g1
      have i2 : ¬9223372036854775807 < ({ data := #[78] } : ByteArray).size + n1.size + n2.size := g2
      have i3 : ¬9223372036854775807 < ({ data := #[78] } : ByteArray).size + n1.size + n2.size + x.crt.block.size := g3
      clear ht k1 k3 z1 z2 z3 zr zb zh hu32
      go_enter Tryz.func6, Tryz.ntmps6
      go_upto_region 1 with (fail)
      generalize hBx : w.heap.size = Bx at X0 ⊢
      generalize w.alloc _ = W1 at HB0 X0 HD ⊢
      have c0 : W1.cell? ⟨Bx, 0, none⟩ = some (.int .i64 3) := by rw [← K3.out]; exact blk_at X0.out 0 _ rfl
      go_upto_region 5 with (fail)
      have c3 := fun d os => cell_regrown (blk_at X0.out 3 _ rfl) d os
      have c11 := fun d os => cell_regrown (blk_at X0.out 11 _ rfl) d os
      have c12 := fun d os => cell_regrown (blk_at X0.out 12 _ rfl) d os
      refine wp_region_quiet_below (by assumption) (by kernel_rfl) ?_
      repeat (go_big_quiet_step ((first | (go_at_call 15; with_reducible refine Calls.regrown_of (Wtx.number_eq _ x.view n1 H1.out)) | (go_at_call 15; with_reducible refine Calls.regrown_of (Wtx.number_eq _ x.crt.view n2 H2.out)))))
      refine wpQuiet_nil ?_
      rintro W9 ⟨⟨nq, osq⟩, rfl⟩
      have HB9 := Sd.mk (below_then HB0.out (below_regrown W1 nq osq))
      go_wp2
      go_ret
      exact ⟨by rw [← HT.out]; rfl, by have h := HB9.out; first | exact h | rwa [hBx] at h⟩
    · rw [if_neg k3] at ht
      by_cases k5 : x.kind = 5
      · have HT := Sd.mk (by rw [if_pos k5] at ht; exact ht)
        have K5 := Sd.mk k5
        have g1 : ¬9223372036854775807 < 1 + r.size := by omega
        have g2 : ¬9223372036854775807 < 1 + r.size + n3.size := by omega
        have g3 : ¬9223372036854775807 < 1 + r.size + n3.size + x.hash.size := by omega
        have i1 : ¬9223372036854775807 < ({ data := #[65] } : ByteArray).size + r.size := g1
        have i2 : ¬9223372036854775807 < ({ data := #[65] } : ByteArray).size + r.size + n3.size := g2
        have i3 : ¬9223372036854775807 < ({ data := #[65] } : ByteArray).size + r.size + n3.size + x.hash.size := g3
        clear ht k1 k3 k5 z1 z2 z3 zr zb zh hu32
        go_enter Tryz.func6, Tryz.ntmps6
        go_upto_region 1 with (fail)
        generalize hBx : w.heap.size = Bx at X0 ⊢
        generalize w.alloc _ = W1 at HB0 X0 HD ⊢
        have c0 : W1.cell? ⟨Bx, 0, none⟩ = some (.int .i64 5) := by rw [← K5.out]; exact blk_at X0.out 0 _ rfl
        go_upto_region 7 with (fail)
        have c16 := fun d os => cell_regrown (blk_at X0.out 16 _ rfl) d os
        have c17 := fun d os => cell_regrown (blk_at X0.out 17 _ rfl) d os
        have c18 := fun d os => cell_regrown (blk_at X0.out 18 _ rfl) d os
        have c19 := fun d os => cell_regrown (blk_at X0.out 19 _ rfl) d os
        have c4 := fun d os => cell_regrown (blk_at X0.out 4 _ rfl) d os
        refine wp_region_quiet_below (by assumption) (by kernel_rfl) ?_
        repeat (go_big_quiet_step ((first | (go_at_call 16; with_reducible refine Calls.regrown_of (HR.out _)) | (go_at_call 15; with_reducible refine Calls.regrown_of (Wtx.number_eq _ x.index n3 H3.out)))))
        refine wpQuiet_nil ?_
        rintro W9 ⟨⟨nq, osq⟩, rfl⟩
        have HB9 := Sd.mk (below_then HB0.out (below_regrown W1 nq osq))
        go_wp2
        go_ret
        exact ⟨by rw [← HT.out]; rfl, by have h := HB9.out; first | exact h | rwa [hBx] at h⟩
      · rw [if_neg k5] at ht
        have HT := Sd.mk ht
        have d1 : (x.kind == 1) = false := by simp [k1]
        have d3 : (x.kind == 3) = false := by simp [k3]
        have d5 : (x.kind == 5) = false := by simp [k5]
        clear ht z1 z2 z3 zr zb zh hu32
        go_enter Tryz.func6, Tryz.ntmps6
        go_upto_region 1 with (fail)
        generalize hBx : w.heap.size = Bx at X0 ⊢
        generalize w.alloc _ = W1 at HB0 X0 HD ⊢
        have c0 := blk_at X0.out 0 _ rfl
        go_wp2
        go_ret
        exact ⟨by rw [← HT.out]; rfl, by have h := HB0.out; first | exact h | rwa [hBx] at h⟩
set_option maxHeartbeats 8000000 in
set_option maxRecDepth 100000 in
theorem rtext_any (w : World) (x : Msg) (A : Option Addr) (n c : Nat) (B : Option Addr) (m d : Nat) (C : Option Addr) (k e : Nat) (D : Option Addr) (l f : Nat) (h : Ml w x A n c B m d C k e D l f) (hf : msgFew x) (t : ByteArray) (ht : txB x = t) :
    Calls Tryz.prog 7 #[.agg #[.int .i64 x.kind, .int .i64 x.frm, .int .i64 x.too, .int .i64 x.view, .string x.hash, .int .i64 x.blk.view, .int .i64 x.blk.prop, .int .i64 x.blk.just.view, .string x.blk.just.block, .slice A n c, .slice B m d, .int .i64 x.crt.view, .string x.crt.block, .slice C k e, .int .i64 x.sig.node, .slice D l f, .int .i64 x.req.c, .int .i64 x.req.s, .string x.req.b, .int .i64 x.index, .string x.tag]] w fun e w' => e = .returned (.string t) ∧ RowKit.Below w.heap.size w w' := by
  have mixed : Tryz.prog.follows .mixedOrders = true := by kernel_rfl
  have HB0 := Sd.mk (below_one w (.cells #[.int .i64 x.kind, .int .i64 x.frm, .int .i64 x.too, .int .i64 x.view, .string x.hash, .int .i64 x.blk.view, .int .i64 x.blk.prop, .int .i64 x.blk.just.view, .string x.blk.just.block, .slice A n c, .slice B m d, .int .i64 x.crt.view, .string x.crt.block, .slice C k e, .int .i64 x.sig.node, .slice D l f, .int .i64 x.req.c, .int .i64 x.req.s, .string x.req.b, .int .i64 x.index, .string x.tag] 34))
  have X0 := Sd.mk (blk_new w (.cells #[.int .i64 x.kind, .int .i64 x.frm, .int .i64 x.too, .int .i64 x.view, .string x.hash, .int .i64 x.blk.view, .int .i64 x.blk.prop, .int .i64 x.blk.just.view, .string x.blk.just.block, .slice A n c, .slice B m d, .int .i64 x.crt.view, .string x.crt.block, .slice C k e, .int .i64 x.sig.node, .slice D l f, .int .i64 x.req.c, .int .i64 x.req.s, .string x.req.b, .int .i64 x.index, .string x.tag] 34))
  obtain ⟨u, hu⟩ : ∃ u, digB x.blk = u := ⟨_, rfl⟩
  have hu32 : u.size = 32 := by rw [← hu]; exact Blk.digB_size _
  have HD := Sd.mk (fun W (hb : RowKit.Below (w.alloc (.cells #[.int .i64 x.kind, .int .i64 x.frm, .int .i64 x.too, .int .i64 x.view, .string x.hash, .int .i64 x.blk.view, .int .i64 x.blk.prop, .int .i64 x.blk.just.view, .string x.blk.just.block, .slice A n c, .slice B m d, .int .i64 x.crt.view, .string x.crt.block, .slice C k e, .int .i64 x.sig.node, .slice D l f, .int .i64 x.req.c, .int .i64 x.req.s, .string x.req.b, .int .i64 x.index, .string x.tag] 34)).heap.size (w.alloc (.cells #[.int .i64 x.kind, .int .i64 x.frm, .int .i64 x.too, .int .i64 x.view, .string x.hash, .int .i64 x.blk.view, .int .i64 x.blk.prop, .int .i64 x.blk.just.view, .string x.blk.just.block, .slice A n c, .slice B m d, .int .i64 x.crt.view, .string x.crt.block, .slice C k e, .int .i64 x.sig.node, .slice D l f, .int .i64 x.req.c, .int .i64 x.req.s, .string x.req.b, .int .i64 x.index, .string x.tag] 34)) W) => Blk.rdig_any W x.blk A n c B m d ((h.sb.below HB0.out).below hb) h.hm u hu (Nat.le_trans (Blk.coreB_few hf.1) (by omega)))
  obtain ⟨n1, hn1⟩ : ∃ z, num4 x.view = z := ⟨_, rfl⟩
  obtain ⟨n2, hn2⟩ : ∃ z, num4 x.crt.view = z := ⟨_, rfl⟩
  obtain ⟨n3, hn3⟩ : ∃ z, num4 x.index = z := ⟨_, rfl⟩
  obtain ⟨r, hr⟩ : ∃ z, Wtx.reqb x.req.c x.req.s x.req.b = z := ⟨_, rfl⟩
  have z1 : n1.size = 4 := by rw [← hn1]; exact num4_size _
  have z2 : n2.size = 4 := by rw [← hn2]; exact num4_size _
  have z3 : n3.size = 4 := by rw [← hn3]; exact num4_size _
  have zr : r.size ≤ 72 := by rw [← hr, Wtx.reqb_size]; have := hf.2.2.2; omega
  have zb := hf.2.1
  have zh := hf.2.2.1
  have HR := Sd.mk (fun W => Wtx.ref_req_any W x.req.c x.req.s x.req.b (Nat.le_trans hf.2.2.2 (by omega)) r hr)
  have H1 := Sd.mk hn1
  have H2 := Sd.mk hn2
  have H3 := Sd.mk hn3
  unfold txB at ht
  rw [hu, hn1, hn2, hn3, hr] at ht
  clear h hf hu hn1 hn2 hn3 hr
  by_cases k1 : x.kind = 1
  · have HT := Sd.mk (by rw [if_pos k1] at ht; exact ht)
    have K1 := Sd.mk k1
    have hcat : ¬9223372036854775807 < 1 + u.size := by omega
    have hcat2 : ¬9223372036854775807 < ({ data := #[80] } : ByteArray).size + u.size := by show ¬_ < 1 + u.size; omega
    clear ht k1 z1 z2 z3 zr zb zh hu32
    go_enter Tryz.func7, Tryz.ntmps7
    go_upto_region 1 with (fail)
    generalize hBx : w.heap.size = Bx at X0 ⊢
    generalize w.alloc _ = W1 at HB0 X0 HD ⊢
    have c0 : W1.cell? ⟨Bx, 0, none⟩ = some (.int .i64 1) := by rw [← K1.out]; exact blk_at X0.out 0 _ rfl
    have c5 := blk_at X0.out 5 _ rfl
    have c6 := blk_at X0.out 6 _ rfl
    have c7 := blk_at X0.out 7 _ rfl
    have c8 := blk_at X0.out 8 _ rfl
    have c9 := blk_at X0.out 9 _ rfl
    have c10 := blk_at X0.out 10 _ rfl
    go_wp2_with (first
      | (go_at_call 17; (with_reducible refine (HD.out _ (Below.refl _ _)).mono ?_); rintro e w2 ⟨rfl, hb⟩; have HB2 := Sd.mk (below_then HB0.out hb); clear hb))
    go_ret
    exact ⟨by rw [← HT.out]; rfl, by have h := HB2.out; first | exact h | rwa [hBx] at h⟩
  · rw [if_neg k1] at ht
    by_cases k3 : x.kind = 3
    · have HT := Sd.mk (by rw [if_pos k3] at ht; exact ht)
      have K3 := Sd.mk k3
      have g1 : ¬9223372036854775807 < 1 + n1.size := by omega
      have g2 : ¬9223372036854775807 < 1 + n1.size + n2.size := by omega
      have g3 : ¬9223372036854775807 < 1 + n1.size + n2.size + x.crt.block.size := by omega
      have i1 : ¬9223372036854775807 < ({ data := #[78] } : ByteArray).size + n1.size := g1
      have i2 : ¬9223372036854775807 < ({ data := #[78] } : ByteArray).size + n1.size + n2.size := g2
      have i3 : ¬9223372036854775807 < ({ data := #[78] } : ByteArray).size + n1.size + n2.size + x.crt.block.size := g3
      clear ht k1 k3 z1 z2 z3 zr zb zh hu32
      go_enter Tryz.func7, Tryz.ntmps7
      go_upto_region 1 with (fail)
      generalize hBx : w.heap.size = Bx at X0 ⊢
      generalize w.alloc _ = W1 at HB0 X0 HD ⊢
      have c0 : W1.cell? ⟨Bx, 0, none⟩ = some (.int .i64 3) := by rw [← K3.out]; exact blk_at X0.out 0 _ rfl
      go_upto_region 4 with (fail)
      have c3 := fun d os => cell_regrown (blk_at X0.out 3 _ rfl) d os
      have c11 := fun d os => cell_regrown (blk_at X0.out 11 _ rfl) d os
      have c12 := fun d os => cell_regrown (blk_at X0.out 12 _ rfl) d os
      refine wp_region_quiet_below (by assumption) (by kernel_rfl) ?_
      repeat (go_big_quiet_step ((first | (go_at_call 18; with_reducible refine Calls.regrown_of (Wtx.ref_number_eq _ x.view n1 H1.out)) | (go_at_call 18; with_reducible refine Calls.regrown_of (Wtx.ref_number_eq _ x.crt.view n2 H2.out)))))
      refine wpQuiet_nil ?_
      rintro W9 ⟨⟨nq, osq⟩, rfl⟩
      have HB9 := Sd.mk (below_then HB0.out (below_regrown W1 nq osq))
      go_wp2
      go_ret
      exact ⟨by rw [← HT.out]; rfl, by have h := HB9.out; first | exact h | rwa [hBx] at h⟩
    · rw [if_neg k3] at ht
      by_cases k5 : x.kind = 5
      · have HT := Sd.mk (by rw [if_pos k5] at ht; exact ht)
        have K5 := Sd.mk k5
        have g1 : ¬9223372036854775807 < 1 + r.size := by omega
        have g2 : ¬9223372036854775807 < 1 + r.size + n3.size := by omega
        have g3 : ¬9223372036854775807 < 1 + r.size + n3.size + x.hash.size := by omega
        have i1 : ¬9223372036854775807 < ({ data := #[65] } : ByteArray).size + r.size := g1
        have i2 : ¬9223372036854775807 < ({ data := #[65] } : ByteArray).size + r.size + n3.size := g2
        have i3 : ¬9223372036854775807 < ({ data := #[65] } : ByteArray).size + r.size + n3.size + x.hash.size := g3
        clear ht k1 k3 k5 z1 z2 z3 zr zb zh hu32
        go_enter Tryz.func7, Tryz.ntmps7
        go_upto_region 1 with (fail)
        generalize hBx : w.heap.size = Bx at X0 ⊢
        generalize w.alloc _ = W1 at HB0 X0 HD ⊢
        have c0 : W1.cell? ⟨Bx, 0, none⟩ = some (.int .i64 5) := by rw [← K5.out]; exact blk_at X0.out 0 _ rfl
        go_upto_region 6 with (fail)
        have c16 := fun d os => cell_regrown (blk_at X0.out 16 _ rfl) d os
        have c17 := fun d os => cell_regrown (blk_at X0.out 17 _ rfl) d os
        have c18 := fun d os => cell_regrown (blk_at X0.out 18 _ rfl) d os
        have c19 := fun d os => cell_regrown (blk_at X0.out 19 _ rfl) d os
        have c4 := fun d os => cell_regrown (blk_at X0.out 4 _ rfl) d os
        refine wp_region_quiet_below (by assumption) (by kernel_rfl) ?_
        repeat (go_big_quiet_step ((first | (go_at_call 19; with_reducible refine Calls.regrown_of (HR.out _)) | (go_at_call 18; with_reducible refine Calls.regrown_of (Wtx.ref_number_eq _ x.index n3 H3.out)))))
        refine wpQuiet_nil ?_
        rintro W9 ⟨⟨nq, osq⟩, rfl⟩
        have HB9 := Sd.mk (below_then HB0.out (below_regrown W1 nq osq))
        go_wp2
        go_ret
        exact ⟨by rw [← HT.out]; rfl, by have h := HB9.out; first | exact h | rwa [hBx] at h⟩
      · rw [if_neg k5] at ht
        have HT := Sd.mk ht
        have d1 : (x.kind == 1) = false := by simp [k1]
        have d3 : (x.kind == 3) = false := by simp [k3]
        have d5 : (x.kind == 5) = false := by simp [k5]
        clear ht z1 z2 z3 zr zb zh hu32
        go_enter Tryz.func7, Tryz.ntmps7
        go_upto_region 1 with (fail)
        generalize hBx : w.heap.size = Bx at X0 ⊢
        generalize w.alloc _ = W1 at HB0 X0 HD ⊢
        have c0 := blk_at X0.out 0 _ rfl
        go_wp2
        go_ret
        exact ⟨by rw [← HT.out]; rfl, by have h := HB0.out; first | exact h | rwa [hBx] at h⟩
set_option maxHeartbeats 8000000 in
set_option maxRecDepth 100000 in
theorem fewmsg_any (w : World) (x : Msg) (A : Option Addr) (n c : Nat) (B : Option Addr) (m d : Nat) (C : Option Addr) (k e : Nat) (D : Option Addr) (l f : Nat) (h : Ml w x A n c B m d C k e D l f) :
    Calls Tryz.prog 5 #[.agg #[.int .i64 x.kind, .int .i64 x.frm, .int .i64 x.too, .int .i64 x.view, .string x.hash, .int .i64 x.blk.view, .int .i64 x.blk.prop, .int .i64 x.blk.just.view, .string x.blk.just.block, .slice A n c, .slice B m d, .int .i64 x.crt.view, .string x.crt.block, .slice C k e, .int .i64 x.sig.node, .slice D l f, .int .i64 x.req.c, .int .i64 x.req.s, .string x.req.b, .int .i64 x.index, .string x.tag]] w (Sg.Tells (msgFew x) w) := by
  have HB0 := Sd.mk (below_one w (.cells #[.int .i64 x.kind, .int .i64 x.frm, .int .i64 x.too, .int .i64 x.view, .string x.hash, .int .i64 x.blk.view, .int .i64 x.blk.prop, .int .i64 x.blk.just.view, .string x.blk.just.block, .slice A n c, .slice B m d, .int .i64 x.crt.view, .string x.crt.block, .slice C k e, .int .i64 x.sig.node, .slice D l f, .int .i64 x.req.c, .int .i64 x.req.s, .string x.req.b, .int .i64 x.index, .string x.tag] 34))
  have X0 := Sd.mk (blk_new w (.cells #[.int .i64 x.kind, .int .i64 x.frm, .int .i64 x.too, .int .i64 x.view, .string x.hash, .int .i64 x.blk.view, .int .i64 x.blk.prop, .int .i64 x.blk.just.view, .string x.blk.just.block, .slice A n c, .slice B m d, .int .i64 x.crt.view, .string x.crt.block, .slice C k e, .int .i64 x.sig.node, .slice D l f, .int .i64 x.req.c, .int .i64 x.req.s, .string x.req.b, .int .i64 x.index, .string x.tag] 34))
  have HFB := Sd.mk (fun W (hb : RowKit.Below (w.alloc (.cells #[.int .i64 x.kind, .int .i64 x.frm, .int .i64 x.too, .int .i64 x.view, .string x.hash, .int .i64 x.blk.view, .int .i64 x.blk.prop, .int .i64 x.blk.just.view, .string x.blk.just.block, .slice A n c, .slice B m d, .int .i64 x.crt.view, .string x.crt.block, .slice C k e, .int .i64 x.sig.node, .slice D l f, .int .i64 x.req.c, .int .i64 x.req.s, .string x.req.b, .int .i64 x.index, .string x.tag] 34)).heap.size (w.alloc (.cells #[.int .i64 x.kind, .int .i64 x.frm, .int .i64 x.too, .int .i64 x.view, .string x.hash, .int .i64 x.blk.view, .int .i64 x.blk.prop, .int .i64 x.blk.just.view, .string x.blk.just.block, .slice A n c, .slice B m d, .int .i64 x.crt.view, .string x.crt.block, .slice C k e, .int .i64 x.sig.node, .slice D l f, .int .i64 x.req.c, .int .i64 x.req.s, .string x.req.b, .int .i64 x.index, .string x.tag] 34)) W) => Blk.few_any W x.blk A c B d ((h.sa.below HB0.out).below hb) ((h.sb.below HB0.out).below hb) n m h.hn h.hm)
  have HFC := Sd.mk (fun W (hb : RowKit.Below (w.alloc (.cells #[.int .i64 x.kind, .int .i64 x.frm, .int .i64 x.too, .int .i64 x.view, .string x.hash, .int .i64 x.blk.view, .int .i64 x.blk.prop, .int .i64 x.blk.just.view, .string x.blk.just.block, .slice A n c, .slice B m d, .int .i64 x.crt.view, .string x.crt.block, .slice C k e, .int .i64 x.sig.node, .slice D l f, .int .i64 x.req.c, .int .i64 x.req.s, .string x.req.b, .int .i64 x.index, .string x.tag] 34)).heap.size (w.alloc (.cells #[.int .i64 x.kind, .int .i64 x.frm, .int .i64 x.too, .int .i64 x.view, .string x.hash, .int .i64 x.blk.view, .int .i64 x.blk.prop, .int .i64 x.blk.just.view, .string x.blk.just.block, .slice A n c, .slice B m d, .int .i64 x.crt.view, .string x.crt.block, .slice C k e, .int .i64 x.sig.node, .slice D l f, .int .i64 x.req.c, .int .i64 x.req.s, .string x.req.b, .int .i64 x.index, .string x.tag] 34)) W) => Crt.few_any W x.crt C e ((h.sc.below HB0.out).below hb) k h.hk)
  have HFS := Sd.mk (fun W (hb : RowKit.Below (w.alloc (.cells #[.int .i64 x.kind, .int .i64 x.frm, .int .i64 x.too, .int .i64 x.view, .string x.hash, .int .i64 x.blk.view, .int .i64 x.blk.prop, .int .i64 x.blk.just.view, .string x.blk.just.block, .slice A n c, .slice B m d, .int .i64 x.crt.view, .string x.crt.block, .slice C k e, .int .i64 x.sig.node, .slice D l f, .int .i64 x.req.c, .int .i64 x.req.s, .string x.req.b, .int .i64 x.index, .string x.tag] 34)).heap.size (w.alloc (.cells #[.int .i64 x.kind, .int .i64 x.frm, .int .i64 x.too, .int .i64 x.view, .string x.hash, .int .i64 x.blk.view, .int .i64 x.blk.prop, .int .i64 x.blk.just.view, .string x.blk.just.block, .slice A n c, .slice B m d, .int .i64 x.crt.view, .string x.crt.block, .slice C k e, .int .i64 x.sig.node, .slice D l f, .int .i64 x.req.c, .int .i64 x.req.s, .string x.req.b, .int .i64 x.index, .string x.tag] 34)) W) => (by have := Sg.sig_any W x.sig D f ((h.sd.below HB0.out).below hb); rwa [← h.hl] at this : Calls Tryz.prog 13 #[.agg #[.int .i64 x.sig.node, .slice D l f]] W (Sg.Tells (Sg.sigFew x.sig) W)))
  clear h
  by_cases hh : x.hash.size ≤ 50
  · have HH := Sd.mk hh
    have p1 : decide ((x.hash.size : Int) ≤ 50) = true := decide_eq_true (by omega)
    have q1 : decide (x.hash.size ≤ 50) = true := decide_eq_true hh
    clear hh
    by_cases tt : x.tag.size ≤ 50
    · have p2 : decide ((x.tag.size : Int) ≤ 50) = true := decide_eq_true (by omega)
      have q2 : decide (x.tag.size ≤ 50) = true := decide_eq_true tt
      clear tt
      by_cases rr : x.req.b.size ≤ 60
      · have HRR := Sd.mk rr
        have p3 : decide ((x.req.b.size : Int) ≤ 60) = true := decide_eq_true (by omega)
        have q3 : decide (x.req.b.size ≤ 60) = true := decide_eq_true rr
        clear rr
        (go_enter Tryz.func5, Tryz.ntmps5; go_upto_region 1 with (fail); generalize hBx : w.heap.size = Bx at X0 ⊢; generalize w.alloc _ = W1 at HB0 X0 HFB HFC HFS ⊢; have c5 := blk_at X0.out 5 _ rfl; have c6 := blk_at X0.out 6 _ rfl; have c7 := blk_at X0.out 7 _ rfl; have c8 := blk_at X0.out 8 _ rfl; have c9 := blk_at X0.out 9 _ rfl; have c10 := blk_at X0.out 10 _ rfl; go_wp2_with (first | (go_at_call 11; (with_reducible refine (HFB.out _ (Below.refl _ _)).mono ?_); rintro e w2 ⟨r, rfl, ht, hb⟩; have HB2 := Sd.mk (below_then HB0.out hb); have HK2 := Sd.mk hb; have X2 := Sd.mk (blk_keep X0.out hb); have HT2 := Sd.mk ht; clear ht hb c5 c6 c7 c8 c9 c10; have c11 := blk_at X2.out 11 _ rfl; have c12 := blk_at X2.out 12 _ rfl; have c13 := blk_at X2.out 13 _ rfl; cases r) | (go_at_call 12; (with_reducible refine (HFC.out _ HK2.out).mono ?_); rintro e w3 ⟨r, rfl, ht, hb⟩; have HB3 := Sd.mk (below_then HB2.out hb); have HK3 := Sd.mk (below_then HK2.out hb); have X3 := Sd.mk (blk_keep X2.out hb); have HT3 := Sd.mk ht; clear ht hb c11 c12 c13; have c14 := blk_at X3.out 14 _ rfl; have c15 := blk_at X3.out 15 _ rfl; cases r) | (go_at_call 13; (with_reducible refine (HFS.out _ HK3.out).mono ?_); rintro e w4 ⟨r, rfl, -, hb⟩; have HB4 := Sd.mk (below_then HB3.out hb); have X4 := Sd.mk (blk_keep X3.out hb); clear hb c14 c15; have c4 := blk_at X4.out 4 _ rfl; have c20 := blk_at X4.out 20 _ rfl; have c18 := blk_at X4.out 18 _ rfl; cases r)))
        all_goals first
          | (first | (go_ret; exact ⟨false, rfl, (fun h => by cases h), by have h := HB4.out; first | exact h | rwa [hBx] at h⟩) | (go_ret; exact ⟨false, rfl, (fun h => by cases h), by have h := HB3.out; first | exact h | rwa [hBx] at h⟩) | (go_ret; exact ⟨false, rfl, (fun h => by cases h), by have h := HB2.out; first | exact h | rwa [hBx] at h⟩))
          | (go_ret; exact ⟨true, rfl, fun _ => ⟨HT2.out trivial, (HT3.out trivial).2.1, HH.out, HRR.out⟩, by have h := HB4.out; first | exact h | rwa [hBx] at h⟩)
      · have p3 : decide ((x.req.b.size : Int) ≤ 60) = false := decide_eq_false (by omega)
        have q3 : decide (x.req.b.size ≤ 60) = false := decide_eq_false rr
        clear rr
        (go_enter Tryz.func5, Tryz.ntmps5; go_upto_region 1 with (fail); generalize hBx : w.heap.size = Bx at X0 ⊢; generalize w.alloc _ = W1 at HB0 X0 HFB HFC HFS ⊢; have c5 := blk_at X0.out 5 _ rfl; have c6 := blk_at X0.out 6 _ rfl; have c7 := blk_at X0.out 7 _ rfl; have c8 := blk_at X0.out 8 _ rfl; have c9 := blk_at X0.out 9 _ rfl; have c10 := blk_at X0.out 10 _ rfl; go_wp2_with (first | (go_at_call 11; (with_reducible refine (HFB.out _ (Below.refl _ _)).mono ?_); rintro e w2 ⟨r, rfl, ht, hb⟩; have HB2 := Sd.mk (below_then HB0.out hb); have HK2 := Sd.mk hb; have X2 := Sd.mk (blk_keep X0.out hb); have HT2 := Sd.mk ht; clear ht hb c5 c6 c7 c8 c9 c10; have c11 := blk_at X2.out 11 _ rfl; have c12 := blk_at X2.out 12 _ rfl; have c13 := blk_at X2.out 13 _ rfl; cases r) | (go_at_call 12; (with_reducible refine (HFC.out _ HK2.out).mono ?_); rintro e w3 ⟨r, rfl, ht, hb⟩; have HB3 := Sd.mk (below_then HB2.out hb); have HK3 := Sd.mk (below_then HK2.out hb); have X3 := Sd.mk (blk_keep X2.out hb); have HT3 := Sd.mk ht; clear ht hb c11 c12 c13; have c14 := blk_at X3.out 14 _ rfl; have c15 := blk_at X3.out 15 _ rfl; cases r) | (go_at_call 13; (with_reducible refine (HFS.out _ HK3.out).mono ?_); rintro e w4 ⟨r, rfl, -, hb⟩; have HB4 := Sd.mk (below_then HB3.out hb); have X4 := Sd.mk (blk_keep X3.out hb); clear hb c14 c15; have c4 := blk_at X4.out 4 _ rfl; have c20 := blk_at X4.out 20 _ rfl; have c18 := blk_at X4.out 18 _ rfl; cases r)))
        all_goals (first | (go_ret; exact ⟨false, rfl, (fun h => by cases h), by have h := HB4.out; first | exact h | rwa [hBx] at h⟩) | (go_ret; exact ⟨false, rfl, (fun h => by cases h), by have h := HB3.out; first | exact h | rwa [hBx] at h⟩) | (go_ret; exact ⟨false, rfl, (fun h => by cases h), by have h := HB2.out; first | exact h | rwa [hBx] at h⟩))
    · have p2 : decide ((x.tag.size : Int) ≤ 50) = false := decide_eq_false (by omega)
      have q2 : decide (x.tag.size ≤ 50) = false := decide_eq_false tt
      clear tt
      (go_enter Tryz.func5, Tryz.ntmps5; go_upto_region 1 with (fail); generalize hBx : w.heap.size = Bx at X0 ⊢; generalize w.alloc _ = W1 at HB0 X0 HFB HFC HFS ⊢; have c5 := blk_at X0.out 5 _ rfl; have c6 := blk_at X0.out 6 _ rfl; have c7 := blk_at X0.out 7 _ rfl; have c8 := blk_at X0.out 8 _ rfl; have c9 := blk_at X0.out 9 _ rfl; have c10 := blk_at X0.out 10 _ rfl; go_wp2_with (first | (go_at_call 11; (with_reducible refine (HFB.out _ (Below.refl _ _)).mono ?_); rintro e w2 ⟨r, rfl, ht, hb⟩; have HB2 := Sd.mk (below_then HB0.out hb); have HK2 := Sd.mk hb; have X2 := Sd.mk (blk_keep X0.out hb); have HT2 := Sd.mk ht; clear ht hb c5 c6 c7 c8 c9 c10; have c11 := blk_at X2.out 11 _ rfl; have c12 := blk_at X2.out 12 _ rfl; have c13 := blk_at X2.out 13 _ rfl; cases r) | (go_at_call 12; (with_reducible refine (HFC.out _ HK2.out).mono ?_); rintro e w3 ⟨r, rfl, ht, hb⟩; have HB3 := Sd.mk (below_then HB2.out hb); have HK3 := Sd.mk (below_then HK2.out hb); have X3 := Sd.mk (blk_keep X2.out hb); have HT3 := Sd.mk ht; clear ht hb c11 c12 c13; have c14 := blk_at X3.out 14 _ rfl; have c15 := blk_at X3.out 15 _ rfl; cases r) | (go_at_call 13; (with_reducible refine (HFS.out _ HK3.out).mono ?_); rintro e w4 ⟨r, rfl, -, hb⟩; have HB4 := Sd.mk (below_then HB3.out hb); have X4 := Sd.mk (blk_keep X3.out hb); clear hb c14 c15; have c4 := blk_at X4.out 4 _ rfl; have c20 := blk_at X4.out 20 _ rfl; have c18 := blk_at X4.out 18 _ rfl; cases r)))
      all_goals (first | (go_ret; exact ⟨false, rfl, (fun h => by cases h), by have h := HB4.out; first | exact h | rwa [hBx] at h⟩) | (go_ret; exact ⟨false, rfl, (fun h => by cases h), by have h := HB3.out; first | exact h | rwa [hBx] at h⟩) | (go_ret; exact ⟨false, rfl, (fun h => by cases h), by have h := HB2.out; first | exact h | rwa [hBx] at h⟩))
  · have p1 : decide ((x.hash.size : Int) ≤ 50) = false := decide_eq_false (by omega)
    have q1 : decide (x.hash.size ≤ 50) = false := decide_eq_false hh
    clear hh
    (go_enter Tryz.func5, Tryz.ntmps5; go_upto_region 1 with (fail); generalize hBx : w.heap.size = Bx at X0 ⊢; generalize w.alloc _ = W1 at HB0 X0 HFB HFC HFS ⊢; have c5 := blk_at X0.out 5 _ rfl; have c6 := blk_at X0.out 6 _ rfl; have c7 := blk_at X0.out 7 _ rfl; have c8 := blk_at X0.out 8 _ rfl; have c9 := blk_at X0.out 9 _ rfl; have c10 := blk_at X0.out 10 _ rfl; go_wp2_with (first | (go_at_call 11; (with_reducible refine (HFB.out _ (Below.refl _ _)).mono ?_); rintro e w2 ⟨r, rfl, ht, hb⟩; have HB2 := Sd.mk (below_then HB0.out hb); have HK2 := Sd.mk hb; have X2 := Sd.mk (blk_keep X0.out hb); have HT2 := Sd.mk ht; clear ht hb c5 c6 c7 c8 c9 c10; have c11 := blk_at X2.out 11 _ rfl; have c12 := blk_at X2.out 12 _ rfl; have c13 := blk_at X2.out 13 _ rfl; cases r) | (go_at_call 12; (with_reducible refine (HFC.out _ HK2.out).mono ?_); rintro e w3 ⟨r, rfl, ht, hb⟩; have HB3 := Sd.mk (below_then HB2.out hb); have HK3 := Sd.mk (below_then HK2.out hb); have X3 := Sd.mk (blk_keep X2.out hb); have HT3 := Sd.mk ht; clear ht hb c11 c12 c13; have c14 := blk_at X3.out 14 _ rfl; have c15 := blk_at X3.out 15 _ rfl; cases r) | (go_at_call 13; (with_reducible refine (HFS.out _ HK3.out).mono ?_); rintro e w4 ⟨r, rfl, -, hb⟩; have HB4 := Sd.mk (below_then HB3.out hb); have X4 := Sd.mk (blk_keep X3.out hb); clear hb c14 c15; have c4 := blk_at X4.out 4 _ rfl; have c20 := blk_at X4.out 20 _ rfl; have c18 := blk_at X4.out 18 _ rfl; cases r)))
    all_goals (first | (go_ret; exact ⟨false, rfl, (fun h => by cases h), by have h := HB4.out; first | exact h | rwa [hBx] at h⟩) | (go_ret; exact ⟨false, rfl, (fun h => by cases h), by have h := HB3.out; first | exact h | rwa [hBx] at h⟩) | (go_ret; exact ⟨false, rfl, (fun h => by cases h), by have h := HB2.out; first | exact h | rwa [hBx] at h⟩))
end Go.Proofs.YtnomgkmeomlccaaGreat.Opn

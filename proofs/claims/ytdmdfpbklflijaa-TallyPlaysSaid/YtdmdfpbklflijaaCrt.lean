/- Certificates: Text, First, Good, Holds: walked. -/
import Derived.Test.YtdmdfpbklflijaaRt
import Derived.Test.YtdmdfpbklflijaaMacI
import Derived.Test.YtdmdfpbklflijaaSumC
import Derived.Test.YtdmdfpbklflijaaCnt
set_option linter.unusedVariables false
set_option linter.unusedSimpArgs false
namespace Go.Proofs.Ytdmdfpbklflijaa.Crt
open Go.RowKit Go.Sort Rd Api Own Mv App Num Dig Mac Rp

def VB : ByteArray := { data := #[86] }
/-- a vote's text -/
def vtxt (view : Int) (b : ByteArray) : ByteArray := VB ++ num4 view ++ b
theorem vtxt_size (v : Int) (b : ByteArray) : (vtxt v b).size = 5 + b.size := by unfold vtxt; rw [Rp.app_size, Rp.app_size, num4_size]; rfl
set_option maxHeartbeats 1000000 in
theorem text_any (w : World) (view : Int) (b : ByteArray) (hb : b.size ≤ 70368744177664) (t : ByteArray) (ht : vtxt view b = t) : Calls Try.prog 23 #[.int .i64 view, .string b] w fun e w' => e = .returned (.string t) ∧ RowKit.Below w.heap.size w w' := by
  obtain ⟨n, hn⟩ : ∃ n, num4 view = n := ⟨_, rfl⟩
  have hn4 : n.size = 4 := by rw [← hn]; exact num4_size _
  have hcat : ¬9223372036854775807 < 1 + n.size := by omega
  have hcat2 : ¬9223372036854775807 < (({ data := #[86] } : ByteArray) ++ n).size + b.size := by rw [show (({ data := #[86] } : ByteArray) ++ n).size = 1 + n.size from Rp.app_size _ _]; omega
  have hcat3 : ¬9223372036854775807 < 1 + n.size + b.size := by omega
  have HN := Sd.mk hn
  have HT := Sd.mk (show VB ++ n ++ b = t by rw [← ht, ← hn]; rfl)
  clear hn hn4 ht
  go_enter Try.func23, Try.ntmps23
  go_wp2_with (first
    | (go_at_call 57; (with_reducible refine (Num.number_any _ _).mono ?_); rintro e w1 ⟨rfl, hb1⟩; rw [HN.out]))
  go_ret
  exact ⟨by rw [← HT.out]; rfl, hb1⟩
def FIRST : ByteArray := { data := #[102, 105, 114, 115, 116] }
def FB : ByteArray := sum FIRST
theorem FB_size : FB.size = 32 := sum_size _
theorem sum_first (w : World) (d : ByteArray) (hd : sum FIRST = d) : Calls Try.prog 56 #[.string { data := #[102, 105, 114, 115, 116] }] w fun e w' => e = .returned (.string d) ∧ RowKit.Below w.heap.size w w' := by
  subst hd; exact blake_sum_any w FIRST (by decide)
def rblk : Obj := .cells #[.int .i64 0, .string { data := #[] }, .slice none 0 0] 24
set_option maxHeartbeats 2000000 in
theorem first_any (w : World) (d : ByteArray) (hd : FB = d) : Calls Try.prog 21 #[] w fun e w' => e = .returned (.agg #[.int .i64 0, .string d, .slice none 0 0]) ∧ RowKit.Below w.heap.size w w' := by
  have HR := Sd.mk (blk_new w rblk)
  have HB := Sd.mk (below_one w rblk)
  have HS := Sd.mk (sum_first (w.alloc rblk) d hd)
  go_enter Try.func21, Try.ntmps21
  go_upto_region 1 with (fail)
  change Code.wp _ _ _ _ (w.alloc rblk)
  generalize hg : w.heap.size = Br at HR ⊢
  generalize w.alloc rblk = W1 at HR HB HS ⊢
  go_wp2_with (first
    | (go_at_call 56; (with_reducible refine HS.out.mono ?_); rintro e w4 ⟨rfl, hb4⟩; have HR4 := Sd.mk (blk_keep HR.out hb4); have HB4 := Sd.mk (below_then HB.out hb4); have a0 := blk_at HR4.out 0 _ rfl; have a1 := blk_at HR4.out 1 _ rfl; have a2 := blk_at HR4.out 2 _ rfl; have f0 := blk_frz HR4.out 0; have f1 := blk_frz HR4.out 1; have f2 := blk_frz HR4.out 2; clear hb4))
  obtain ⟨y0, y1, y2⟩ := fin3_cells HR4.out (.int .i64 0) (.string d) (.slice none 0 0)
  have HF := Sd.mk (show RowKit.Below w.heap.size w (fin3 Br w4 (.int .i64 0) (.string d) (.slice none 0 0)) from ((HB4.out.setCell (p := ⟨Br, 0, none⟩) (by simp only; omega) _).setCell (p := ⟨Br, 1, none⟩) (by simp only; omega) _).setCell (p := ⟨Br, 2, none⟩) (by simp only; omega) _)
  clear a0 a1 a2 f0 f1 f2
  change bodyPost _ _ _ _ _ (fin3 Br w4 (.int .i64 0) (.string d) (.slice none 0 0))
  generalize fin3 Br w4 _ _ _ = w9 at y0 y1 y2 HF ⊢
  exact bodyPost_ret (v := .agg #[.int .i64 0, .string d, .slice none 0 0]) (by simp [results, Try.results21, go_sem, y0, y1, y2]) rfl ⟨rfl, HF.out⟩
theorem field_cert (w : World) (d : ByteArray) : (Instr.field 24 (.agg #[.int .i64 0, .string d, .slice none 0 0]) 1).run Try.prog w = .ok (.string d) w := by kernel_rfl
theorem holds_len (w : World) (seed tx : ByteArray) (tn n fr : Int) (A : Option Addr) (c : Nat) (l : List ByteArray) (h : Sl Rk.str w A c l) (hs : seed.size ≤ 35184372088832) (ht : tx.size ≤ 35184372088832) (r : Bool) (hr : r = true ↔ holdsF seed tn n tx fr l) (k : Nat) (hk : k = l.length) :
    Calls Try.prog 50 #[.string seed, .int .i64 tn, .int .i64 n, .string tx, .agg #[.int .i64 fr, .slice A k c]] w fun e w' => e = .returned (.bool r) ∧ RowKit.Below w.heap.size w w' := by
  subst hk; exact holds_any w seed tx tn n fr A c l h hs ht r hr
/-- whose signatures hold -/
def goodF (p : Sg.Sig → Bool) (xs : List Sg.Sig) : List Int := (xs.filter p).map (·.node)
theorem good_take {p : Sg.Sig → Bool} {xs : List Sg.Sig} {i : Nat} {x : Sg.Sig} (h : xs[i]? = some x) : goodF p (xs.take (i + 1)) = if p x = true then goodF p (xs.take i) ++ [x.node] else goodF p (xs.take i) := by
  unfold goodF
  rw [List.take_add_one, h]
  cases hp : p x <;> simp [hp]
theorem good_le (p : Sg.Sig → Bool) (xs : List Sg.Sig) : (goodF p xs).length ≤ xs.length := by unfold goodF; rw [List.length_map]; exact List.length_filter_le _ _
/-- p tells whose signatures of a certificate hold -/
def Tells (seed : ByteArray) (tn n : Int) (c : Cert) (p : Sg.Sig → Bool) : Prop := ∀ x, p x = true ↔ holdsF seed tn n (vtxt c.view c.block) x.node x.tags
theorem tells (seed : ByteArray) (tn n : Int) (c : Cert) : ∃ p, Tells seed tn n c p := ⟨fun x => @decide (holdsF seed tn n (vtxt c.view c.block) x.node x.tags) (Classical.propDecidable _), fun x => by simp⟩
def fI (x : Int) : List Value := [.int .i64 x]
theorem fI_one : ∀ x : Int, ∀ u ∈ fI x, u.oneCell' = true := fun _ _ hu => by simp [fI] at hu; subst hu; rfl
theorem info_int : ((Try.prog).info? 3).map (fun i => (i.zero, i.size, i.bytes)) = some (some (.int .i64 0), 1, 8) := by kernel_rfl
/-- what is collected -/
structure Og (w : World) (v : Value) (l : List Int) (W : World) : Prop where
  own : OwnR fI 1 W w.heap.size 3 v l
  bel : RowKit.Below w.heap.size w W
theorem Og.below {w W W1 : World} {v : Value} {l : List Int} (h : Og w v l W) (hb : RowKit.Below W.heap.size W W1) : Og w v l W1 := ⟨h.own.below hb, below_then h.bel hb⟩
theorem Og.up {w w2 W : World} {v : Value} {l : List Int} (h : Og w2 v l W) (hb : RowKit.Below w.heap.size w w2) : Og w v l W := by
  refine ⟨⟨h.own.1, ?_⟩, below_then hb h.bel⟩
  rcases h.own.2 with h0 | ⟨g, cap, cur, h1, h2, h3⟩
  · exact .inl h0
  · exact .inr ⟨g, cap, cur, h1, Nat.le_trans hb.size h2, h3⟩
theorem Og.slice {w W : World} {v : Value} {l : List Int} (h : Og w v l W) : ∃ A c, v = .slice A l.length c ∧ Sl (Own.num .i64) W A c l := OwnR.reads (d := Own.num .i64) (f := fI) (n := 1) (fun _ _ => rfl) (fun _ => rfl) rfl h.own
set_option maxHeartbeats 8000000 in
set_option maxRecDepth 100000 in
theorem good_any (w : World) (seed : ByteArray) (hsd : seed.size ≤ 35184372088832) (tn n : Int) (c : Cert) (A : Option Addr) (k : Nat) (h : Sl sgK w A k c.sigs) (m : Nat) (hm : m = c.sigs.length) (hz : (certB c).size ≤ 9223372036854775807) (p : Sg.Sig → Bool) (hp : Tells seed tn n c p) (r : Bool) (hr : r = true ↔ RightCert c) :
    Calls Try.prog 14 #[.string seed, .int .i64 tn, .int .i64 n, .agg #[.int .i64 c.view, .string c.block, .slice A m k]] w fun e w' => ∃ v, e = .returned v ∧ Og w v (if r = true then goodF p c.sigs else []) w' := by
  have mixed : Try.prog.follows .mixedOrders = true := by kernel_rfl
  have hb0 := below_one w (.cells #[.int .i64 c.view, .string c.block, .slice A m k] 24)
  have HB := Sd.mk hb0
  have HS := Sd.mk (h.below hb0)
  have X0 := Sd.mk (blk_new w (.cells #[.int .i64 c.view, .string c.block, .slice A m k] 24))
  have HM := Sd.mk hm
  have mk := Nat.le_trans h.le h.cap
  rw [← hm] at mk
  have HRT := Sd.mk (right_any (w.alloc (.cells #[.int .i64 c.view, .string c.block, .slice A m k] 24)) c A k HS.out m hm hz r hr)
  have HP := Sd.mk hp
  have HR := Sd.mk hr
  clear h hm hz hp hr hb0
  cases r with
  | false =>
    go_enter Try.func14, Try.ntmps14
    go_upto_region 1 with (fail)
    generalize w.heap.size = Bx at X0 ⊢
    generalize w.alloc _ = W1 at X0 HB HS HRT ⊢
    have c0 := blk_at X0.out 0 _ rfl
    have c1 := blk_at X0.out 1 _ rfl
    have c2 := blk_at X0.out 2 _ rfl
    go_wp2_with (first
      | (go_at_call 49; (with_reducible refine HRT.out.mono ?_); rintro e w2 ⟨rfl, hb⟩; have HB2 := Sd.mk (below_then HB.out hb); clear hb))
    go_ret
    exact ⟨_, rfl, OwnR.nil _ _ _ _ _, HB2.out⟩
  | true =>
    have hrc := HR.out.1 rfl
    have hm7 : m ≤ 7 := by rw [HM.out]; exact hrc.n
    obtain ⟨t, ht⟩ : ∃ t, vtxt c.view c.block = t := ⟨_, rfl⟩
    have htz : t.size ≤ 35184372088832 := by rw [← ht, vtxt_size, hrc.b]; omega
    have HT := Sd.mk ht
    have HTZ := Sd.mk htz
    have HBZ := Sd.mk (show c.block.size ≤ 70368744177664 by rw [hrc.b]; omega)
    clear hrc ht htz
    go_enter Try.func14, Try.ntmps14
    go_upto_region 1 with (fail)
    generalize w.heap.size = Bx at X0 ⊢
    generalize w.alloc _ = W1 at X0 HB HS HRT ⊢
    have c0 := blk_at X0.out 0 _ rfl
    have c1 := blk_at X0.out 1 _ rfl
    have c2 := blk_at X0.out 2 _ rfl
    go_upto_region 4 with (first
      | (go_at_call 49; (with_reducible refine HRT.out.mono ?_); rintro e w2 ⟨rfl, hb⟩; have HB2 := Sd.mk (below_then HB.out hb); have X2 := Sd.mk (blk_keep X0.out hb); have HS2 := Sd.mk (HS.out.below hb); clear hb))
    clear HRT HB X0 HS c0 c1 c2
    have c2 := blk_at X2.out 2 _ rfl
    go_wp2
    have H0 := Sd.mk (show Og w2 (.slice none 0 0) (goodF p (c.sigs.take 0)) w2 from ⟨OwnR.nil _ _ _ _ _, Below.refl _ _⟩)
    go_loopg [9, 11, 18] m (fun gk v9 v11 v18 wr => ∃ (i : Nat) (B : Option Addr) (q d : Nat), i + gk = m ∧ q ≤ i ∧ v9 = .slice B q d ∧ v18 = .int .i64 (i : Nat) ∧ Sd ((goodF p (c.sigs.take i)).length = q) ∧ Sd (Og w2 (.slice B q d) (goodF p (c.sigs.take i)) wr))
    case atStart => exact ⟨0, none, 0, 0, by omega, by omega, rfl, rfl, ⟨rfl⟩, H0⟩
    case round =>
      clear H0 c2
      obtain ⟨i, B, q, d, hi, hqi, rfl, rfl, HK, HO⟩ := hrel
      have HW := Sd.mk HO.out.bel
      by_cases hlt : i < m
      · have hii : (i : Int) < m := by omega
        obtain ⟨x, hx⟩ : ∃ x, c.sigs[i]? = some x := ⟨_, List.getElem?_eq_getElem (show i < c.sigs.length by rw [← HM.out]; exact hlt)⟩
        obtain ⟨o1, o2, A1, c1, rfl, p0, p1, s1⟩ := sg_at HS2.out hx
        have p0 := cell_below HW.out p0
        have p1 := cell_below HW.out p1
        have S1 := Sd.mk (s1.below HW.out)
        have X3 := Sd.mk (blk_keep X2.out HW.out)
        have HX := Sd.mk hx
        obtain ⟨rp, hrp⟩ : ∃ b, p x = b := ⟨_, rfl⟩
        have HRP := Sd.mk (show rp = true ↔ holdsF seed tn n t x.node x.tags by rw [← hrp, ← HT.out]; exact HP.out x)
        have HGT := Sd.mk (show goodF p (c.sigs.take (i + 1)) = if rp = true then goodF p (c.sigs.take i) ++ [x.node] else goodF p (c.sigs.take i) by rw [good_take hx, hrp])
        clear hx hrp s1
        go_upto_region 7 with (fail)
        have Y0 := Sd.mk (blk_new wr (.cells #[.int .i64 x.node, .slice A1 x.tags.length c1] 39))
        have hb := below_one wr (.cells #[.int .i64 x.node, .slice A1 x.tags.length c1] 39)
        have HO4 := Sd.mk (HO.out.below hb)
        have X4 := Sd.mk (blk_keep X3.out hb)
        have S4 := Sd.mk (S1.out.below hb)
        clear p0 p1 S1 X3 HO HW hb
        generalize wr.heap.size = Bv at Y0 ⊢
        generalize wr.alloc _ = W4 at Y0 HO4 X4 S4 ⊢
        have x0 := fun d os => cell_regrown (blk_at X4.out 0 _ rfl) d os
        have x1 := fun d os => cell_regrown (blk_at X4.out 1 _ rfl) d os
        have y0 := fun d os => cell_regrown (blk_at Y0.out 0 _ rfl) d os
        have y1 := fun d os => cell_regrown (blk_at Y0.out 1 _ rfl) d os
        refine wp_region_quiet_below (by assumption) (by kernel_rfl) ?_
        repeat (go_big_quiet_step ((first
          | (go_at_call 23; refine Calls.regrown_of (text_any _ c.view c.block HBZ.out t HT.out))
          | (go_at_call 50; refine Calls.regrown_of (holds_len _ seed t tn n x.node A1 c1 x.tags (S4.out.below (below_regrown _ _ _)) hsd HTZ.out rp HRP.out x.tags.length rfl)))))
        refine wpQuiet_nil ?_
        rintro W9 ⟨⟨nq, osq⟩, rfl⟩
        have hb9 := below_regrown W4 nq osq
        have HO5 := Sd.mk (HO4.out.below hb9)
        have Y5 := Sd.mk (blk_keep Y0.out hb9)
        clear x0 x1 y0 y1 HO4 X4 Y0 S4 hb9
        generalize grow _ _ = W5 at HO5 Y5 ⊢
        have y0 := blk_at Y5.out 0 _ rfl
        cases rp with
        | false =>
          have HG2 := Sd.mk (show goodF p (c.sigs.take (i + 1)) = goodF p (c.sigs.take i) from HGT.out)
          have HK2 := Sd.mk (show (goodF p (c.sigs.take (i + 1))).length = q by rw [HG2.out]; exact HK.out)
          have HO6 := Sd.mk (show Og w2 (.slice B q d) (goodF p (c.sigs.take (i + 1))) W5 by rw [HG2.out]; exact HO5.out)
          go_wp2
          go_roundg (gk - 1)
          case measure => omega
          case rel => exact ⟨i + 1, B, q, d, by omega, by omega, rfl, by go_num, HK2, HO6⟩
        | true =>
          have HG2 := Sd.mk (show goodF p (c.sigs.take (i + 1)) = goodF p (c.sigs.take i) ++ [x.node] from HGT.out)
          go_wp2_with (first
            | (at_builtin; refine append_one (f := fI) (n := 1) (fun _ => rfl) fI_one w2.heap.size rfl (.tmp 32) (.tmp 35) 28 3 (.int .i64 0) 8 rfl Try.underlying28 info_int rfl (by decide) (.slice B q d) (goodF p (c.sigs.take i)) x.node rfl rfl HO5.out.own HO5.out.bel HO5.out.bel.size (by rw [HK.out]; omega) (by rw [HK.out]; omega) ?_; intro v6 w6 hown hbel hgrow; obtain ⟨A6, q6, rfl⟩ := OwnR.slice hown; have hl6 : (goodF p (c.sigs.take i) ++ [x.node]).length = q + 1 := (by rw [List.length_append, HK.out]; rfl); rw [hl6] at hown ⊢; have HK6 := Sd.mk hl6; have HO6 := Sd.mk (⟨hown, hbel⟩ : Og w2 (.slice A6 (q + 1) q6) (goodF p (c.sigs.take i) ++ [x.node]) w6); clear hown hbel hgrow hl6))
          go_roundg (gk - 1)
          case measure => omega
          case rel => exact ⟨i + 1, A6, q + 1, q6, by omega, by omega, rfl, by go_num, ⟨by rw [HG2.out]; exact HK6.out⟩, ⟨by rw [HG2.out]; exact HO6.out⟩⟩
      · have hii : decide (i < m) = false := decide_eq_false (by omega)
        have HE := Sd.mk (show c.sigs.take i = c.sigs from List.take_of_length_le (by rw [← HM.out]; omega))
        go_wp2
        go_ret
        exact ⟨_, rfl, by have := HO.out; rw [HE.out] at this; exact this.up HB2.out⟩
end Go.Proofs.Ytdmdfpbklflijaa.Crt

/- Certificates: Text, First, Good, Holds: walked. Certificates: Holds: walked. Certificates: the reference's Text, First, Good: walked. Certificates: the reference's Holds; what is of a size that is looked at; what a program that does nothing does not answer: walked. The reference's signature of a vote; its Once: walked. -/
import Derived.Test.YtnomgkmeomlccaaRt
import Derived.Test.YtnomgkmeomlccaaMacI
import Derived.Test.YtnomgkmeomlccaaSumC
import Derived.Test.YtnomgkmeomlccaaCntQ
import Derived.Test.YtnomgkmeomlccaaCrtG
import Derived.Test.YtnomgkmeomlccaaPeel
import Derived.Deep.RegionHeld3
set_option linter.unusedVariables false
set_option linter.unusedSimpArgs false
namespace Go.Proofs.Ytnomgkmeomlccaa.Crt
open Go.RowKit Go.Sort Rd Api Own Mv App Num Dig Mac Rp

def VB : ByteArray := { data := #[86] }
/-- a vote's text -/
def vtxt (view : Int) (b : ByteArray) : ByteArray := VB ++ num4 view ++ b
theorem vtxt_size (v : Int) (b : ByteArray) : (vtxt v b).size = 5 + b.size := by unfold vtxt; rw [Rp.app_size, Rp.app_size, num4_size]; rfl
set_option maxHeartbeats 1000000 in
theorem text_any (w : World) (view : Int) (b : ByteArray) (hb : b.size ≤ 70368744177664) (t : ByteArray) (ht : vtxt view b = t) : Calls Try.prog 138 #[.int .i64 view, .string b] w fun e w' => e = .returned (.string t) ∧ RowKit.Below w.heap.size w w' := by
  obtain ⟨n, hn⟩ : ∃ n, num4 view = n := ⟨_, rfl⟩
  have hn4 : n.size = 4 := by rw [← hn]; exact num4_size _
  have hcat : ¬9223372036854775807 < 1 + n.size := by omega
  have hcat2 : ¬9223372036854775807 < (({ data := #[86] } : ByteArray) ++ n).size + b.size := by rw [show (({ data := #[86] } : ByteArray) ++ n).size = 1 + n.size from Rp.app_size _ _]; omega
  have hcat3 : ¬9223372036854775807 < 1 + n.size + b.size := by omega
  have HN := Sd.mk hn
  have HT := Sd.mk (show VB ++ n ++ b = t by rw [← ht, ← hn]; rfl)
  clear hn hn4 ht
  go_enter Try.func138, Try.ntmps138
  go_wp2_with (first
    | (go_at_call 97; (with_reducible refine (Num.number_any _ _).mono ?_); rintro e w1 ⟨rfl, hb1⟩; rw [HN.out]))
  go_ret
  exact ⟨by rw [← HT.out]; rfl, hb1⟩
theorem holds_len (w : World) (seed tx : ByteArray) (tn n fr : Int) (A : Option Addr) (c : Nat) (l : List ByteArray) (h : Sl Rk.str w A c l) (hs : seed.size ≤ 35184372088832) (ht : tx.size ≤ 35184372088832) (r : Bool) (hr : r = true ↔ holdsF seed tn n tx fr l) (k : Nat) (hk : k = l.length) :
    Calls Try.prog 137 #[.string seed, .int .i64 tn, .int .i64 n, .string tx, .agg #[.int .i64 fr, .slice A k c]] w fun e w' => e = .returned (.bool r) ∧ RowKit.Below w.heap.size w w' := by
  subst hk; exact holds_any w seed tx tn n fr A c l h hs ht r hr
/-- whose signatures hold -/
def goodF (p : Sg.Sig → Bool) (xs : List Sg.Sig) : List Int := (xs.filter p).map (·.node)
theorem good_take {p : Sg.Sig → Bool} {xs : List Sg.Sig} {i : Nat} {x : Sg.Sig} (h : xs[i]? = some x) : goodF p (xs.take (i + 1)) = if p x = true then goodF p (xs.take i) ++ [x.node] else goodF p (xs.take i) := by
  unfold goodF
  rw [List.take_add_one, h]
  cases hp : p x <;> simp [hp]
theorem good_le (p : Sg.Sig → Bool) (xs : List Sg.Sig) : (goodF p xs).length ≤ xs.length := by unfold goodF; rw [List.length_map]; exact List.length_filter_le _ _
/-- p tells whose signatures of a certificate hold -/
def Tells (seed : ByteArray) (tn n : Int) (c : Cert) (p : Sg.Sig → Bool) : Prop := ∀ x, p x = true ↔ holdsF seed tn n (vtxt c.view c.block) x.node x.tags
theorem tells (seed : ByteArray) (tn n : Int) (c : Cert) : ∃ p, Tells seed tn n c p := ⟨fun x => @decide (holdsF seed tn n (vtxt c.view c.block) x.node x.tags) (Classical.propDecidable _), fun x => by simp⟩
def fI (x : Int) : List Value := [.int .i64 x]
theorem fI_one : ∀ x : Int, ∀ u ∈ fI x, u.oneCell' = true := fun _ _ hu => by simp [fI] at hu; subst hu; rfl
theorem info_int : ((Try.prog).info? 3).map (fun i => (i.zero, i.size, i.bytes)) = some (some (.int .i64 0), 1, 8) := by kernel_rfl
/-- what is collected -/
structure Og (w : World) (v : Value) (l : List Int) (W : World) : Prop where
  own : OwnR fI 1 W w.heap.size 3 v l
  bel : RowKit.Below w.heap.size w W
theorem Og.below {w W W1 : World} {v : Value} {l : List Int} (h : Og w v l W) (hb : RowKit.Below W.heap.size W W1) : Og w v l W1 := ⟨h.own.below hb, below_then h.bel hb⟩
theorem Og.up {w w2 W : World} {v : Value} {l : List Int} (h : Og w2 v l W) (hb : RowKit.Below w.heap.size w w2) : Og w v l W := by
  refine ⟨⟨h.own.1, ?_⟩, below_then hb h.bel⟩
  rcases h.own.2 with h0 | ⟨g, cap, cur, h1, h2, h3⟩
  · exact .inl h0
  · exact .inr ⟨g, cap, cur, h1, Nat.le_trans hb.size h2, h3⟩
theorem Og.slice {w W : World} {v : Value} {l : List Int} (h : Og w v l W) : ∃ A c, v = .slice A l.length c ∧ Sl (Own.num .i64) W A c l := OwnR.reads (d := Own.num .i64) (f := fI) (n := 1) (fun _ _ => rfl) (fun _ => rfl) rfl h.own
set_option maxHeartbeats 8000000 in
set_option maxRecDepth 100000 in
theorem good_any (w : World) (seed : ByteArray) (hsd : seed.size ≤ 35184372088832) (tn n : Int) (c : Cert) (A : Option Addr) (k : Nat) (h : Sl sgK w A k c.sigs) (m : Nat) (hm : m = c.sigs.length) (hz : (certB c).size ≤ 9223372036854775807) (p : Sg.Sig → Bool) (hp : Tells seed tn n c p) (r : Bool) (hr : r = true ↔ RightCert c) :
    Calls Try.prog 110 #[.string seed, .int .i64 tn, .int .i64 n, .agg #[.int .i64 c.view, .string c.block, .slice A m k]] w fun e w' => ∃ v, e = .returned v ∧ Og w v (if r = true then goodF p c.sigs else []) w' := by
  have mixed : Try.prog.follows .mixedOrders = true := by kernel_rfl
  have hb0 := below_one w (.cells #[.int .i64 c.view, .string c.block, .slice A m k] 39)
  have HB := Sd.mk hb0
  have HS := Sd.mk (h.below hb0)
  have X0 := Sd.mk (blk_new w (.cells #[.int .i64 c.view, .string c.block, .slice A m k] 39))
  have HM := Sd.mk hm
  have mk := Nat.le_trans h.le h.cap
  rw [← hm] at mk
  have HRT := Sd.mk (right_any (w.alloc (.cells #[.int .i64 c.view, .string c.block, .slice A m k] 39)) c A k HS.out m hm hz r hr)
  have HP := Sd.mk hp
  have HR := Sd.mk hr
  clear h hm hz hp hr hb0
  cases r with
  | false =>
    go_enter Try.func110, Try.ntmps110
    go_upto_region 1 with (fail)
    generalize w.heap.size = Bx at X0 ⊢
    generalize w.alloc _ = W1 at X0 HB HS HRT ⊢
    have c0 := blk_at X0.out 0 _ rfl
    have c1 := blk_at X0.out 1 _ rfl
    have c2 := blk_at X0.out 2 _ rfl
    go_wp2_with (first
      | (go_at_call 109; (with_reducible refine HRT.out.mono ?_); rintro e w2 ⟨rfl, hb⟩; have HB2 := Sd.mk (below_then HB.out hb); clear hb))
    go_ret
    exact ⟨_, rfl, OwnR.nil _ _ _ _ _, HB2.out⟩
  | true =>
    have hrc := HR.out.1 rfl
    have hm7 : m ≤ 7 := by rw [HM.out]; exact hrc.n
    obtain ⟨t, ht⟩ : ∃ t, vtxt c.view c.block = t := ⟨_, rfl⟩
    have htz : t.size ≤ 35184372088832 := by rw [← ht, vtxt_size, hrc.b]; omega
    have HT := Sd.mk ht
    have HTZ := Sd.mk htz
    have HBZ := Sd.mk (show c.block.size ≤ 70368744177664 by rw [hrc.b]; omega)
    clear hrc ht htz
    go_enter Try.func110, Try.ntmps110
    go_upto_region 1 with (fail)
    generalize w.heap.size = Bx at X0 ⊢
    generalize w.alloc _ = W1 at X0 HB HS HRT ⊢
    have c0 := blk_at X0.out 0 _ rfl
    have c1 := blk_at X0.out 1 _ rfl
    have c2 := blk_at X0.out 2 _ rfl
    go_upto_region 4 with (first
      | (go_at_call 109; (with_reducible refine HRT.out.mono ?_); rintro e w2 ⟨rfl, hb⟩; have HB2 := Sd.mk (below_then HB.out hb); have X2 := Sd.mk (blk_keep X0.out hb); have HS2 := Sd.mk (HS.out.below hb); clear hb))
    clear HRT HB X0 HS c0 c1 c2
    have c2 := blk_at X2.out 2 _ rfl
    go_wp2
    have H0 := Sd.mk (show Og w2 (.slice none 0 0) (goodF p (c.sigs.take 0)) w2 from ⟨OwnR.nil _ _ _ _ _, Below.refl _ _⟩)
    go_loopg [9, 11, 18] m (fun gk v9 v11 v18 wr => ∃ (i : Nat) (B : Option Addr) (q d : Nat), i + gk = m ∧ q ≤ i ∧ v9 = .slice B q d ∧ v18 = .int .i64 (i : Nat) ∧ Sd ((goodF p (c.sigs.take i)).length = q) ∧ Sd (Og w2 (.slice B q d) (goodF p (c.sigs.take i)) wr))
    case atStart => exact ⟨0, none, 0, 0, by omega, by omega, rfl, rfl, ⟨rfl⟩, H0⟩
    case round =>
      clear H0 c2
      obtain ⟨i, B, q, d, hi, hqi, rfl, rfl, HK, HO⟩ := hrel
      have HW := Sd.mk HO.out.bel
      by_cases hlt : i < m
      · have hii : (i : Int) < m := by omega
        obtain ⟨x, hx⟩ : ∃ x, c.sigs[i]? = some x := ⟨_, List.getElem?_eq_getElem (show i < c.sigs.length by rw [← HM.out]; exact hlt)⟩
        obtain ⟨o1, o2, A1, c1, rfl, p0, p1, s1⟩ := sg_at HS2.out hx
        have p0 := cell_below HW.out p0
        have p1 := cell_below HW.out p1
        have S1 := Sd.mk (s1.below HW.out)
        have X3 := Sd.mk (blk_keep X2.out HW.out)
        have HX := Sd.mk hx
        obtain ⟨rp, hrp⟩ : ∃ b, p x = b := ⟨_, rfl⟩
        have HRP := Sd.mk (show rp = true ↔ holdsF seed tn n t x.node x.tags by rw [← hrp, ← HT.out]; exact HP.out x)
        have HGT := Sd.mk (show goodF p (c.sigs.take (i + 1)) = if rp = true then goodF p (c.sigs.take i) ++ [x.node] else goodF p (c.sigs.take i) by rw [good_take hx, hrp])
        clear hx hrp s1
        go_upto_region 7 with (fail)
        have Y0 := Sd.mk (blk_new wr (.cells #[.int .i64 x.node, .slice A1 x.tags.length c1] 51))
        have hb := below_one wr (.cells #[.int .i64 x.node, .slice A1 x.tags.length c1] 51)
        have HO4 := Sd.mk (HO.out.below hb)
        have X4 := Sd.mk (blk_keep X3.out hb)
        have S4 := Sd.mk (S1.out.below hb)
        clear p0 p1 S1 X3 HO HW hb
        generalize wr.heap.size = Bv at Y0 ⊢
        generalize wr.alloc _ = W4 at Y0 HO4 X4 S4 ⊢
        have x0 := fun d os => cell_regrown (blk_at X4.out 0 _ rfl) d os
        have x1 := fun d os => cell_regrown (blk_at X4.out 1 _ rfl) d os
        have y0 := fun d os => cell_regrown (blk_at Y0.out 0 _ rfl) d os
        have y1 := fun d os => cell_regrown (blk_at Y0.out 1 _ rfl) d os
        refine wp_region_quiet_below (by assumption) (by kernel_rfl) ?_
        repeat (go_big_quiet_step ((first
          | (go_at_call 138; refine Calls.regrown_of (text_any _ c.view c.block HBZ.out t HT.out))
          | (go_at_call 137; refine Calls.regrown_of (holds_len _ seed t tn n x.node A1 c1 x.tags (S4.out.below (below_regrown _ _ _)) hsd HTZ.out rp HRP.out x.tags.length rfl)))))
        refine wpQuiet_nil ?_
        rintro W9 ⟨⟨nq, osq⟩, rfl⟩
        have hb9 := below_regrown W4 nq osq
        have HO5 := Sd.mk (HO4.out.below hb9)
        have Y5 := Sd.mk (blk_keep Y0.out hb9)
        clear x0 x1 y0 y1 HO4 X4 Y0 S4 hb9
        generalize grow _ _ = W5 at HO5 Y5 ⊢
        have y0 := blk_at Y5.out 0 _ rfl
        cases rp with
        | false =>
          have HG2 := Sd.mk (show goodF p (c.sigs.take (i + 1)) = goodF p (c.sigs.take i) from HGT.out)
          have HK2 := Sd.mk (show (goodF p (c.sigs.take (i + 1))).length = q by rw [HG2.out]; exact HK.out)
          have HO6 := Sd.mk (show Og w2 (.slice B q d) (goodF p (c.sigs.take (i + 1))) W5 by rw [HG2.out]; exact HO5.out)
          go_wp2
          go_roundg (gk - 1)
          case measure => omega
          case rel => exact ⟨i + 1, B, q, d, by omega, by omega, rfl, by go_num, HK2, HO6⟩
        | true =>
          have HG2 := Sd.mk (show goodF p (c.sigs.take (i + 1)) = goodF p (c.sigs.take i) ++ [x.node] from HGT.out)
          go_wp2_with (first
            | (at_builtin; refine append_one (f := fI) (n := 1) (fun _ => rfl) fI_one w2.heap.size rfl (.tmp 32) (.tmp 35) 155 3 (.int .i64 0) 8 rfl Try.underlying155 info_int rfl (by decide) (.slice B q d) (goodF p (c.sigs.take i)) x.node rfl rfl HO5.out.own HO5.out.bel HO5.out.bel.size (by rw [HK.out]; omega) (by rw [HK.out]; omega) ?_; intro v6 w6 hown hbel hgrow; obtain ⟨A6, q6, rfl⟩ := OwnR.slice hown; have hl6 : (goodF p (c.sigs.take i) ++ [x.node]).length = q + 1 := (by rw [List.length_append, HK.out]; rfl); rw [hl6] at hown ⊢; have HK6 := Sd.mk hl6; have HO6 := Sd.mk (⟨hown, hbel⟩ : Og w2 (.slice A6 (q + 1) q6) (goodF p (c.sigs.take i) ++ [x.node]) w6); clear hown hbel hgrow hl6))
          go_roundg (gk - 1)
          case measure => omega
          case rel => exact ⟨i + 1, A6, q + 1, q6, by omega, by omega, rfl, by go_num, ⟨by rw [HG2.out]; exact HK6.out⟩, ⟨by rw [HG2.out]; exact HO6.out⟩⟩
      · have hii : decide (i < m) = false := decide_eq_false (by omega)
        have HE := Sd.mk (show c.sigs.take i = c.sigs from List.take_of_length_le (by rw [← HM.out]; omega))
        go_wp2
        go_ret
        exact ⟨_, rfl, by have := HO.out; rw [HE.out] at this; exact this.up HB2.out⟩
end Go.Proofs.Ytnomgkmeomlccaa.Crt
set_option linter.unusedVariables false
set_option linter.unusedSimpArgs false
namespace Go.Proofs.Ytnomgkmeomlccaa.Crt
open Go.RowKit Go.Sort Rd Api Own Mv App Num Dig Mac Rp

/-- a certificate holds -/
def HoldsC (p : Sg.Sig → Bool) (n : Int) (c : Cert) : Prop := RightCert c ∧ if c.view = 0 then c.block = FB ∧ c.sigs = [] else (1 ≤ n ∧ n ≤ 7) ∧ n - (Gat.fl n.toNat : Int) ≤ ((goodF p c.sigs).length : Int)
set_option maxHeartbeats 8000000 in
set_option maxRecDepth 100000 in
theorem holds_0 (w : World) (seed : ByteArray) (tn n : Int) (c : Cert) (A : Option Addr) (k : Nat) (h : Sl sgK w A k c.sigs) (m : Nat) (hm : m = c.sigs.length) (hz : (certB c).size ≤ 9223372036854775807) (hv : c.view = 0) (r : Bool) (hr : r = true ↔ RightCert c ∧ c.block = FB ∧ c.sigs = []) : Calls Try.prog 73 #[.string seed, .int .i64 tn, .int .i64 n, .agg #[.int .i64 c.view, .string c.block, .slice A m k]] w fun e w' => e = .returned (.bool r) ∧ RowKit.Below w.heap.size w w' := by
  have mixed : Try.prog.follows .mixedOrders = true := by kernel_rfl
  obtain ⟨rr, hrr⟩ : ∃ b : Bool, b = true ↔ RightCert c := ⟨@decide (RightCert c) (Classical.propDecidable _), by simp⟩
  have hb0 := below_one w (.cells #[.int .i64 c.view, .string c.block, .slice A m k] 39)
  have HB := Sd.mk hb0
  have X0 := Sd.mk (blk_new w (.cells #[.int .i64 c.view, .string c.block, .slice A m k] 39))
  have HRT := Sd.mk (fun W (hW : RowKit.Below w.heap.size w W) => right_any W c A k (h.below hW) m hm hz rr hrr)
  obtain ⟨d, hd⟩ : ∃ d, FB = d := ⟨_, rfl⟩
  have HD := Sd.mk hd
  have hfc := fun W => field_cert W d
  obtain ⟨b1, hb1⟩ : ∃ b, (c.block.toList == d.toList) = b := ⟨_, rfl⟩
  have HR := Sd.mk (show r = (rr && b1 && (m == 0)) by
    rw [Bool.eq_iff_iff, hr, hd]
    simp only [Bool.and_eq_true, hrr, ← hb1, str_beq, decide_eq_true_eq, beq_iff_eq, and_assoc]
    rw [hm, List.length_eq_zero_iff])
  have mk := Nat.le_trans h.le h.cap
  rw [← hm] at mk
  have hv0 : (c.view == 0) = true := by rw [hv]; rfl
  clear h hm hz hr hrr hb0 hd hv
  go_enter Try.func73, Try.ntmps73
  go_upto_region 1 with (fail)
  generalize w.heap.size = Bx at X0 ⊢
  generalize w.alloc _ = W1 at X0 HB ⊢
  have c0 := blk_at X0.out 0 _ rfl
  go_upto_region 2 with (fail)
  clear c0
  have x0 := fun d os => cell_regrown (blk_at X0.out 0 _ rfl) d os
  have x1 := fun d os => cell_regrown (blk_at X0.out 1 _ rfl) d os
  have x2 := fun d os => cell_regrown (blk_at X0.out 2 _ rfl) d os
  cases rr with
  | false =>
    obtain rfl : r = false := HR.out
    refine wp_region_quiet_below (by assumption) (by kernel_rfl) ?_
    repeat (go_big_quiet_step ((first
      | (go_at_call 109; refine Calls.regrown_of (HRT.out _ (below_then HB.out (below_regrown _ _ _))))
      | (go_at_call 68; refine Calls.regrown_of (first_any _ d HD.out)))))
    refine wpQuiet_nil ?_
    rintro W9 ⟨⟨nq, osq⟩, rfl⟩
    have HB9 := Sd.mk (below_then HB.out (below_regrown W1 nq osq))
    go_wp2
    go_ret
    exact ⟨rfl, HB9.out⟩
  | true =>
    cases b1 with
    | false =>
      obtain rfl : r = false := HR.out
      refine wp_region_quiet_below (by assumption) (by kernel_rfl) ?_
      repeat (go_big_quiet_step ((first
        | (go_at_call 109; refine Calls.regrown_of (HRT.out _ (below_then HB.out (below_regrown _ _ _))))
        | (go_at_call 68; refine Calls.regrown_of (first_any _ d HD.out)))))
      refine wpQuiet_nil ?_
      rintro W9 ⟨⟨nq, osq⟩, rfl⟩
      have HB9 := Sd.mk (below_then HB.out (below_regrown W1 nq osq))
      go_wp2
      go_ret
      exact ⟨rfl, HB9.out⟩
    | true =>
      obtain ⟨b2, hb2⟩ : ∃ b, ((m : Int) == 0) = b := ⟨_, rfl⟩
      have hb3 : (m == 0) = b2 := by rw [← hb2, Bool.eq_iff_iff]; simp
      have HR2 := Sd.mk (show r = b2 by rw [HR.out, hb3]; rfl)
      clear HR
      refine wp_region_quiet_below (by assumption) (by kernel_rfl) ?_
      repeat (go_big_quiet_step ((first
        | (go_at_call 109; refine Calls.regrown_of (HRT.out _ (below_then HB.out (below_regrown _ _ _))))
        | (go_at_call 68; refine Calls.regrown_of (first_any _ d HD.out)))))
      refine wpQuiet_nil ?_
      rintro W9 ⟨⟨nq, osq⟩, rfl⟩
      have HB9 := Sd.mk (below_then HB.out (below_regrown W1 nq osq))
      go_wp2
      go_ret
      exact ⟨by rw [HR2.out]; rfl, HB9.out⟩
set_option maxHeartbeats 8000000 in
set_option maxRecDepth 100000 in
theorem holds_1 (w : World) (seed : ByteArray) (hsd : seed.size ≤ 35184372088832) (tn n : Int) (c : Cert) (A : Option Addr) (k : Nat) (h : Sl sgK w A k c.sigs) (m : Nat) (hm : m = c.sigs.length) (hz : (certB c).size ≤ 9223372036854775807) (p : Sg.Sig → Bool) (hp : Tells seed tn n c p) (hv : c.view ≠ 0) (r : Bool) (hr : r = true ↔ RightCert c ∧ (1 ≤ n ∧ n ≤ 7) ∧ n - (Gat.fl n.toNat : Int) ≤ ((goodF p c.sigs).length : Int)) : Calls Try.prog 73 #[.string seed, .int .i64 tn, .int .i64 n, .agg #[.int .i64 c.view, .string c.block, .slice A m k]] w fun e w' => e = .returned (.bool r) ∧ RowKit.Below w.heap.size w w' := by
  obtain ⟨rr, hrr⟩ : ∃ b : Bool, b = true ↔ RightCert c := ⟨@decide (RightCert c) (Classical.propDecidable _), by simp⟩
  have hb0 := below_one w (.cells #[.int .i64 c.view, .string c.block, .slice A m k] 39)
  have HB := Sd.mk hb0
  have X0 := Sd.mk (blk_new w (.cells #[.int .i64 c.view, .string c.block, .slice A m k] 39))
  have HGD := Sd.mk (fun W (hW : RowKit.Below w.heap.size w W) => good_any W seed hsd tn n c A k (h.below hW) m hm hz p hp rr hrr)
  have hv0 : (c.view == 0) = false := by rw [beq_eq_false_iff_ne]; exact hv
  have HR := Sd.mk hr
  have HRR := Sd.mk hrr
  have HM := Sd.mk hm
  clear h hm hz hr hrr hb0 hp hv
  by_cases hn : 1 ≤ n ∧ n ≤ 7
  · have HN := Sd.mk (fun W => nodes_any W n true (decide_eq_true hn))
    obtain ⟨n', rfl⟩ : ∃ n' : Nat, n = (n' : Int) := ⟨n.toNat, by omega⟩
    obtain ⟨q, hq⟩ : ∃ q, q = n' - Gat.fl n' := ⟨_, rfl⟩
    have hq1 : 1 ≤ q := by have := Gat.fl_lt (n := n') (by omega); omega
    have HQ := Sd.mk (fun W => Gat.quorum_any W n' (by omega) (by omega) q hq)
    obtain ⟨l, hl⟩ : ∃ l, (if rr = true then goodF p c.sigs else []) = l := ⟨_, rfl⟩
    obtain ⟨j, hj⟩ : ∃ j, l.length = j := ⟨_, rfl⟩
    have HJ := Sd.mk hj
    have HL := Sd.mk hl
    obtain ⟨b, hb⟩ : ∃ b, decide ((q : Int) ≤ (j : Int)) = b := ⟨_, rfl⟩
    have hb2 : decide (q ≤ j) = b := by rw [← hb]; simp only [decide_eq_decide]; omega
    have HR2 := Sd.mk (show r = b by
      rw [Bool.eq_iff_iff, HR.out, ← hb, decide_eq_true_eq, ← hj, ← hl]
      have e : ((n' : Int)).toNat = n' := Int.toNat_natCast _
      have hfl := Gat.fl_lt (n := n') (by omega)
      rw [e]
      by_cases hc : RightCert c
      · rw [if_pos (HRR.out.2 hc)]
        exact ⟨fun h => by have := h.2.2; omega, fun h => ⟨hc, hn, by omega⟩⟩
      · rw [if_neg (fun h => hc (HRR.out.1 h))]
        exact ⟨fun h => absurd h.1 hc, fun h => by simp only [List.length_nil] at h; omega⟩)
    clear HR HRR hl hj hq
    go_enter Try.func73, Try.ntmps73
    go_upto_region 1 with (fail)
    generalize w.heap.size = Bx at X0 ⊢
    generalize w.alloc _ = W1 at X0 HB ⊢
    have c0 := blk_at X0.out 0 _ rfl
    have c1 := blk_at X0.out 1 _ rfl
    have c2 := blk_at X0.out 2 _ rfl
    go_wp2_with (first
      | (go_at_call 72; (with_reducible refine (HN.out _).mono ?_); rintro e w2 ⟨rfl, hw2⟩; obtain rfl := hw2.symm)
      | (go_at_call 110; (with_reducible refine (HGD.out _ HB.out).mono ?_); rintro e w3 ⟨v, rfl, ho⟩; rw [HL.out] at ho; obtain ⟨A3, k3, rfl, -⟩ := ho.slice; rw [HJ.out]; have HB3 := Sd.mk (below_then HB.out ho.bel); clear ho)
      | (go_at_call 111; (with_reducible refine (HQ.out _).mono ?_); rintro e w4 ⟨rfl, hw4⟩; obtain rfl := hw4.symm))
    go_ret
    exact ⟨by rw [HR2.out]; rfl, HB3.out⟩
  · have HN := Sd.mk (fun W => nodes_any W n false (decide_eq_false hn))
    obtain rfl : r = false := by
      cases r with
      | false => rfl
      | true => exact absurd (HR.out.1 rfl).2.1 hn
    clear hn HR
    go_enter Try.func73, Try.ntmps73
    go_upto_region 1 with (fail)
    generalize w.heap.size = Bx at X0 ⊢
    generalize w.alloc _ = W1 at X0 HB ⊢
    have c0 := blk_at X0.out 0 _ rfl
    have c1 := blk_at X0.out 1 _ rfl
    have c2 := blk_at X0.out 2 _ rfl
    go_wp2_with (first
      | (go_at_call 72; (with_reducible refine (HN.out _).mono ?_); rintro e w2 ⟨rfl, hw2⟩; obtain rfl := hw2.symm))
    go_ret
    exact ⟨rfl, HB.out⟩
theorem certholds_any (w : World) (seed : ByteArray) (hsd : seed.size ≤ 35184372088832) (tn n : Int) (c : Cert) (A : Option Addr) (k : Nat) (h : Sl sgK w A k c.sigs) (m : Nat) (hm : m = c.sigs.length) (hz : (certB c).size ≤ 9223372036854775807) (p : Sg.Sig → Bool) (hp : Tells seed tn n c p) (r : Bool) (hr : r = true ↔ HoldsC p n c) : Calls Try.prog 73 #[.string seed, .int .i64 tn, .int .i64 n, .agg #[.int .i64 c.view, .string c.block, .slice A m k]] w fun e w' => e = .returned (.bool r) ∧ RowKit.Below w.heap.size w w' := by
  by_cases hv : c.view = 0
  · exact holds_0 w seed tn n c A k h m hm hz hv r (hr.trans (by unfold HoldsC; rw [if_pos hv]))
  · exact holds_1 w seed hsd tn n c A k h m hm hz p hp hv r (hr.trans (by unfold HoldsC; rw [if_neg hv]))
set_option maxHeartbeats 1000000 in
theorem reftext_any (w : World) (view : Int) (b : ByteArray) (hb : b.size ≤ 70368744177664) (t : ByteArray) (ht : vtxt view b = t) : Calls Try.prog 70 #[.int .i64 view, .string b] w fun e w' => e = .returned (.string t) ∧ RowKit.Below w.heap.size w w' := by
  obtain ⟨n, hn⟩ : ∃ n, num4 view = n := ⟨_, rfl⟩
  have hn4 : n.size = 4 := by rw [← hn]; exact num4_size _
  have hcat : ¬9223372036854775807 < 1 + n.size := by omega
  have hcat2 : ¬9223372036854775807 < (({ data := #[86] } : ByteArray) ++ n).size + b.size := by rw [show (({ data := #[86] } : ByteArray) ++ n).size = 1 + n.size from Rp.app_size _ _]; omega
  have hcat3 : ¬9223372036854775807 < 1 + n.size + b.size := by omega
  have HN := Sd.mk hn
  have HT := Sd.mk (show VB ++ n ++ b = t by rw [← ht, ← hn]; rfl)
  clear hn hn4 ht
  go_enter Try.func70, Try.ntmps70
  go_wp2_with (first
    | (go_at_call 62; (with_reducible refine (Num.ref_number_any _ _).mono ?_); rintro e w1 ⟨rfl, hb1⟩; rw [HN.out]))
  go_ret
  exact ⟨by rw [← HT.out]; rfl, hb1⟩
end Go.Proofs.Ytnomgkmeomlccaa.Crt
set_option linter.unusedVariables false
set_option linter.unusedSimpArgs false

namespace Go.Proofs.Ytnomgkmeomlccaa.Crt
open Go.RowKit Go.Sort Rd Api Own Mv App Num Dig Mac Rp

/-- a node's tags -/
def rtags (seed : ByteArray) (fr : Int) (tx : ByteArray) (n : Nat) : List ByteArray := (List.range n).map fun i => mtag seed fr (i : Nat) tx
theorem rtags_len (seed : ByteArray) (fr : Int) (tx : ByteArray) (n : Nat) : (rtags seed fr tx n).length = n := by simp [rtags]
theorem rtags_succ (seed : ByteArray) (fr : Int) (tx : ByteArray) (n : Nat) : rtags seed fr tx (n + 1) = rtags seed fr tx n ++ [mtag seed fr (n : Nat) tx] := by simp [rtags, List.range_succ]
theorem rtags_at (seed : ByteArray) (fr : Int) (tx : ByteArray) {n i : Nat} (hi : i < n) : (rtags seed fr tx n)[i]? = some (mtag seed fr (i : Nat) tx) := by simp [rtags, hi]
theorem rtags_16 (seed : ByteArray) (fr : Int) (tx : ByteArray) (n : Nat) : ∀ t ∈ rtags seed fr tx n, t.size = 16 := fun t ht => by
  obtain ⟨i, _, rfl⟩ := List.mem_map.1 ht
  exact mtag_size _ _ _ _
/-- amid a signature's making -/
structure Sv (W0 : World) (node : Int) (A : Option Addr) (i c : Nat) (tags : List ByteArray) (Bs Br : Nat) (W : World) : Prop where
  bel : RowKit.Below W0.heap.size W0 W
  bs : W.heap[Bs]? = some (.cells #[.int .i64 node, .slice A i c] 51 (0, 0))
  br : W.heap[Br]? = some (.cells #[.int .i64 0, .slice none 0 0] 51 (0, 0))
  own : OwnR fT 1 W 0 9 (.slice A i c) tags
  fr : ∀ k, (Value.slice A i c).ownBlock = some k → W0.heap.size ≤ k
  ge : W0.heap.size ≤ Bs ∧ W0.heap.size ≤ Br ∧ Bs ≠ Br
section
variable {W0 : World} {node : Int} {A : Option Addr} {i c : Nat} {tags : List ByteArray} {Bs Br : Nat} {W W1 : World}
theorem Sv.below (h : Sv W0 node A i c tags Bs Br W) (hb : RowKit.Below W.heap.size W W1) : Sv W0 node A i c tags Bs Br W1 := ⟨below_then h.bel hb, blk_keep h.bs hb, blk_keep h.br hb, h.own.below hb, h.fr, h.ge⟩
theorem Sv.push (h : Sv W0 node A i c tags Bs Br W) {N : Nat} (hN : W0.heap.size ≤ N) {x : ByteArray} {A6 : Option Addr} {j q6 : Nat} (hown : OwnR fT 1 W1 0 9 (.slice A6 j q6) (tags ++ [x])) (hg : W.grownBy W1 (Value.slice A i c).ownBlock) (hob : (Value.slice A6 j q6).ownBlock = (Value.slice A i c).ownBlock ∨ (Value.slice A6 j q6).ownBlock = some N) :
    Sv W0 node A6 j q6 (tags ++ [x]) Bs Br (W1.setCell ⟨Bs, 1, none⟩ (.slice A6 j q6)) := by
  have r6 := blk_grown h.bs hg (OwnR.blk h.own h.bs (by decide))
  have b6 := blk_grown h.br hg (OwnR.blk h.own h.br (by decide))
  refine ⟨(below_grown h.bel hg h.bel.size h.fr).setCell (p := ⟨Bs, 1, none⟩) h.ge.1 _, (blk_set3 r6 1 _).trans rfl, (heap_set _ _ _ _ _ (Ne.symm h.ge.2.2)).trans b6, OwnR.grown hown (row := some Bs) (grown_set _ _ _ _) (.inr (OwnR.blk hown r6 (by decide))), fun k hk => ?_, h.ge⟩
  rcases hob with e | e
  · exact h.fr k (e ▸ hk)
  · rw [hk] at e; have := Option.some.inj e; omega
theorem sv_start (W : World) (x : Int) : Sv W x none 0 0 [] (W.heap.size + 1) W.heap.size ((W.alloc (.cells #[.int .i64 0, .slice none 0 0] 51)).alloc (.cells #[.int .i64 x, .slice none 0 0] 51)) := by
  have b1 := below_one W (.cells #[.int .i64 0, .slice none 0 0] 51)
  have b2 := below_one (W.alloc (.cells #[.int .i64 0, .slice none 0 0] 51)) (.cells #[.int .i64 x, .slice none 0 0] 51)
  exact ⟨below_then b1 b2, blk_new1 W _ _, blk_keep (blk_new W _) b2, OwnR.nil _ _ _ _ _, fun k hk => by simp [Value.ownBlock] at hk, by omega, Nat.le_refl _, by omega⟩
end
set_option maxHeartbeats 8000000 in
set_option maxRecDepth 100000 in
theorem refsigv_any (W : World) (seed : ByteArray) (hsd : seed.size ≤ 35184372088832) (fr : Int) (n : Nat) (hn : n ≤ 7) (view : Int) (block : ByteArray) (hb32 : block.size ≤ 32) (tx : ByteArray) (htx : vtxt view block = tx) :
    Calls Try.prog 32 #[.string seed, .int .i64 fr, .int .i64 (n : Nat), .int .i64 view, .string block] W fun e w' => ∃ A c, e = .returned (.agg #[.int .i64 fr, .slice A n c]) ∧ OwnR fT 1 w' 0 9 (.slice A n c) (rtags seed fr tx n) ∧ (∀ k, (Value.slice A n c).ownBlock = some k → W.heap.size ≤ k) ∧ RowKit.Below W.heap.size W w' := by
  have HT := Sd.mk htx
  have HTZ := Sd.mk (show tx.size ≤ 35184372088832 by rw [← htx, vtxt_size]; omega)
  have HL := Sd.mk (sv_start W fr)
  clear htx
  go_enter Try.func32, Try.ntmps32
  go_upto_region 2 with (fail)
  generalize W.heap.size + 1 = Bs at HL ⊢
  generalize hBr : W.heap.size = Br at HL ⊢
  generalize (W.alloc _).alloc _ = W1 at HL ⊢
  go_wp2
  go_loopg [12] n (fun gk v12 wr => ∃ i A c, i + gk = n ∧ v12 = .int .i64 (i : Nat) ∧ Sd (Sv W fr A i c (rtags seed fr tx i) Bs Br wr))
  case atStart => exact ⟨0, none, 0, by omega, rfl, HL⟩
  case round =>
    clear HL
    obtain ⟨i, A, c, hi, rfl, HL⟩ := hrel
    by_cases hlt : i < n
    · have hii : (i : Int) < n := by omega
      obtain ⟨y, hy⟩ : ∃ y, mtag seed fr (i : Nat) tx = y := ⟨_, rfl⟩
      have HTG := Sd.mk (show rtags seed fr tx (i + 1) = rtags seed fr tx i ++ [y] by rw [rtags_succ, hy])
      have HY := Sd.mk hy
      have HD := Sd.mk (HL.out.below (below_drew' (Below.refl _ _)))
      have HLN := Sd.mk (rtags_len seed fr tx i)
      have b1 := blk_at HD.out.bs 1 _ rfl
      clear hy HL
      go_wp2
      refine Peel.region_peel (n := 12) (S := fun W1 => W1.cell? ⟨Bs, 1, none⟩ = some (.slice A i c)) (by kernel_rfl) (by kernel_rfl) b1 (fun hHeld => ?_)
      simp only [List.take_succ_cons, List.take_zero]
      (refine Peel.take 0 (v := ?_) rfl rfl (by kernel_rfl) (by kernel_rfl) (by kernel_rfl) (fun _ _ _ h => h) (by assumption) ?_ ?_; rotate_left; (focus (intro w hSw; (try dsimp only at hSw); (try simp only [List.getElem_toArray, List.getElem_cons_succ, List.getElem_cons_zero]); go_simp; try (with_reducible rfl))); try simp only [List.getElem_toArray, List.getElem_cons_succ, List.getElem_cons_zero, Act.put, List.setIfInBounds_toArray, List.set_cons_zero, List.set_cons_succ])
      (refine Peel.take 1 (v := ?_) rfl rfl (by kernel_rfl) (by kernel_rfl) (by kernel_rfl) (fun _ _ _ h => h) (by assumption) ?_ ?_; rotate_left; (focus (intro w hSw; (try dsimp only at hSw); (try simp only [List.getElem_toArray, List.getElem_cons_succ, List.getElem_cons_zero]); go_simp; try (with_reducible rfl))); try simp only [List.getElem_toArray, List.getElem_cons_succ, List.getElem_cons_zero, Act.put, List.setIfInBounds_toArray, List.set_cons_zero, List.set_cons_succ])
      (refine Peel.take 2 (v := ?_) rfl rfl (by kernel_rfl) (by kernel_rfl) (by kernel_rfl) (fun _ _ _ h => h) (by assumption) ?_ ?_; rotate_left; (focus (intro w hSw; (try dsimp only at hSw); (try simp only [List.getElem_toArray, List.getElem_cons_succ, List.getElem_cons_zero]); go_simp; try (with_reducible rfl))); try simp only [List.getElem_toArray, List.getElem_cons_succ, List.getElem_cons_zero, Act.put, List.setIfInBounds_toArray, List.set_cons_zero, List.set_cons_succ])
      (refine Peel.take 3 (v := ?_) rfl rfl (by kernel_rfl) (by kernel_rfl) (by kernel_rfl) (fun _ _ _ h => h) (by assumption) ?_ ?_; rotate_left; (focus (intro w hSw; (try dsimp only at hSw); (try simp only [List.getElem_toArray, List.getElem_cons_succ, List.getElem_cons_zero]); go_simp; try (with_reducible rfl))); try simp only [List.getElem_toArray, List.getElem_cons_succ, List.getElem_cons_zero, Act.put, List.setIfInBounds_toArray, List.set_cons_zero, List.set_cons_succ])
      (refine Peel.take 4 (v := ?_) rfl rfl (by kernel_rfl) (by kernel_rfl) (by kernel_rfl) (fun _ _ _ h => h) (by assumption) ?_ ?_; rotate_left; (focus (intro w hSw; (try dsimp only at hSw); (try simp only [List.getElem_toArray, List.getElem_cons_succ, List.getElem_cons_zero]); go_simp; try (with_reducible rfl))); try simp only [List.getElem_toArray, List.getElem_cons_succ, List.getElem_cons_zero, Act.put, List.setIfInBounds_toArray, List.set_cons_zero, List.set_cons_succ])
      (refine Peel.take 5 (v := ?_) rfl rfl (by kernel_rfl) (by kernel_rfl) (by kernel_rfl) (fun _ _ _ h => h) (by assumption) ?_ ?_; rotate_left; (focus (intro w hSw; (try dsimp only at hSw); (try simp only [List.getElem_toArray, List.getElem_cons_succ, List.getElem_cons_zero]); go_simp; try (with_reducible rfl))); try simp only [List.getElem_toArray, List.getElem_cons_succ, List.getElem_cons_zero, Act.put, List.setIfInBounds_toArray, List.set_cons_zero, List.set_cons_succ])
      (refine Peel.take 6 (v := ?_) rfl rfl (by kernel_rfl) (by kernel_rfl) (by kernel_rfl) (fun _ _ _ h => h) (by assumption) ?_ ?_; rotate_left; (focus (intro w hSw; (try dsimp only at hSw); (try simp only [List.getElem_toArray, List.getElem_cons_succ, List.getElem_cons_zero]); go_simp; try (with_reducible rfl))); try simp only [List.getElem_toArray, List.getElem_cons_succ, List.getElem_cons_zero, Act.put, List.setIfInBounds_toArray, List.set_cons_zero, List.set_cons_succ])
      (refine wpAnyH_ready (rs := [7]) (by kernel_rfl) (by simp) ?_; refine AllReadyH.cons rfl (fun K hK => ?_) AllReadyH.nil)
      go_simp
      go_at_call 70
      with_reducible refine (reftext_any _ view block (by omega) tx HT.out).mono ?_
      rintro e w2 ⟨rfl, hb⟩
      have HL2 := Sd.mk (HD.out.below hb)
      have y1 := blk_at HL2.out.bs 1 _ rfl
      clear hb
      (refine hK.out _ _ y1 (fun hHeld => ?_); (clear hK K; try simp only [List.getElem_toArray, List.getElem_cons_succ, List.getElem_cons_zero, Act.put, List.setIfInBounds_toArray, List.set_cons_zero, List.set_cons_succ]))
      (refine wpAnyH_ready (rs := [8]) (by kernel_rfl) (by simp) ?_; refine AllReadyH.cons rfl (fun K hK => ?_) AllReadyH.nil)
      go_simp
      go_at_call 69
      with_reducible refine (reftag_any _ seed fr (i : Nat) tx hsd HTZ.out y HY.out).mono ?_
      rintro e w3 ⟨rfl, hb⟩
      have HL3 := Sd.mk (HL2.out.below hb)
      have y2 := blk_at HL3.out.bs 1 _ rfl
      have ya : (w3.alloc (.cells #[.string y] 9)).cell? ⟨Bs, 1, none⟩ = some (.slice A i c) := cell_below (below_one w3 _) y2
      clear hb
      (refine hK.out _ _ y2 (fun hHeld => ?_); (clear hK K; try simp only [List.getElem_toArray, List.getElem_cons_succ, List.getElem_cons_zero, Act.put, List.setIfInBounds_toArray, List.set_cons_zero, List.set_cons_succ]))
      (refine wpAnyH_ready (rs := [9]) (by kernel_rfl) (by simp) ?_; refine AllReadyH.cons rfl (fun K hK => ?_) AllReadyH.nil)
      go_simp
      (refine hK.out _ _ ya (fun hHeld => ?_); (clear hK K; try simp only [List.getElem_toArray, List.getElem_cons_succ, List.getElem_cons_zero, Act.put, List.setIfInBounds_toArray, List.set_cons_zero, List.set_cons_succ]))
      (refine wpAnyH_ready (rs := [10]) (by kernel_rfl) (by simp) ?_; refine AllReadyH.cons rfl (fun K hK => ?_) AllReadyH.nil)
      (refine step_append_at (f := fT) (n := 1) (fun _ => rfl) fT_one rfl (.tmp 21) (.tmp 29) 49 9 (.string ByteArray.empty) 16 rfl Try.underlying49 info_str rfl (by decide) (.slice A i c) (rtags seed fr tx i) y rfl rfl HL3.out.own (by rw [HLN.out]; omega) (by rw [HLN.out]; omega) ?_; intro v6 w6 hown hgrow hob; obtain ⟨A6, q6, rfl⟩ := OwnR.slice hown; have hl6 : (rtags seed fr tx i ++ [y]).length = i + 1 := (by rw [List.length_append, HLN.out]; rfl); rw [hl6] at hown hob ⊢; have r6 := blk_grown HL3.out.bs hgrow (OwnR.blk HL3.out.own HL3.out.bs (by decide)); have c6 := blk_at r6 1 _ rfl; have f6 := blk_frz r6 1; have HL6 := Sd.mk (HL3.out.push (by have := HL3.out.bel.size; omega) hown hgrow hob); clear hown hgrow hob hl6)
      (refine hK.out _ _ c6 (fun hHeld => ?_); (clear hK K; try simp only [List.getElem_toArray, List.getElem_cons_succ, List.getElem_cons_zero, Act.put, List.setIfInBounds_toArray, List.set_cons_zero, List.set_cons_succ]))
      (refine Peel.take 11 (v := ?_) rfl rfl (by kernel_rfl) (by kernel_rfl) (by kernel_rfl) (fun _ _ _ h => h) (by assumption) ?_ ?_; rotate_left; (focus (intro w hSw; (try dsimp only at hSw); (try simp only [List.getElem_toArray, List.getElem_cons_succ, List.getElem_cons_zero]); go_simp; try (with_reducible rfl))); try simp only [List.getElem_toArray, List.getElem_cons_succ, List.getElem_cons_zero, Act.put, List.setIfInBounds_toArray, List.set_cons_zero, List.set_cons_succ])
      (refine wpAnyH_done (by kernel_rfl) ?_ _; simp only [Peel.Qn, List.drop_succ_cons, List.drop_zero]; clear hHeld)
      go_wp2
      have HL7 := Sd.mk (show Sv W fr A6 (i + 1) q6 (rtags seed fr tx (i + 1)) Bs Br _ from by rw [HTG.out]; exact HL6.out)
      clear c6 f6 r6 HL6 HD b1
      generalize w6.setCell _ _ = W7 at HL7 ⊢
      go_roundg (gk - 1)
      case measure => omega
      case rel => exact ⟨i + 1, A6, q6, by omega, by go_num, HL7⟩
    · have hii : decide (i < n) = false := decide_eq_false (by omega)
      have hii2 : decide ((i : Int) < n) = false := decide_eq_false (by omega)
      obtain rfl : i = n := by omega
      have q0 := blk_at HL.out.bs 0 _ rfl
      have q1 := blk_at HL.out.bs 1 _ rfl
      have r0 := blk_at HL.out.br 0 _ rfl
      have r1 := blk_at HL.out.br 1 _ rfl
      have f0 := blk_frz HL.out.br 0
      have f1 := blk_frz HL.out.br 1
      go_wp2
      have X8 : ((wr.setCell ⟨Br, 0, none⟩ (.int .i64 fr)).setCell ⟨Br, 1, none⟩ (.slice A i c)).heap[Br]? = some (.cells #[.int .i64 fr, .slice A i c] 51 (0, 0)) := (blk_set3 (blk_set3 HL.out.br 0 _) 1 _).trans rfl
      have y0 := blk_at X8 0 _ rfl
      have y1 := blk_at X8 1 _ rfl
      have HG := Sd.mk (show RowKit.Below W.heap.size W ((wr.setCell ⟨Br, 0, none⟩ (.int .i64 fr)).setCell ⟨Br, 1, none⟩ (.slice A i c)) from
        (HL.out.bel.setCell (p := ⟨Br, 0, none⟩) HL.out.ge.2.1 _).setCell (p := ⟨Br, 1, none⟩) HL.out.ge.2.1 _)
      have HOW := Sd.mk (OwnR.grown (OwnR.grown HL.out.own (grown_set wr Br 0 (.int .i64 fr)) (.inr (OwnR.blk HL.out.own HL.out.br (by decide)))) (grown_set _ Br 1 (.slice A i c)) (.inr (by have := OwnR.blk HL.out.own HL.out.br (by decide); exact this)))
      have HFR := Sd.mk (show ∀ k, (Value.slice A i c).ownBlock = some k → W.heap.size ≤ k from HL.out.fr)
      clear q0 q1 r0 r1 f0 f1 X8 HL
      generalize (wr.setCell _ _).setCell _ _ = W9 at y0 y1 HG HOW ⊢
      exact bodyPost_ret (v := .agg #[.int .i64 fr, .slice A i c]) (by simp [results, Try.results32, go_sem, y0, y1]) rfl ⟨A, c, rfl, HOW.out, (by have h := HFR.out; first | exact h | rwa [hBr] at h), (by have h := HG.out; first | exact h | rwa [hBr] at h)⟩
end Go.Proofs.Ytnomgkmeomlccaa.Crt

/- Signed votes; what a program that does nothing does not answer: walked. The law's own list of numbers, beside a tally. -/
import Derived.Test.YtdmdfpbklflijaaTalD
import Derived.Test.YtdmdfpbklflijaaSignA
set_option linter.unusedVariables false
set_option linter.unusedSimpArgs false
namespace Go.Proofs.Ytdmdfpbklflijaa.Tal
open Go.RowKit Go.Sort Rd Api Own Mv App Mk Num Dig Mac

def FIRST : ByteArray := { data := #[102, 105, 114, 115, 116] }
def FB : ByteArray := sum FIRST
theorem FB_size : FB.size = 32 := sum_size _
theorem sum_first (w : World) (d : ByteArray) (hd : sum FIRST = d) : Calls Try.prog 56 #[.string { data := #[102, 105, 114, 115, 116] }] w fun e w' => e = .returned (.string d) ∧ RowKit.Below w.heap.size w w' := by
  subst hd; exact blake_sum_any w FIRST (by decide)
set_option maxHeartbeats 2000000 in
theorem first_any (w : World) (d : ByteArray) (hd : FB = d) : Calls Try.prog 21 #[] w fun e w' => e = .returned (.agg #[.int .i64 0, .string d, .slice none 0 0]) ∧ RowKit.Below w.heap.size w w' := by
  have HR := Sd.mk (blk_new w rblk)
  have HB := Sd.mk (below_one w rblk)
  have HS := Sd.mk (sum_first (w.alloc rblk) d hd)
  go_enter Try.func21, Try.ntmps21
  go_upto_region 1 with (fail)
  change Code.wp _ _ _ _ (w.alloc rblk)
  generalize hg : w.heap.size = Br at HR ⊢
  generalize w.alloc rblk = W1 at HR HB HS ⊢
  go_wp2_with (first
    | (go_at_call 56; (with_reducible refine HS.out.mono ?_); rintro e w4 ⟨rfl, hb4⟩; have HR4 := Sd.mk (blk_keep HR.out hb4); have HB4 := Sd.mk (below_then HB.out hb4); have a0 := blk_at HR4.out 0 _ rfl; have a1 := blk_at HR4.out 1 _ rfl; have a2 := blk_at HR4.out 2 _ rfl; have f0 := blk_frz HR4.out 0; have f1 := blk_frz HR4.out 1; have f2 := blk_frz HR4.out 2; clear hb4))
  obtain ⟨y0, y1, y2⟩ := fin3_cells HR4.out (.int .i64 0) (.string d) (.slice none 0 0)
  have HF := Sd.mk (show RowKit.Below w.heap.size w (fin3 Br w4 (.int .i64 0) (.string d) (.slice none 0 0)) from ((HB4.out.setCell (p := ⟨Br, 0, none⟩) (by simp only; omega) _).setCell (p := ⟨Br, 1, none⟩) (by simp only; omega) _).setCell (p := ⟨Br, 2, none⟩) (by simp only; omega) _)
  clear a0 a1 a2 f0 f1 f2
  change bodyPost _ _ _ _ _ (fin3 Br w4 (.int .i64 0) (.string d) (.slice none 0 0))
  generalize fin3 Br w4 _ _ _ = w9 at y0 y1 y2 HF ⊢
  exact bodyPost_ret (v := .agg #[.int .i64 0, .string d, .slice none 0 0]) (by simp [results, Try.results21, go_sem, y0, y1, y2]) rfl ⟨rfl, HF.out⟩
theorem tags_hold (seed : ByteArray) (fr : Int) (tx : ByteArray) (n t : Nat) (hn : 1 ≤ n ∧ n ≤ 7) (hf : 0 ≤ fr ∧ fr < (n : Int)) (ht : t < n) : holdsF seed t n tx fr (tagsF seed fr tx n) :=
  ⟨by omega, by omega, hf, by rw [tagsF_length], fun j hj => by
    have hj' : j < n := by rw [tagsF_length] at hj; exact hj
    have h2 := tagsF_at seed fr tx hj'
    rw [List.getElem?_eq_getElem hj] at h2
    rw [Option.some.inj h2]
    exact mtag_size _ _ _ _, by rw [Int.toNat_natCast]; exact tagsF_at seed fr tx ht⟩
/-- a vote that is signed is taken just if it is the node's first in the view -/
theorem takes_signed {K : World → Prop} {w0 : World} {g : Nat} {seed : ByteArray} {v : Value} {vs : List Vt} {W : World} (t n : Nat) (hn : 1 ≤ n ∧ n ≤ 7) (htn : t < n) (h : Tb K w0 g seed t n 0 v vs W) (hl : vs.length < 4 * n) (hsz : seed.size ≤ 35184372088832) (y : Vt) (hv : 1 ≤ y.v ∧ y.v ≤ 1000000) (hb : y.b.size = 32) (hf : 0 ≤ y.s.f ∧ y.s.f < (n : Int)) (hk : y.s.n = n)
    (ht : Sl Rk.str W y.s.a y.s.c (tagsF seed y.s.f (vtxt y.v y.b) n)) (r : Bool) (hr : vs.any (same y) = !r) : ∀ W1, RowKit.Below W.heap.size W W1 → Takes g y r W1 := by
  intro W1 hb1
  obtain ⟨A, c, rfl, hs⟩ := own_vt h.ty.own
  have hw : wrap64 (4 * (n : Int)) = 4 * (n : Int) := by unfold wrap64; omega
  exact takes_had (blk_keep h.ty.blk hb1) y (by omega) (by omega) (by omega) hb (by rw [hw]; omega) vs rfl (hs.below hb1) (!r) hr (tagsF seed y.s.f (vtxt y.v y.b) n) (by rw [hk, tagsF_length]) (fun _ => ht.below hb1) hsz r (by
    cases r with
    | true => exact .inr ⟨rfl, fun _ => tags_hold seed _ _ n t hn hf htn, fun _ => rfl⟩
    | false => exact .inl ⟨rfl, rfl⟩)
def SB : ByteArray := { data := #[115] }
/-- a signature's tags, in a world -/
def Sgd (fr : Int) (n : Nat) (tx : ByteArray) (v : Value) (W : World) : Prop := ∃ A c, v = .slice A n c ∧ Sl Rk.str W A c (tagsF SB fr tx n)
def strK0 : Rk ByteArray where
  sz := 1
  K := fun _ s cs => cs = [.string s]
  len := fun h => by rw [h]; rfl
  keep := fun _ h => h
theorem sgd_of {w : World} {fr : Int} {n : Nat} {tx : ByteArray} {v : Value} {B : Nat} (h : OwnR Mac.fS 1 w B 9 v (tagsF SB fr tx n)) : Sgd fr n tx v w := by
  obtain ⟨A, c, hv, hs⟩ := OwnR.reads (d := strK0) (f := Mac.fS) (n := 1) (fun _ _ => rfl) (fun _ => rfl) rfl h
  refine ⟨A, c, by rw [hv, tagsF_length], ⟨hs.le, hs.cap, fun i x hx => ?_⟩⟩
  obtain ⟨b, o, cs, hA, hK, hc⟩ := hs.row i x hx
  refine ⟨b, o, cs, hA, ⟨hK, ?_⟩, hc⟩
  have hi := (List.getElem?_eq_some_iff.1 hx).1
  rw [tagsF_length] at hi
  rw [tagsF_at SB fr tx hi] at hx
  rw [← Option.some.inj hx, mtag_size]
  decide
theorem sign_s (w : World) (fr : Int) (n : Nat) (tx : ByteArray) (h0 : 0 ≤ fr ∧ fr < (n : Int)) (h1 : 1 ≤ n ∧ n ≤ 7) (ht : tx.size ≤ 35184372088832) :
    Calls Try.prog 32 #[.string { data := #[115] }, .int .i64 fr, .int .i64 (n : Int), .string tx] w fun e w' => ∃ v, e = .returned (.tuple #[.agg #[.int .i64 fr, v], .int .i64 0]) ∧ Sgd fr n tx v w' ∧ RowKit.Below w.heap.size w w' :=
  (sign_ok w SB fr n tx h0 h1 (by decide) ht).mono fun e w' ⟨v, he, ho, hb⟩ => ⟨v, he, sgd_of ho, hb⟩
theorem Sgd.below {fr : Int} {n : Nat} {tx : ByteArray} {v : Value} {W W1 : World} (h : Sgd fr n tx v W) (hb : RowKit.Below W.heap.size W W1) : Sgd fr n tx v W1 := by
  obtain ⟨A, c, hv, hs⟩ := h
  exact ⟨A, c, hv, hs.below hb⟩
theorem vtxt_size (v : Int) {b : ByteArray} (hb : b.size = 32) : (vtxt v b).size = 37 := by unfold vtxt; rw [app_size, app_size, num4_size, hb]; rfl
theorem new_s (K : World → Prop) (hK : Kp K) (w w0 : World) (h0 : RowKit.Below w0.heap.size w0 w) (hw : K w) (n : Int) : Calls Try.prog 31 #[.string { data := #[115] }, .int .i64 0, .int .i64 n] w fun e w' => ∃ g, e = .returned (.pointer (some ⟨g, 0, none⟩)) ∧ Tb K w0 g SB (0 : Nat) n 0 (.slice none 0 0) [] w' ∧ RowKit.Below w.heap.size w w' :=
  (new_any w SB 0 n).mono fun e w' ⟨g, he, ht, hg, hb⟩ => ⟨g, he, ⟨ht, Nat.le_trans h0.size hg, fun k hk => by simp [Value.ownBlock] at hk, below_then h0 hb, hK, hK.below hw hb⟩, hb⟩
theorem field_cert (w : World) (d : ByteArray) : (Instr.field 24 (.agg #[.int .i64 0, .string d, .slice none 0 0]) 1).run Try.prog w = .ok (.string d) w := by kernel_rfl
set_option maxHeartbeats 4000000 in
set_option maxRecDepth 100000 in
theorem awake_any (w : World) : Calls Try.prog 30 #[] w fun e w' => e = .returned (.bool true) ∧ RowKit.Below w.heap.size w w' := by
  obtain ⟨d, hd⟩ : ∃ d, FB = d := ⟨_, rfl⟩
  have hd32 : d.size = 32 := by rw [← hd]; exact FB_size
  have HD := Sd.mk hd
  obtain ⟨tx, htx⟩ : ∃ tx, vtxt 1 d = tx := ⟨_, rfl⟩
  have HTX := Sd.mk htx
  have txz : tx.size ≤ 35184372088832 := by rw [← htx, vtxt_size 1 hd32]; omega
  have HD32 := Sd.mk hd32
  have hfc := fun W => field_cert W d
  clear hd htx hd32
  go_enter Try.func30, Try.ntmps30
  go_upto_region 4 with (first
    | (go_at_call 31; (with_reducible refine (new_s (fun _ => True) kp_true _ w (Below.refl _ _) trivial 1).mono ?_); rintro e w1 ⟨g, rfl, ht, hb1⟩; have HT1 := Sd.mk ht; clear ht hb1)
    | (go_at_call 21; (with_reducible refine (first_any _ d HD.out).mono ?_); rintro e w2 ⟨rfl, hb2⟩; have HT2 := Sd.mk (HT1.out.below hb2); clear hb2)
    | (go_at_call 23; (with_reducible refine (text_any _ 1 d (by have := HD32.out; omega) tx HTX.out).mono ?_); rintro e w3 ⟨rfl, hb3⟩; have HT3 := Sd.mk (HT2.out.below hb3); clear hb3)
    | (go_at_call 32; (refine (sign_s _ 0 1 tx (by omega) (by omega) txz).mono ?_); rintro e w4 ⟨v, rfl, ⟨Av, cv, rfl, hsl⟩, hb4⟩; have HT4 := Sd.mk (HT3.out.below hb4); have HSG := Sd.mk hsl; clear hsl hb4))
  have X0 := blk_new w4 (.cells #[.int .i64 0, .slice Av 1 cv] 39)
  have HT5 := Sd.mk (HT4.out.below (below_one w4 (.cells #[.int .i64 0, .slice Av 1 cv] 39)))
  have HSL := Sd.mk (HSG.out.below (below_one w4 (.cells #[.int .i64 0, .slice Av 1 cv] 39)))
  generalize hk7 : w4.heap.size = k7 at X0 ⊢
  generalize w4.alloc _ = W5 at X0 HT5 HSL ⊢
  have q0 := blk_at X0 0 _ rfl
  have q1 := blk_at X0 1 _ rfl
  have HAD := Sd.mk (add_full 1 (by omega) (by omega) HT5.out (by simp) ⟨1, d, ⟨0, Av, 1, cv⟩⟩ (takes_signed 0 1 (by omega) (by omega) HT5.out (by simp) (by decide) ⟨1, d, ⟨0, Av, 1, cv⟩⟩ ⟨by show (1 : Int) ≤ 1; omega, by show (1 : Int) ≤ 1000000; omega⟩ HD32.out ⟨by show (0 : Int) ≤ 0; omega, by show (0 : Int) < ((1 : Nat) : Int); omega⟩ rfl (by rw [HTX.out]; exact HSL.out) true rfl) 1 (by simp [ofF, hit]) 1 (by rfl) rfl)
  clear X0 hk7 HT4 HT3 HT2 HT1 HSG
  go_wp2_with (first
    | (go_at_call 33; (refine HAD.out.mono ?_); rintro e w6 ⟨v', A', k', c', r, rfl, -, -, -, htb⟩; have HB6 := Sd.mk htb.bel; clear htb))
  go_ret
  exact ⟨rfl, below_then HB6.out (below_one _ _)⟩
end Go.Proofs.Ytdmdfpbklflijaa.Tal
set_option linter.unusedVariables false
set_option linter.unusedSimpArgs false
namespace Go.Proofs.Ytdmdfpbklflijaa.Tal
open Go.RowKit Go.Sort Rd Api Own Mv App Mk Num Dig Mac

def fI (x : Int) : List Value := [.int .i64 x]
theorem fI_one : ∀ x : Int, ∀ u ∈ fI x, u.oneCell' = true := fun _ _ hu => by simp [fI] at hu; subst hu; rfl
theorem info_int : ((Try.prog).info? 3).map (fun i => (i.zero, i.size, i.bytes)) = some (some (.int .i64 0), 1, 8) := by kernel_rfl
def numK (k : IntKind) : Rk Int := num k
/-- who has voted, so far -/
def Who (v : Value) (who : List Int) (W : World) : Prop := OwnR fI 1 W 0 3 v who
theorem kp_who (v : Value) (who : List Int) : Kp (Who v who) :=
  ⟨fun h hb => OwnR.below h hb, fun {W k cs t} j u h hk ht => OwnR.grown h (row := some k) ⟨rfl, rfl, rfl, by simp [World.setCell], fun i hi hr => heap_set _ _ _ _ i (fun e => hr (by rw [e]))⟩ (.inr (OwnR.blk h hk (by rcases ht with rfl | ⟨rfl, -⟩ <;> decide))), fun {W W1 row} h hg hr => OwnR.grown h hg (by
    cases e : v.ownBlock with
    | none => exact .inl rfl
    | some k =>
      refine .inr (fun e2 => ?_)
      obtain ⟨cs, hk⟩ := hr k e2.symm
      exact OwnR.blk h hk (by decide) e)⟩
theorem own_emptyI (W : World) : OwnR fI 1 (W.alloc (.cells #[] 3)) 0 3 (.slice (some ⟨W.heap.size, 0, none⟩) 0 0) [] :=
  ⟨rfl, .inr ⟨W.heap.size, 0, #[], rfl, Nat.zero_le _, blk_new W _, Nat.le_refl _, by unfold maxLen; omega, rfl, rfl⟩⟩
theorem who_nil (W : World) : Who (.slice none 0 0) [] W := OwnR.nil _ _ _ _ _
theorem Tb.re {K K' : World → Prop} {w0 : World} {g : Nat} {seed : ByteArray} {tn n below : Int} {v : Value} {vs : List Vt} {W : World} (h : Tb K w0 g seed tn n below v vs W) (hK : Kp K') (hk : K' W) : Tb K' w0 g seed tn n below v vs W := ⟨h.ty, h.ge, h.row, h.bel, hK, hk⟩
theorem who_row {v : Value} {who : List Int} {W : World} (h : Who v who W) : ∃ A c, v = .slice A who.length c ∧ Sl (numK .i64) W A c who ∧ (A = none → c = 0) := by
  obtain ⟨A, c, hv, hs⟩ := OwnR.reads (d := numK .i64) (f := fI) (n := 1) (fun _ _ => rfl) (fun _ => rfl) rfl h
  refine ⟨A, c, hv, hs, fun hA => ?_⟩
  subst hA
  rcases h.2 with ⟨h1, _⟩ | ⟨g, cap, cur, h1, _⟩
  · rw [hv] at h1; simp at h1; exact h1.2
  · rw [hv] at h1; simp at h1
end Go.Proofs.Ytdmdfpbklflijaa.Tal

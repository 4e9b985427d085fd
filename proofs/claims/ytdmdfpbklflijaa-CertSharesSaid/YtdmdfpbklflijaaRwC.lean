/- A reader: a certificate: walked. -/
import Derived.Test.YtdmdfpbklflijaaRwS
set_option linter.unusedVariables false
set_option linter.unusedSimpArgs false
namespace Go.Proofs.Ytdmdfpbklflijaa.Rp
open Go.RowKit Rd Api Own Mv App Num

/-- a signature, as it lies -/
structure Rg where
  f : Int
  a : Option Addr
  n : Nat
  c : Nat
def fG (s : Rg) : List Value := [.int .i64 s.f, .slice s.a s.n s.c]
theorem fG_one : ∀ x : Rg, ∀ u ∈ fG x, u.oneCell' = true := fun _ _ hu => by simp [fG] at hu; rcases hu with rfl | rfl <;> rfl
theorem info_sig : ((Try.prog).info? 39).map (fun i => (i.zero, i.size, i.bytes)) = some (some (.agg #[.int .i64 0, .slice none 0 0]), 2, 32) := by kernel_rfl
theorem own_type {α : Type} {f : α → List Value} {n : Nat} {W : World} {base : Nat} {e : TypeId} {v : Value} {xs : List α} (h : OwnR f n W base e v xs) : ∀ k, v.ownBlock = some k → ∃ cs, W.heap[k]? = some (.cells cs e (0, 0)) := by
  intro k hk
  rcases h.2 with ⟨rfl, _⟩ | ⟨g, cap, cur, rfl, _, hg, _⟩
  · simp [Value.ownBlock] at hk
  · simp [Value.ownBlock] at hk; subst hk; exact ⟨_, hg⟩
theorem own_apart {α β : Type} {f : α → List Value} {n : Nat} {f' : β → List Value} {n' : Nat} {W : World} {b b' : Nat} {e e' : TypeId} {v v' : Value} {xs : List α} {ys : List β} (h : OwnR f n W b e v xs) (k : OwnR f' n' W b' e' v' ys) (hne : e ≠ e') : v.ownBlock = none ∨ v.ownBlock ≠ v'.ownBlock := by
  cases hv : v'.ownBlock with
  | none =>
    cases hw : v.ownBlock with
    | none => exact .inl rfl
    | some j => exact .inr (by simp)
  | some j =>
    obtain ⟨cs, hj⟩ := own_type k j hv
    exact .inr (OwnR.blk h hj hne)
/-- a signature's own tags -/
structure Tg (W0 W : World) (r : Rg) (x : Sg.Sig) : Prop where
  f : r.f = x.node
  n : r.n = x.tags.length
  own : OwnR fT 1 W 0 9 (.slice r.a r.n r.c) x.tags
  fr : ∀ k, (Value.slice r.a r.n r.c).ownBlock = some k → W0.heap.size ≤ k
def Tgs (W0 W : World) (rs : List Rg) (xs : List Sg.Sig) : Prop := rs.length = xs.length ∧ ∀ (j : Nat) (r : Rg) (x : Sg.Sig), rs[j]? = some r → xs[j]? = some x → Tg W0 W r x
/-- what keeps rows of strings -/
theorem Tgs.grown {W0 W W1 : World} {rs : List Rg} {xs : List Sg.Sig} (h : Tgs W0 W rs xs) {row : Option Nat} (hg : W.grownBy W1 row) (hr : ∀ k, row = some k → ∃ cs t, W.heap[k]? = some (.cells cs t (0, 0)) ∧ 9 ≠ t) : Tgs W0 W1 rs xs :=
  ⟨h.1, fun j r x h1 h2 => by
    obtain ⟨a, b, c, d⟩ := h.2 j r x h1 h2
    refine ⟨a, b, OwnR.grown c hg ?_, d⟩
    cases row with
    | none =>
      cases hw : (Value.slice r.a r.n r.c).ownBlock with
      | none => exact .inl rfl
      | some j => exact .inr (by simp)
    | some k =>
      obtain ⟨cs, t, hk, ht⟩ := hr k rfl
      exact .inr (OwnR.blk c hk ht)⟩
theorem Tgs.below {W0 W W1 : World} {rs : List Rg} {xs : List Sg.Sig} (h : Tgs W0 W rs xs) (hb : Below W.heap.size W W1) : Tgs W0 W1 rs xs := h.grown (grown_below hb none) (fun k e => by cases e)
theorem Tgs.snoc {W0 W : World} {rs : List Rg} {xs : List Sg.Sig} (h : Tgs W0 W rs xs) {r : Rg} {x : Sg.Sig} (hx : Tg W0 W r x) : Tgs W0 W (rs ++ [r]) (xs ++ [x]) := by
  refine ⟨by simp [h.1], fun j r' x' h1 h2 => ?_⟩
  rw [List.getElem?_append] at h1 h2
  rw [← h.1] at h2
  split at h1
  · rename_i hlt
    rw [if_pos hlt] at h2
    exact h.2 j r' x' h1 h2
  · rename_i hlt
    rw [if_neg hlt] at h2
    cases hj : j - rs.length with
    | zero => rw [hj] at h1 h2; cases h1; cases h2; exact hx
    | succ k => rw [hj] at h1; simp at h1
/-- amid a certificate's reading -/
structure Cw (W0 : World) (g : Nat) (s : RS) (view : Int) (block : ByteArray) (A : Option Addr) (i c : Nat) (rs : List Rg) (xs : List Sg.Sig) (Bc Br : Nat) (W : World) : Prop where
  gd : Gd g W0 s W
  bc : W.heap[Bc]? = some (.cells #[.int .i64 view, .string block, .slice A i c] 24 (0, 0))
  br : W.heap[Br]? = some (.cells #[.int .i64 0, .string { data := #[] }, .slice none 0 0] 24 (0, 0))
  own : OwnR fG 2 W 0 39 (.slice A i c) rs
  tg : Tgs W0 W rs xs
  fr : ∀ k, (Value.slice A i c).ownBlock = some k → W0.heap.size ≤ k
  lt : g < W0.heap.size
  ge : W0.heap.size ≤ Bc ∧ W0.heap.size ≤ Br ∧ Bc ≠ Br
section
variable {W0 : World} {g : Nat} {s t : RS} {view : Int} {block : ByteArray} {A : Option Addr} {i c : Nat} {rs : List Rg} {xs : List Sg.Sig} {Bc Br : Nat} {W W1 : World}
theorem Cw.below (h : Cw W0 g s view block A i c rs xs Bc Br W) (hb : Below W.heap.size W W1) : Cw W0 g s view block A i c rs xs Bc Br W1 := ⟨h.gd.bel hb, blk_keep h.bc hb, blk_keep h.br hb, h.own.below hb, h.tg.below hb, h.fr, h.lt, h.ge⟩
theorem Cw.call (h : Cw W0 g s view block A i c rs xs Bc Br W) (k : Gd g W t W1) : Cw W0 g t view block A i c rs xs Bc Br W1 :=
  ⟨h.gd.then k, blk_grown h.bc k.gr (fun e => by have := h.lt; have := h.ge.1; have := Option.some.inj e; omega), blk_grown h.br k.gr (fun e => by have := h.lt; have := h.ge.2.1; have := Option.some.inj e; omega), OwnR.grown h.own k.gr (.inr (OwnR.blk h.own h.gd.rb (by decide))), h.tg.grown k.gr (fun j e => by obtain rfl := Option.some.inj e; exact ⟨_, _, h.gd.rb, by decide⟩), h.fr, h.lt, h.ge⟩
theorem Cw.push (h : Cw W0 g s view block A i c rs xs Bc Br W) {N : Nat} (hN : W0.heap.size ≤ N) {r : Rg} {x : Sg.Sig} (hx : Tg W0 W r x) {A6 : Option Addr} {j q6 : Nat} (hown : OwnR fG 2 W1 0 39 (.slice A6 j q6) (rs ++ [r])) (hg : W.grownBy W1 (Value.slice A i c).ownBlock) (hob : (Value.slice A6 j q6).ownBlock = (Value.slice A i c).ownBlock ∨ (Value.slice A6 j q6).ownBlock = some N) :
    Cw W0 g s view block A6 j q6 (rs ++ [r]) (xs ++ [x]) Bc Br (W1.setCell ⟨Bc, 2, none⟩ (.slice A6 j q6)) := by
  have r6 := blk_grown h.bc hg (OwnR.blk h.own h.bc (by decide))
  have b6 := blk_grown h.br hg (OwnR.blk h.own h.br (by decide))
  have g6 : Rb g s W1 := blk_grown h.gd.rb hg (OwnR.blk h.own h.gd.rb (by decide))
  have hsz := h.gd.gr.size
  have hne : g ≠ Bc := by have := h.lt; have := h.ge.1; omega
  have t6 : Tgs W0 W1 (rs ++ [r]) (xs ++ [x]) := (h.tg.snoc hx).grown hg (fun k e => by
    obtain ⟨cs, hk⟩ := own_type h.own k e
    exact ⟨cs, _, hk, by decide⟩)
  refine ⟨⟨(heap_set _ _ _ _ _ hne).trans g6, ?_⟩, (blk_set3 r6 2 _).trans rfl, (heap_set _ _ _ _ _ (Ne.symm h.ge.2.2)).trans b6, OwnR.grown hown (row := some Bc) (grown_set _ _ _ _) (.inr (OwnR.blk hown r6 (by decide))), t6.grown (grown_set _ _ _ _) (fun k e => by obtain rfl := Option.some.inj e; exact ⟨_, _, r6, by decide⟩), fun k hk => ?_, h.lt, h.ge⟩
  · have h1 := h.gd.gr
    refine ⟨hg.os.trans h1.os, hg.tape.trans h1.tape, hg.output.trans h1.output, ?_, fun k hk hr => ?_⟩
    · have := hg.size; simp only [World.setCell, Array.size_modify]; omega
    · rw [heap_set _ _ _ _ _ (by have := h.ge.1; omega), hg.block k (by omega) (fun e => by have := h.fr k e.symm; omega)]
      exact h1.block k hk hr
  · rcases hob with e | e
    · exact h.fr k (e ▸ hk)
    · rw [hk] at e; have := Option.some.inj e; omega
theorem cw_start {W2 : World} (h : Rb g s W0) (hg : Gd g (W0.alloc (.cells #[.int .i64 0, .string { data := #[] }, .slice none 0 0] 24)) t W2) (v : Int) (b : ByteArray) : Cw W0 g t v b none 0 0 [] [] W2.heap.size W0.heap.size (W2.alloc (.cells #[.int .i64 v, .string b, .slice none 0 0] 24)) := by
  have hlt := blk_lt' h
  have b1 := below_one W0 (.cells #[.int .i64 0, .string { data := #[] }, .slice none 0 0] 24)
  have b2 := below_one W2 (.cells #[.int .i64 v, .string b, .slice none 0 0] 24)
  have hs := hg.gr.size
  simp only [World.size_alloc] at hs
  have r2 : W2.heap[W0.heap.size]? = some (.cells #[.int .i64 0, .string { data := #[] }, .slice none 0 0] 24 (0, 0)) := blk_grown (blk_new W0 _) hg.gr (fun e => by have := Option.some.inj e; omega)
  exact ⟨⟨hg.rb.below b2, grown_then (grown_below b1 _) (grown_then hg.gr (grown_below b2 _))⟩, blk_new _ _, blk_keep r2 b2, OwnR.nil _ _ _ _ _, ⟨rfl, fun j r x h1 _ => by simp at h1⟩, fun k hk => by simp [Value.ownBlock] at hk, hlt, by omega, Nat.le_refl _, by omega⟩
end
/-- the result's cells written -/
def fin3 (Br : Nat) (W : World) (a b c : Value) : World := ((W.setCell ⟨Br, 0, none⟩ a).setCell ⟨Br, 1, none⟩ b).setCell ⟨Br, 2, none⟩ c
theorem fin3_cells {Br : Nat} {W : World} {x y z : Value} (h : W.heap[Br]? = some (.cells #[x, y, z] 24 (0, 0))) (a b c : Value) : (fin3 Br W a b c).cell? ⟨Br, 0, none⟩ = some a ∧ (fin3 Br W a b c).cell? ⟨Br, 1, none⟩ = some b ∧ (fin3 Br W a b c).cell? ⟨Br, 2, none⟩ = some c := by
  have X8 : (fin3 Br W a b c).heap[Br]? = some (.cells #[a, b, c] 24 (0, 0)) := (blk_set3 (blk_set3 (blk_set3 h 0 _) 1 _) 2 _).trans rfl
  exact ⟨blk_at X8 0 _ rfl, blk_at X8 1 _ rfl, blk_at X8 2 _ rfl⟩
theorem fin3_grown (Br : Nat) (W : World) (a b c : Value) : W.grownBy (fin3 Br W a b c) (some Br) := grown_then (grown_set W Br 0 a) (grown_then (grown_set _ Br 1 b) (grown_set _ Br 2 c))
theorem grown_new {W0 W W1 : World} {g Br : Nat} (h : W0.grownBy W (some g)) (k : W.grownBy W1 (some Br)) (hb : W0.heap.size ≤ Br) : W0.grownBy W1 (some g) :=
  ⟨k.os.trans h.os, k.tape.trans h.tape, k.output.trans h.output, Nat.le_trans h.size k.size, fun i hi hr => (k.block i (Nat.lt_of_lt_of_le hi h.size) (fun e => by have := Option.some.inj e; omega)).trans (h.block i hi hr)⟩
/-- a certificate as it was read -/
structure Cr (W0 : World) (A : Option Addr) (n c : Nat) (xs : List Sg.Sig) (W : World) : Prop where
  ex : ∃ rs, OwnR fG 2 W 0 39 (.slice A n c) rs ∧ Tgs W0 W rs xs
  fr : ∀ k, (Value.slice A n c).ownBlock = some k → W0.heap.size ≤ k
set_option maxHeartbeats 8000000 in
set_option maxRecDepth 100000 in
theorem cert_any {g : Nat} {s : RS} {W : World} (h : Rb g s W) (hz : s.b.size ≤ 9223372036854775807) (x : Cert) (t : RS) (hx : certF s = (x, t)) :
    Calls Try.prog 103 #[.pointer (some ⟨g, 0, none⟩)] W fun e w' => ∃ A c, e = .returned (.agg #[.int .i64 x.view, .string x.block, .slice A x.sigs.length c]) ∧ Cr W A x.sigs.length c x.sigs w' ∧ Gd g W t w' := by
  obtain ⟨v, s1, hv⟩ : ∃ v s1, numF 0 1000000 s = (v, s1) := ⟨_, _, rfl⟩
  obtain ⟨b, s2, hb⟩ : ∃ b s2, cutF 32 s1 = (b, s2) := ⟨_, _, rfl⟩
  obtain ⟨m', s3, hm⟩ : ∃ m s3, numF 0 7 s2 = (m, s3) := ⟨_, _, rfl⟩
  have hz1 : s1.b.size ≤ 9223372036854775807 := by have := num_le 0 1000000 s; rw [hv] at this; simp only at this; omega
  have hz2 : s2.b.size ≤ 9223372036854775807 := by have := (cut_le 32 s1).1; rw [hb] at this; simp only at this; omega
  have hz3 : s3.b.size ≤ 9223372036854775807 := by have := num_le 0 7 s2; rw [hm] at this; simp only at this; omega
  have hm7 : 0 ≤ m' ∧ m' ≤ 7 := by have := num_in 0 7 s2 (.inr trivial); rw [hm] at this; simp only at this; omega
  obtain ⟨m, rfl⟩ : ∃ m : Nat, m' = (m : Int) := ⟨m'.toNat, by omega⟩
  have HX := Sd.mk (show (⟨v, b, (sigsF s3 m).1⟩, (sigsF s3 m).2.2) = (x, t) by rw [← hx]; unfold certF; rw [hv]; simp only; rw [hb]; simp only; rw [hm]; simp only [Int.toNat_natCast])
  have hm7' : m ≤ 7 := by omega
  have HZ3 := Sd.mk (fun k => Nat.le_trans (sigs_le s3 k).1 hz3)
  have HH := Sd.mk h
  have HN1 := Sd.mk (number_any (h.below (below_one W (.cells #[.int .i64 0, .string { data := #[] }, .slice none 0 0] 24))) 0 1000000 hz v s1 hv)
  have HN2 := Sd.mk (fun W1 (h1 : Rb g s1 W1) => cut_any h1 32 hz1 b s2 hb)
  have HN3 := Sd.mk (fun W1 (h1 : Rb g s2 W1) => number_any h1 0 7 hz2 (m : Int) s3 hm)
  clear h hz hx hv hb hm hz1 hz2 hz3 hm7
  go_enter Try.func103, Try.ntmps103
  go_upto_region 2 with (first
    | (go_at_call 121; (with_reducible refine HN1.out.mono ?_); rintro e w1 ⟨rfl, hg⟩; have HG1 := Sd.mk hg; clear hg)
    | (go_at_call 122; (with_reducible refine (HN2.out _ HG1.out.rb).mono ?_); rintro e w2 ⟨rfl, hg⟩; have HL := Sd.mk (cw_start HH.out (HG1.out.then hg) v b); clear hg))
  clear HN1 HN2 HH HG1
  generalize w2.heap.size = Bc at HL ⊢
  generalize hBr : W.heap.size = Br at HL ⊢
  generalize w2.alloc _ = W1 at HL ⊢
  go_upto_region 4 with (first
    | (go_at_call 121; (with_reducible refine (HN3.out _ HL.out.gd.rb).mono ?_); rintro e w3 ⟨rfl, hg⟩; have HL2 := Sd.mk (HL.out.call hg); clear hg))
  clear HN3 HL
  go_loopg [4, 5, 13] m (fun gk v4 v5 v13 wr => ∃ i A c rs, i + gk = m ∧ v4 = .int .i64 (sigsF s3 i).2.1 ∧ v13 = .int .i64 (i : Nat) ∧ Sd (rs.length = i) ∧ Sd (Cw W g (sigsF s3 i).2.2 v b A i c rs (sigsF s3 i).1 Bc Br wr))
  case atStart => exact ⟨0, none, 0, [], by omega, rfl, rfl, ⟨rfl⟩, HL2⟩
  case round =>
    clear HL2
    obtain ⟨i, A, c, rs, hi, rfl, rfl, HRS, HL⟩ := hrel
    by_cases hlt : i < m
    · have hii : (i : Int) < m := by omega
      obtain ⟨y, s4, hy⟩ : ∃ y s4, sigF (sigsF s3 i).2.2 = (y, s4) := ⟨_, _, rfl⟩
      obtain ⟨last, hla⟩ : ∃ last, (sigsF s3 i).2.1 = last := ⟨_, rfl⟩
      obtain ⟨ok, hok⟩ : ∃ ok, decide (last < y.node) = ok := ⟨_, rfl⟩
      have HT := Sd.mk (show sigsF s3 (i + 1) = ((sigsF s3 i).1 ++ [y], y.node, chk s4 ok) by simp only [sigsF, hy, hla, hok])
      have HST := Sd.mk (sig_any HL.out.gd.rb (HZ3.out i) y s4 hy)
      have HOK := Sd.mk hok
      rw [hla]
      clear hy hla
      go_upto_region 6 with (first
        | (go_at_call 123; (with_reducible refine HST.out.mono ?_); rintro e w4 ⟨A2, c2, rfl, ho, hf, hg⟩; have HL2 := Sd.mk (HL.out.call hg); have HTG := Sd.mk (⟨rfl, rfl, ho, fun k hk => Nat.le_trans HL.out.gd.gr.size (hf k hk)⟩ : Tg W w4 ⟨y.node, A2, y.tags.length, c2⟩ y); clear ho hf hg))
      have X0 := Sd.mk (blk_new w4 (.cells #[.int .i64 y.node, .slice A2 y.tags.length c2] 39))
      have hb4 := below_one w4 (.cells #[.int .i64 y.node, .slice A2 y.tags.length c2] 39)
      have HL3 := Sd.mk (HL2.out.below hb4)
      have HTG3 := Sd.mk (show Tg W (w4.alloc (.cells #[.int .i64 y.node, .slice A2 y.tags.length c2] 39)) ⟨y.node, A2, y.tags.length, c2⟩ y from ⟨rfl, rfl, HTG.out.own.below hb4, HTG.out.fr⟩)
      have HBV := Sd.mk (show g ≠ w4.heap.size by have := HL2.out.lt; have := HL2.out.gd.gr.size; omega)
      clear HL2 HTG HST hb4
      generalize w4.heap.size = Bv at X0 HBV ⊢
      generalize w4.alloc _ = W4 at X0 HL3 HTG3 ⊢
      have q0 := blk_at X0.out 0 _ rfl
      have HCK := Sd.mk (check_any HL3.out.gd.rb ok _ rfl)
      go_upto_region 7 with (first
        | (go_at_call 124; (with_reducible refine HCK.out.mono ?_); rintro e w5 ⟨rfl, hg⟩; have HL5 := Sd.mk (HL3.out.call hg); have X5 := Sd.mk (blk_grown X0.out hg.gr (fun e => HBV.out (Option.some.inj e))); have HTG5 := Sd.mk (⟨rfl, rfl, OwnR.grown HTG3.out.own hg.gr (.inr (OwnR.blk HTG3.out.own HL3.out.gd.rb (by decide))), HTG3.out.fr⟩ : Tg W w5 ⟨y.node, A2, y.tags.length, c2⟩ y); clear hg))
      clear q0 X0 HBV HCK HL3 HTG3
      have q0 := blk_at X5.out 0 _ rfl
      have q1 := blk_at X5.out 1 _ rfl
      have b2 := blk_at HL5.out.bc 2 _ rfl
      go_wp2_with (first
        | (at_builtin; refine append_at (f := fG) (n := 2) (fun _ => rfl) fG_one rfl (.tmp 26) (.tmp 28) 22 39 (.agg #[.int .i64 0, .slice none 0 0]) 32 rfl Try.underlying22 info_sig rfl (by decide) (.slice A i c) rs ⟨y.node, A2, y.tags.length, c2⟩ rfl rfl HL5.out.own (by rw [HRS.out]; omega) (by rw [HRS.out]; omega) ?_; intro v6 w6 hown hgrow hob; obtain ⟨A6, q6, rfl⟩ := OwnR.slice hown; have hl6 : (rs ++ [(⟨y.node, A2, y.tags.length, c2⟩ : Rg)]).length = i + 1 := (by rw [List.length_append, HRS.out]; rfl); rw [hl6] at hown hob ⊢; have HR6 := Sd.mk hl6; have r6 := blk_grown HL5.out.bc hgrow (OwnR.blk HL5.out.own HL5.out.bc (by decide)); have c6 := blk_at r6 2 _ rfl; have f6 := blk_frz r6 2; have HL6 := Sd.mk (HL5.out.push (by have := HL5.out.gd.gr.size; omega) HTG5.out hown hgrow hob); clear hown hgrow hob hl6))
      have HL7 := Sd.mk (show Cw W g (sigsF s3 (i + 1)).2.2 v b A6 (i + 1) q6 (rs ++ [(⟨y.node, A2, y.tags.length, c2⟩ : Rg)]) (sigsF s3 (i + 1)).1 Bc Br _ from by rw [HT.out]; exact HL6.out)
      have HLA := Sd.mk (show y.node = (sigsF s3 (i + 1)).2.1 by rw [HT.out])
      clear c6 f6 r6 HL6 q0 q1 b2 HL5 X5 HTG5
      generalize w6.setCell _ _ = W7 at HL7 ⊢
      go_roundg (gk - 1)
      case measure => omega
      case rel => exact ⟨i + 1, A6, q6, _, by omega, by rw [HLA.out], by go_num, HR6, HL7⟩
    · have hii : decide (i < m) = false := decide_eq_false (by omega)
      have hii2 : decide ((i : Int) < m) = false := decide_eq_false (by omega)
      obtain rfl : i = m := by omega
      obtain ⟨rfl, rfl⟩ := Prod.mk.inj HX.out
      have HLN := Sd.mk (show ((⟨v, b, (sigsF s3 i).1⟩ : Cert).sigs.length = i) from sigs_len s3 i)
      have q0 := blk_at HL.out.bc 0 _ rfl
      have q1 := blk_at HL.out.bc 1 _ rfl
      have q2 := blk_at HL.out.bc 2 _ rfl
      have r0 := blk_at HL.out.br 0 _ rfl
      have r1 := blk_at HL.out.br 1 _ rfl
      have r2 := blk_at HL.out.br 2 _ rfl
      have f0 := blk_frz HL.out.br 0
      have f1 := blk_frz HL.out.br 1
      have f2 := blk_frz HL.out.br 2
      go_wp2
      obtain ⟨y0, y1, y2⟩ := fin3_cells HL.out.br (.int .i64 v) (.string b) (.slice A i c)
      have hgr := fin3_grown Br wr (.int .i64 v) (.string b) (.slice A i c)
      have HG := Sd.mk (show Gd g W (sigsF s3 i).2.2 (fin3 Br wr (.int .i64 v) (.string b) (.slice A i c)) from
        ⟨blk_grown HL.out.gd.rb hgr (fun e => by have := HL.out.lt; have := HL.out.ge.2.1; have := Option.some.inj e; omega), grown_new HL.out.gd.gr hgr HL.out.ge.2.1⟩)
      have HCR := Sd.mk (show Cr W A i c (sigsF s3 i).1 (fin3 Br wr (.int .i64 v) (.string b) (.slice A i c)) from
        ⟨⟨rs, OwnR.grown HL.out.own hgr (.inr (OwnR.blk HL.out.own HL.out.br (by decide))), HL.out.tg.grown hgr (fun k e => by obtain rfl := Option.some.inj e; exact ⟨_, _, HL.out.br, by decide⟩)⟩, HL.out.fr⟩)
      clear q0 q1 q2 r0 r1 r2 f0 f1 f2 HL HX hgr
      rw [HLN.out]
      change bodyPost _ _ _ _ _ (fin3 Br wr (.int .i64 v) (.string b) (.slice A i c))
      generalize fin3 Br wr _ _ _ = W9 at y0 y1 y2 HG HCR ⊢
      exact bodyPost_ret (v := .agg #[.int .i64 v, .string b, .slice A i c]) (by simp [results, Try.results103, go_sem, y0, y1, y2]) rfl ⟨A, c, rfl, HCR.out, HG.out⟩
end Go.Proofs.Ytdmdfpbklflijaa.Rp

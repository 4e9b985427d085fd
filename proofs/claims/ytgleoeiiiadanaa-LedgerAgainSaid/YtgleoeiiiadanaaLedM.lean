/- LedgerAgain: walked. -/
import Derived.Test.YtgleoeiiiadanaaLedL
set_option linter.unusedVariables false
set_option linter.unusedSimpArgs false
namespace Go.Proofs.Ytgleoeiiiadanaa.Led
open Go.RowKit Rd Api Own Mv Num Dig Wtx

def nils : Value := .slice none 0 0
def arrOf (f : Nat → Value) (i : Nat) : Array Value := ((List.range 15).map (fun j => if j < i then f j else nils)).toArray
theorem arrOf_zero (f : Nat → Value) : arrOf f 0 = #[nils, nils, nils, nils, nils, nils, nils, nils, nils, nils, nils, nils, nils, nils, nils] := by
  simp [arrOf, List.range, List.range.loop]
theorem arrOf_get (f : Nat → Value) (n : Nat) {i : Nat} (hi : i < 15) : (arrOf f n)[i]? = some (if i < n then f i else nils) := by
  simp [arrOf, hi]
def fset (f : Nat → Value) (i : Nat) (v : Value) : Nat → Value := fun j => if j = i then v else f j
theorem arrOf_set (f : Nat → Value) {i : Nat} (hi : i < 15) (v : Value) : (arrOf f i).setIfInBounds i v = arrOf (fset f i v) (i + 1) := by
  apply Array.ext
  · simp [arrOf]
  · intro j h1 h2
    have h3 : j < 15 := by simpa [arrOf] using h2
    rw [Array.getElem_setIfInBounds (by simpa [arrOf] using h3)]
    simp only [arrOf, List.getElem_toArray, List.getElem_map, List.getElem_range, fset]
    by_cases e : i = j
    · subst e; simp
    · rw [if_neg e]
      by_cases h : j < i
      · rw [if_pos h, if_pos (by omega), if_neg (fun h => e h.symm)]
      · rw [if_neg h, if_neg (by omega)]
/-- the first answers, so far -/
structure Fst (w : World) (g b ga : Nat) (ls : List (List Rq)) (i : Nat) (f : Nat → Value) (wr : World) : Prop where
  led : ∃ ve vd, Led (fun k => w.heap.size ≤ k ∧ k ≠ ga ∧ ∀ j, j < i → (f j).ownBlock ≠ some k) g b ve vd (insAll [] (ls.take i).flatten) wr
  bel : Below w.heap.size w wr
  hga : w.heap.size ≤ ga
  arr : wr.heap[ga]? = some (.cells (arrOf f i) 70 (0, 0))
  rows : ∀ j l, j < i → ls[j]? = some l → OwnR fI 1 wr 0 3 (f j) (posAll (insAll [] (ls.take j).flatten) l)
theorem Fst.isl {w : World} {g b ga : Nat} {ls : List (List Rq)} {i : Nat} {f : Nat → Value} {wr : World} (h : Fst w g b ga ls i f wr) (hi : i ≤ ls.length) : ∀ k, wr.heap.size ≤ k → (w.heap.size ≤ k ∧ k ≠ ga ∧ ∀ j, j < i → (f j).ownBlock ≠ some k) := fun k hk =>
  ⟨Nat.le_trans h.bel.size hk, fun e => by have := blk_lt' h.arr; omega, fun j hj e => by
    have := own_lt (h.rows j ls[j] hj (List.getElem?_eq_getElem (by omega))) e; omega⟩
/-- one more -/
theorem Fst.next {w : World} {g b ga : Nat} {ls : List (List Rq)} {i : Nat} {f : Nat → Value} {wr w5 : World} (h : Fst w g b ga ls i f wr) (hi : i < 15) {l : List Rq} (hl : ls[i]? = some l) {v : Value}
    (hb : Bt w (fun k => w.heap.size ≤ k ∧ k ≠ ga ∧ ∀ j, j < i → (f j).ownBlock ≠ some k) g b (insAll [] (ls.take (i + 1)).flatten) w5) (ho : OwnR fI 1 w5 0 3 v (posAll (insAll [] (ls.take i).flatten) l)) (hnew : ∀ k, v.ownBlock = some k → wr.heap.size ≤ k)
    (hf : Fr (fun k => w.heap.size ≤ k ∧ k ≠ ga ∧ ∀ j, j < i → (f j).ownBlock ≠ some k) wr w5) : Fst w g b ga ls (i + 1) (fset f i v) (w5.setCell ⟨ga, i, none⟩ v) := by
  have harr : w5.heap[ga]? = _ := (hf.blk ga (blk_lt' h.arr) (fun s => s.2.1 rfl)).trans h.arr
  obtain ⟨ve, vd, hL⟩ := hb.led
  refine ⟨⟨ve, vd, ?_⟩, hb.bel.setCell (by simp only; exact h.hga) _, h.hga, ?_, ?_⟩
  · have h1 := hL.apart ho
    refine h1.same (fun k hk s => heap_set _ _ _ _ _ s.1.2.1) (fun k hk s => ⟨s.1.1, s.1.2.1, fun j hj => ?_⟩)
    unfold fset
    split
    · exact s.2
    · exact s.1.2.2 j (by omega)
  · rw [← arrOf_set f hi v]
    exact blk_set3 harr i v
  · intro j l' hj hl'
    have keep : ∀ {u : Value} {ys : List Int}, OwnR fI 1 w5 0 3 u ys → OwnR fI 1 (w5.setCell ⟨ga, i, none⟩ v) 0 3 u ys := fun {u ys} ho2 => own_same ho2 (fun k e => heap_set _ _ _ _ _ (fun e2 => OwnR.blk ho2 harr (by decide) (e2 ▸ e)))
    unfold fset
    by_cases e : j = i
    · subst e
      rw [if_pos rfl]
      rw [hl] at hl'
      cases hl'
      exact keep ho
    · rw [if_neg e]
      have h2 := h.rows j l' (by omega) hl'
      exact keep (own_same h2 (fun k e2 => hf.blk k (own_lt h2 e2) (fun s => s.2.2 j (by omega) e2)))
/-- what stays: the first answers, and the entries -/
structure Prot (S : Nat → Prop) (ga : Nat) (ls : List (List Rq)) (f : Nat → Value) (u : Value) (xs : List Rq) (wr : World) : Prop where
  arr : wr.heap[ga]? = some (.cells (arrOf f ls.length) 70 (0, 0))
  rows : ∀ j l, ls[j]? = some l → OwnR fI 1 wr 0 3 (f j) (posAll (insAll [] (ls.take j).flatten) l)
  was : OwnR fR 3 wr 0 60 u xs
  n1 : ¬ S ga
  n2 : ∀ j k, j < ls.length → (f j).ownBlock = some k → ¬ S k
  n3 : ∀ k, u.ownBlock = some k → ¬ S k
  up : ∀ k, wr.heap.size ≤ k → S k
theorem Prot.fr {S : Nat → Prop} {ga : Nat} {ls : List (List Rq)} {f : Nat → Value} {u : Value} {xs : List Rq} {wr w1 : World} (h : Prot S ga ls f u xs wr) (hf : Fr S wr w1) : Prot S ga ls f u xs w1 :=
  ⟨(hf.blk ga (blk_lt' h.arr) h.n1).trans h.arr, fun j l hl => own_same (h.rows j l hl) (fun k e => hf.blk k (own_lt (h.rows j l hl) e) (h.n2 j k (by
    rcases Nat.lt_or_ge j ls.length with h | h
    · exact h
    · rw [List.getElem?_eq_none h] at hl; cases hl) e)), own_same h.was (fun k e => hf.blk k (own_lt h.was e) (h.n3 k e)), h.n1, h.n2, h.n3, fun k hk => h.up k (Nat.le_trans hf.size hk)⟩
theorem Prot.below {S : Nat → Prop} {ga : Nat} {ls : List (List Rq)} {f : Nat → Value} {u : Value} {xs : List Rq} {wr w1 : World} (h : Prot S ga ls f u xs wr) (hb : Below wr.heap.size wr w1) : Prot S ga ls f u xs w1 := h.fr (Fr.below hb)
theorem few_in {w : World} {A : Option Addr} {c : Nat} {ls : List (List Rq)} (hB : Bs w A c ls) (len : Nat) (hn : len = ls.length) (N : Nat) (hN : N ≤ 100) (W : World) (h : Below w.heap.size w W) : Calls Try.prog 36 #[.slice A len c, .int .i64 (N : Nat)] W (FewE ls N W) := by
  subst hn
  exact few_any W A c ls ⟨hB.le, hB.cap, fun i hi => by
    obtain ⟨b, o, B, d, hA, hc, hs, hd⟩ := hB.at' i hi
    exact ⟨b, o, B, d, hA, cell_below h hc, hs.below h, hd⟩, hB.i64⟩ N hN
theorem ents_len {S : Nat → Prop} {W : World} {g b : Nat} {ve vd : Value} {xs : List Rq} (h : Led S g b ve vd xs W) (hlen : xs.length ≤ 1000) (m : Nat) (hm : xs.length = m) : Calls Try.prog 47 #[.pointer (some ⟨g, 0, none⟩)] W fun e w' => ∃ A' c', e = .returned (.slice A' m c') ∧ OwnR fR 3 w' 0 60 (.slice A' m c') xs ∧ (∀ k, (Value.slice A' m c').ownBlock = some k → W.heap.size ≤ k) ∧ Below W.heap.size W w' := by
  subst hm
  refine (entries_any h hlen).mono ?_
  rintro e w' ⟨v', rfl, h1, h2, h3⟩
  obtain ⟨A', c', rfl⟩ := OwnR.slice h1
  exact ⟨A', c', rfl, h1, h2, h3⟩
theorem len_eq {S : Nat → Prop} {W : World} {g b : Nat} {ve vd : Value} {xs : List Rq} (h : Led S g b ve vd xs W) (m : Nat) (hm : xs.length = m) : Calls Try.prog 48 #[.pointer (some ⟨g, 0, none⟩)] W fun e w' => e = .returned (.int .i64 (m : Nat)) ∧ w' = W := by
  subst hm; exact len_any h
theorem same_sl {W : World} {A B : Option Addr} {n m c d : Nat} {xs ys : List Rq} (hn : xs.length = n) (hm : ys.length = m) (h : Sl rqN W A c xs) (k : Sl rqN W B d ys) (r : Bool) (hr : r = true ↔ xs = ys) :
    Calls Try.prog 46 #[.slice A n c, .slice B m d] W fun e w' => e = .returned (.bool r) ∧ Below W.heap.size W w' := by
  subst hn; subst hm; exact same_any W A B c d xs ys h k r hr
theorem bt_len {w : World} {S : Nat → Prop} {W : World} {g b : Nat} {xs : List Rq} (h : Bt w S g b xs W) (m : Nat) (hm : xs.length = m) : Calls Try.prog 48 #[.pointer (some ⟨g, 0, none⟩)] W fun e w' => e = .returned (.int .i64 (m : Nat)) ∧ w' = W := by
  obtain ⟨ve, vd, hL⟩ := h.led
  exact len_eq hL m hm
-- <L1
set_option maxHeartbeats 16000000 in
set_option maxRecDepth 100000 in
theorem again_few (w : World) (A A' : Option Addr) (c c' : Nat) (ls ms : List (List Rq)) (hB : Sd (Bs w A c ls)) (hB' : Sd (Bs w A' c' ms)) :
    Calls Try.prog 11 #[.slice A ls.length c, .slice A' ms.length c'] w fun e w' => e = .returned (.bool true) ∧ Below w.heap.size w w' := by
  have lc := Nat.le_trans hB.out.le hB.out.cap
  have lc' := Nat.le_trans hB'.out.le hB'.out.cap
  obtain ⟨len, hn⟩ : ∃ k, k = ls.length := ⟨_, rfl⟩
  have HN := Sd.mk hn
  obtain ⟨len', hn'⟩ : ∃ k, k = ms.length := ⟨_, rfl⟩
  have HN' := Sd.mk hn'
  rw [← hn] at lc ⊢
  rw [← hn'] at lc' ⊢
  have HFW := Sd.mk (few_in hB.out len hn 15 (by omega))
  have HFW' := Sd.mk (few_in hB'.out len' hn' 10 (by omega))
  clear hn hn'
  go_enter Try.func11, Try.ntmps11
  go_wp2_with fail
  refine (awake_any _).mono ?_
  rintro e wa ⟨rfl, hba⟩
  have hb9 := Sd.mk hba
  clear hba
  go_wp2_with fail
  refine (HFW.out _ hb9.out).mono ?_
  rintro e wb ⟨r, rfl, hr, rfl⟩
  have HR := Sd.mk hr
  clear hr
  cases r with
  | false =>
    go_wp2_with (first | (go_at_call 35; (with_reducible refine (awake_any _).mono ?_); rintro e wa ⟨rfl, hba⟩; (first | (have hb9 := Sd.mk (below_then (‹Sd (Below w.heap.size w _)›).out hba)) | have hb9 := Sd.mk hba); clear hba))
    go_ret
    exact ⟨rfl, hb9.out⟩
  | true =>
  have hok := HR.out rfl
  have HOK := Sd.mk hok.2
  have l15 : len ≤ 15 := by rw [HN.out]; exact hok.1
  clear hok HR
  go_wp2_with fail
  refine (HFW'.out _ hb9.out).mono ?_
  rintro e wc ⟨r, rfl, hr, rfl⟩
  have HR := Sd.mk hr
  clear hr
  cases r with
  | false =>
    go_wp2_with (first | (go_at_call 35; (with_reducible refine (awake_any _).mono ?_); rintro e wa ⟨rfl, hba⟩; (first | (have hb9 := Sd.mk (below_then (‹Sd (Below w.heap.size w _)›).out hba)) | have hb9 := Sd.mk hba); clear hba))
    go_ret
    exact ⟨rfl, hb9.out⟩
  | true =>
  have hok := HR.out rfl
  have HOK' := Sd.mk hok.2
  have l10 : len' ≤ 10 := by rw [HN'.out]; exact hok.1
  clear hok HR
  go_upto_region 5 with (first
    | (go_at_call 37; (with_reducible refine (new_any _).mono ?_); rintro e w1 ⟨g, b, ve, vd, rfl, hL, hb⟩; have HL := Sd.mk hL; have HB1 := Sd.mk (below_then hb9.out hb); have hb0 := Sd.mk hb; clear hL hb))
  have X := blk_new w1 (.cells #[nils, nils, nils, nils, nils, nils, nils, nils, nils, nils, nils, nils, nils, nils, nils] 70)
  have HB2 := below_then HB1.out (below_one w1 (.cells #[nils, nils, nils, nils, nils, nils, nils, nils, nils, nils, nils, nils, nils, nils, nils] 70))
  have HT0 := Sd.mk (show Fst w g b w1.heap.size ls 0 (fun _ => nils) (w1.alloc (.cells #[nils, nils, nils, nils, nils, nils, nils, nils, nils, nils, nils, nils, nils, nils, nils] 70)) from
    ⟨⟨ve, vd, (HL.out.wider (S' := fun k => w.heap.size ≤ k ∧ k ≠ w1.heap.size ∧ ∀ j, j < 0 → nils.ownBlock ≠ some k) (fun k hk s => ⟨Nat.le_trans hb9.out.size s, by omega, fun j hj => by omega⟩)).below (below_one w1 _)⟩, HB2, HB1.out.size, by rw [arrOf_zero]; exact X, fun j l hj => by omega⟩)
  clear HL HB1 X HB2 hb0 hb9
  unfold nils at HT0
  generalize hga : w1.heap.size = ga at HT0 ⊢
  generalize w1.alloc _ = w2 at HT0 ⊢
  clear hga
  go_wp2
  go_loopg [7] len (fun gk v7 wr => ∃ i f, i + gk = len ∧ v7 = .int .i64 (i : Nat) ∧ Sd (Fst w g b ga ls i f wr))
  case atStart => exact ⟨0, _, by omega, rfl, HT0⟩
  case round =>
    clear HT0
    obtain ⟨i, f, hi, rfl, HT⟩ := hrel
    by_cases hlt : i < len
    · have hii : (i : Int) < len := by omega
      have hi15 : (i : Int) < 15 := by omega
      have hi15n : i < 15 := by omega
      have HIL := Sd.mk (show i < ls.length by rw [← HN.out]; exact hlt)
      obtain ⟨l, hl⟩ : ∃ l, ls[i]'HIL.out = l := ⟨_, rfl⟩
      have hl' : ls[i]? = some l := by rw [List.getElem?_eq_getElem HIL.out, hl]
      have HLI := Sd.mk hl'
      obtain ⟨b0, o0, B, d, rfl, c0, hI⟩ := bs_in hB.out HT.out.bel hl'
      have HI := Sd.mk hI
      have hmem := List.mem_of_getElem? hl'
      have HF := Sd.mk (ok_fine HOK.out hB.out.i64 hmem)
      have HY := Sd.mk (show insAll (insAll [] (ls.take i).flatten) l = insAll [] (ls.take (i + 1)).flatten by rw [flat_take' hl', insAll_app])
      obtain ⟨n, hnl⟩ : ∃ n, n = l.length := ⟨_, rfl⟩
      have HNL := Sd.mk hnl
      have n8 : n ≤ 8 := by rw [hnl]; exact (HOK.out l hmem).1
      have HLN := Sd.mk (show (insAll [] (ls.take i).flatten).length + n ≤ 1000 by have h1 := (insAll_length (ls.take i).flatten []).2; have h2 := flat_take_len HOK.out i; rw [← HN.out] at h2; rw [List.length_nil] at h1; omega)
      rw [← hnl] at c0
      have HBT := Sd.mk (show Bt w (fun k => w.heap.size ≤ k ∧ k ≠ ga ∧ ∀ j, j < i → (f j).ownBlock ≠ some k) g b (insAll [] (ls.take i).flatten) wr from ⟨HT.out.led, HT.out.bel⟩)
      have HSN := Sd.mk (HT.out.isl (Nat.le_of_lt HIL.out))
      clear hl hl' hI hmem hnl
      go_wp2_with (first
        | (go_at_call 38; (with_reducible refine (batch_any HBT.out HSN.out (fun k s => s.1) HI.out HF.out n HNL.out HLN.out _ HY.out).mono ?_); rintro e w5 ⟨v5, rfl, hB5, hO5, hN5, hF5⟩; have harr : w5.heap[ga]? = _ := ((hF5.blk ga (blk_lt' HT.out.arr) (fun s => s.2.1 rfl)).trans HT.out.arr); have x0 := blk_at harr i _ (arrOf_get f i hi15n); have f0 := blk_frz harr i; rw [if_neg (Nat.lt_irrefl i)] at x0; obtain ⟨A5, c5, rfl⟩ := OwnR.slice hO5; rw [posAll_length, ← HNL.out] at hO5 hN5 ⊢; have HX := Sd.mk (HT.out.next hi15n HLI.out hB5 hO5 hN5 hF5); clear hB5 hO5 hN5 hF5 harr))
      go_roundg (gk - 1)
      case measure => omega
      case rel => exact ⟨i + 1, _, by omega, by go_num, HX⟩
    · have hii : decide (i < len) = false := decide_eq_false (by omega)
      obtain rfl : i = len := by omega
      obtain ⟨xs, hxs⟩ : ∃ xs, insAll [] ls.flatten = xs := ⟨_, rfl⟩
      have hxl : xs.length ≤ 120 := by have h1 := (insAll_length ls.flatten []).2; have h2 := flat_len ls HOK.out; rw [hxs] at h1; rw [← HN.out] at h2; rw [List.length_nil] at h1; omega
      have HXS := Sd.mk hxs
      obtain ⟨m, hm⟩ : ∃ m, xs.length = m := ⟨_, rfl⟩
      have HM := Sd.mk hm
      rw [hm] at hxl
      have HX1 := Sd.mk (show xs.length ≤ 1000 by rw [hm]; omega)
      obtain ⟨dd, hdd⟩ : ∃ dd, dgst (xs.take m) = dd := ⟨_, rfl⟩
      have HD := Sd.mk (show DigE xs (m : Int) dd 0 from .inr ⟨m, rfl, by omega, hdd.symm, rfl⟩)
      have HDD := Sd.mk hdd
      obtain ⟨ve1, vd1, hL1⟩ := HT.out.led
      rw [List.take_of_length_le (by rw [← HN.out]; exact Nat.le_refl _), hxs] at hL1
      have HL1 := Sd.mk hL1
      clear hL1 hxs hm hdd
      go_upto_region 11 with (first
        | (go_at_call 47; (with_reducible refine (ents_len HL1.out HX1.out m HM.out).mono ?_); rintro e w7 ⟨A8, c8, rfl, hO7, hN7, hB7⟩; have HO7 := Sd.mk hO7; have HN7 := Sd.mk hN7; have HB7 := Sd.mk hB7; have HL7 := Sd.mk (HL1.out.below hB7); clear hO7 hN7 hB7)
        | (go_at_call 41; (with_reducible refine (digest_any HL7.out HX1.out (m : Int) dd 0 HD.out).mono ?_); rintro e wq ⟨rfl, rfl⟩))
      obtain ⟨S, hS⟩ : ∃ S : Nat → Prop, ∀ k, S k ↔ ((w.heap.size ≤ k ∧ k ≠ ga ∧ ∀ j, j < i → (f j).ownBlock ≠ some k) ∧ (Value.slice A8 m c8).ownBlock ≠ some k) := ⟨_, fun _ => Iff.rfl⟩
      have HSI := Sd.mk hS
      have HBT := Sd.mk (show Bt w S g b xs wq from ⟨⟨ve1, vd1, (HL1.out.wider (S' := S) (fun k hk s => (hS k).2 ⟨s, fun e => by have := HN7.out k e; omega⟩)).below HB7.out⟩, below_then HT.out.bel HB7.out⟩)
      have HPR := Sd.mk (show Prot S ga ls f (.slice A8 m c8) xs wq from ⟨by rw [← HN.out]; exact blk_keep HT.out.arr HB7.out, fun j l hl => OwnR.below (HT.out.rows j l (by
        rw [HN.out]
        rcases Nat.lt_or_ge j ls.length with h | h
        · exact h
        · rw [List.getElem?_eq_none h] at hl; cases hl) hl) HB7.out, HO7.out, fun s => ((hS _).1 s).1.2.1 rfl, fun j k hj e s => ((hS k).1 s).1.2.2 j (by rw [HN.out]; exact hj) e, fun k e s => ((hS k).1 s).2 e, fun k hk => (hS k).2 ⟨HT.out.isl (by rw [← HN.out]; exact Nat.le_refl _) k (Nat.le_trans HB7.out.size hk), fun e => by have := own_lt HO7.out e; omega⟩⟩)
      clear HT HL1 HL7 HO7 HN7 HB7 hS
      have HLO := Sd.mk (show ∀ k, S k → w.heap.size ≤ k from fun k s => ((HSI.out k).1 s).1.1)
      clear HSI
      go_wp2
      go_loopg [11, 12, 13] i (fun gk v11 v12 v13 wr => ∃ j, j + gk = i ∧ v11 = .int .i64 (j : Nat) ∧ Sd (Bt w S g b xs wr) ∧ Sd (Prot S ga ls f (.slice A8 m c8) xs wr))
      case atStart => exact ⟨0, by omega, rfl, HBT, HPR⟩
      case round =>
        clear HBT HPR
        obtain ⟨j, hj, rfl, HBT, HPR⟩ := hrel
        by_cases hjt : j < i
        · have hji : (j : Int) < i := by omega
          have hj15 : (j : Int) < 15 := by omega
          have hj15n : j < 15 := by omega
          have HIL := Sd.mk (show j < ls.length by rw [← HN.out]; exact hjt)
          obtain ⟨l, hl⟩ : ∃ l, ls[j]'HIL.out = l := ⟨_, rfl⟩
          have hl' : ls[j]? = some l := by rw [List.getElem?_eq_getElem HIL.out, hl]
          obtain ⟨b0, o0, B, d, rfl, c0, hI⟩ := bs_in hB.out HBT.out.bel hl'
          have HI := Sd.mk hI
          have hmem := List.mem_of_getElem? hl'
          have HF := Sd.mk (ok_fine HOK.out hB.out.i64 hmem)
          have hag := again_batch HIL.out
          rw [hl, HXS.out] at hag
          have HY := Sd.mk hag.1
          obtain ⟨ps, hps⟩ : ∃ ps, posAll (insAll [] (ls.take j).flatten) l = ps := ⟨_, rfl⟩
          have HPS := Sd.mk (show posAll xs l = ps from hag.2.trans hps)
          obtain ⟨n, hnl⟩ : ∃ n, n = l.length := ⟨_, rfl⟩
          have HNL := Sd.mk hnl
          have n8 : n ≤ 8 := by rw [hnl]; exact (HOK.out l hmem).1
          have HPL := Sd.mk (show ps.length = n by rw [← hps, posAll_length, hnl])
          have HLN := Sd.mk (show xs.length + n ≤ 1000 by rw [HM.out]; omega)
          have hrow := HPR.out.rows j l hl'
          rw [hps] at hrow
          obtain ⟨Af, cf, hfj⟩ := OwnR.slice hrow
          rw [HPL.out] at hfj
          have HFJ := Sd.mk hfj
          have HRW := Sd.mk (fun (W : World) (hP : Prot S ga ls f (.slice A8 m c8) xs W) => (⟨by have := hP.rows j l hl'; rw [hps, hfj] at this; exact this, by have := blk_at hP.arr j _ (arrOf_get f ls.length hj15n); rw [if_pos HIL.out, hfj] at this; exact this⟩ : OwnR fI 1 W 0 3 (.slice Af n cf) ps ∧ W.cell? ⟨ga, j, none⟩ = some (.slice Af n cf)))
          rw [← hnl] at c0
          clear hl hl' hI hmem hag hps hnl hrow hfj
          go_upto_region 18 with (first
            | (go_at_call 38; (with_reducible refine (batch_any HBT.out HPR.out.up HLO.out HI.out HF.out n HNL.out HLN.out xs HY.out).mono ?_); rintro e w5 ⟨v5, rfl, hB5, hO5, hN5, hF5⟩; rw [HPS.out] at hO5; obtain ⟨A5, c5, rfl⟩ := OwnR.slice hO5; rw [HPL.out] at hO5 ⊢; have HB5 := Sd.mk hB5; have HO5 := Sd.mk hO5; have HPR5 := Sd.mk (HPR.out.fr hF5); have x0 := (HRW.out _ HPR5.out).2; clear hB5 hO5 hN5 hF5)
            | (go_at_call 48; (with_reducible refine (bt_len HB5.out m HM.out).mono ?_); rintro e w6 ⟨rfl, rfl⟩))
          clear HBT HPR x0 HI c0
          obtain ⟨gko, hgo⟩ : ∃ z, gk = z := ⟨_, rfl⟩
          go_loopg [13] n (fun gk v13 wx => ∃ k, k + gk = n ∧ v13 = .int .i64 (k : Nat) ∧ Sd (Bt w S g b xs wx) ∧ Sd (Prot S ga ls f (.slice A8 m c8) xs wx) ∧ Sd (OwnR fI 1 wx 0 3 (.slice A5 n c5) ps))
          case atStart => exact ⟨0, by omega, rfl, HB5, HPR5, HO5⟩
          case round =>
            clear HB5 HPR5 HO5
            obtain ⟨k, hk, rfl, HB5, HPR5, HO5⟩ := hrel
            by_cases hkt : k < n
            · have hki : (k : Int) < n := by omega
              have hkp : ps[k]? = some (ps[k]'(by rw [HPL.out]; exact hkt)) := List.getElem?_eq_getElem _
              obtain ⟨p, hp⟩ : ∃ p, ps[k]'(by rw [HPL.out]; exact hkt) = p := ⟨_, rfl⟩
              rw [hp] at hkp
              obtain ⟨bg, og, cg, hvg, cg0, hcg, hcg2⟩ := ownI_at HO5.out hkp
              simp only [Value.slice.injEq] at hvg
              obtain ⟨rfl, -, rfl⟩ := hvg
              obtain ⟨hr1, x0⟩ := HRW.out _ HPR5.out
              obtain ⟨bf, of, cf', hvf, cf0, hcf, hcf2⟩ := ownI_at hr1 hkp
              simp only [Value.slice.injEq] at hvf
              obtain ⟨rfl, -, rfl⟩ := hvf
              rw [HPL.out] at hcg hcf
              clear hp hkp hr1
              go_upto_region 20 with (fail)
              go_quiet (fail)
              have HB6 := Sd.mk (HB5.out.below (below_drewN (Below.refl wr.heap.size wr) nq))
              have HPR6 := Sd.mk (HPR5.out.below (below_drewN (Below.refl wr.heap.size wr) nq))
              have HO6 := Sd.mk (OwnR.below HO5.out (below_drewN (Below.refl wr.heap.size wr) nq))
              clear x0 cg0 cf0 hcg hcf hcg2 hcf2
              go_wp2
              go_roundg (gk - 1)
              case measure => omega
              case rel => exact ⟨k + 1, by omega, by go_num, HB6, HPR6, HO6⟩
            · have hki : decide (k < n) = false := decide_eq_false (by omega)
              go_wp2
              go_roundg (gko - 1)
              case measure => omega
              case rel => exact ⟨j + 1, by omega, by go_num, HB5, HPR5⟩
        · have hji : decide (j < i) = false := decide_eq_false (by omega)
          have HBT0 := Sd.mk (show Bt w S g b (insAll xs (ms.take 0).flatten) wr from HBT.out)
          clear HBT
          go_wp2
          go_loopg [14] len' (fun gk v14 wr => ∃ j, j + gk = len' ∧ v14 = .int .i64 (j : Nat) ∧ Sd (Bt w S g b (insAll xs (ms.take j).flatten) wr) ∧ Sd (Prot S ga ls f (.slice A8 m c8) xs wr))
          case atStart => exact ⟨0, by omega, rfl, HBT0, HPR⟩
          case round =>
            clear HBT0 HPR
            obtain ⟨j2, hj2, rfl, HBT, HPR⟩ := hrel
            by_cases hjt2 : j2 < len'
            · have hji2 : (j2 : Int) < len' := by omega
              obtain ⟨l, hl⟩ : ∃ l, ms[j2]? = some l := ⟨ms[j2]'(by rw [← HN'.out]; exact hjt2), List.getElem?_eq_getElem _⟩
              obtain ⟨b0, o0, B, d, rfl, c0, hI⟩ := bs_in hB'.out HBT.out.bel hl
              have HI := Sd.mk hI
              have hmem := List.mem_of_getElem? hl
              have HF := Sd.mk (ok_fine HOK'.out hB'.out.i64 hmem)
              have HY := Sd.mk (show insAll (insAll xs (ms.take j2).flatten) l = insAll xs (ms.take (j2 + 1)).flatten by rw [flat_take' hl, insAll_app])
              have HLN := Sd.mk (show (insAll xs (ms.take j2).flatten).length + l.length ≤ 1000 by have h1 := (insAll_length (ms.take j2).flatten xs).2; have h2 := flat_take_len HOK'.out j2; have h3 := (HOK'.out l hmem).1; rw [← HN'.out] at h2; rw [HM.out] at h1; omega)
              clear hl hI hmem
              go_wp2_with (first
                | (go_at_call 38; (with_reducible refine (batch_any HBT.out HPR.out.up HLO.out HI.out HF.out l.length rfl HLN.out _ HY.out).mono ?_); rintro e w5 ⟨v5, rfl, hB5, -, -, hF5⟩; have HB5 := Sd.mk hB5; have HPR5 := Sd.mk (HPR.out.fr hF5); clear hB5 hF5))
              go_roundg (gk - 1)
              case measure => omega
              case rel => exact ⟨j2 + 1, by omega, by go_num, HB5, HPR5⟩
            · have hji2 : decide (j2 < len') = false := decide_eq_false (by omega)
              obtain ⟨ys, hys⟩ : ∃ ys, insAll xs (ms.take j2).flatten = ys := ⟨_, rfl⟩
              have hpre : xs <+: ys := by rw [← hys]; exact insAll_pre _ _
              have hyl : ys.length ≤ 200 := by have h1 := (insAll_length (ms.take j2).flatten xs).2; have h2 := flat_take_len HOK'.out j2; rw [hys, HM.out] at h1; rw [← HN'.out] at h2; omega
              obtain ⟨m2, hm2⟩ : ∃ m2, ys.length = m2 := ⟨_, rfl⟩
              have HM2 := Sd.mk hm2
              have hmm : m ≤ m2 := by rw [← hm2, ← HM.out]; exact hpre.length_le
              have htk : ys.take m = xs := by have := List.prefix_iff_eq_take.1 hpre; rw [HM.out] at this; exact this.symm
              have HTK := Sd.mk htk
              have HD2 := Sd.mk (show DigE ys (m : Int) dd 0 from .inr ⟨m, rfl, by omega, by rw [htk, ← HDD.out, List.take_of_length_le (by rw [HM.out]; exact Nat.le_refl _)], rfl⟩)
              have HY1 := Sd.mk (show ys.length ≤ 1000 by omega)
              rw [hys] at HBT
              obtain ⟨ve2, vd2, hL2⟩ := HBT.out.led
              have HL2 := Sd.mk hL2
              have HWS := Sd.mk HPR.out.was
              have HB9 := Sd.mk HBT.out.bel
              have d3 : decide ((m : Int) ≤ (m2 : Int)) = true := decide_eq_true (by omega)
              have d3b : decide (m ≤ m2) = true := decide_eq_true hmm
              have hm2b : m2 ≤ 200 := by omega
              clear hys hpre hm2 htk hL2 HBT HPR
              go_wp2_with (first
                | (go_at_call 47; (with_reducible refine (ents_len HL2.out HY1.out m2 HM2.out).mono ?_); rintro e w7 ⟨A9, c9, rfl, hO7, -, hB7⟩; have HE9 := Sd.mk (own_sl hO7); have hmc : m ≤ c9 := (Nat.le_trans hmm (by have := (own_sl hO7).2.le; rw [HM2.out] at this; exact this)); have hcc := (own_sl hO7).2.cap; have hmcI : (m : Int) ≤ (c9 : Int) := (by omega); have HL7 := Sd.mk (HL2.out.below hB7); have HW7 := Sd.mk (own_sl (OwnR.below HWS.out hB7)); have HB7 := Sd.mk (below_then HB9.out hB7); clear hO7 hB7)
                | (go_at_call 41; (with_reducible refine (digest_any HL7.out HY1.out (m : Int) dd 0 HD2.out).mono ?_); rintro e wq ⟨rfl, rfl⟩)
                | (go_at_call 46; (with_reducible refine (same_sl (by rw [HTK.out]; exact HM.out) HM.out (rq_take HE9.out.2 m) HW7.out.2 true ⟨fun _ => HTK.out, fun _ => rfl⟩).mono ?_); rintro e w8 ⟨rfl, hB8⟩; have HB8 := Sd.mk (below_then HB7.out hB8); clear hB8))
              go_ret
              exact ⟨rfl, HB8.out⟩
-- L1>
theorem again_row (w : World) (A : Option Addr) (c : Nat) (ls : List (List Rq)) (h1 : ls.length ≤ c) (h2 : c ≤ maxLen) (h3 : Row (sl0 rqK) w A ls) (A' : Option Addr) (c' : Nat) (ms : List (List Rq)) (h1' : ms.length ≤ c') (h2' : c' ≤ maxLen) (h3' : Row (sl0 rqK) w A' ms) :
    Calls Try.prog 11 #[.slice A ls.length c, .slice A' ms.length c'] w fun e w' => e = .returned (.bool true) ∧ Below w.heap.size w w' :=
  again_few w A A' c c' ls ms ⟨bs_row h1 h2 h3⟩ ⟨bs_row h1' h2' h3'⟩
end Go.Proofs.Ytgleoeiiiadanaa.Led

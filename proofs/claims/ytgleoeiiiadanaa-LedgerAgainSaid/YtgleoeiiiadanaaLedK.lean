/- LedgerDigests: walked. -/
import Derived.Test.YtgleoeiiiadanaaLedP
import Derived.Deep.CutRange
import Derived.StillTailTactics
set_option linter.unusedVariables false
set_option linter.unusedSimpArgs false
namespace Go.Proofs.Ytgleoeiiiadanaa.Led
open Go.RowKit Rd Api Own Mv Num Dig Wtx

theorem bs_row {w : World} {A : Option Addr} {c : Nat} {ls : List (List Rq)} (h1 : ls.length ≤ c) (h2 : c ≤ maxLen) (h3 : Row (sl0 rqK) w A ls) : Bs w A c ls := by
  refine ⟨h1, by unfold maxLen at h2; omega, ?_, ?_⟩
  · intro i hi
    obtain ⟨b, o, cs, hA, ⟨B, d, rfl, k1, k2, k3, k4⟩, hc⟩ := h3 i _ (List.getElem?_eq_getElem hi)
    have := hc 0 _ rfl
    simp only [sl0, Nat.mul_one, Nat.add_zero] at this
    exact ⟨b, o, B, d, hA, this, ⟨k1, by unfold maxLen at k2; omega, (row_rq k3).1⟩, k4⟩
  · intro l hl
    obtain ⟨j, hj, rfl⟩ := List.getElem_of_mem hl
    obtain ⟨b, o, cs, hA, ⟨B, d, rfl, k1, k2, k3, k4⟩, hc⟩ := h3 j _ (List.getElem?_eq_getElem hj)
    exact (row_rq k3).2
/-- a batch that came in, in a later world -/
theorem bs_in {w wr : World} {A : Option Addr} {c : Nat} {ls : List (List Rq)} (h : Bs w A c ls) (hb : Below w.heap.size w wr) {i : Nat} {l : List Rq} (hl : ls[i]? = some l) : ∃ b o B d, A = some ⟨b, o, none⟩ ∧ wr.cell? ⟨b, o + i, none⟩ = some (.slice B l.length d) ∧ In (fun k => w.heap.size ≤ k) B d l wr := by
  obtain ⟨hi, rfl⟩ := List.getElem?_eq_some_iff.1 hl
  obtain ⟨b, o, B, d, hA, hc, hs, -⟩ := h.at' i hi
  exact ⟨b, o, B, d, hA, cell_below hb hc, (in_of hs).fr (S' := fun _ => False) ⟨hb.os, hb.tape, hb.output, hb.size, fun k hk _ => hb.block k hk⟩ (fun _ _ s => s.elim)⟩
theorem refents_len {w : World} {A : Option Addr} {q n : Nat} {l : List Rq} (hn : l.length = n) (hl : Sl rqN w A q l) (hlen : n ≤ 1000) (ys : List Rq) (hy : insAll [] l = ys) :
    Calls Try.prog 39 #[.slice A n q] w fun e w' => ∃ v, e = .returned v ∧ Ent w v ys w' := by
  subst hn; subst hy; exact refents_any w A q l hl hlen
theorem refdig_len {w : World} {A : Option Addr} {q n : Nat} {l : List Rq} (hn : l.length = n) (hl : Sl rqN w A q l) (hf : ∀ x ∈ l, Fine x) (d : ByteArray) (hd : dgst l = d) :
    Calls Try.prog 43 #[.slice A n q] w fun e w' => e = .returned (.string d) ∧ Below w.heap.size w w' := by
  subst hn; exact refdig_any w A q l hl hf d hd
theorem rq_take {w : World} {B : Option Addr} {d : Nat} {k : List Rq} (h : Sl rqN w B d k) (n : Nat) : Sl rqN w B d (k.take n) :=
  ⟨by rw [List.length_take]; have := h.le; omega, h.cap, fun j x hx => h.row j x (by
    rw [List.getElem?_take] at hx
    split at hx
    · exact hx
    · cases hx)⟩
theorem ok_fine {ls : List (List Rq)} (h : ∀ l ∈ ls, okL l) (h2 : ∀ l ∈ ls, ∀ x ∈ l, IsI64 x.c ∧ IsI64 x.s) {l : List Rq} (hl : l ∈ ls) : ∀ x ∈ l, Fine x := fun x hx => ⟨(h2 l hl x hx).1, (h2 l hl x hx).2, (h l hl).2 x hx⟩
theorem flat_take_len {ls : List (List Rq)} (h : ∀ l ∈ ls, okL l) (i : Nat) : (ls.take i).flatten.length ≤ 8 * ls.length := by
  have h1 := flat_len (ls.take i) (fun l hl => h l (List.mem_of_mem_take hl))
  rw [List.length_take] at h1
  omega
theorem flat_take' {ls : List (List Rq)} {i : Nat} {l : List Rq} (hl : ls[i]? = some l) : (ls.take (i + 1)).flatten = (ls.take i).flatten ++ l := by
  obtain ⟨hi, rfl⟩ := List.getElem?_eq_some_iff.1 hl
  exact flat_take hi
theorem fr_bel {w W W1 : World} {S : Nat → Prop} (h : Below w.heap.size w W) (hf : Fr S W W1) (hS : ∀ k, S k → w.heap.size ≤ k) : Below w.heap.size w W1 :=
  h.trans (hf.toBelow (B := w.heap.size) (fun k hk s => by have := hS k s; omega) h.size)
/-- what is so amid the batches -/
structure Bt (w : World) (S : Nat → Prop) (g b : Nat) (xs : List Rq) (wr : World) : Prop where
  led : ∃ ve vd, Led S g b ve vd xs wr
  bel : Below w.heap.size w wr
theorem Bt.below {w : World} {S : Nat → Prop} {g b : Nat} {xs : List Rq} {wr w1 : World} (h : Bt w S g b xs wr) (hb : Below wr.heap.size wr w1) : Bt w S g b xs w1 :=
  ⟨by obtain ⟨ve, vd, hl⟩ := h.led; exact ⟨ve, vd, hl.below hb⟩, below_then h.bel hb⟩
/-- a batch, applied -/
theorem batch_any {w : World} {S : Nat → Prop} {g b : Nat} {xs : List Rq} {wr : World} (h : Bt w S g b xs wr) (hS : ∀ k, wr.heap.size ≤ k → S k) (hS2 : ∀ k, S k → w.heap.size ≤ k) {B : Option Addr} {d : Nat} {l : List Rq} (hI : In (fun k => w.heap.size ≤ k) B d l wr) (hl : ∀ x ∈ l, Fine x) (n : Nat) (hn : n = l.length) (hlen : xs.length + n ≤ 1000) (ys : List Rq) (hy : insAll xs l = ys) :
    Calls Try.prog 38 #[.pointer (some ⟨g, 0, none⟩), .slice B n d] wr fun e w' => ∃ v, e = .returned v ∧ Bt w S g b ys w' ∧ OwnR fI 1 w' 0 3 v (posAll xs l) ∧ (∀ k, v.ownBlock = some k → wr.heap.size ≤ k) ∧ Fr S wr w' := by
  obtain ⟨ve, vd, hL⟩ := h.led
  refine (applies_len n hn hL hS (hI.narrow (S' := S) (fun k _ s => hS2 k s)) hl (by omega) ys hy).mono ?_
  rintro e w' ⟨v, ve', vd', rfl, h1, h2, h3, h4⟩
  exact ⟨v, rfl, ⟨⟨ve', vd', h1⟩, fr_bel h.bel h4 hS2⟩, h2, h3, h4⟩
def DigE (xs : List Rq) (n : Int) (h : ByteArray) (e : Int) : Prop := (n < 0 ∨ (xs.length : Int) < n) ∧ h = { data := #[] } ∧ e = 10 ∨ ∃ m : Nat, n = (m : Int) ∧ m ≤ xs.length ∧ h = dgst (xs.take m) ∧ e = 0
theorem digest_any {S : Nat → Prop} {W : World} {g b : Nat} {ve vd : Value} {xs : List Rq} (h : Led S g b ve vd xs W) (hlen : xs.length ≤ 1000) (n : Int) (d : ByteArray) (er : Int) (hd : DigE xs n d er) : Calls Try.prog 41 #[.pointer (some ⟨g, 0, none⟩), .int .i64 n] W fun e w' => e = .returned (.tuple #[.string d, .int .i64 er]) ∧ w' = W := by
  rcases hd with ⟨h1, rfl, rfl⟩ | ⟨m, rfl, h1, rfl, rfl⟩
  · exact digest_no h n h1
  · exact digest_yes h m h1 hlen _ rfl
-- <L1
set_option maxHeartbeats 8000000 in
set_option maxRecDepth 100000 in
theorem digests_few (w : World) (A : Option Addr) (c : Nat) (ls : List (List Rq)) (hB : Sd (Bs w A c ls)) (n : Int) (i64 : IsI64 n) :
    Calls Try.prog 9 #[.slice A ls.length c, .int .i64 n] w fun e w' => e = .returned (.bool true) ∧ Below w.heap.size w w' := by
  have lc := Nat.le_trans hB.out.le hB.out.cap
  obtain ⟨len, hn⟩ : ∃ k, k = ls.length := ⟨_, rfl⟩
  have HN := Sd.mk hn
  have hF := fun W (h : Below w.heap.size w W) => few_any W A c ls ⟨hB.out.le, hB.out.cap, fun i hi => by
    obtain ⟨b, o, B, d, hA, hc, hs, hd⟩ := hB.out.at' i hi
    exact ⟨b, o, B, d, hA, cell_below h hc, hs.below h, hd⟩, hB.out.i64⟩ 20 (by omega)
  have HFW := Sd.mk hF
  rw [← hn] at lc ⊢
  have HFW2 := Sd.mk (show ∀ W, Below w.heap.size w W → Calls Try.prog 36 #[.slice A len c, .int .i64 20] W (FewE ls 20 W) from fun W h => by rw [hn]; exact HFW.out W h)
  have HALL := Sd.mk (show ∀ W, Below w.heap.size w W → (∀ l ∈ ls, okL l) → ls.length ≤ 20 → Calls Try.prog 40 #[.slice A len c] W fun e w' => ∃ v, e = .returned v ∧ Ent W v ls.flatten w' from fun W h h2 h3 => by rw [hn]; exact all_any w W h A c ls hB.out h2 h3)
  clear hn hF HFW
  go_enter Try.func9, Try.ntmps9
  go_upto_if 18 with (first
    | (go_at_call 35; (with_reducible refine (awake_any _).mono ?_); rintro e wa ⟨rfl, hba⟩; (first | (have hb9 := Sd.mk (below_then (‹Sd (Below w.heap.size w _)›).out hba)) | have hb9 := Sd.mk hba); clear hba)
    | (go_at_call 36; (with_reducible refine (HFW2.out _ hb9.out).mono ?_); rintro e wb ⟨r, rfl, hr, rfl⟩; have HR := Sd.mk hr; clear hr))
  cases r with
  | false =>
    go_wp2_with (first | (go_at_call 35; (with_reducible refine (awake_any _).mono ?_); rintro e wa ⟨rfl, hba⟩; (first | (have hb9 := Sd.mk (below_then (‹Sd (Below w.heap.size w _)›).out hba)) | have hb9 := Sd.mk hba); clear hba))
    go_ret
    exact ⟨rfl, hb9.out⟩
  | true =>
    have hok := HR.out rfl
    have HOK := Sd.mk hok.2
    have l20 : len ≤ 20 := by rw [HN.out]; exact hok.1
    clear hok HR
    go_upto_region 4 with (first
      | (go_at_call 37; (with_reducible refine (new_any _).mono ?_); rintro e w1 ⟨g, b, ve, vd, rfl, hL, hb⟩; have HL := Sd.mk hL; have HB1 := Sd.mk (below_then hb9.out hb); clear hL hb))
    have hz := hb9.out.size
    have HT0 := Sd.mk (show Bt w (fun k => w.heap.size ≤ k) g b (insAll [] (ls.take 0).flatten) w1 from ⟨⟨ve, vd, HL.out.wider (fun k hk s => by have := hb9.out.size; omega)⟩, HB1.out⟩)
    clear HL HB1
    go_wp2
    go_loopg [6] len (fun gk v6 wr => ∃ i, i + gk = len ∧ v6 = .int .i64 (i : Nat) ∧ Sd (Bt w (fun k => w.heap.size ≤ k) g b (insAll [] (ls.take i).flatten) wr))
    case atStart => exact ⟨0, by omega, rfl, HT0⟩
    case round =>
      clear HT0
      obtain ⟨i, hi, rfl, HT⟩ := hrel
      by_cases hlt : i < len
      · have hii : (i : Int) < len := by omega
        obtain ⟨l, hl⟩ : ∃ l, ls[i]? = some l := ⟨ls[i]'(by rw [← HN.out]; exact hlt), List.getElem?_eq_getElem _⟩
        obtain ⟨b0, o0, B, d, rfl, c0, hI⟩ := bs_in hB.out HT.out.bel hl
        have HI := Sd.mk hI
        have hmem := List.mem_of_getElem? hl
        have HF := Sd.mk (ok_fine HOK.out hB.out.i64 hmem)
        have HY := Sd.mk (show insAll (insAll [] (ls.take i).flatten) l = insAll [] (ls.take (i + 1)).flatten by rw [flat_take' hl, insAll_app])
        have HLN := Sd.mk (show (insAll [] (ls.take i).flatten).length + l.length ≤ 1000 by have h1 := (insAll_length (ls.take i).flatten []).2; have h2 := flat_take_len HOK.out i; have h3 := (HOK.out l hmem).1; rw [← HN.out] at h2; rw [List.length_nil] at h1; omega)
        clear hl hI hmem
        go_wp2_with (first
          | (go_at_call 38; (with_reducible refine (batch_any HT.out (fun k hk => Nat.le_trans HT.out.bel.size hk) (fun k s => s) HI.out HF.out l.length rfl HLN.out _ HY.out).mono ?_); rintro e w5 ⟨v5, rfl, hT5, -, -, -⟩; have HT5 := Sd.mk hT5; clear hT5))
        go_roundg (gk - 1)
        case measure => omega
        case rel => exact ⟨i + 1, by omega, by go_num, HT5⟩
      · have hii : decide (i < len) = false := decide_eq_false (by omega)
        obtain rfl : i = len := by omega
        have HT2 := Sd.mk (show Bt w (fun k => w.heap.size ≤ k) g b (insAll [] ls.flatten) wr by have := HT.out; rw [List.take_of_length_le (by rw [← HN.out]; exact Nat.le_refl _)] at this; exact this)
        clear HT
        obtain ⟨xs, hxs⟩ : ∃ xs, insAll [] ls.flatten = xs := ⟨_, rfl⟩
        have hxl : xs.length ≤ 160 := by have h1 := (insAll_length ls.flatten []).2; have h2 := flat_len ls HOK.out; rw [hxs] at h1; rw [← HN.out] at h2; rw [List.length_nil] at h1; omega
        rw [hxs] at HT2
        have HXS := Sd.mk hxs
        obtain ⟨ve1, vd1, hL1⟩ := HT2.out.led
        have HL1 := Sd.mk hL1
        have HB1 := Sd.mk HT2.out.bel
        have HFX := Sd.mk (show ∀ x ∈ xs, Fine x from hL1.fine)
        obtain ⟨fn, hfn⟩ : ∃ k, ls.flatten.length = k := ⟨_, rfl⟩
        have HFN := Sd.mk hfn
        have fn1 : fn ≤ 1000 := by have := flat_len ls HOK.out; rw [← HN.out] at this; omega
        clear hL1 hxs HT2 hfn
        go_upto_region 9 with (first
          | (go_at_call 40; (refine (HALL.out _ HB1.out HOK.out (by rw [← HN.out]; exact l20)).mono ?_); rintro e w2 ⟨v2, rfl, hE2⟩; obtain ⟨A2, c2, rfl, hs2, -, -⟩ := own_row hE2.own; rw [HFN.out]; have HS2 := Sd.mk hs2; have HB2 := Sd.mk (below_then HB1.out hE2.bel); have HL2 := Sd.mk (HL1.out.below hE2.bel); clear hE2 hs2)
          | (go_at_call 39; (with_reducible refine (refents_len HFN.out HS2.out fn1 xs HXS.out).mono ?_); rintro e w3 ⟨v3, rfl, hE3⟩; obtain ⟨A3, c3, rfl, hs3, -, -⟩ := own_row hE3.own; have HS3 := Sd.mk hs3; have HB3 := Sd.mk (below_then HB2.out hE3.bel); have HL3 := Sd.mk (HL2.out.below hE3.bel); clear hE3 hs3))
        obtain ⟨m, hm⟩ : ∃ m, xs.length = m := ⟨_, rfl⟩
        have HM := Sd.mk hm
        rw [hm] at hxl ⊢
        clear hm
        have hx1 : xs.length ≤ 1000 := by rw [HM.out]; omega
        have HX1 := Sd.mk hx1
        clear hx1
        by_cases n0 : n < 0
        · have d0 : decide (n < 0) = true := decide_eq_true n0
          have d0b : decide (0 ≤ n) = false := decide_eq_false (by omega)
          have HD := Sd.mk (show DigE xs n { data := #[] } 10 from .inl ⟨.inl n0, rfl, rfl⟩)
          have HN0 := Sd.mk n0
          clear n0
          go_upto_region 11 with (first
            | (go_at_call 41; (with_reducible refine (digest_any HL3.out HX1.out n { data := #[] } 10 HD.out).mono ?_); rintro e wq ⟨rfl, rfl⟩)
            | (go_at_call 42; (with_reducible refine (at_no HL3.out n (.inl HN0.out)).mono ?_); rintro e w5 ⟨rfl, hB5⟩; have HB5 := Sd.mk (below_then HB3.out hB5); have HS5 := Sd.mk (HS3.out.below hB5); clear hB5))
          (have X := blk_new w5 (.cells #[.int .i64 0, .int .i64 0, .string { data := #[] }] 60); have HB6 := Sd.mk (below_then HB5.out (below_one w5 (.cells #[.int .i64 0, .int .i64 0, .string { data := #[] }] 60))); have HS6 := Sd.mk (HS5.out.below (below_one w5 (.cells #[.int .i64 0, .int .i64 0, .string { data := #[] }] 60))); generalize hw6 : w5.alloc _ = w6 at X HB6 HS6 ⊢; clear hw6; have y0 := blk_at X 0 _ rfl; have y1 := blk_at X 1 _ rfl; have y2 := blk_at X 2 _ rfl; clear X)
          go_quiet (fail)
          go_wp2
          go_ret
          exact ⟨rfl, below_drewN HB6.out _⟩
        · have d0 : decide (n < 0) = false := decide_eq_false n0
          have d0b : decide (0 ≤ n) = true := decide_eq_true (by omega)
          obtain ⟨k, rfl⟩ : ∃ k : Nat, n = (k : Int) := ⟨n.toNat, by omega⟩
          clear n0
          by_cases nm : m < k
          · have d1 : decide ((k : Int) < (m : Int)) = false := decide_eq_false (by omega)
            have d1b : decide (k < m) = false := decide_eq_false (by omega)
            have d2 : decide ((m : Int) < (k : Int)) = true := decide_eq_true (by omega)
            have d2b : decide (m < k) = true := decide_eq_true (by omega)
            have HD := Sd.mk (show DigE xs (k : Int) { data := #[] } 10 from .inl ⟨.inr (by rw [HM.out]; omega), rfl, rfl⟩)
            have HN0 := Sd.mk (show (xs.length : Int) ≤ (k : Int) by rw [HM.out]; omega)
            clear nm
            go_upto_region 11 with (first
              | (go_at_call 41; (with_reducible refine (digest_any HL3.out HX1.out (k : Int) { data := #[] } 10 HD.out).mono ?_); rintro e wq ⟨rfl, rfl⟩)
              | (go_at_call 42; (with_reducible refine (at_no HL3.out (k : Int) (.inr HN0.out)).mono ?_); rintro e w5 ⟨rfl, hB5⟩; have HB5 := Sd.mk (below_then HB3.out hB5); have HS5 := Sd.mk (HS3.out.below hB5); clear hB5))
            (have X := blk_new w5 (.cells #[.int .i64 0, .int .i64 0, .string { data := #[] }] 60); have HB6 := Sd.mk (below_then HB5.out (below_one w5 (.cells #[.int .i64 0, .int .i64 0, .string { data := #[] }] 60))); have HS6 := Sd.mk (HS5.out.below (below_one w5 (.cells #[.int .i64 0, .int .i64 0, .string { data := #[] }] 60))); generalize hw6 : w5.alloc _ = w6 at X HB6 HS6 ⊢; clear hw6; have y0 := blk_at X 0 _ rfl; have y1 := blk_at X 1 _ rfl; have y2 := blk_at X 2 _ rfl; clear X)
            go_quiet (fail)
            go_wp2
            go_ret
            exact ⟨rfl, below_drewN HB6.out _⟩
          · have d2 : decide ((m : Int) < (k : Int)) = false := decide_eq_false (by omega)
            have d2b : decide (m < k) = false := decide_eq_false (by omega)
            obtain ⟨dd, hdd⟩ : ∃ dd, dgst (xs.take k) = dd := ⟨_, rfl⟩
            have HDD := Sd.mk hdd
            have HD := Sd.mk (show DigE xs (k : Int) dd 0 from .inr ⟨k, rfl, by rw [HM.out]; omega, hdd.symm, rfl⟩)
            have HTK := Sd.mk (show (xs.take k).length = k by rw [List.length_take, HM.out]; omega)
            have HFT := Sd.mk (show ∀ x ∈ xs.take k, Fine x from fun x hx => HFX.out x (List.mem_of_mem_take hx))
            have hkc : k ≤ c3 := by have := HS3.out.le; rw [HM.out] at this; omega
            have hkcI : (k : Int) ≤ (c3 : Int) := by omega
            have hcc := HS3.out.cap
            clear hdd
            by_cases nm2 : k < m
            · have d1 : decide ((k : Int) < (m : Int)) = true := decide_eq_true (by omega)
              have d1b : decide (k < m) = true := decide_eq_true (by omega)
              have d1I : (k : Int) < (m : Int) := by omega
              have HKL := Sd.mk (show k < xs.length by rw [HM.out]; exact nm2)
              obtain ⟨x, hx⟩ : ∃ x, xs[k]'HKL.out = x := ⟨_, rfl⟩
              have HXX := Sd.mk hx
              obtain ⟨xc, xq, xb⟩ := x
              clear hx nm nm2
              go_upto_region 11 with (first
                | (go_at_call 41; (with_reducible refine (digest_any HL3.out HX1.out (k : Int) dd 0 HD.out).mono ?_); rintro e wq ⟨rfl, rfl⟩)
                | (go_at_call 42; (with_reducible refine (at_yes HL3.out k HKL.out HX1.out ⟨xc, xq, xb⟩ HXX.out).mono ?_); rintro e w5 ⟨rfl, hB5⟩; have HB5 := Sd.mk (below_then HB3.out hB5); have HS5 := Sd.mk (HS3.out.below hB5); clear hB5))
              (have X := blk_new w5 (.cells #[.int .i64 xc, .int .i64 xq, .string xb] 60); have HB6 := Sd.mk (below_then HB5.out (below_one w5 (.cells #[.int .i64 xc, .int .i64 xq, .string xb] 60))); have HS6 := Sd.mk (HS5.out.below (below_one w5 (.cells #[.int .i64 xc, .int .i64 xq, .string xb] 60))); generalize hw6 : w5.alloc _ = w6 at X HB6 HS6 ⊢; clear hw6; have y0 := blk_at X 0 _ rfl; have y1 := blk_at X 1 _ rfl; have y2 := blk_at X 2 _ rfl; clear X)
              obtain ⟨b4, o4, rfl, p0, p1, p2⟩ := rqN_at HS6.out.row HKL.out
              rw [HXX.out] at p0 p1 p2
              simp only at p0 p1 p2
              go_quiet (fail)
              have HB7 := Sd.mk (below_drewN HB6.out nq)
              have HS7 := Sd.mk (HS6.out.below (below_drewN (Below.refl w6.heap.size w6) nq))
              clear p0 p1 p2 y0 y1 y2
              go_wp2_with (first | (go_at_call 43; (with_reducible refine (refdig_len HTK.out (rq_take HS7.out k) HFT.out dd HDD.out).mono ?_); rintro e w8 ⟨rfl, hb8⟩; have HB8 := Sd.mk (below_then HB7.out hb8); clear hb8))
              go_ret
              exact ⟨rfl, HB8.out⟩
            · have d1 : decide ((k : Int) < (m : Int)) = false := decide_eq_false (by omega)
              have d1b : decide (k < m) = false := decide_eq_false (by omega)
              have HN0 := Sd.mk (show (xs.length : Int) ≤ (k : Int) by rw [HM.out]; omega)
              clear nm nm2
              go_upto_region 11 with (first
                | (go_at_call 41; (with_reducible refine (digest_any HL3.out HX1.out (k : Int) dd 0 HD.out).mono ?_); rintro e wq ⟨rfl, rfl⟩)
                | (go_at_call 42; (with_reducible refine (at_no HL3.out (k : Int) (.inr HN0.out)).mono ?_); rintro e w5 ⟨rfl, hB5⟩; have HB5 := Sd.mk (below_then HB3.out hB5); have HS5 := Sd.mk (HS3.out.below hB5); clear hB5))
              (have X := blk_new w5 (.cells #[.int .i64 0, .int .i64 0, .string { data := #[] }] 60); have HB6 := Sd.mk (below_then HB5.out (below_one w5 (.cells #[.int .i64 0, .int .i64 0, .string { data := #[] }] 60))); have HS6 := Sd.mk (HS5.out.below (below_one w5 (.cells #[.int .i64 0, .int .i64 0, .string { data := #[] }] 60))); generalize hw6 : w5.alloc _ = w6 at X HB6 HS6 ⊢; clear hw6; have y0 := blk_at X 0 _ rfl; have y1 := blk_at X 1 _ rfl; have y2 := blk_at X 2 _ rfl; clear X)
              go_quiet (fail)
              have HB7 := Sd.mk (below_drewN HB6.out nq)
              have HS7 := Sd.mk (HS6.out.below (below_drewN (Below.refl w6.heap.size w6) nq))
              clear y0 y1 y2
              go_wp2_with (first | (go_at_call 43; (with_reducible refine (refdig_len HTK.out (rq_take HS7.out k) HFT.out dd HDD.out).mono ?_); rintro e w8 ⟨rfl, hb8⟩; have HB8 := Sd.mk (below_then HB7.out hb8); clear hb8))
              go_ret
              exact ⟨rfl, HB8.out⟩
-- L1>
theorem digests_row (w : World) (A : Option Addr) (c : Nat) (ls : List (List Rq)) (h1 : ls.length ≤ c) (h2 : c ≤ maxLen) (h3 : Row (sl0 rqK) w A ls) (n : Int) (hn : (Lit.int .i64 n).wf = true) :
    Calls Try.prog 9 #[.slice A ls.length c, .int .i64 n] w fun e w' => e = .returned (.bool true) ∧ Below w.heap.size w w' :=
  digests_few w A c ls ⟨bs_row h1 h2 h3⟩ n (i64_of hn)
end Go.Proofs.Ytgleoeiiiadanaa.Led

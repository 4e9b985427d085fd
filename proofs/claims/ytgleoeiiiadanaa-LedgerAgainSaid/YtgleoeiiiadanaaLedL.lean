/- LedgerApplies: walked. -/
import Derived.Test.YtgleoeiiiadanaaLedK
set_option linter.unusedVariables false
set_option linter.unusedSimpArgs false
namespace Go.Proofs.Ytgleoeiiiadanaa.Led
open Go.RowKit Rd Api Own Mv Num Dig Wtx

theorem own_sl {W : World} {A : Option Addr} {m c : Nat} {xs : List Rq} (h : OwnR fR 3 W 0 60 (.slice A m c) xs) : xs.length = m ∧ Sl rqN W A c xs := by
  obtain ⟨A', c', hv, hs, -, -⟩ := own_row h
  simp only [Value.slice.injEq] at hv
  obtain ⟨rfl, rfl, rfl⟩ := hv
  exact ⟨rfl, hs⟩
theorem refidx_len {w : World} {A : Option Addr} {q n : Nat} {l : List Rq} (hn : l.length = n) (hl : Sl rqN w A q l) (c s : Int) (r : Int) (hr : idxI l c s = r) :
    Calls Try.prog 44 #[.slice A n q, .int .i64 c, .int .i64 s] w fun e w' => e = .returned (.int .i64 r) ∧ w' = w := by
  subst hn; exact refidx_any w A q l hl c s r hr
/-- an element of a row of numbers -/
theorem ownI_at {W : World} {v : Value} {ys : List Int} (h : OwnR fI 1 W 0 3 v ys) {k : Nat} {y : Int} (hy : ys[k]? = some y) : ∃ b o c, v = .slice (some ⟨b, o, none⟩) ys.length c ∧ W.cell? ⟨b, o + k, none⟩ = some (.int .i64 y) ∧ ys.length ≤ c ∧ c ≤ 9223372036854775807 := by
  obtain ⟨A, c, hv, hs⟩ := OwnR.reads (d := num .i64) (f := fI) (n := 1) (fun _ _ => rfl) (fun _ => rfl) rfl h
  obtain ⟨hk, rfl⟩ := List.getElem?_eq_some_iff.1 hy
  obtain ⟨b, o, rfl, hc⟩ := num_at hs.row hk
  exact ⟨b, o, c, hv, hc, hs.le, hs.cap⟩
/-- the ledger amid the batches, and a row beside it -/
structure Ap (w : World) (S : Nat → Prop) (g b : Nat) (xs : List Rq) (u : Value) (us : List Rq) (wr : World) : Prop where
  bt : Bt w S g b xs wr
  row : OwnR fR 3 wr 0 60 u us
  ns : ∀ k, u.ownBlock = some k → ¬ S k
theorem Ap.below {w : World} {S : Nat → Prop} {g b : Nat} {xs us : List Rq} {u : Value} {wr w1 : World} (h : Ap w S g b xs u us wr) (hb : Below wr.heap.size wr w1) : Ap w S g b xs u us w1 := ⟨h.bt.below hb, OwnR.below h.row hb, h.ns⟩
/-- numbers beside it -/
structure Ag (w : World) (S : Nat → Prop) (g b : Nat) (xs : List Rq) (u : Value) (us : List Rq) (v : Value) (ys : List Int) (wr : World) : Prop where
  ap : Ap w S g b xs u us wr
  got : OwnR fI 1 wr 0 3 v ys
theorem Ag.below {w : World} {S : Nat → Prop} {g b : Nat} {xs us : List Rq} {u v : Value} {ys : List Int} {wr w1 : World} (h : Ag w S g b xs u us v ys wr) (hb : Below wr.heap.size wr w1) : Ag w S g b xs u us v ys w1 := ⟨h.ap.below hb, OwnR.below h.got hb⟩
theorem apbatch_any {w : World} {S : Nat → Prop} {g b : Nat} {xs us : List Rq} {u : Value} {wr : World} (h : Ap w S g b xs u us wr) (hS : ∀ k, wr.heap.size ≤ k → S k) (hS2 : ∀ k, S k → w.heap.size ≤ k) {B : Option Addr} {d : Nat} {l : List Rq} (hI : In (fun k => w.heap.size ≤ k) B d l wr) (hl : ∀ x ∈ l, Fine x) (n : Nat) (hn : n = l.length) (hlen : xs.length + n ≤ 1000) (ys : List Rq) (hy : insAll xs l = ys) (ps : List Int) (hps : posAll xs l = ps) :
    Calls Try.prog 38 #[.pointer (some ⟨g, 0, none⟩), .slice B n d] wr fun e w' => ∃ A5 c5, e = .returned (.slice A5 n c5) ∧ Ag w S g b ys u us (.slice A5 n c5) ps w' ∧ (∀ k, (Value.slice A5 n c5).ownBlock = some k → wr.heap.size ≤ k) ∧ Fr S wr w' := by
  subst hps
  refine (batch_any h.bt hS hS2 hI hl n hn hlen ys hy).mono ?_
  rintro e w' ⟨v, rfl, h1, h2, h3, h4⟩
  obtain ⟨A5, c5, rfl⟩ := OwnR.slice h2
  rw [posAll_length, ← hn] at h2 h3 ⊢
  exact ⟨A5, c5, rfl, ⟨⟨h1, own_same h.row (fun k e => h4.blk k (own_lt h.row e) (h.ns k e)), h.ns⟩, h2⟩, h3, h4⟩
/-- what was there at the start is there yet -/
theorem cell_keep5 {w W W1 : World} {c : Nat} {ls : List (List Rq)} {i b o : Nat} {v : Value} (h : Below w.heap.size w W) (h1 : Below w.heap.size w W1) (hB : Bs w (some ⟨b, o, none⟩) c ls) (hi : i < ls.length) (hc : W.cell? ⟨b, o + i, none⟩ = some v) : W1.cell? ⟨b, o + i, none⟩ = some v := by
  obtain ⟨b', o', B, d, hA, hc0, -⟩ := hB.at' i hi
  cases hA
  have e := cell_below h hc0
  rw [hc] at e
  rw [e]
  exact cell_below h1 hc0
-- <L1
set_option maxHeartbeats 8000000 in
set_option maxRecDepth 100000 in
theorem applies_few (w : World) (A : Option Addr) (c : Nat) (ls : List (List Rq)) (hB : Sd (Bs w A c ls)) (cl sq : Int) (i64c : IsI64 cl) (i64s : IsI64 sq) :
    Calls Try.prog 10 #[.slice A ls.length c, .int .i64 cl, .int .i64 sq] w fun e w' => e = .returned (.bool true) ∧ Below w.heap.size w w' := by
  have lc := Nat.le_trans hB.out.le hB.out.cap
  have IC := Sd.mk i64c
  have IS := Sd.mk i64s
  obtain ⟨len, hn⟩ : ∃ k, k = ls.length := ⟨_, rfl⟩
  have HN := Sd.mk hn
  have hF := fun W (h : Below w.heap.size w W) => few_any W A c ls ⟨hB.out.le, hB.out.cap, fun i hi => by
    obtain ⟨b, o, B, d, hA, hc, hs, hd⟩ := hB.out.at' i hi
    exact ⟨b, o, B, d, hA, cell_below h hc, hs.below h, hd⟩, hB.out.i64⟩ 20 (by omega)
  have HFW := Sd.mk hF
  rw [← hn] at lc ⊢
  have HFW2 := Sd.mk (show ∀ W, Below w.heap.size w W → Calls Try.prog 36 #[.slice A len c, .int .i64 20] W (FewE ls 20 W) from fun W h => by rw [hn]; exact HFW.out W h)
  have HALL := Sd.mk (show ∀ W, Below w.heap.size w W → (∀ l ∈ ls, okL l) → ls.length ≤ 20 → Calls Try.prog 40 #[.slice A len c] W fun e w' => ∃ v, e = .returned v ∧ Ent W v ls.flatten w' from fun W h h2 h3 => by rw [hn]; exact all_any w W h A c ls hB.out h2 h3)
  clear hn hF HFW i64c i64s
  go_enter Try.func10, Try.ntmps10
  go_upto_if 21 with (first
    | (go_at_call 35; (with_reducible refine (awake_any _).mono ?_); rintro e wa ⟨rfl, hba⟩; (first | (have hb9 := Sd.mk (below_then (‹Sd (Below w.heap.size w _)›).out hba)) | have hb9 := Sd.mk hba); clear hba)
    | (go_at_call 36; (with_reducible refine (HFW2.out _ hb9.out).mono ?_); rintro e wb ⟨r, rfl, hr, rfl⟩; have HR := Sd.mk hr; clear hr))
  cases r with
  | false =>
    go_wp2_with (first | (go_at_call 35; (with_reducible refine (awake_any _).mono ?_); rintro e wa ⟨rfl, hba⟩; (first | (have hb9 := Sd.mk (below_then (‹Sd (Below w.heap.size w _)›).out hba)) | have hb9 := Sd.mk hba); clear hba))
    go_ret
    exact ⟨rfl, hb9.out⟩
  | true =>
    have hok := HR.out rfl
    have HOK := Sd.mk hok.2
    have l20 : len ≤ 20 := by rw [HN.out]; exact hok.1
    clear hok HR
    obtain ⟨xs, hxs⟩ : ∃ xs, insAll [] ls.flatten = xs := ⟨_, rfl⟩
    have hxl : xs.length ≤ 160 := by have h1 := (insAll_length ls.flatten []).2; have h2 := flat_len ls HOK.out; rw [hxs] at h1; rw [← HN.out] at h2; rw [List.length_nil] at h1; omega
    have HXS := Sd.mk hxs
    obtain ⟨fn, hfn⟩ : ∃ k, ls.flatten.length = k := ⟨_, rfl⟩
    have HFN := Sd.mk hfn
    have fn1 : fn ≤ 1000 := by have := flat_len ls HOK.out; rw [← HN.out] at this; omega
    obtain ⟨m, hm⟩ : ∃ m, xs.length = m := ⟨_, rfl⟩
    have HM := Sd.mk hm
    rw [hm] at hxl
    clear hxs hfn hm
    go_upto_region 5 with (first
      | (go_at_call 37; (with_reducible refine (new_any _).mono ?_); rintro e w1 ⟨g, b, ve, vd, rfl, hL, hb⟩; have HL := Sd.mk hL; have HB1 := Sd.mk (below_then hb9.out hb); clear hL hb)
      | (go_at_call 40; (refine (HALL.out _ HB1.out HOK.out (by rw [← HN.out]; exact l20)).mono ?_); rintro e w2 ⟨v2, rfl, hE2⟩; obtain ⟨A2, c2, rfl, hs2, -, -⟩ := own_row hE2.own; rw [HFN.out]; have HS2 := Sd.mk hs2; have HB2 := Sd.mk hE2.bel; clear hE2 hs2)
      | (go_at_call 39; (with_reducible refine (refents_len HFN.out HS2.out fn1 xs HXS.out).mono ?_); rintro e w3 ⟨v3, rfl, hE3⟩; obtain ⟨A3, c3, rfl⟩ := OwnR.slice hE3.own; rw [HM.out] at hE3 ⊢; have HE3 := Sd.mk hE3; clear hE3))
    obtain ⟨S, hS⟩ : ∃ S : Nat → Prop, ∀ k, S k ↔ (w.heap.size ≤ k ∧ (Value.slice A3 m c3).ownBlock ≠ some k) := ⟨_, fun _ => Iff.rfl⟩
    have HSI := Sd.mk hS
    have HT0 := Sd.mk (show Ap w S g b (insAll [] (ls.take 0).flatten) (.slice A3 m c3) xs w3 from ⟨⟨⟨ve, vd, ((HL.out.wider (S' := S) (fun k hk s => (hS k).2 ⟨Nat.le_trans hb9.out.size s, fun e => by have h1 := HE3.out.new k e; have h2 := HB2.out.size; omega⟩)).below HB2.out).below HE3.out.bel⟩, below_then (below_then HB1.out HB2.out) HE3.out.bel⟩, HE3.out.own, fun k e s => ((hS k).1 s).2 e⟩)
    clear HL HB1 HB2 HE3 HS2 hS hb9
    go_wp2
    go_loopg [9, 10, 11] len (fun gk v9 v10 v11 wr => ∃ i, i + gk = len ∧ v9 = .int .i64 (i : Nat) ∧ Sd (Ap w S g b (insAll [] (ls.take i).flatten) (.slice A3 m c3) xs wr))
    case atStart => exact ⟨0, by omega, rfl, HT0⟩
    case round =>
      clear HT0
      obtain ⟨i, hi, rfl, HT⟩ := hrel
      by_cases hlt : i < len
      · have hii : (i : Int) < len := by omega
        have HIL := Sd.mk (show i < ls.length by rw [← HN.out]; exact hlt)
        obtain ⟨l, hl⟩ : ∃ l, ls[i]'HIL.out = l := ⟨_, rfl⟩
        have hl' : ls[i]? = some l := by rw [List.getElem?_eq_getElem HIL.out, hl]
        obtain ⟨b0, o0, B, d, rfl, c0, hI⟩ := bs_in hB.out HT.out.bt.bel hl'
        have HI := Sd.mk hI
        have hmem := List.mem_of_getElem? hl'
        have HF := Sd.mk (ok_fine HOK.out hB.out.i64 hmem)
        have HY := Sd.mk (show insAll (insAll [] (ls.take i).flatten) l = insAll [] (ls.take (i + 1)).flatten by rw [flat_take' hl', insAll_app])
        obtain ⟨n, hnl⟩ : ∃ n, n = l.length := ⟨_, rfl⟩
        have HNL := Sd.mk hnl
        have n8 : n ≤ 8 := by rw [hnl]; exact (HOK.out l hmem).1
        have HLN := Sd.mk (show (insAll [] (ls.take i).flatten).length + n ≤ 1000 by have h1 := (insAll_length (ls.take i).flatten []).2; have h2 := flat_take_len HOK.out i; rw [← HN.out] at h2; rw [List.length_nil] at h1; omega)
        obtain ⟨ps, hps⟩ : ∃ ps, posAll (insAll [] (ls.take i).flatten) l = ps := ⟨_, rfl⟩
        have HPS := Sd.mk hps
        have HPB := Sd.mk (show ∀ (k : Nat) (r : Rq), l[k]? = some r → ps[k]? = some (idxI xs r.c r.s) from fun k r hr => by rw [← hps, ← HXS.out]; subst hl; exact pos_batch HIL.out hr)
        have HPL := Sd.mk (show ps.length = n by rw [← hps, posAll_length, hnl])
        rw [← hnl] at c0
        have HSN := Sd.mk (show ∀ k, wr.heap.size ≤ k → S k from fun k hk => (HSI.out k).2 ⟨Nat.le_trans HT.out.bt.bel.size hk, fun e => by have := own_lt HT.out.row e; omega⟩)
        clear hl hl' hI hmem hnl hps
        go_upto_region 12 with (first
          | (go_at_call 38; (with_reducible refine (apbatch_any HT.out HSN.out (fun k s => ((HSI.out k).1 s).1) HI.out HF.out n HNL.out HLN.out _ HY.out ps HPS.out).mono ?_); rintro e w5 ⟨A5, c5, rfl, hG5, -, hF5⟩; have HG5 := Sd.mk hG5; have HI5 := Sd.mk (HI.out.fr hF5 (fun k _ s => ((HSI.out k).1 s).1)); have c0 := (cell_keep5 HT.out.bt.bel hG5.ap.bt.bel hB.out HIL.out c0); clear hG5 hF5))
        clear HT HSN
        obtain ⟨gko, hgo⟩ : ∃ z, gk = z := ⟨_, rfl⟩
        go_loopg [11] n (fun gk v11 wx => ∃ k, k + gk = n ∧ v11 = .int .i64 (k : Nat) ∧ Sd (Ag w S g b (insAll [] (ls.take (i + 1)).flatten) (.slice A3 m c3) xs (.slice A5 n c5) ps wx) ∧ Sd (In (fun k => w.heap.size ≤ k) B d l wx) ∧ Sd (wx.cell? ⟨b0, o0 + i, none⟩ = some (.slice B n d)))
        case atStart => exact ⟨0, by omega, rfl, HG5, HI5, ⟨c0⟩⟩
        case round =>
          clear HG5 HI5 c0
          obtain ⟨k, hk, rfl, HG, HI, HC⟩ := hrel
          by_cases hkt : k < n
          · have hki : (k : Int) < n := by omega
            have HKL := Sd.mk (show k < l.length by rw [← HNL.out]; exact hkt)
            obtain ⟨r, hr⟩ : ∃ r, l[k]'HKL.out = r := ⟨_, rfl⟩
            have hp := HPB.out k r (by rw [List.getElem?_eq_getElem HKL.out, hr])
            obtain ⟨bg, og, cg, hvg, cg0, hnc, -⟩ := ownI_at HG.out.got hp
            simp only [Value.slice.injEq] at hvg
            obtain ⟨rfl, -, rfl⟩ := hvg
            obtain ⟨bb, ob, rfl, p0, p1, -⟩ := rqN_at HI.out.sl.row HKL.out
            rw [hr] at p0 p1
            obtain ⟨p, hpp⟩ : ∃ p, idxI xs r.c r.s = p := ⟨_, rfl⟩
            have HPP := Sd.mk hpp
            rw [hpp] at cg0
            have hnd : n ≤ d := by have := HI.out.sl.le; rw [← HNL.out] at this; exact this
            have hdc := HI.out.sl.cap
            have hn5 : n ≤ c5 := by rw [← HPL.out]; exact hnc
            obtain ⟨rc, rs, rb⟩ := r
            simp only at p0 p1 HPP
            have c0 := HC.out
            have KA := Sd.mk (fun (W1 : World) (hb : Below wr.heap.size wr W1) => (⟨cell_below hb cg0, cell_below hb c0, cell_below hb p0, cell_below hb p1⟩ : W1.cell? ⟨bg, og + k, none⟩ = some (.int .i64 p) ∧ W1.cell? ⟨b0, o0 + i, none⟩ = some (.slice (some ⟨bb, ob, none⟩) n d) ∧ W1.cell? ⟨bb, ob + k * 3, none⟩ = some (.int .i64 rc) ∧ W1.cell? ⟨bb, ob + k * 3 + 1, none⟩ = some (.int .i64 rs)))
            have HWS := Sd.mk (own_sl (OwnR.below HG.out.ap.row (below_drew' (Below.refl wr.heap.size wr))))
            clear hr hp hpp
            go_upto_region 14 with (fail)
            go_region_held3 (fun W1 => W1.cell? ⟨bg, og + k, none⟩ = some (.int .i64 p) ∧ W1.cell? ⟨b0, o0 + i, none⟩ = some (.slice (some ⟨bb, ob, none⟩) n d) ∧ W1.cell? ⟨bb, ob + k * 3, none⟩ = some (.int .i64 rc) ∧ W1.cell? ⟨bb, ob + k * 3 + 1, none⟩ = some (.int .i64 rs)) (first | exact KA.out _ (below_drew' (Below.refl _ _)) | assumption | fail) (first | (go_at_call 44; (with_reducible refine (refidx_len HWS.out.1 HWS.out.2 rc rs p HPP.out).mono ?_); rintro e w6 ⟨rfl, rfl⟩) | fail)
            all_goals
              clear p0 p1 cg0 c0
              go_wp2
              go_roundg (gk - 1)
              case measure => omega
              case rel => exact ⟨k + 1, by omega, by go_num, ⟨HG.out.below (below_drew' (Below.refl _ _))⟩, ⟨HI.out.fr (Fr.below (S := fun _ => False) (below_drew' (Below.refl _ _))) (fun _ _ s => s.elim)⟩, ⟨cell_below (below_drew' (Below.refl _ _)) HC.out⟩⟩
          · have hki : decide (k < n) = false := decide_eq_false (by omega)
            go_wp2
            go_roundg (gko - 1)
            case measure => omega
            case rel => exact ⟨i + 1, by omega, by go_num, ⟨HG.out.ap⟩⟩
      · have hii : decide (i < len) = false := decide_eq_false (by omega)
        obtain rfl : i = len := by omega
        have HT2 := Sd.mk (show Ap w S g b xs (.slice A3 m c3) xs wr by have := HT.out; rw [List.take_of_length_le (by rw [← HN.out]; exact Nat.le_refl _), HXS.out] at this; exact this)
        clear HT
        obtain ⟨ve1, vd1, hL1⟩ := HT2.out.bt.led
        have HL1 := Sd.mk hL1
        have HB9 := Sd.mk HT2.out.bt.bel
        have HW1 := Sd.mk HT2.out.row
        have HWS := Sd.mk (own_sl HT2.out.row)
        have HX1 := Sd.mk (show xs.length ≤ 1000 by rw [HM.out]; omega)
        have HIX := Sd.mk (index_any hL1 cl sq IC.out IS.out)
        have HLEN := Sd.mk (fun (W : World) (h : Led S g b ve1 vd1 xs W) => (HM.out ▸ len_any h : Calls Try.prog 48 #[.pointer (some ⟨g, 0, none⟩)] W fun e w' => e = .returned (.int .i64 (m : Nat)) ∧ w' = W))
        obtain ⟨at0, hat⟩ : ∃ z, idxI xs cl sq = z := ⟨_, rfl⟩
        have HAT := Sd.mk hat
        clear hL1 HT2
        unfold idxI at hat
        cases hj : idx xs cl sq with
        | none =>
          have HIX2 := HIX
          rw [hj] at HIX2
          simp only at HIX2
          rw [hj] at hat
          simp only at hat
          subst hat
          clear hj HIX
          go_wp2_with (first
            | (go_at_call 45; (with_reducible refine HIX2.out.mono ?_); rintro e w6 ⟨rfl, rfl⟩)
            | (go_at_call 44; (with_reducible refine (refidx_len HWS.out.1 HWS.out.2 cl sq _ HAT.out).mono ?_); rintro e w6 ⟨rfl, rfl⟩)
            | (first | (go_at_call 47; (with_reducible refine (entries_any HL1.out HX1.out).mono ?_); rintro e w7 ⟨v7, rfl, hO7, -, hB7⟩; have HO7 := Sd.mk hO7; have HB7 := Sd.mk (below_then HB9.out hB7); have HL7 := Sd.mk (HL1.out.below hB7); have HW7 := Sd.mk (OwnR.below HW1.out hB7); clear hO7 hB7 HL1 HW1) | (go_at_call 46; (with_reducible refine (same_own HO7.out HW7.out true ⟨fun _ => rfl, fun _ => rfl⟩).mono ?_); rintro e w8 ⟨rfl, hB8⟩; have HL8 := Sd.mk (HL7.out.below hB8); have HB8 := Sd.mk (below_then HB7.out hB8); clear hB8 HL7) | (go_at_call 48; (with_reducible refine (HLEN.out _ HL8.out).mono ?_); rintro e w6 ⟨rfl, rfl⟩)))
          go_ret
          exact ⟨rfl, HB8.out⟩
        | some j =>
          have HIX2 := HIX
          rw [hj] at HIX2
          simp only at HIX2
          rw [hj] at hat
          simp only at hat
          subst hat
          have hjl := at_lt (idx_some hj).1
          rw [HM.out] at hjl
          clear hj HIX
          go_wp2_with (first
            | (go_at_call 45; (with_reducible refine HIX2.out.mono ?_); rintro e w6 ⟨rfl, rfl⟩)
            | (go_at_call 44; (with_reducible refine (refidx_len HWS.out.1 HWS.out.2 cl sq _ HAT.out).mono ?_); rintro e w6 ⟨rfl, rfl⟩)
            | (first | (go_at_call 47; (with_reducible refine (entries_any HL1.out HX1.out).mono ?_); rintro e w7 ⟨v7, rfl, hO7, -, hB7⟩; have HO7 := Sd.mk hO7; have HB7 := Sd.mk (below_then HB9.out hB7); have HL7 := Sd.mk (HL1.out.below hB7); have HW7 := Sd.mk (OwnR.below HW1.out hB7); clear hO7 hB7 HL1 HW1) | (go_at_call 46; (with_reducible refine (same_own HO7.out HW7.out true ⟨fun _ => rfl, fun _ => rfl⟩).mono ?_); rintro e w8 ⟨rfl, hB8⟩; have HL8 := Sd.mk (HL7.out.below hB8); have HB8 := Sd.mk (below_then HB7.out hB8); clear hB8 HL7) | (go_at_call 48; (with_reducible refine (HLEN.out _ HL8.out).mono ?_); rintro e w6 ⟨rfl, rfl⟩)))
          go_ret
          exact ⟨rfl, HB8.out⟩
-- L1>
theorem applies_row (w : World) (A : Option Addr) (c : Nat) (ls : List (List Rq)) (h1 : ls.length ≤ c) (h2 : c ≤ maxLen) (h3 : Row (sl0 rqK) w A ls) (n : Int) (hn : (Lit.int .i64 n).wf = true) (k : Int) (hk : (Lit.int .i64 k).wf = true) :
    Calls Try.prog 10 #[.slice A ls.length c, .int .i64 n, .int .i64 k] w fun e w' => e = .returned (.bool true) ∧ Below w.heap.size w w' :=
  applies_few w A c ls ⟨bs_row h1 h2 h3⟩ n k (i64_of hn) (i64_of hk)
end Go.Proofs.Ytgleoeiiiadanaa.Led

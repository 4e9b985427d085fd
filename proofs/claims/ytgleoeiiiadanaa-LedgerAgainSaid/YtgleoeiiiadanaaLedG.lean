/- The reference's Entries and Digest; batches: walked. -/
import Derived.Test.YtgleoeiiiadanaaLedF
set_option linter.unusedVariables false
set_option linter.unusedSimpArgs false
namespace Go.Proofs.Ytgleoeiiiadanaa.Led
open Go.RowKit Rd Api Own Mv Num Dig Wtx

/-- what is so amid the reference's Entries -/
structure Ent (w : World) (v : Value) (xs : List Rq) (wr : World) : Prop where
  own : OwnR fR 3 wr 0 60 v xs
  new : ∀ k, v.ownBlock = some k → w.heap.size ≤ k
  bel : Below w.heap.size w wr
theorem Ent.below {w : World} {v : Value} {xs : List Rq} {wr w1 : World} (h : Ent w v xs wr) (hb : Below wr.heap.size wr w1) : Ent w v xs w1 := ⟨OwnR.below h.own hb, h.new, below_then h.bel hb⟩
theorem Ent.more {w : World} {v v1 : Value} {xs ys : List Rq} {wr w1 : World} {N : Nat} (h : Ent w v xs wr) (ho : OwnR fR 3 w1 0 60 v1 ys) (hg : wr.grownBy w1 v.ownBlock) (hb : v1.ownBlock = v.ownBlock ∨ v1.ownBlock = some N) (hN : wr.heap.size ≤ N) : Ent w v1 ys w1 := by
  refine ⟨ho, fun k hk => ?_, below_grown h.bel hg h.bel.size (fun k e => h.new k e)⟩
  rcases hb with e | e
  · exact h.new k (e ▸ hk)
  · rw [hk] at e; have := Option.some.inj e; have := h.bel.size; omega
theorem ins_yes {xs : List Rq} {r : Rq} (h : idxI xs r.c r.s < 0) : ins xs r = xs ++ [r] := by
  unfold idxI at h
  unfold ins
  split at h
  · omega
  · rename_i h2; rw [h2]
theorem ins_no {xs : List Rq} {r : Rq} (h : ¬ idxI xs r.c r.s < 0) : ins xs r = xs := by
  unfold idxI at h
  unfold ins
  split at h
  · rename_i h2; rw [h2]
  · omega
-- <L1
set_option maxHeartbeats 4000000 in
set_option maxRecDepth 100000 in
theorem refents_any (w : World) (A : Option Addr) (q : Nat) (l : List Rq) (hl : Sl rqN w A q l) (hlen : l.length ≤ 1000) :
    Calls Try.prog 39 #[.slice A l.length q] w fun e w' => ∃ v, e = .returned v ∧ Ent w v (insAll [] l) w' := by
  have R1 := Sd.mk hl.row
  have lc := Nat.le_trans hl.le hl.cap
  obtain ⟨n, hn⟩ : ∃ n, n = l.length := ⟨_, rfl⟩
  have HN := Sd.mk hn
  have n1 : n ≤ 1000 := by omega
  have HE0 := Sd.mk (show Ent w (.slice none 0 0) [] w from ⟨OwnR.nil _ _ _ _ _, fun k hk => (by simp [Value.ownBlock] at hk), Below.refl _ _⟩)
  rw [← hn] at lc ⊢
  clear hn hl hlen
  go_enter Try.func39, Try.ntmps39
  go_wp2
  go_loopg [3, 4] n (fun gk v3 v4 wr => ∃ i A3 m q3, i + gk = n ∧ v3 = .slice A3 m q3 ∧ v4 = .int .i64 (i : Nat) ∧ Sd (m = (insAll [] (l.take i)).length) ∧ Sd (Ent w v3 (insAll [] (l.take i)) wr))
  case atStart => exact ⟨0, none, 0, 0, by omega, rfl, rfl, ⟨rfl⟩, HE0⟩
  case round =>
    clear HE0
    obtain ⟨i, A3, m, q3, hi, rfl, rfl, HM, HE⟩ := hrel
    by_cases hlt : i < n
    · have hil : i < l.length := by rw [← HN.out]; exact hlt
      obtain ⟨b1, o1, rfl, p0, p1, p2⟩ := rqN_at R1.out hil
      obtain ⟨x, hx⟩ : ∃ x, l[i] = x := ⟨_, rfl⟩
      rw [hx] at p0 p1 p2
      have p0 := cell_below HE.out.bel p0
      have p1 := cell_below HE.out.bel p1
      have p2 := cell_below HE.out.bel p2
      have HX := Sd.mk (show insAll [] (l.take (i + 1)) = ins (insAll [] (l.take i)) x by rw [insAll_take hil, hx])
      have hii : (i : Int) < n := by omega
      obtain ⟨xs, hxs⟩ : ∃ xs, insAll [] (l.take i) = xs := ⟨_, rfl⟩
      have hxl : xs.length ≤ i := by have := (insAll_length (l.take i) []).2; rw [hxs] at this; simp [List.length_take] at this; omega
      rw [hxs] at HM HE HX
      clear hx hil hxs
      obtain ⟨xc, xq, xb⟩ := x
      simp only at p0 p1 p2
      obtain ⟨A4, q4, hv, hs3, hc3, -⟩ := own_row HE.out.own
      rw [← HM.out] at hv
      simp only [Value.slice.injEq] at hv
      obtain ⟨rfl, -, rfl⟩ := hv
      obtain ⟨r, hr⟩ : ∃ r, idxI xs xc xq = r := ⟨_, rfl⟩
      have HI := Sd.mk (fun W => fun (h : Sl rqN W A3 q3 xs) => HM.out ▸ refidx_any W A3 q3 xs h xc xq r hr)
      have HS3 := Sd.mk hs3
      have HR := Sd.mk hr
      have m1 : m ≤ 1000 := by rw [HM.out]; omega
      clear hs3 hc3 hr hxl
      by_cases hneg : r < 0
      · have hd : decide (r < 0) = true := decide_eq_true hneg
        have HY := Sd.mk (show insAll [] (l.take (i + 1)) = xs ++ [⟨xc, xq, xb⟩] by rw [HX.out]; exact ins_yes (by show idxI xs xc xq < 0; rw [HR.out]; exact hneg))
        clear hneg
        go_upto_region 5 with (fail)
        have q0 := cell_below (below_drew' (Below.refl wr.heap.size wr)) p0
        have q1 := cell_below (below_drew' (Below.refl wr.heap.size wr)) p1
        have HS4 := Sd.mk (HS3.out.below (below_drew' (Below.refl wr.heap.size wr)))
        go_region_held3 (fun W => W.cell? ⟨b1, o1 + i * 3, none⟩ = some (.int .i64 xc) ∧ W.cell? ⟨b1, o1 + i * 3 + 1, none⟩ = some (.int .i64 xq) ∧ Sd (W = wr.drew)) (first | exact ⟨q0, q1, ⟨rfl⟩⟩ | fail) (first | (go_at_call 44; (refine (HI.out _ HS4.out).mono ?_); rintro e w2 ⟨rfl, rfl⟩) | fail)
        clear q0 q1 HS4
        have HE2 := Sd.mk (HE.out.below (below_drew' (Below.refl _ _)))
        have p0 := cell_below (below_drew' (Below.refl wr.heap.size wr)) p0
        have p1 := cell_below (below_drew' (Below.refl wr.heap.size wr)) p1
        have p2 := cell_below (below_drew' (Below.refl wr.heap.size wr)) p2
        clear HE HS3
        generalize wr.drew = W1 at HE2 p0 p1 p2 ⊢
        go_wp2_with (first
          | (at_builtin; refine append_at (f := fR) (n := 3) (fun _ => rfl) fR_one rfl (.tmp 24) (.tmp 29) 53 60 (.agg #[.int .i64 0, .int .i64 0, .string ByteArray.empty]) 32 rfl Try.underlying53 info_req rfl (by decide) (.slice A3 m q3) xs ⟨xc, xq, xb⟩ rfl rfl HE2.out.own (by rw [← HM.out]; omega) (by rw [← HM.out]; omega) ?_; intro v5 w3 hown hg hob; obtain ⟨A6, q6, rfl⟩ := OwnR.slice hown; have hlen6 : (xs ++ [(⟨xc, xq, xb⟩ : Rq)]).length = m + 1 := (by rw [List.length_append, ← HM.out]; rfl); rw [hlen6] at hown hob ⊢; have HE3 := Sd.mk (HE2.out.more hown hg hob (by omega)); clear hg hown hob; have HM3 := Sd.mk hlen6.symm; clear hlen6))
        go_roundg (gk - 1)
        case measure => omega
        case rel => exact ⟨i + 1, A6, m + 1, q6, by omega, rfl, by go_num, ⟨by rw [HY.out]; exact HM3.out⟩, ⟨by rw [HY.out]; exact HE3.out⟩⟩
      · have hd : decide (r < 0) = false := decide_eq_false hneg
        have HY := Sd.mk (show insAll [] (l.take (i + 1)) = xs by rw [HX.out]; exact ins_no (by show ¬ idxI xs xc xq < 0; rw [HR.out]; exact hneg))
        clear hneg
        go_upto_region 5 with (fail)
        have q0 := cell_below (below_drew' (Below.refl wr.heap.size wr)) p0
        have q1 := cell_below (below_drew' (Below.refl wr.heap.size wr)) p1
        have HS4 := Sd.mk (HS3.out.below (below_drew' (Below.refl wr.heap.size wr)))
        go_region_held3 (fun W => W.cell? ⟨b1, o1 + i * 3, none⟩ = some (.int .i64 xc) ∧ W.cell? ⟨b1, o1 + i * 3 + 1, none⟩ = some (.int .i64 xq) ∧ Sd (W = wr.drew)) (first | exact ⟨q0, q1, ⟨rfl⟩⟩ | fail) (first | (go_at_call 44; (refine (HI.out _ HS4.out).mono ?_); rintro e w2 ⟨rfl, rfl⟩) | fail)
        clear q0 q1 HS4
        go_wp2
        go_roundg (gk - 1)
        case measure => omega
        case rel => exact ⟨i + 1, A3, m, q3, by omega, rfl, by go_num, ⟨by rw [HY.out]; exact HM.out⟩, ⟨by rw [HY.out]; exact HE.out.below (below_drew' (Below.refl _ _))⟩⟩
    · have hii : decide (i < n) = false := decide_eq_false (by omega)
      obtain rfl : i = n := by omega
      have et : l.take i = l := by rw [HN.out]; exact List.take_length
      go_wp2
      go_ret
      have := HE.out
      rw [et] at this
      exact ⟨_, rfl, this⟩
-- L1>
-- <L2
theorem stp_sum (w : World) (x : ByteArray) (hx : x.size ≤ 200) (d : ByteArray) (hd : sum x = d) : Calls Try.prog 63 #[.string { data := #[] }, .string x] w fun e w' => e = .returned (.string d) ∧ Below w.heap.size w w' := by
  subst hd; exact ref0_any w x (by omega)
theorem led_ref (w : World) (f : ByteArray) (hf : sum LEDGER = f) : Calls Try.prog 63 #[.string { data := #[] }, .string { data := #[108, 101, 100, 103, 101, 114] }] w fun e w' => e = .returned (.string f) ∧ Below w.heap.size w w' := by
  subst hf; exact ref0_any w LEDGER (by decide)
theorem dgst_take {l : List Rq} {i : Nat} (hi : i < l.length) : dgst (l.take (i + 1)) = stp (dgst (l.take i)) l[i] := by
  unfold dgst
  rw [← List.take_append_getElem hi, List.foldl_append]
  rfl
set_option maxHeartbeats 4000000 in
set_option maxRecDepth 100000 in
theorem refdig_any (w : World) (A : Option Addr) (q : Nat) (l : List Rq) (hl : Sl rqN w A q l) (hf : ∀ x ∈ l, Fine x) (d : ByteArray) (hd : dgst l = d) :
    Calls Try.prog 43 #[.slice A l.length q] w fun e w' => e = .returned (.string d) ∧ Below w.heap.size w w' := by
  have R1 := Sd.mk hl.row
  have lc := Nat.le_trans hl.le hl.cap
  obtain ⟨n, hn⟩ : ∃ n, n = l.length := ⟨_, rfl⟩
  have HN := Sd.mk hn
  have HF := Sd.mk hf
  have HD := Sd.mk hd
  obtain ⟨f, hf0⟩ : ∃ f, sum LEDGER = f := ⟨_, rfl⟩
  have h0 := fun W => led_ref W f hf0
  have HF0 := Sd.mk (show f = dgst (l.take 0) by rw [← hf0]; rfl)
  have hfs : f.size = 32 := by rw [← hf0]; exact sum_size _
  rw [← hn] at lc ⊢
  clear hn hl hf hd hf0
  go_enter Try.func43, Try.ntmps43
  go_wp2_with (first
    | (go_at_call 63; (with_reducible refine (h0 _).mono ?_); rintro e w1 ⟨rfl, hb1⟩))
  clear h0
  have HB0 := Sd.mk hb1
  clear hb1
  go_loopg [3, 4] n (fun gk v3 v4 wr => ∃ i h, i + gk = n ∧ v3 = .string h ∧ v4 = .int .i64 (i : Nat) ∧ Sd (h = dgst (l.take i)) ∧ Sd (Below w.heap.size w wr))
  case atStart => exact ⟨0, f, by omega, rfl, rfl, HF0, HB0⟩
  case round =>
    clear HB0 HF0 hfs
    obtain ⟨i, h, hi, rfl, rfl, HH, HB⟩ := hrel
    by_cases hlt : i < n
    · have hil : i < l.length := by rw [← HN.out]; exact hlt
      obtain ⟨b1, o1, rfl, p0, p1, p2⟩ := rqN_at R1.out hil
      obtain ⟨x, hx⟩ : ∃ x, l[i] = x := ⟨_, rfl⟩
      rw [hx] at p0 p1 p2
      have p0 := cell_below HB.out p0
      have p1 := cell_below HB.out p1
      have p2 := cell_below HB.out p2
      have hxb : x.b.size ≤ 60 := hx ▸ (HF.out _ (List.getElem_mem hil)).b
      have hii : (i : Int) < n := by omega
      obtain ⟨rb, hrb⟩ : ∃ rb, reqb x.c x.s x.b = rb := ⟨_, rfl⟩
      have hrs : rb.size ≤ 72 := by rw [← hrb, reqb_size]; omega
      obtain ⟨d1, hd1⟩ : ∃ d1, sum (({ data := #[69] } ++ h : ByteArray) ++ rb) = d1 := ⟨_, rfl⟩
      have hhs : h.size = 32 := by rw [HH.out]; exact dgst_size _
      have HX := Sd.mk (show d1 = dgst (l.take (i + 1)) by rw [dgst_take hil, hx, ← HH.out, ← hd1, ← hrb]; rfl)
      have HD1 := Sd.mk hd1
      have cat1 : ¬9223372036854775807 < 1 + h.size := by omega
      have cat2 : ¬9223372036854775807 < ({ data := #[69] } ++ h : ByteArray).size + rb.size := by rw [app_size]; show ¬ _ < 1 + _ + _; omega
      have cat3 : ¬9223372036854775807 < 1 + h.size + rb.size := by omega
      have HSZ := Sd.mk (show (({ data := #[69] } ++ h : ByteArray) ++ rb).size ≤ 200 by rw [app_size, app_size]; show 1 + _ + _ ≤ _; omega)
      have HRB := Sd.mk hrb
      obtain ⟨xc, xs, xb⟩ := x
      simp only at p0 p1 p2 hxb HRB
      clear hx hil hrb hd1 hrs hhs
      go_wp2_with (first
        | (go_at_call 64; (with_reducible refine (ref_req_any _ xc xs xb (by omega) rb HRB.out).mono ?_); rintro e w2 ⟨rfl, hb2⟩)
        | (go_at_call 63; (with_reducible refine (stp_sum _ _ HSZ.out d1 HD1.out).mono ?_); rintro e w3 ⟨rfl, hb3⟩))
      go_roundg (gk - 1)
      case measure => omega
      case rel => exact ⟨i + 1, d1, by omega, rfl, by go_num, HX, ⟨below_then (below_then HB.out hb2) hb3⟩⟩
    · have hii : decide (i < n) = false := decide_eq_false (by omega)
      obtain rfl : i = n := by omega
      have et : l.take i = l := by rw [HN.out]; exact List.take_length
      go_wp2
      go_ret
      have h1 := HH.out
      rw [et, HD.out] at h1
      exact ⟨by rw [h1]; rfl, HB.out⟩
-- L2>
end Go.Proofs.Ytgleoeiiiadanaa.Led

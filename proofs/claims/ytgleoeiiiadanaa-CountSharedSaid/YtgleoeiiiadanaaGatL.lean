/- The laws of views that nodes told: awake, GatherRises: walked. -/
import Derived.Test.YtgleoeiiiadanaaGatB
import Derived.Test.YtgleoeiiiadanaaGatR
import Derived.Deep.LoopGhost
import Derived.StillTailTactics
set_option linter.unusedVariables false
set_option linter.unusedSimpArgs false
namespace Go.Proofs.Ytgleoeiiiadanaa.Gat
open Go.RowKit Rd Api _root_.Go.Proofs.Ytgleoeiiiadanaa.Own Mv Top

section
variable {g b n : Nat} {vs : List Int} {w W W1 : World}
theorem isTop_ex {l : List Int} {k : Nat} (hk : 1 ≤ k) (hn : k ≤ l.length) : ∃ t, IsTop l k t := ⟨_, isTop_srt l hk hn⟩
theorem Gth.top (h : Gth g b n vs W) (hn : 1 ≤ n) : ∃ t, IsTop vs (fl n + 1) t := isTop_ex (by omega) (by rw [h.len]; exact fl_lt hn)
theorem bel_put (hb : Below w.heap.size w W) (hbb : w.heap.size ≤ b) (hg : W.grownBy W1 (some b)) : Below w.heap.size w W1 := hb.grown hg hb.size (fun k e => by cases e; exact hbb)
theorem top_one (x : Int) : IsTop [x] (fl 1 + 1) x := ⟨by simp, fun v => by
  have e : fl 1 + 1 = 1 := rfl
  rw [e, cnt_cons, cnt_nil]
  split <;> omega⟩
-- <L1
set_option maxHeartbeats 4000000 in
set_option maxRecDepth 100000 in
theorem awake_any (w : World) : Calls Try.prog 22 #[] w fun e w' => e = .returned (.bool true) ∧ Below w.heap.size w w' := by
  have hp : gput (List.replicate 1 0) ⟨0, 5⟩ = [5] := by decide
  have ht : Takes (List.replicate 1 0) ⟨0, 5⟩ := by decide
  have HP := Sd.mk hp
  have HT := Sd.mk ht
  clear hp ht
  go_enter Try.func22, Try.ntmps22
  go_wp2_with (first
    | (go_at_call 23; (with_reducible refine (new_any _ 1 1 (by decide)).mono ?_); rintro e w1 ⟨g, b, rfl, hg, hb, hG, hB⟩; have HG := Sd.mk hG; have HB := Sd.mk hB; have hbb := hb; clear hG hB hg hb)
    | (go_at_call 24; (with_reducible refine (put_any HG.out (by omega) 0 5 (by unfold IsI64; omega) (by unfold IsI64; omega) true ⟨fun _ => HT.out, fun _ => rfl⟩).mono ?_); rintro e w2 ⟨rfl, hG2, hg2⟩; have HG2 := Sd.mk (show Gth g b 1 [5] w2 from HP.out ▸ hG2); have HB2 := Sd.mk (bel_put HB.out hbb hg2); clear hG2 hg2)
    | (go_at_call 25; (with_reducible refine (ready_any HG2.out (by omega) 5 true (by decide)).mono ?_); rintro e w3 ⟨rfl, hB3⟩; have HG3 := Sd.mk (HG2.out.below hB3); have HB3 := Sd.mk (below_then HB2.out hB3); clear hB3)
    | (go_at_call 26; (with_reducible refine (catch_any HG3.out (by omega) 5 (top_one 5)).mono ?_); rintro e w4 ⟨rfl, hB4⟩; have HB4 := Sd.mk (below_then HB3.out hB4); clear hB4))
  go_ret
  exact ⟨rfl, HB4.out⟩
-- L1>
theorem takes_le {vs : List Int} {o : Tel} (f : Int) : atV vs f ≤ atV (gput vs o) f := by
  unfold atV
  rw [gput_length]
  split
  · rename_i h
    have h1 : f.toNat < vs.length := by omega
    rw [List.getD_eq_getElem?_getD, List.getD_eq_getElem?_getD, List.getElem?_eq_getElem h1, List.getElem?_eq_getElem (by rw [gput_length]; exact h1)]
    exact gput_mono vs o f.toNat _ _ (List.getElem?_eq_getElem h1) (List.getElem?_eq_getElem (by rw [gput_length]; exact h1))
  · exact Int.le_refl _
theorem top_put {vs : List Int} {o : Tel} {k : Nat} {t u : Int} (h : IsTop vs k t) (h' : IsTop (gput vs o) k u) : t ≤ u := top_mono h h' (gput_length vs o).symm (gput_mono vs o)
def OpR (b0 o0 i : Nat) (f v : Int) (W : World) : Prop := W.cell? ⟨b0, o0 + i * 2, none⟩ = some (.int .i64 f) ∧ W.cell? ⟨b0, o0 + i * 2 + 1, none⟩ = some (.int .i64 v)
-- <L2
set_option maxHeartbeats 8000000 in
set_option maxRecDepth 100000 in
theorem rises_row (w : World) (u : Int) (hu : (Lit.int .u8 u).wf = true) (A : Option Addr) (c : Nat) (l : List Tel) (hc : l.length ≤ c) (hcm : c ≤ maxLen) (hl : Row opK w A l) :
    Calls Try.prog 6 #[.int .u8 u, .slice A l.length c] w fun e w' => e = .returned (.bool true) ∧ Below w.heap.size w w' := by
  have bu : 0 ≤ u ∧ u ≤ 255 := by simpa [Lit.wf, IntKind.min, IntKind.max, IntKind.bits, IntKind.signed] using hu
  obtain ⟨a, rfl⟩ : ∃ a : Nat, u = (a : Int) := ⟨u.toNat, by omega⟩
  have HO := Sd.mk (show Ops w A c l from ⟨hc, by unfold maxLen at hcm; omega, hl⟩)
  have lc : l.length ≤ 9223372036854775807 := by unfold maxLen at hcm; omega
  obtain ⟨len, hn⟩ : ∃ n, n = l.length := ⟨_, rfl⟩
  have HN := Sd.mk hn
  rw [← hn] at lc ⊢
  clear hc hcm hl hn hu
  by_cases h60 : len ≤ 60
  · have h60' : decide ((60 : Int) < (len : Int)) = false := decide_eq_false (by omega)
    have h60'' : decide (60 < len) = false := decide_eq_false (by omega)
    obtain ⟨r0, hr0⟩ : ∃ z, z = a % 7 := ⟨_, rfl⟩
    obtain ⟨n, hn⟩ : ∃ n, n = r0 + 1 := ⟨_, rfl⟩
    have n1 : 1 ≤ n := by omega
    have n7 : n ≤ 7 := by omega
    have p0 : ((a : Int)).tmod 7 = (r0 : Int) := by rw [Int.tmod_eq_emod_of_nonneg (by omega)]; omega
    have p0b : ((a : Int)) % 7 = (r0 : Int) := by omega
    have p1 : IntKind.i64.wrap (r0 : Int) = (r0 : Int) := by rw [IntKind.wrap_i64]; omega
    have p2 : IntKind.i64.wrap (1 + (r0 : Int)) = (n : Int) := by rw [IntKind.wrap_i64]; omega
    have p3 : 1 + (r0 : Int) = (n : Int) := by omega
    have hmm : min (max (n : Int) 1) 7 = (n : Int) := by omega
    have HM := Sd.mk hmm
    clear hr0 hn hmm bu
    go_enter Try.func6, Try.ntmps6
    go_wp2_with (first
      | (go_at_call 22; (with_reducible refine (awake_any _).mono ?_); rintro e wa ⟨rfl, hba⟩; have HA := Sd.mk hba; clear hba)
      | (go_at_call 23; (with_reducible refine (new_any _ (n : Int) n HM.out).mono ?_); rintro e w1 ⟨g, b, rfl, hg, hb, hG, hB⟩; have HG := Sd.mk hG; have HB := Sd.mk (below_then HA.out hB); have hbb := Nat.le_trans HA.out.size hb; clear hG hB hg hb))
    clear p0 p0b p1 p2 p3
    go_loopg [6, 7, 8] len (fun gk v6 v7 v8 wr => ∃ i vs, i + gk = len ∧ v6 = .int .i64 (i : Nat) ∧ Sd (Gth g b n vs wr) ∧ Sd (Below w.heap.size w wr))
    case atStart => exact ⟨0, _, by omega, rfl, HG, HB⟩
    case round =>
      clear HG HB
      obtain ⟨i, vs, hi, rfl, HG, HB⟩ := hrel
      by_cases hlt : i < len
      · have hii : (i : Int) < len := by omega
        obtain ⟨o, ho⟩ : ∃ o, l[i]? = some o := ⟨l[i]'(by rw [← HN.out]; exact hlt), List.getElem?_eq_getElem _⟩
        obtain ⟨b0, o0, rfl, c0, c1, i0, i1⟩ := op_at HO.out.row ho
        obtain ⟨of, ov⟩ := o
        simp only at c0 c1 i0 i1
        have HC := Sd.mk (show OpR b0 o0 i of ov w from ⟨c0, c1⟩)
        have I0 := Sd.mk i0
        have I1 := Sd.mk i1
        have q0 := cell_below HB.out c0
        clear ho c0 c1 i0 i1
        obtain ⟨x, hx⟩ : ∃ x, atV vs of = x := ⟨_, rfl⟩
        obtain ⟨t, ht⟩ := HG.out.top n1
        obtain ⟨x2, hx2⟩ : ∃ x2, atV (gput vs ⟨of, ov⟩) of = x2 := ⟨_, rfl⟩
        have HX := Sd.mk hx
        have HT := Sd.mk ht
        have HX2 := Sd.mk hx2
        have hxx : decide (x2 < x) = false := decide_eq_false (by rw [← hx, ← hx2]; have := takes_le (vs := vs) (o := ⟨of, ov⟩) of; omega)
        clear hx ht hx2
        go_upto_region 8 with (first
          | (go_at_call 27; (with_reducible refine (at_any HG.out of I0.out x HX.out).mono ?_); rintro e w2 ⟨rfl, rfl⟩)
          | (go_at_call 26; (with_reducible refine (catch_any HG.out n1 t HT.out).mono ?_); rintro e w3 ⟨rfl, hB3⟩; have HG3 := Sd.mk (HG.out.below hB3); have HB3 := Sd.mk (below_then HB.out hB3); have HC3 := Sd.mk (show OpR b0 o0 i of ov w3 from ⟨cell_below (below_then HB.out hB3) HC.out.1, cell_below (below_then HB.out hB3) HC.out.2⟩); clear hB3))
        clear q0
        obtain ⟨r, hr⟩ : ∃ r : Bool, r = true ↔ Takes vs ⟨of, ov⟩ := ⟨decide (Takes vs ⟨of, ov⟩), by simp⟩
        have HR := Sd.mk hr
        have HG4 := Sd.mk (HG3.out.below (below_drew' (Below.refl w3.heap.size w3)))
        have HB4 := Sd.mk (below_drew' HB3.out)
        have HC4 := Sd.mk (show OpR b0 o0 i of ov w3.drew from ⟨cell_below (below_drew' (Below.refl w3.heap.size w3)) HC3.out.1, cell_below (below_drew' (Below.refl w3.heap.size w3)) HC3.out.2⟩)
        have q0 := HC3.out.1
        have q1 := HC3.out.2
        obtain ⟨t2, ht2⟩ : ∃ t2, IsTop (gput vs ⟨of, ov⟩) (fl n + 1) t2 := isTop_ex (by omega) (by rw [gput_length, HG4.out.len]; exact fl_lt n1)
        have HT2 := Sd.mk ht2
        have htt : decide (t2 < t) = false := decide_eq_false (by have := top_put HT.out ht2; omega)
        clear hr ht2
        go_still_tail 11, (by kernel_rfl)
        change wpList _ _ _ _ _ w3.drew
        clear q0 q1 HG3 HB3 HC3
        generalize w3.drew = w4 at HG4 HB4 HC4 ⊢
        go_wp2_with (first
          | (go_at_call 24; (with_reducible refine (put_any HG4.out n1 of ov I0.out I1.out r HR.out).mono ?_); rintro e w5 ⟨rfl, hG5, hg5⟩; have HG5 := Sd.mk hG5; have HB5 := Sd.mk (bel_put HB4.out hbb hg5); have q0 := cell_below HB5.out HC.out.1; clear hG5 hg5)
          | (go_at_call 27; (with_reducible refine (at_any HG5.out of I0.out x2 HX2.out).mono ?_); rintro e w6 ⟨rfl, rfl⟩)
          | (go_at_call 26; (with_reducible refine (catch_any HG5.out n1 t2 HT2.out).mono ?_); rintro e w7 ⟨rfl, hB7⟩; have HG7 := Sd.mk (HG5.out.below hB7); have HB7 := Sd.mk (below_then HB5.out hB7); clear hB7))
        go_roundg (gk - 1)
        case measure => omega
        case rel => exact ⟨i + 1, _, by omega, by go_num, HG7, HB7⟩
      · have hii : decide (i < len) = false := decide_eq_false (by omega)
        go_wp2
        go_ret
        exact ⟨rfl, HB.out⟩
  · have h60' : decide ((60 : Int) < (len : Int)) = true := decide_eq_true (by omega)
    have h60'' : decide (60 < len) = true := decide_eq_true (by omega)
    go_enter Try.func6, Try.ntmps6
    go_wp2_with (first
      | (go_at_call 22; (with_reducible refine (awake_any _).mono ?_); rintro e wa ⟨rfl, hba⟩; (first | (have B1 := Sd.mk (below_then B0.out hba)) | have B0 := Sd.mk hba); clear hba))
    go_ret
    exact ⟨rfl, B1.out⟩
-- L2>
end
end Go.Proofs.Ytgleoeiiiadanaa.Gat

/- GatherPlays: walked. -/
import Derived.Test.YtgleoeiiiadanaaGatM
import Derived.Deep.CutRange
import Derived.Deep.RegionLaw
set_option linter.unusedVariables false
set_option linter.unusedSimpArgs false
namespace Go.Proofs.Ytgleoeiiiadanaa.Gat
open Go.RowKit Rd Api _root_.Go.Proofs.Ytgleoeiiiadanaa.Own Mv Top

theorem gputs_take {l : List Tel} {i : Nat} {o : Tel} (ho : l[i]? = some o) (n : Nat) : gputs n (l.take (i + 1)) = gput (gputs n (l.take i)) o := by
  obtain ⟨hi, rfl⟩ := List.getElem?_eq_some_iff.1 ho
  rw [← List.take_append_getElem hi, gputs_snoc]
theorem takes_take {l : List Tel} {i : Nat} {o : Tel} (ho : l[i]? = some o) (n : Nat) : Takes (gputs n (l.take i)) o ↔ atF (l.take i) n o.f < atF (l.take (i + 1)) n o.f := by
  obtain ⟨hi, rfl⟩ := List.getElem?_eq_some_iff.1 ho
  rw [takes_iff, List.take_append_getElem hi]
theorem top_best {n : Nat} (l : List Tel) {t : Int} (h : IsTop (gputs n l) (fl n + 1) t) : best (gputs n l) (fl n + 1) n = t := by
  have := best_top h (vws_gputs n l)
  rw [gputs_length] at this
  exact this
-- <L1
set_option maxHeartbeats 8000000 in
set_option maxRecDepth 100000 in
theorem plays_few (w : World) (n0 : Int) (n : Nat) (hmm : min (max n0 1) 7 = (n : Int)) (A : Option Addr) (c : Nat) (l : List Tel) (HO : Sd (Ops w A c l)) (len : Nat) (HN : Sd (len = l.length)) (lc : len ≤ 9223372036854775807) (lcc : len ≤ c) (cc : c ≤ 9223372036854775807) (h60 : len ≤ 60) (v : Int) :
    Calls Try.prog 7 #[.int .i64 n0, .slice A len c, .int .i64 v] w fun e w' => e = .returned (.bool true) ∧ Below w.heap.size w w' := by
  have h60' : decide ((60 : Int) < (len : Int)) = false := decide_eq_false (by omega)
  have h60'' : decide (60 < len) = false := decide_eq_false (by omega)
  have n1 : 1 ≤ n := by omega
  have n7 : n ≤ 7 := by omega
  have HM := Sd.mk hmm
  clear hmm
  go_enter Try.func7, Try.ntmps7
  go_upto_region 4 with (first
    | (go_at_call 22; (with_reducible refine (awake_any _).mono ?_); rintro e wa ⟨rfl, hba⟩; have HA := Sd.mk hba; clear hba)
    | (go_at_call 23; (with_reducible refine (new_any _ n0 n HM.out).mono ?_); rintro e w1 ⟨g, b, rfl, hg, hb, hG, hB⟩; have HG := Sd.mk hG; have HB := Sd.mk (below_then HA.out hB); have hbb := Nat.le_trans HA.out.size hb; clear hG hB hg hb HA))
  go_cut [8] from 23 to 25 (fun v8 wx => v8 = .int .i64 (n : Nat) ∧ wx = w1)
  case first =>
    have hm2 := HM.out
    by_cases h1 : n0 < 1
    · obtain rfl : n = 1 := by omega
      go_wp2
      go_meet
      exact ⟨rfl, rfl⟩
    · by_cases h2 : 7 < n0
      · obtain rfl : n = 7 := by omega
        go_wp2
        go_meet
        exact ⟨rfl, rfl⟩
      · obtain rfl : n0 = (n : Int) := by omega
        clear hm2
        go_wp2
        go_meet
        refine ⟨?_, rfl⟩
        show Value.int .i64 (min (max (n : Int) 1) 7) = _
        exact congrArg (Value.int .i64) (by omega)
  case rest =>
    obtain ⟨rfl, rfl⟩ := hcut
    have HG0 := Sd.mk (show Gth g b n (gputs n (l.take 0)) wc from HG.out)
    clear HG
    go_wp2
    go_loopg [9, 10, 11] len (fun gk v9 v10 v11 wr => ∃ i, i + gk = len ∧ v9 = .int .i64 (i : Nat) ∧ Sd (Gth g b n (gputs n (l.take i)) wr) ∧ Sd (Below w.heap.size w wr))
    case atStart => exact ⟨0, by omega, rfl, HG0, HB⟩
    case round =>
      clear HG0 HB
      obtain ⟨i, hi, rfl, HG, HB⟩ := hrel
      by_cases hlt : i < len
      · have hii : (i : Int) < len := by omega
        have hic : i ≤ c := by omega
        have hic1 : i + 1 ≤ c := by omega
        have hicI : (i : Int) ≤ (c : Int) := by omega
        have hic1I : (i : Int) + 1 ≤ (c : Int) := by omega
        have hil : i < l.length := by rw [← HN.out]; exact hlt
        obtain ⟨o, ho⟩ : ∃ o, l[i]? = some o := ⟨l[i], List.getElem?_eq_getElem _⟩
        have HT := Sd.mk (takes_take ho n)
        have HS := Sd.mk (gputs_take ho n)
        obtain ⟨b0, o0, rfl, c0, c1, i0, i1⟩ := op_at HO.out.row ho
        obtain ⟨of, ov⟩ := o
        simp only at c0 c1 i0 i1
        have I0 := Sd.mk i0
        have I1 := Sd.mk i1
        obtain ⟨x, hx⟩ : ∃ x, atF (l.take i) n of = x := ⟨_, rfl⟩
        obtain ⟨y, hy⟩ : ∃ y, atF (l.take (i + 1)) n of = y := ⟨_, rfl⟩
        have HX := Sd.mk hx
        have HY := Sd.mk hy
        have HAT := Sd.mk (show atV (gput (gputs n (l.take i)) ⟨of, ov⟩) of = y by rw [← HS.out, atV_gputs, hy])
        have HR := Sd.mk (show decide (x < y) = true ↔ Takes (gputs n (l.take i)) ⟨of, ov⟩ by rw [HT.out]; simp only; rw [hx, hy]; simp)
        have L0 := Sd.mk (show (l.take i).length = i by rw [List.length_take]; omega)
        have L1 := Sd.mk (show (l.take (i + 1)).length = i + 1 by rw [List.length_take]; omega)
        obtain ⟨r, hr⟩ : ∃ r, decide (x < y) = r := ⟨_, rfl⟩
        have q0 := cell_below HB.out c0
        have q1 := cell_below HB.out c1
        have HC := Sd.mk (show OpR b0 o0 i of ov w from ⟨c0, c1⟩)
        rw [hr] at HR
        have hrr : (r != decide (x < y)) = false := by rw [hr]; simp
        clear ho hx hy c0 c1 i0 i1 HT hil
        go_upto_region 8 with (fail)
        go_region_held3 (fun W => W.cell? ⟨b0, o0 + i * 2, none⟩ = some (.int .i64 of) ∧ Sd (Gth g b n (gputs n (l.take i)) W ∧ Below w.heap.size w W)) (first | exact ⟨cell_below (below_drew' HB.out) HC.out.1, ⟨HG.out.below (below_drew' (Below.refl _ _)), below_drew' HB.out⟩⟩ | assumption | fail) (first | (go_at_call 28; (with_reducible refine (refat_any _ _ _ (l.take i) ((HO.out.keep (‹_ ∧ Sd (Gth _ _ _ _ _ ∧ _)›).2.out.2).take i) i n L0.out (by omega) of I0.out x HX.out).mono ?_); rintro e w5 ⟨rfl, rfl⟩) | fail)
        all_goals
          obtain ⟨hk1, hk2⟩ := (‹_ ∧ Sd (Gth _ _ _ _ _ ∧ _)›).2.out
          clear q0 q1 HG HB
          have HG := Sd.mk hk1
          have HB := Sd.mk hk2
          clear hk1 hk2
          have q0 := cell_below HB.out HC.out.1
          go_upto_region 9 with (fail)
          have e1 : IntKind.i64.wrap ((i : Int) + 1) = (i : Int) + 1 := by rw [IntKind.wrap_i64]; omega
          have e2 : (0 : Int) ≤ (i : Int) + 1 := by omega
          have e3 : ((i : Int) + 1).toNat = i + 1 := by omega
          go_region_held3 (fun W => W.cell? ⟨b0, o0 + i * 2, none⟩ = some (.int .i64 of) ∧ Sd (Gth g b n (gputs n (l.take i)) W ∧ Below w.heap.size w W)) (first | exact ⟨cell_below (below_drew' HB.out) HC.out.1, ⟨HG.out.below (below_drew' (Below.refl _ _)), below_drew' HB.out⟩⟩ | assumption | fail) (first | (go_at_call 28; (with_reducible refine (refat_any _ _ _ (l.take (i + 1)) ((HO.out.keep (‹_ ∧ Sd (Gth _ _ _ _ _ ∧ _)›).2.out.2).take (i + 1)) (i + 1) n L1.out (by omega) of I0.out y HY.out).mono ?_); rintro e w5 ⟨rfl, rfl⟩) | fail)
          all_goals
            obtain ⟨hk1, hk2⟩ := (‹_ ∧ Sd (Gth _ _ _ _ _ ∧ _)›).2.out
            clear q0 HG HB e1 e2 e3
            have HG := Sd.mk hk1
            have HB := Sd.mk hk2
            clear hk1 hk2
            have q0 := cell_below HB.out HC.out.1
            have q1 := cell_below HB.out HC.out.2
            go_upto_region 10 with (fail)
            have HG4 := Sd.mk (HG.out.below (below_drew' (Below.refl _ _)))
            have HB4 := Sd.mk (below_drew' HB.out)
            clear HG HB
            have HC4 := Sd.mk (show OpR b0 o0 i of ov w → True from fun _ => trivial)
            go_region_held3 (fun W => W.cell? ⟨b0, o0 + i * 2, none⟩ = some (.int .i64 of) ∧ W.cell? ⟨b0, o0 + i * 2 + 1, none⟩ = some (.int .i64 ov)) (first | exact ⟨cell_below HB4.out HC.out.1, cell_below HB4.out HC.out.2⟩ | exact ⟨cell_below HB5.out HC.out.1, cell_below HB5.out HC.out.2⟩ | fail) (first
              | (go_at_call 24; (with_reducible refine (put_any HG4.out n1 of ov I0.out I1.out r HR.out).mono ?_); rintro e w5 ⟨rfl, hG5, hg5⟩; have HG5 := Sd.mk hG5; have HB5 := Sd.mk (bel_put HB4.out hbb hg5); clear hG5 hg5)
              | (go_at_call 27; (with_reducible refine (at_any HG5.out of I0.out y HAT.out).mono ?_); rintro e w6 ⟨rfl, rfl⟩)
              | fail)
            all_goals
              go_wp2
              go_roundg (gk - 1)
              case measure => omega
              case rel => exact ⟨i + 1, by omega, by go_num, ⟨by rw [HS.out]; exact HG5.out⟩, HB5⟩
      · have hii : decide (i < len) = false := decide_eq_false (by omega)
        obtain rfl : i = len := by omega
        have hg9 := Sd.mk (show Gth g b n (gputs n l) wr by have := HG.out; rw [List.take_of_length_le (by rw [← HN.out]; exact Nat.le_refl _)] at this; exact this)
        have hb9 := HB
        clear HG HB
        obtain ⟨t, ht⟩ := hg9.out.top n1
        have HT := Sd.mk ht
        have HBT := Sd.mk (top_best l ht)
        obtain ⟨q, hq⟩ : ∃ q, inn v (gputs n l) = q := ⟨_, rfl⟩
        have HQ := Sd.mk hq
        obtain ⟨f, hf⟩ : ∃ f, f = fl n := ⟨_, rfl⟩
        have HF := Sd.mk hf
        have hfn : f < n := by rw [hf]; exact fl_lt n1
        have hqn : q ≤ n := by rw [← hq]; have := inn_le v (gputs n l); rw [gputs_length] at this; exact this
        obtain ⟨rb, hrb⟩ : ∃ rb, decide (n - f ≤ q) = rb := ⟨_, rfl⟩
        have HRB := Sd.mk (show rb = decide (n - fl n ≤ inn v (gputs n l)) by rw [← hrb, hf, hq])
        have hsub : (n : Int) - (f : Int) = ((n - f : Nat) : Int) := by omega
        have hge : decide (n ≤ q + f) = rb := by rw [← hrb]; apply decide_eq_decide.2; omega
        clear hrb
        have LL := Sd.mk (show l.length = i from HN.out.symm)
        have hm1 := Sd.mk (show atV (gputs n l) (-1) = 0 from (atV_gputs n l (-1)).trans (atF_out l n (-1) (.inl (by omega))))
        have hm2 := Sd.mk (show atV (gputs n l) (n : Int) = 0 from (atV_gputs n l n).trans (atF_out l n n (.inr (by omega))))
        clear ht hq hf
        go_wp2_with (first
          | (go_at_call 29; (with_reducible refine (refin_any _ _ _ l (HO.out.keep hb9.out) i n LL.out (by omega) v q HQ.out).mono ?_); rintro e wq ⟨rfl, rfl⟩)
          | (go_at_call 30; (with_reducible refine (in_any hg9.out v q HQ.out).mono ?_); rintro e wq ⟨rfl, rfl⟩)
          | (go_at_call 25; (with_reducible refine (ready_any (‹Sd (Gth g b n (gputs n l) _)›).out n1 v rb HRB.out).mono ?_); rintro e wq ⟨rfl, hBq⟩; have hg9 := Sd.mk ((‹Sd (Gth g b n (gputs n l) _)›).out.below hBq); have hb9 := Sd.mk (below_then (‹Sd (Below w.heap.size w _)›).out hBq); clear hBq)
          | (go_at_call 31; (with_reducible refine (reffaults_any _ n n1 (by omega) f HF.out).mono ?_); rintro e wq ⟨rfl, rfl⟩)
          | (go_at_call 26; (with_reducible refine (catch_any (‹Sd (Gth g b n (gputs n l) _)›).out n1 t HT.out).mono ?_); rintro e wq ⟨rfl, hBq⟩; have hg9 := Sd.mk ((‹Sd (Gth g b n (gputs n l) _)›).out.below hBq); have hb9 := Sd.mk (below_then (‹Sd (Below w.heap.size w _)›).out hBq); clear hBq)
          | (go_at_call 32; (with_reducible refine (refcatch_any _ _ _ l (HO.out.keep hb9.out) i n LL.out (by omega) n1 t HBT.out).mono ?_); rintro e wq ⟨rfl, rfl⟩)
          | (go_at_call 27; (with_reducible refine (at_any hg9.out (-1) (by unfold IsI64; omega) 0 hm1.out).mono ?_); rintro e wq ⟨rfl, rfl⟩)
          | (go_at_call 27; (with_reducible refine (at_any hg9.out (n : Int) (by unfold IsI64; omega) 0 hm2.out).mono ?_); rintro e wq ⟨rfl, rfl⟩))
        go_ret
        exact ⟨rfl, hb9.out⟩
-- L1>
set_option maxHeartbeats 8000000 in
set_option maxRecDepth 100000 in
theorem plays_row (w : World) (n0 : Int) (hn0 : (Lit.int .i64 n0).wf = true) (A : Option Addr) (c : Nat) (l : List Tel) (hc : l.length ≤ c) (hcm : c ≤ maxLen) (hl : Row opK w A l) (v : Int) (hv : (Lit.int .i64 v).wf = true) :
    Calls Try.prog 7 #[.int .i64 n0, .slice A l.length c, .int .i64 v] w fun e w' => e = .returned (.bool true) ∧ Below w.heap.size w w' := by
  have cc : c ≤ 9223372036854775807 := by unfold maxLen at hcm; omega
  have HO := Sd.mk (show Ops w A c l from ⟨hc, cc, hl⟩)
  obtain ⟨len, hn⟩ : ∃ n, n = l.length := ⟨_, rfl⟩
  have HN := Sd.mk hn
  rw [← hn] at hc ⊢
  have lc : len ≤ 9223372036854775807 := by omega
  clear hcm hl hn hv hn0
  by_cases h60 : len ≤ 60
  · exact plays_few w n0 (min (max n0 1) 7).toNat (by omega) A c l HO len HN lc hc cc h60 v
  · have h60' : decide ((60 : Int) < (len : Int)) = true := decide_eq_true (by omega)
    have h60'' : decide (60 < len) = true := decide_eq_true (by omega)
    go_enter Try.func7, Try.ntmps7
    go_wp2_with (first
      | (go_at_call 22; (with_reducible refine (awake_any _).mono ?_); rintro e wa ⟨rfl, hba⟩; (first | (have B1 := Sd.mk (below_then B0.out hba)) | have B0 := Sd.mk hba); clear hba))
    go_ret
    exact ⟨rfl, B1.out⟩
end Go.Proofs.Ytgleoeiiiadanaa.Gat

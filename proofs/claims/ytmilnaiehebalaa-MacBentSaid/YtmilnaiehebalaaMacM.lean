/- MacHolds: walked. -/
import Derived.Test.YtmilnaiehebalaaMacI
import Derived.Test.YtmilnaiehebalaaSg
set_option linter.unusedVariables false
set_option linter.unusedSimpArgs false
namespace Go.Proofs.Ytmilnaiehebalaa.Mac
open Go.RowKit Rd Api Own Mv Num Dig Sg

theorem endF_id {a : Int} (h0 : 0 ≤ a) (h1 : a ≤ 20) : endF a = a := by unfold endF; rw [if_neg (by omega)]
def Kh (w : World) (g4 g5 : Nat) (fr : Int) (v : Value) (tn n : Int) (W : World) : Prop := Ks w g4 fr v W ∧ W.heap[g5]? = some (.cells #[.int .i64 tn, .int .i64 n] 39 (0, 0))
theorem mv_kh (w : World) (g4 g5 : Nat) (fr : Int) (v : Value) (tn n : Int) : Mv (Kh w g4 g5 fr v tn n) := mv_and (mv_ks _ _ _ _) (mv_blk _ _)
theorem Kh.all {w : World} {g4 g5 : Nat} {fr : Int} {v : Value} {tn n : Int} {W : World} (h : Kh w g4 g5 fr v tn n W) : W.cell? ⟨g4, 0, none⟩ = some (.int .i64 fr) ∧ W.cell? ⟨g4, 1, none⟩ = some v ∧ W.cell? ⟨g5, 0, none⟩ = some (.int .i64 tn) ∧ W.cell? ⟨g5, 1, none⟩ = some (.int .i64 n) :=
  ⟨blk_at h.1.1 0 _ rfl, blk_at h.1.1 1 _ rfl, blk_at h.2 0 _ rfl, blk_at h.2 1 _ rfl⟩

set_option maxHeartbeats 8000000 in
set_option maxRecDepth 100000 in
theorem mh_few (w : World) (seed : ByteArray) (h60 : seed.size ≤ 60) (s : Sig) (A : Option Addr) (c : Nat) (h : Sl Rk.str w A c s.tags) (tn n : Int) :
    Calls Try.prog 10 #[.string seed, .agg #[.int .i64 s.node, .slice A s.tags.length c], .agg #[.int .i64 tn, .int .i64 n]] w fun e w' => e = .returned (.bool true) ∧ Below w.heap.size w w' := by
  have d1 : decide ((60 : Int) < (seed.size : Int)) = false := decide_eq_false (by omega)
  have hs2 : seed.size ≤ 35184372088832 := by omega
  have HS := Sd.mk h
  have HK := Sd.mk (show Kh w w.heap.size (w.heap.size + 1) s.node (.slice A s.tags.length c) tn n ((w.alloc (.cells #[.int .i64 s.node, .slice A s.tags.length c] 44)).alloc (.cells #[.int .i64 tn, .int .i64 n] 39)) from
    ⟨⟨blk_keep (blk_new _ _) (below_one _ _), below_then (below_one _ _) (below_one _ _)⟩, blk_new1 _ _ _⟩)
  clear h h60
  go_enter Try.func10, Try.ntmps10
  go_upto_region 1 with (fail)
  generalize World.alloc _ _ = W at HK ⊢
  obtain ⟨c0, c1, c2, c3⟩ := HK.out.all
  go_upto_if 22 with (first
    | (go_at_call 20; (with_reducible refine (awake_any _).mono ?_); rintro e w1 ⟨rfl, hb1⟩; have HK1 := Sd.mk ((mv_kh _ _ _ _ _ _ _).below HK.out hb1); clear hb1 HK c0 c1 c2 c3; obtain ⟨c0, c1, c2, c3⟩ := HK1.out.all)
    | (go_at_call 29; (refine (sig_any _ s A c (HS.out.below HK1.out.1.2)).mono ?_); rintro e w2 ⟨r, rfl, hr, hb2⟩; have HK2 := Sd.mk ((mv_kh _ _ _ _ _ _ _).below HK1.out hb2); have HF := Sd.mk hr; clear hb2 hr HK1 c0 c1 c2 c3))
  cases r with
  | false =>
    go_wp2_with (first
      | (go_at_call 20; (with_reducible refine (awake_any _).mono ?_); rintro e w3 ⟨rfl, hb3⟩; have HK3 := Sd.mk ((mv_kh _ _ _ _ _ _ _).below HK2.out hb3); clear hb3))
    go_ret
    exact ⟨rfl, HK3.out.1.2⟩
  | true =>
    clear HF
    go_upto_region 3 with (fail)
    obtain ⟨c0, c1, c2, c3⟩ := HK2.out.all
    go_quiet (fail)
    go_upto_region 4 with (fail)
    have HK3 := Sd.mk ((mv_kh _ _ _ _ _ _ _).drewN HK2.out nq)
    clear c0 c1 c2 c3 HK2
    generalize w2.drewN nq = W2 at HK3 ⊢
    obtain ⟨c0, c1, c2, c3⟩ := HK3.out.all
    obtain ⟨r, hr⟩ : ∃ r : Bool, r = true ↔ holdsF seed tn n seed s.node s.tags := by
      by_cases k : holdsF seed tn n seed s.node s.tags
      · exact ⟨true, fun _ => k, fun _ => rfl⟩
      · exact ⟨false, fun e => (by cases e), fun e => absurd e k⟩
    have HR := Sd.mk hr
    clear hr
    go_upto_region 5 with (first
      | (go_at_call 28; (refine (holds_any _ seed seed tn n s.node A c s.tags (HS.out.below HK3.out.1.2) hs2 hs2 r HR.out).mono ?_); rintro e w4 ⟨rfl, hb4⟩; have HK4 := Sd.mk ((mv_kh _ _ _ _ _ _ _).below HK3.out hb4); clear hb4 HK3 c0 c1 c2 c3))
    obtain ⟨c0, c1, c2, c3⟩ := HK4.out.all
    have no : ¬ holdsF seed tn n seed s.node s.tags → r = false := fun k => by
      cases r with
      | false => rfl
      | true => exact absurd (HR.out.1 rfl) k
    generalize s.node = fr at HK4 HR no c0 ⊢
    generalize s.tags = l at HS HK4 HR no c1 ⊢
    have NO := Sd.mk no
    clear no
    by_cases e1 : n < 1
    · obtain rfl : r = false := NO.out (fun k => by have := k.1.1; omega)
      have d : decide (n < 1) = true := decide_eq_true e1
      clear e1
      go_wp2
      go_ret
      exact ⟨rfl, HK4.out.1.2⟩
    have f1 : decide (n < 1) = false := decide_eq_false e1
    by_cases e2 : 7 < n
    · obtain rfl : r = false := NO.out (fun k => by have := k.1.2; omega)
      have d : decide (7 < n) = true := decide_eq_true e2
      clear e2
      go_wp2
      go_ret
      exact ⟨rfl, HK4.out.1.2⟩
    have f2 : decide (7 < n) = false := decide_eq_false e2
    by_cases e3 : tn < 0
    · obtain rfl : r = false := NO.out (fun k => by have := k.2.1.1; omega)
      have d : decide (tn < 0) = true := decide_eq_true e3
      clear e3
      go_wp2
      go_ret
      exact ⟨rfl, HK4.out.1.2⟩
    have f3 : decide (tn < 0) = false := decide_eq_false e3
    by_cases e4 : n ≤ tn
    · obtain rfl : r = false := NO.out (fun k => by have := k.2.1.2; omega)
      have d : decide (n ≤ tn) = true := decide_eq_true e4
      clear e4
      go_wp2
      go_ret
      exact ⟨rfl, HK4.out.1.2⟩
    have f4 : decide (n ≤ tn) = false := decide_eq_false e4
    by_cases e5 : fr < 0
    · obtain rfl : r = false := NO.out (fun k => by have := k.2.2.1.1; omega)
      have d : decide (fr < 0) = true := decide_eq_true e5
      clear e5
      go_wp2
      go_ret
      exact ⟨rfl, HK4.out.1.2⟩
    have f5 : decide (fr < 0) = false := decide_eq_false e5
    by_cases e6 : n ≤ fr
    · obtain rfl : r = false := NO.out (fun k => by have := k.2.2.1.2; omega)
      have d : decide (n ≤ fr) = true := decide_eq_true e6
      clear e6
      go_wp2
      go_ret
      exact ⟨rfl, HK4.out.1.2⟩
    have f6 : decide (n ≤ fr) = false := decide_eq_false e6
    by_cases e7 : ¬ (l.length : Int) = n
    · obtain rfl : r = false := NO.out (fun k => e7 k.2.2.2.1)
      have d : ((l.length : Int) != n) = true := by rw [bne_iff_ne]; exact e7
      clear e7
      go_wp2
      go_ret
      exact ⟨rfl, HK4.out.1.2⟩
    have e8 : (l.length : Int) = n := Classical.not_not.1 e7
    clear e7
    obtain ⟨t, rfl⟩ : ∃ t : Nat, tn = (t : Int) := ⟨tn.toNat, by omega⟩
    have htl : t < l.length := by omega
    have f7 : ((l.length : Int) != n) = false := by rw [bne_eq_false_iff_eq]; exact e8
    obtain ⟨m, hm⟩ : ∃ m, m = l.length := ⟨_, rfl⟩
    have HM := Sd.mk hm
    have hml : (l.length : Int) = (m : Int) := by omega
    obtain rfl : n = (m : Int) := by omega
    have htm : t < m := by omega
    have hm7 : m ≤ 7 := by omega
    have hf0 : 0 ≤ fr := by omega
    have hfm : fr < (m : Int) := by omega
    have f4b : decide (m ≤ t) = false := decide_eq_false (by omega)
    rw [← hm] at c1 HK4 f7 ⊢
    have E8 := Sd.mk e8
    clear e1 e2 e3 e4 e5 e6 e8 hm hml htl
    go_wp2
    clear c0 c1 c2 c3
    go_loopg [10] m (fun gk v10 wr => ∃ i, i + gk = m ∧ v10 = .int .i64 (i : Nat) ∧ Sd (∀ j (hj : j < l.length), j < i → l[j].size = 16) ∧ Sd (Kh w w.heap.size (w.heap.size + 1) fr (.slice A m c) t m wr))
    case atStart => exact ⟨0, by omega, rfl, ⟨fun j _ hj => by omega⟩, HK4⟩
    case round =>
      clear HK4
      obtain ⟨i, hi, rfl, HL, HK⟩ := hrel
      obtain ⟨c0, c1, c2, c3⟩ := HK.out.all
      by_cases hlt : i < m
      · obtain ⟨b, o, rfl, hcell, -⟩ := str_at HS.out.row (i := i) (by rw [← HM.out]; exact hlt)
        obtain ⟨x, hx⟩ : ∃ x, l[i]'(by rw [← HM.out]; exact hlt) = x := ⟨_, rfl⟩
        rw [hx] at hcell
        have c4 := cell_below HK.out.1.2 hcell
        have HX := Sd.mk hx
        have hii : (i : Int) < m := by omega
        clear hx hcell
        by_cases h16 : x.size = 16
        · have d16 : ((x.size : Int) != 16) = false := by rw [bne_eq_false_iff_eq]; omega
          have H16 := Sd.mk h16
          clear h16
          go_wp2
          go_roundg (gk - 1)
          case measure => omega
          case rel => exact ⟨i + 1, by omega, by go_num, ⟨fun j hj hji => by
            by_cases e : j = i
            · subst e; rw [HX.out]; exact H16.out
            · exact HL.out j hj (by omega)⟩, HK⟩
        · have d16 : ((x.size : Int) != 16) = true := by rw [bne_iff_ne]; omega
          obtain rfl : r = false := NO.out (fun k => h16 (by rw [← HX.out]; exact k.2.2.2.2.1 i _))
          clear h16
          go_wp2
          go_ret
          exact ⟨rfl, HK.out.1.2⟩
      · have hii : decide (i < m) = false := decide_eq_false (by omega)
        have HA := Sd.mk (show all16 l from fun j hj => HL.out j hj (by have := HM.out; omega))
        clear HL c0 c1 c2 c3
        obtain ⟨b, o, rfl, hcell, -⟩ := str_at HS.out.row (i := t) (by rw [← HM.out]; exact htm)
        have hlt2 : t < l.length := by rw [← HM.out]; exact htm
        obtain ⟨x, hx⟩ : ∃ x, l[t]'(by rw [← HM.out]; exact htm) = x := ⟨_, rfl⟩
        rw [hx] at hcell
        have HC := Sd.mk (cell_below HK.out.1.2 hcell)
        obtain ⟨y, hy⟩ : ∃ y, mtag seed fr t seed = y := ⟨_, rfl⟩
        have HY := Sd.mk hy
        have he : (x.toList == y.toList) = r := by
          rw [bytes_beq]
          have hg : l[(t : Int).toNat]? = some x := by rw [Int.toNat_natCast, ← hx]; exact List.getElem?_eq_getElem hlt2
          have hz : mtag seed (endF fr) (endF t) seed = y := by rw [endF_id hf0 (by omega), endF_id (by omega) (by omega)]; exact hy
          by_cases e : x = y
          · rw [decide_eq_true e]
            exact (HR.out.2 ⟨by omega, by omega, by omega, E8.out, HA.out, by rw [hg, hz, e]⟩).symm
          · rw [decide_eq_false e]
            exact (NO.out (fun k => e (by have := k.2.2.2.2.2; rw [hg, hz] at this; exact Option.some.inj this))).symm
        have hti : (t : Int) < m := by omega
        clear hx hy hcell hlt2 NO HR HA hi hlt
        go_upto_region 12 with (fail)
        go_region_held3 (fun W => W.cell? ⟨w.heap.size, 0, none⟩ = some (.int .i64 fr) ∧ W.cell? ⟨w.heap.size, 1, none⟩ = some (.slice (some ⟨b, o, none⟩) m c) ∧ W.cell? ⟨b, o + t, none⟩ = some (.string x) ∧ Sd (K8 w w.heap.size fr (.slice (some ⟨b, o, none⟩) m c) ⟨b, o + t, none⟩ x W)) (first | exact K8.all ((mv_k8 _ _ _ _ _ _).drew ⟨HK.out.1, HC.out⟩) | exact K8.all hk | fail) (first | (go_at_call 24; (with_reducible refine (reftag_any _ seed fr t seed hs2 hs2 y HY.out).mono ?_); rintro e w5 ⟨rfl, hb5⟩; have hk := (mv_k8 _ _ _ _ _ _).below (‹_ ∧ _ ∧ _ ∧ Sd (K8 _ _ _ _ _ _ _)›).2.2.2.out hb5) | fail)
        all_goals
          go_wp2
          go_ret
          refine ⟨?_, hk.1.2⟩
          clear he
          cases r <;> rfl

set_option maxHeartbeats 4000000 in
set_option maxRecDepth 100000 in
theorem mh_row (w : World) (seed : ByteArray) (hs : seed.size ≤ 140737488351232) (s : Sig) (cs : Array Value) (hsg : sigK.K w s cs.toList) (l : List Int) (ds : Array Value) (h : (Rk.arr (Rk.int .i64) 2).K w l ds.toList) :
    Calls Try.prog 10 #[.string seed, .agg cs, .agg ds] w fun e w' => e = .returned (.bool true) ∧ Below w.heap.size w w' := by
  obtain ⟨a, b, e1, -, -⟩ := Arr.two_ints h
  obtain rfl := Api.arr_of e1
  obtain ⟨A, c, e2, -, hsl⟩ := sig_open hsg
  obtain rfl := Api.arr_of e2
  by_cases h1 : seed.size ≤ 60
  · exact mh_few w seed h1 s A c hsl a b
  · have d1 : decide ((60 : Int) < (seed.size : Int)) = true := decide_eq_true (by omega)
    clear h hsg hsl
    have B00 := Sd.mk (below_then (below_one w (.cells #[.int .i64 s.node, .slice A s.tags.length c] 44)) (below_one (w.alloc (.cells #[.int .i64 s.node, .slice A s.tags.length c] 44)) (.cells #[.int .i64 a, .int .i64 b] 39)))
    go_enter Try.func10, Try.ntmps10
    go_wp2_with (first
      | (go_at_call 20; (with_reducible refine (awake_any _).mono ?_); rintro e w1 ⟨rfl, hb1⟩; (first | (have B1 := Sd.mk (below_then B0.out hb1)) | have B0 := Sd.mk (below_then B00.out hb1)); clear hb1))
    go_ret
    exact ⟨rfl, B1.out⟩
end Go.Proofs.Ytmilnaiehebalaa.Mac

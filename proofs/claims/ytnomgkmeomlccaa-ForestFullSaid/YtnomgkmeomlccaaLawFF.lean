/- ForestFull: walked. -/
import Derived.Test.YtnomgkmeomlccaaFoP
set_option linter.unusedVariables false
set_option linter.unusedSimpArgs false
namespace Go.Proofs.Ytnomgkmeomlccaa.Fst
open Go.RowKit Go.Sort Rd Api Own Mv App Num Dig
open Blk (Block Rq rqN fR digB coreB)
open Kee (Bk fB bkK Wk Tl tlN chn All8 fT fT_one info_tl)

structure Ot (w : World) (v : Value) (l : List Tl) (W : World) : Prop where
  own : OwnR fT 3 W w.heap.size 24 v l
  bel : RowKit.Below w.heap.size w W
theorem Ot.below {w W W1 : World} {v : Value} {l : List Tl} (h : Ot w v l W) (hb : RowKit.Below W.heap.size W W1) : Ot w v l W1 := ⟨h.own.below hb, below_then h.bel hb⟩
theorem ot_one {w W : World} (hb : RowKit.Below w.heap.size w W) (x : Tl) : Ot w (.slice (some ⟨W.heap.size, 0, none⟩) 1 1) [x] (W.alloc (.cells (fT x).toArray 24)) :=
  ⟨⟨by simp [flat, fT], .inr ⟨W.heap.size, 1, _, rfl, hb.size, blk_new W _, Nat.le_refl _, by unfold maxLen; omega, by simp [fT], by simp [flat, fT]⟩⟩, below_then hb (below_one W _)⟩
theorem all8_tI {k : Nat} (h : k ≤ 11) : All8 (tI k) := by
  intro p hp
  unfold tI at hp
  rcases List.mem_cons.1 hp with rfl | h2
  · exact ⟨0, 0, 0, rfl, rfl, rfl, by omega, by omega, by omega⟩
  · obtain ⟨i, hi, rfl⟩ := List.mem_map.1 h2
    rw [List.mem_range] at hi
    exact ⟨0, 1, i, rfl, rfl, rfl, by omega, by omega, by omega⟩
-- <L1
set_option maxHeartbeats 16000000 in
set_option maxRecDepth 100000 in
theorem ff_law (w : World) (a : Nat) (ha : a < 256) :
    Calls Try.prog 7 #[.int .u8 (a : Nat)] w fun e w' => e = .returned (.bool true) ∧ RowKit.Below w.heap.size w w' := by
  have mixed : Try.prog.follows .mixedOrders = true := by kernel_rfl
  obtain ⟨k, hk⟩ : ∃ k, a % 12 = k := ⟨_, rfl⟩
  have hk12 : k ≤ 11 := by omega
  have hrem : ((a : Int)).tmod 12 = (k : Int) := by rw [Int.tmod_eq_emod_of_nonneg (by omega), ← hk]; omega
  have ha2 : (a : Int) < 256 := by omega
  have ha1 : (0 : Int) ≤ (a : Int) := by omega
  have kk : (k : Int) ≤ 11 := by omega
  clear hk ha
  go_enter Try.func7, Try.ntmps7
  go_upto_region 4 with (first
    | (go_at_call 34; (with_reducible refine (awake7_any _).mono ?_); rintro e w1 ⟨rfl, hb⟩; have HB1 := Sd.mk hb; clear hb))
  clear hrem ha2 ha1
  have HO0 := Sd.mk (ot_one HB1.out (((0 : Int), (0 : Int), (0 : Int)) : Tl))
  dsimp only [fT] at HO0
  go_wp2
  generalize w1.heap.size = g0 at HO0 ⊢
  generalize w1.alloc _ = W1 at HO0 ⊢
  clear HB1
  go_loopg [4, 5] k (fun gk v4 v5 wr => ∃ i, i + gk = k ∧ v5 = .int .i64 (i : Nat) ∧ Sd (Ot w v4 (tI i) wr))
  case atStart => exact ⟨0, by omega, rfl, HO0⟩
  case round =>
    clear HO0
    obtain ⟨i, hi, rfl, HO⟩ := hrel
    by_cases hlt : i < k
    · have hii : (i : Int) < k := by omega
      have HTK := Sd.mk (tI_succ i)
      have HTL := Sd.mk (tI_len i)
      obtain ⟨out, hout⟩ : ∃ out, tI i = out := ⟨_, rfl⟩
      rw [hout] at HTK HTL HO
      obtain ⟨A3, c3, rfl⟩ := OwnR.slice HO.out.own
      rw [HTL.out] at HO ⊢
      have hw0 : IntKind.u8.wrap ((i : Nat) : Int) = ((i : Nat) : Int) := by rw [show IntKind.u8.wrap ((i : Nat) : Int) = ((i : Nat) : Int) % 256 by simp [IntKind.wrap, IntKind.bits, IntKind.signed]]; omega
      clear hout
      go_wp2_with (first
        | (at_builtin; refine append_one (f := fT) (n := 3) (fun _ => rfl) fT_one w.heap.size rfl (.tmp 22) (.tmp 26) 22 24 (.agg #[.int .u8 0, .int .u8 0, .int .u8 0]) 3 rfl Try.underlying22 info_tl rfl (by decide) (.slice A3 (i + 1) c3) out ((0 : Int), (1 : Int), (i : Int)) rfl rfl HO.out.own HO.out.bel HO.out.bel.size (by rw [HTL.out]; omega) (by rw [HTL.out]; omega) ?_; intro v9 w9 hown hbel hgr; have HO9 := Sd.mk (Ot.mk hown hbel); clear hown hbel hgr))
      go_roundg (gk - 1)
      case measure => omega
      case rel => exact ⟨i + 1, by omega, by go_num, ⟨by rw [HTK.out]; exact HO9.out⟩⟩
    · have hii : decide (i < k) = false := decide_eq_false (by omega)
      have hii2 : decide ((i : Int) < (k : Int)) = false := decide_eq_false (by omega)
      obtain ⟨A3, c3, e3, hs3⟩ := OwnR.reads (d := tlN) (f := fT) (n := 3) (fun _ _ => rfl) (fun _ => rfl) rfl HO.out.own
      subst e3
      have hik : i = k := by omega
      rw [tI_len] at HO ⊢
      have HCH := Sd.mk (Kee.chain_any wr A3 c3 (tI i) hs3 (all8_tI (by omega)) (i + 1) (tI_len i).symm (by omega))
      rw [hik, chn_tI] at HCH
      rw [hik] at HO ⊢
      have HBL := Sd.mk HO.out.bel
      clear hs3 HO hii hii2 hlt hi hik
      go_upto_region 10 with (first
        | (go_at_call 12; (with_reducible refine HCH.out.mono ?_); rintro e w2 ⟨u, rfl, hch⟩; have HC2 := Sd.mk hch; clear hch))
      clear HCH
      obtain ⟨rs, hrs, hrl, hri⟩ := HC2.out.ex
      obtain ⟨A4, c4, e4, hs4⟩ := Kee.own_bk hrs
      subst e4
      have hcl : (B0 :: cI k).length = k + 1 := by rw [List.length_cons, cI_len]
      rw [hrl, hcl]
      have HRL := Sd.mk (hrl.trans hcl)
      have HSZ := Sd.mk (show ∀ x ∈ B0 :: cI k, (coreB x).size ≤ 1000 from fun x hx => Kee.chn_size (l := tI k) (by rw [chn_tI]; exact hx))
      have HA2 := Sd.mk (show All2 (Bw w2) rs (B0 :: cI k) from all2_of hrl (fun j r x e f => ⟨(hri j r x e f).wk, HSZ.out x (List.mem_of_getElem? f)⟩))
      have HS4 := Sd.mk hs4
      have nc4 := Nat.le_trans hs4.le hs4.cap
      rw [hrl, hcl] at nc4
      have HB2 := Sd.mk (below_then HBL.out HC2.out.bel)
      clear hrs hrl hri hs4 hcl HC2 HSZ HBL
      go_upto_region 11 with (first
        | (go_at_call 35; (with_reducible refine (new_any _).mono ?_); rintro e w3 ⟨g, rfl, hf, hb⟩; have HF3 := Sd.mk (show Fw w2 g (Sk k 0) w3 from hf); clear hf hb))
      go_wp2
      go_loopg [8] k (fun gk v8 wr => ∃ i, i + gk = k ∧ v8 = .int .i64 ((i : Int) + 1) ∧ Sd (Fw w2 g (Sk k i) wr))
      case atStart => exact ⟨0, by omega, rfl, HF3⟩
      case round =>
        clear HF3
        obtain ⟨i, hi, rfl, HF⟩ := hrel
        by_cases hlt : i < k
        · have hii : decide (((i : Int) + 1) ≤ (k : Int)) = true := decide_eq_true (by omega)
          have hi0 : (0 : Int) ≤ (i : Int) + 1 := by omega
          have hi1 : (i : Int) + 1 < (k : Int) + 1 := by omega
          have hi2 : ((i : Int) + 1).toNat = i + 1 := by omega
          have HPU := Sd.mk (sk_put hk12 hlt)
          have HOK := Sd.mk (sk_ok hk12 i (by omega))
          have hat := cI_at hlt
          obtain ⟨x, hx⟩ : ∃ x, bI (digB B0) (i + 1) = x := ⟨_, rfl⟩
          rw [hx] at hat HPU
          have hat2 : (B0 :: cI k)[i + 1]? = some x := by rw [List.getElem?_cons_succ]; exact hat
          obtain ⟨r, hr⟩ : ∃ r, rs[i + 1]? = some r := ⟨rs[i + 1]'(by rw [HRL.out]; omega), List.getElem?_eq_getElem _⟩
          have HW := Sd.mk (HA2.out.get hr hat2)
          obtain ⟨b1, o1, rfl, p0, p1, p2, p3, p4, p5⟩ := Kee.wk_at HS4.out.row hr HW.out.wk
          have p0 := cell_below HF.out.bel p0
          have p1 := cell_below HF.out.bel p1
          have p2 := cell_below HF.out.bel p2
          have p3 := cell_below HF.out.bel p3
          have p4 := cell_below HF.out.bel p4
          have p5 := cell_below HF.out.bel p5
          have HPT := Sd.mk (put_any HF.out HOK.out x r HW.out)
          rw [HPU.out] at HPT
          clear hx hat hat2 hr
          rcases Decidable.em (8 ≤ i) with h8 | h8
          · have k8 : decide ((8 : Int) < (i : Int) + 1) = true := decide_eq_true (by omega)
            rw [if_pos h8] at HPT
            clear hlt hi2 h8
            go_wp2_with (first
              | (go_at_call 36; (with_reducible refine HPT.out.mono ?_); rintro e w4 ⟨rfl, hf, hr⟩; have HF4 := Sd.mk hf; clear hf hr))
            go_roundg (gk - 1)
            case measure => omega
            case rel => exact ⟨i + 1, by omega, by go_num, HF4⟩
          · have k8 : decide ((8 : Int) < (i : Int) + 1) = false := decide_eq_false (by omega)
            rw [if_neg h8] at HPT
            clear hlt hi2 h8
            go_wp2_with (first
              | (go_at_call 36; (with_reducible refine HPT.out.mono ?_); rintro e w4 ⟨rfl, hf, hr⟩; have HF4 := Sd.mk hf; clear hf hr))
            go_roundg (gk - 1)
            case measure => omega
            case rel => exact ⟨i + 1, by omega, by go_num, HF4⟩
        · have hii : decide (((i : Int) + 1) ≤ (k : Int)) = false := decide_eq_false (by omega)
          have HF2 := Sd.mk (show Fw w2 g (Sk k k) wr by have h := HF.out; rwa [show i = k by omega] at h)
          clear HF hlt
          obtain ⟨F2, l1, l2, l3, l4, l5⟩ := last_put hk12
          obtain ⟨m, hm⟩ : ∃ m, min k 8 = m := ⟨_, rfl⟩
          rw [hm] at l2
          have hmn : min (k : Int) 8 = (m : Int) := by omega
          have hm8 : (m : Int) ≤ 8 := by omega
          have hm0 : (0 : Int) ≤ (m : Int) := by omega
          have HOR := Sd.mk (orphans_any HF2.out (by rw [sk_len (Nat.le_refl _)]; omega) m (by rw [sk_len (Nat.le_refl _)]; exact hm))
          have HLN := Sd.mk (fun (W1 : World) (hb : RowKit.Below wr.heap.size wr W1) => (show Calls Try.prog 38 #[.pointer (some ⟨g, 0, none⟩)] W1 fun e w' => e = .returned (.int .i64 0) ∧ w' = W1 from len_any (HF2.out.below hb) 0 rfl))
          obtain ⟨q, hq⟩ : ∃ q, (mss (Sk k k) (Sk k k).orph).length = q := ⟨_, rfl⟩
          have hq2 := sk_mss hk12
          rw [hq] at hq2
          have HMS := Sd.mk (fun (W1 : World) (hb : RowKit.Below wr.heap.size wr W1) => missing_any (HF2.out.below hb) (by rw [sk_len (Nat.le_refl _)]; omega) q hq)
          obtain ⟨r, hr⟩ : ∃ r, rs[0]? = some r := ⟨rs[0]'(by rw [HRL.out]; omega), List.getElem?_eq_getElem _⟩
          have HW := Sd.mk (HA2.out.get hr (show (B0 :: cI k)[0]? = some B0 from rfl))
          obtain ⟨b1, o1, rfl, p0, p1, p2, p3, p4, p5⟩ := Kee.wk_at HS4.out.row hr HW.out.wk
          simp only [Nat.zero_mul, Nat.add_zero] at p0 p1 p2 p3 p4 p5
          have HP := Sd.mk (fun W1 (hb : RowKit.Below w2.heap.size w2 W1) => (And.intro (cell_below hb p0) (And.intro (cell_below hb p1) (And.intro (cell_below hb p2) (And.intro (cell_below hb p3) (And.intro (cell_below hb p4) (cell_below hb p5)))))))
          obtain ⟨d, hd⟩ : ∃ d, digB B0 = d := ⟨_, rfl⟩
          have HDG := Sd.mk (fun W1 (hb : RowKit.Below w2.heap.size w2 W1) => Blk.rdig_any W1 B0 r.sa r.sn r.sc r.a B0.batch.length r.c (HW.out.wk.sl.below hb) rfl d hd (by have := HW.out.sz; omega))
          have HDZ := Sd.mk (show d.size ≤ maxLen by rw [← hd, Blk.digB_size]; unfold maxLen; omega)
          rw [hd] at l5
          have HOK := Sd.mk (sk_ok hk12 k (Nat.le_refl _))
          have HOK2 := Sd.mk (show Ok F2 by have := ok_put HOK.out B0; rwa [l1] at this)
          have HPT := Sd.mk (fun W1 (h : Fw w2 g (Sk k k) W1) => put_any h HOK.out B0 r HW.out)
          have HPT2 := Sd.mk (fun W1 (h : Fw w2 g F2 W1) => put_any h HOK2.out B0 r HW.out)
          rw [l1] at HPT
          rw [l4] at HPT2
          have HLN2 := Sd.mk (fun (W1 : World) (h : Fw w2 g F2 W1) => len_any h (1 + m) l2)
          have HOR2 := Sd.mk (fun (W1 : World) (h : Fw w2 g F2 W1) => (show Calls Try.prog 37 #[.pointer (some ⟨g, 0, none⟩)] W1 fun e w' => ∃ A c, e = .returned (.slice A 0 c) ∧ So W1 (.slice A 0 c) (F2.orph.map digB) w' from orphans_any h (by rw [l3]; exact Nat.zero_le _) 0 (by rw [l3]; rfl)))
          have HHS := Sd.mk (fun W1 (h : Fw w2 g F2 W1) => has_any h d HDZ.out true l5)
          obtain ⟨x, hx⟩ : ∃ x, B0 = x := ⟨_, rfl⟩
          rw [hx] at HP HDG HPT HPT2
          clear p0 p1 p2 p3 p4 p5 hr hd hq hm l1 l2 l3 l4 l5 hx hi
          have hm1 : ((1 + m : Nat) : Int) = 1 + (m : Int) := by omega
          rw [hm1] at HLN2
          clear hm1
          rcases Decidable.em (k = 0) with hk0 | hk0
          · have kz : decide ((0 : Int) < (k : Int)) = false := decide_eq_false (by omega)
            have kzn : decide (0 < k) = false := decide_eq_false (by omega)
            clear hk0 hq2
            go_upto_region 21 with (first
              | (go_at_call 37; (with_reducible refine HOR.out.mono ?_); rintro e w4 ⟨A5, c5, rfl, ho⟩; have HB4 := Sd.mk ho.bel; clear ho)
              | (go_at_call 38; (with_reducible refine (HLN.out _ HB4.out).mono ?_); rintro e w5 ⟨rfl, rfl⟩))
            have HF5 := Sd.mk (HF2.out.below HB4.out)
            ((obtain ⟨p0, p1, p2, p3, p4, p5⟩ := HP.out _ HF5.out.bel); go_wp2_with (first | (go_at_call 36; (first | ((with_reducible refine (HPT2.out _ HF8.out).mono ?_); rintro e w9 ⟨rfl, hf, hr⟩; have HF9 := Sd.mk hf; clear hf hr p0 p1 p2 p3 p4 p5; (obtain ⟨p0, p1, p2, p3, p4, p5⟩ := HP.out _ HF9.out.bel)) | ((with_reducible refine (HPT.out _ HF5.out).mono ?_); rintro e w7 ⟨rfl, hf, hr⟩; have HF7 := Sd.mk hf; clear hf hr p0 p1 p2 p3 p4 p5))) | (go_at_call 38; (with_reducible refine (HLN2.out _ HF7.out).mono ?_); rintro e w7' ⟨rfl, rfl⟩) | (go_at_call 37; (with_reducible refine (HOR2.out _ HF7.out).mono ?_); rintro e w8 ⟨A8, c8, rfl, ho⟩; have HF8 := Sd.mk (HF7.out.below ho.bel); clear ho; (obtain ⟨p0, p1, p2, p3, p4, p5⟩ := HP.out _ HF8.out.bel)) | (go_at_call 27; (with_reducible refine (HDG.out _ HF9.out.bel).mono ?_); rintro e w10 ⟨rfl, hb⟩; have HF10 := Sd.mk (HF9.out.below hb); clear hb) | (go_at_call 40; (with_reducible refine (HHS.out _ HF10.out).mono ?_); rintro e w11 ⟨rfl, hb⟩; have HF11 := Sd.mk (HF10.out.below hb); clear hb)); go_ret; exact ⟨rfl, below_then HB2.out HF11.out.bel⟩)
          · have kz : decide ((0 : Int) < (k : Int)) = true := decide_eq_true (by omega)
            have kzn : decide (0 < k) = true := decide_eq_true (by omega)
            rw [if_neg hk0] at hq2
            subst hq2
            have HMS1 := Sd.mk (fun (W1 : World) (hb : RowKit.Below wr.heap.size wr W1) => (show Calls Try.prog 39 #[.pointer (some ⟨g, 0, none⟩)] W1 fun e w' => ∃ A c, e = .returned (.slice A 1 c) ∧ So W1 (.slice A 1 c) (mss (Sk k k) (Sk k k).orph) w' from HMS.out W1 hb))
            clear hk0 HMS
            go_upto_region 21 with (first
              | (go_at_call 37; (with_reducible refine HOR.out.mono ?_); rintro e w4 ⟨A5, c5, rfl, ho⟩; have HB4 := Sd.mk ho.bel; clear ho)
              | (go_at_call 38; (with_reducible refine (HLN.out _ HB4.out).mono ?_); rintro e w5 ⟨rfl, rfl⟩)
              | (go_at_call 39; (with_reducible refine (HMS1.out _ HB4.out).mono ?_); rintro e w6 ⟨A6, c6, rfl, ho⟩; have HB6 := Sd.mk (below_then HB4.out ho.bel); clear ho))
            have HF5 := Sd.mk (HF2.out.below HB6.out)
            ((obtain ⟨p0, p1, p2, p3, p4, p5⟩ := HP.out _ HF5.out.bel); go_wp2_with (first | (go_at_call 36; (first | ((with_reducible refine (HPT2.out _ HF8.out).mono ?_); rintro e w9 ⟨rfl, hf, hr⟩; have HF9 := Sd.mk hf; clear hf hr p0 p1 p2 p3 p4 p5; (obtain ⟨p0, p1, p2, p3, p4, p5⟩ := HP.out _ HF9.out.bel)) | ((with_reducible refine (HPT.out _ HF5.out).mono ?_); rintro e w7 ⟨rfl, hf, hr⟩; have HF7 := Sd.mk hf; clear hf hr p0 p1 p2 p3 p4 p5))) | (go_at_call 38; (with_reducible refine (HLN2.out _ HF7.out).mono ?_); rintro e w7' ⟨rfl, rfl⟩) | (go_at_call 37; (with_reducible refine (HOR2.out _ HF7.out).mono ?_); rintro e w8 ⟨A8, c8, rfl, ho⟩; have HF8 := Sd.mk (HF7.out.below ho.bel); clear ho; (obtain ⟨p0, p1, p2, p3, p4, p5⟩ := HP.out _ HF8.out.bel)) | (go_at_call 27; (with_reducible refine (HDG.out _ HF9.out.bel).mono ?_); rintro e w10 ⟨rfl, hb⟩; have HF10 := Sd.mk (HF9.out.below hb); clear hb) | (go_at_call 40; (with_reducible refine (HHS.out _ HF10.out).mono ?_); rintro e w11 ⟨rfl, hb⟩; have HF11 := Sd.mk (HF10.out.below hb); clear hb)); go_ret; exact ⟨rfl, below_then HB2.out HF11.out.bel⟩)
-- L1>
theorem ff_row (w : World) (a : Int) (h : (Lit.int .u8 a).wf = true) :
    Calls Try.prog 7 #[.int .u8 a] w fun e w' => e = .returned (.bool true) ∧ RowKit.Below w.heap.size w w' := by
  obtain ⟨a', rfl, ha⟩ := Kee.u8_of h
  exact ff_law w a' ha
end Go.Proofs.Ytnomgkmeomlccaa.Fst

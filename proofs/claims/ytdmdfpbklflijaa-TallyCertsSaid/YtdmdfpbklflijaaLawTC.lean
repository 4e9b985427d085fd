/- TallyCerts: walked. -/
import Derived.Test.YtdmdfpbklflijaaTalO
import Derived.BigRegion
set_option linter.unusedVariables false
set_option linter.unusedSimpArgs false
namespace Go.Proofs.Ytdmdfpbklflijaa.Tal
open Go.RowKit Go.Sort Rd Api Own Mv App Mk Num Dig Mac

theorem new_t (K : World → Prop) (hK : Kp K) (w w0 : World) (h0 : RowKit.Below w0.heap.size w0 w) (hw : K w) (tn n : Nat) : Calls Try.prog 31 #[.string { data := #[115] }, .int .i64 (tn : Nat), .int .i64 (n : Nat)] w fun e w' => ∃ g, e = .returned (.pointer (some ⟨g, 0, none⟩)) ∧ Tb K w0 g SB (tn : Nat) n 0 (.slice none 0 0) [] w' ∧ RowKit.Below w.heap.size w w' :=
  (new_any w SB tn n).mono fun e w' ⟨g, he, ht, hg, hb⟩ => ⟨g, he, ⟨ht, by have := h0.size; omega, fun k hk => by simp [Value.ownBlock] at hk, below_then h0 hb, hK, hK.below hw hb⟩, hb⟩
theorem box_facts {Bx : Nat} {W : World} (h : Box Bx W) : Box Bx W ∧ W.cell? ⟨Bx, 0, none⟩ = some (.int .i64 0) ∧ W.cell? ⟨Bx, 1, none⟩ = some (.string { data := #[] }) ∧ W.cell? ⟨Bx, 2, none⟩ = some (.slice none 0 0) ∧ W.frozen? ⟨Bx, 0, none⟩ = false ∧ W.frozen? ⟨Bx, 1, none⟩ = false ∧ W.frozen? ⟨Bx, 2, none⟩ = false :=
  ⟨h, blk_at h 0 _ rfl, blk_at h 1 _ rfl, blk_at h 2 _ rfl, blk_frz h 0, blk_frz h 1, blk_frz h 2⟩
theorem fin3_blk {Br : Nat} {W : World} {x y z : Value} (h : W.heap[Br]? = some (.cells #[x, y, z] 24 (0, 0))) (a b c : Value) : (fin3 Br W a b c).heap[Br]? = some (.cells #[a, b, c] 24 (0, 0)) := (blk_set3 (blk_set3 (blk_set3 h 0 _) 1 _) 2 _).trans rfl
theorem own_apart {α β : Type} {f : α → List Value} {h : β → List Value} {n m b1 b2 : Nat} {W : World} {e1 e2 : TypeId} {v1 v2 : Value} {l1 : List α} {l2 : List β} (x1 : OwnR f n W b1 e1 v1 l1) (x2 : OwnR h m W b2 e2 v2 l2) (hne : e1 ≠ e2) : v1.ownBlock = none ∨ v1.ownBlock ≠ v2.ownBlock := by
  cases e : v1.ownBlock with
  | none => exact .inl rfl
  | some k =>
    refine .inr (fun e3 => ?_)
    have e3 := e3.symm
    obtain ⟨c1, h1⟩ := own_type x1 k e
    obtain ⟨c2, h2⟩ := own_type x2 k e3
    rw [h1] at h2
    simp at h2
    exact hne h2.2
theorem Tb.views {w : World} {g : Nat} {seed : ByteArray} {tn n lim : Int} {v v0 v1 : Value} {vs : List Vt} {who who1 : List Int} {W W1 : World} (h : Tb (Who v0 who) w g seed tn n lim v vs W) (hg : W.grownBy W1 v0.ownBlock) (hr : ∀ j, v0.ownBlock = some j → w.heap.size ≤ j) (hn : Who v1 who1 W1) : Tb (Who v1 who1) w g seed tn n lim v vs W1 :=
  ⟨⟨blk_grown h.ty.blk hg (OwnR.blk h.k h.ty.blk (by decide)), OwnR.grown h.ty.own hg (own_apart h.ty.own h.k (by decide))⟩, h.ge, h.row, below_grown h.bel hg h.bel.size hr, kp_who _ _, hn⟩
set_option maxHeartbeats 8000000 in
set_option maxRecDepth 100000 in
theorem tc_law (w : World) (a0 a1 : Nat) (ha0 : a0 < 256) (ha1 : a1 < 256) (A : Option Addr) (c : Nat) (l : List Co) (hs : Sl coK w A c l) (len : Nat) (hlen : len = l.length) :
    Calls Try.prog 10 #[.agg #[.int .u8 (a0 : Nat), .int .u8 (a1 : Nat)], .slice A len c] w fun e w' => e = .returned (.bool true) ∧ RowKit.Below w.heap.size w w' := by
  have mixed : Try.prog.follows .mixedOrders = true := by kernel_rfl
  have hb0 := below_one w (.cells #[.int .u8 (a0 : Nat), .int .u8 (a1 : Nat)] 40)
  have HB := Sd.mk hb0
  have X0 := Sd.mk (blk_new w (.cells #[.int .u8 (a0 : Nat), .int .u8 (a1 : Nat)] 40))
  have HS := Sd.mk hs
  have lc := Nat.le_trans hs.le hs.cap
  rw [← hlen] at lc
  have HN := Sd.mk hlen
  have HFW := Sd.mk (fun W (h : RowKit.Below w.heap.size w W) => few_any W A c l (hs.below h) len hlen)
  clear hs hlen hb0
  obtain ⟨r0, hr0⟩ : ∃ z, z = a0 % 7 := ⟨_, rfl⟩
  have p0 : ((a0 : Int)).tmod 7 = (r0 : Int) := by rw [Int.tmod_eq_emod_of_nonneg (by omega)]; omega
  have p0b : ((a0 : Int)) % 7 = (r0 : Int) := by omega
  have r7 : r0 < 7 := by omega
  obtain ⟨n, hn⟩ : ∃ n, n = 1 + r0 := ⟨_, rfl⟩
  have p1 : (1 : Int) + (r0 : Int) = (n : Int) := by omega
  have n1 : 1 ≤ n := by omega
  have n7 : n ≤ 7 := by omega
  obtain ⟨tn, htn⟩ : ∃ z, z = a1 % n := ⟨_, rfl⟩
  have p5 : ((a1 : Int)).tmod (n : Int) = (tn : Int) := by rw [Int.tmod_eq_emod_of_nonneg (by omega), htn]; rfl
  have hn0 : ((n : Int) == 0) = false := beq_eq_false_iff_ne.2 (by omega)
  have hn0b : ¬ (n : Int) = 0 := by omega
  have hn0c : ¬ n = 0 := by omega
  have HSB := Sd.mk (show SB.size ≤ 35184372088832 by decide)
  obtain ⟨q, hq⟩ : ∃ q, q = n - Gat.fl n := ⟨_, rfl⟩
  have HQ := Sd.mk hq
  clear hr0 hn htn hq
  go_enter Try.func10, Try.ntmps10
  go_upto_region 1 with (fail)
  generalize w.heap.size = B2 at X0 ⊢
  generalize w.alloc _ = W1 at X0 HB ⊢
  go_upto_region 8 with (first
    | (go_at_call 30; (with_reducible refine (awake_any _).mono ?_); rintro e w2 ⟨rfl, hb⟩; (first | (have HB4 := Sd.mk (below_then HB3.out hb)) | (have HB2 := Sd.mk (below_then HB.out hb); have X2 := Sd.mk (blk_keep X0.out hb))); clear hb)
    | (go_at_call 35; (with_reducible refine (HFW.out _ HB2.out).mono ?_); rintro e w3 ⟨r, rfl, ht, hb⟩; have HB3 := Sd.mk (below_then HB2.out hb); have X3 := Sd.mk (blk_keep X2.out hb); have c0 := blk_at X3.out 0 _ rfl; have c1 := blk_at X3.out 1 _ rfl; have HTR := Sd.mk ht; clear ht hb; cases r)
    | (go_at_call 31; (with_reducible refine (new_t (Who (.slice none 0 0) []) (kp_who _ _) _ w HB3.out (who_nil _) tn n).mono ?_); rintro e w1 ⟨g, rfl, ht, hb1⟩; have HT1 := Sd.mk ht; clear ht hb1))
  · go_ret
    exact ⟨rfl, HB4.out⟩
  · have l50 := (HTR.out trivial).1
    clear HTR X3 X2 X0 HB3 HB2 HB c0 c1 HFW
    have hi0 := Sd.mk (iv_nil : Iv w SB tn n q 0 [] [])
    go_wp2
    go_loopg [8, 9, 10, 11, 12] len (fun gk v8 v9 v10 v11 v12 wr => ∃ (i : Nat) (B : Option Addr) (k e : Nat) (views : List Int) (vs : List Vt) (vt : Value) (lim : Int), i + gk = len ∧ k ≤ i ∧ v8 = .slice B k e ∧ v9 = .int .i64 (i : Nat) ∧ Sd (views.length = k) ∧ Sd (∀ j, (Value.slice B k e).ownBlock = some j → w.heap.size ≤ j) ∧ Sd (Iv w SB tn n q lim vs views) ∧ Sd (Tb (Who (.slice B k e) views) w g SB (tn : Nat) (n : Nat) lim vt vs wr))
    case atStart => exact ⟨0, none, 0, 0, [], [], _, 0, by omega, by omega, rfl, rfl, ⟨rfl⟩, ⟨fun j hj => by simp [Value.ownBlock] at hj⟩, hi0, HT1⟩
    case round =>
      clear HT1 hi0
      obtain ⟨i, B, k, e, views, vs, vt, lim, hi, hki, rfl, rfl, HK, HOB, HI, HT⟩ := hrel
      by_cases hlt : i < len
      · have hii : (i : Int) < len := by omega
        obtain ⟨x, hx⟩ : ∃ x, l[i]? = some x := ⟨_, List.getElem?_eq_getElem (show i < l.length by rw [← HN.out]; exact hlt)⟩
        obtain ⟨b1, o1, A1, c1, rfl, y0, y1, y2, y3, y4, -, -, s1⟩ := co_at HS.out hx
        obtain ⟨m, hm⟩ : ∃ m, x.sig.tags.length = m := ⟨_, rfl⟩
        rw [hm] at y3
        have HCL := Sd.mk (fun W (h : RowKit.Below w.heap.size w W) => show W.cell? ⟨b1, o1 + i * 5, none⟩ = some (.int .i64 x.view) ∧ W.cell? ⟨b1, o1 + i * 5 + 1, none⟩ = some (.string x.block) ∧ W.cell? ⟨b1, o1 + i * 5 + 2, none⟩ = some (.int .i64 x.sig.node) ∧ W.cell? ⟨b1, o1 + i * 5 + 3, none⟩ = some (.slice A1 m c1) from ⟨cell_below h y0, cell_below h y1, cell_below h y2, cell_below h y3⟩)
        have HAD := Sd.mk (fun (K : World → Prop) W (h : Tb K w g SB (tn : Nat) (n : Nat) lim vt vs W) => add_any SB HSB.out n tn q n1 n7 HQ.out h HI.out x A1 c1 s1 m hm.symm)
        obtain ⟨bl, hbl⟩ : ∃ b, x.below = b := ⟨_, rfl⟩
        rw [hbl] at y4
        have z4 := cell_below HT.out.bel y4
        have z0 := cell_below HT.out.bel y0
        clear hbl hx s1 y0 y1 y2 y3 y4 hm
        cases bl with
        | true =>
          obtain ⟨lim2, hl2⟩ : ∃ z, max lim x.view = z := ⟨_, rfl⟩
          have HBW := Sd.mk (below_any HT.out x.view lim2 hl2)
          have HI2 := Sd.mk (HI.out.gone (show lim ≤ lim2 by omega))
          clear hl2 HAD HCL
          go_wp2_with (first
            | (go_at_call 36; (with_reducible refine HBW.out.mono ?_); rintro e w2 ⟨rfl, v', ht⟩; have HT2 := Sd.mk ht; clear ht))
          go_roundg (gk - 1)
          case measure => omega
          case rel => exact ⟨i + 1, B, k, _, views, _, _, lim2, by omega, by omega, rfl, by go_num, HK, HOB, HI2, HT2⟩
        | false =>
          go_upto_region 12 with (fail)
          clear z4 z0
          go_cut [10, 11] from 52 to 71 (fun v10 v11 wx => ∃ (Bx : Nat) (ok : Bool) (cv : Int) (cb : ByteArray) (A' : Option Addr) (k' c' : Nat) (v' : Value) (vs' : List Vt) (views' : List Int), v10 = .pointer (some ⟨Bx, 0, none⟩) ∧ v11 = .bool ok ∧ Sd (wx.heap[Bx]? = some (.cells #[.int .i64 cv, .string cb, .slice A' k' c'] 24 (0, 0))) ∧ Sd (Tb (Who (.slice B k e) views) w g SB (tn : Nat) (n : Nat) lim v' vs' wx) ∧ Sd (Iv w SB tn n q lim vs' views') ∧ Sd (Gt n q ok cv cb A' k' c' vs' views views' wx))
          case first =>
            have HTD := Sd.mk (HT.out.below (below_drew' (Below.refl _ _)))
            have HTA := Sd.mk ((((HT.out.below (below_one wr (.cells #[.int .i64 0, .string { data := #[] }, .slice none 0 0] 24))).re (kp_and (kp_who (.slice B k e) views) (kp_box wr.heap.size)) ⟨(HT.out.below (below_one wr (.cells #[.int .i64 0, .string { data := #[] }, .slice none 0 0] 24))).k, blk_new _ _⟩)).below (below_drew' (Below.refl _ _)))
            obtain ⟨z0, z1, z2, z3⟩ := HCL.out _ HTD.out.bel
            obtain ⟨t0, t1, t2, t3⟩ := HCL.out _ HT.out.bel
            go_region_held3 (fun W => W.cell? ⟨b1, o1 + i * 5, none⟩ = some (.int .i64 x.view) ∧ W.cell? ⟨b1, o1 + i * 5 + 1, none⟩ = some (.string x.block) ∧ W.cell? ⟨b1, o1 + i * 5 + 2, none⟩ = some (.int .i64 x.sig.node) ∧ W.cell? ⟨b1, o1 + i * 5 + 3, none⟩ = some (.slice A1 m c1)) (first | (refine HCL.out _ ?_; (repeat (first | exact HT6.out.bel | exact HTD.out.bel | exact HTA.out.bel | exact HT.out.bel | refine below_drew' ?_ | refine below_then ?_ (below_one _ _) | refine Below.setCell ?_ (by first | exact HT6.out.bel.size | exact HTD.out.bel.size | exact HT.out.bel.size) _)); done) | fail) (first
                | (go_at_call 33; with_reducible refine (HAD.out _ _ HTD.out).mono ?_; rintro er w6 ⟨v', vs', views', cv, cb, A', k', c', ok, rfl, htb, hiv, hgt⟩; have HT6 := Sd.mk htb; have HI6 := Sd.mk hiv; have HG6 := Sd.mk hgt; clear htb hiv hgt)
                | (go_at_call 33; with_reducible refine (HAD.out _ _ HTA.out).mono ?_; rintro er w6 ⟨v', vs', views', cv, cb, A', k', c', ok, rfl, htb, hiv, hgt⟩; have HT6 := Sd.mk (htb.re (kp_who (.slice B k e) views) htb.k.1); obtain ⟨hX, x0, x1, x2, f0, f1, f2⟩ := box_facts htb.k.2; have HX6 := Sd.mk hX; have HI6 := Sd.mk hiv; have HG6 := Sd.mk hgt; clear htb hiv hgt hX)
                | fail)
            all_goals
              go_wp2
              go_meet
            · exact ⟨w6.heap.size, ok, cv, cb, A', k', c', v', vs', views', rfl, rfl, ⟨blk_new w6 _⟩, ⟨HT6.out.below (below_one w6 _)⟩, HI6, ⟨HG6.out.below (below_one w6 _)⟩⟩
            · exact ⟨wr.heap.size, ok, cv, cb, A', k', c', v', vs', views', rfl, rfl, ⟨fin3_blk HX6.out _ _ _⟩, ⟨(⟨HT6.out, HX6.out, HT.out.bel.size, ⟨wr, HT.out.k, Nat.le_refl _⟩⟩ : Ae (Who (.slice B k e) views) w g SB (tn : Nat) (n : Nat) lim v' vs' wr.heap.size w6).fin _ _ _⟩, HI6, ⟨HG6.out.fin HX6.out _ _ _⟩⟩
          case rest =>
            clear HAD HCL HT
            obtain ⟨Bx, ok, cv, cb, A', k', c', v', vs', views', rfl, rfl, HBX, HT, HI2, HG⟩ := hcut
            cases ok with
            | false =>
              have HI3 := Sd.mk (show Iv w SB tn n q lim vs' views by have := HI2.out; rwa [HG.out.no rfl] at this)
              go_wp2
              go_roundg (gk - 1)
              case measure => omega
              case rel => exact ⟨i + 1, B, k, _, views, _, _, lim, by omega, by omega, rfl, by go_num, HK, HOB, HI3, HT⟩
            | true =>
              obtain ⟨sgs, hk', hsl, hfw, hho⟩ := HG.out.holds rfl HI2.out HT.out.bel n1 n7 HQ.out
              obtain ⟨p, hp⟩ := Crt.tells SB (tn : Nat) (n : Nat) ⟨cv, cb, sgs⟩
              have HHO := Sd.mk (show Calls Try.prog 16 #[.string { data := #[115] }, .int .i64 (tn : Nat), .int .i64 (n : Nat), .agg #[.int .i64 cv, .string cb, .slice A' k' c']] wc fun e w' => e = .returned (.bool true) ∧ RowKit.Below wc.heap.size wc w' from Crt.certholds_any wc SB HSB.out (tn : Nat) (n : Nat) ⟨cv, cb, sgs⟩ A' c' hsl k' hk' (Crt.certB_few hfw) p hp true ⟨fun _ => hho p hp, fun _ => rfl⟩)
              have c0 := blk_at HBX.out 0 _ rfl
              have c1 := blk_at HBX.out 1 _ rfl
              have c2 := blk_at HBX.out 2 _ rfl
              obtain ⟨hv', hnot, -, -⟩ := HG.out.yes rfl
              have HNO := Sd.mk hnot
              have HI3 := Sd.mk (show Iv w SB tn n q lim vs' (views ++ [cv]) by have := HI2.out; rwa [hv'] at this)
              clear hk' hsl hfw hho hp hv' hnot HG HI2 HI
              go_upto_region 16 with (first
                | (go_at_call 16; (with_reducible refine HHO.out.mono ?_); rintro er w7 ⟨rfl, hb⟩; have HT7 := Sd.mk (HT.out.below hb); have HBX7 := Sd.mk (blk_keep HBX.out hb); clear hb))
              clear HHO HT HBX c0 c1 c2
              obtain ⟨gko, hgo⟩ : ∃ z, gk = z := ⟨_, rfl⟩
              go_wp2
              go_loopg [12] k (fun gk v12 wx => ∃ (j : Nat), j + gk = k ∧ v12 = .int .i64 (j : Nat) ∧ Sd (RowKit.Below w7.heap.size w7 wx))
              case atStart => exact ⟨0, by omega, rfl, ⟨Below.refl _ _⟩⟩
              case round =>
                obtain ⟨j, hj, rfl, HW⟩ := hrel
                have HT8 := Sd.mk (HT7.out.below HW.out)
                have HBX8 := Sd.mk (blk_keep HBX7.out HW.out)
                have c0 := blk_at HBX8.out 0 _ rfl
                by_cases hjt : j < k
                · have hji : (j : Int) < k := by omega
                  have hjl : j < views.length := by rw [HK.out]; exact hjt
                  obtain ⟨B', e', hBB, hwr, -⟩ := who_row HT8.out.k
                  rw [HK.out] at hBB
                  simp only [Value.slice.injEq] at hBB
                  obtain ⟨rfl, -, rfl⟩ := hBB
                  have hke := hwr.le
                  rw [HK.out] at hke
                  have hke2 := hwr.cap
                  obtain ⟨b2, o2, rfl, d1⟩ := num_at hwr.row hjl
                  obtain ⟨z, hz⟩ : ∃ z, views[j]'hjl = z := ⟨_, rfl⟩
                  rw [hz] at d1
                  have dz : (z == cv) = false := beq_eq_false_iff_ne.2 (fun e => HNO.out (by rw [← e, ← hz]; exact List.getElem_mem _))
                  clear hz hjl hwr
                  go_upto_region 19 with (fail)
                  go_quiet (fail)
                  go_wp2
                  go_roundg (gk - 1)
                  case measure => omega
                  case rel => exact ⟨j + 1, by omega, by go_num, ⟨below_drewN HW.out _⟩⟩
                · have hji : decide (j < k) = false := decide_eq_false (by omega)
                  have hji2 : decide ((j : Int) < (k : Int)) = false := decide_eq_false (by omega)
                  have HWK := Sd.mk HT8.out.k
                  go_upto_region 9 with (first
                    | (at_builtin; refine append_at (f := fI) (n := 1) (fun _ => rfl) fI_one rfl (.tmp 92) (.tmp 95) 28 3 (.int .i64 0) 8 rfl Try.underlying28 info_int rfl (by decide) (.slice B k e) views cv rfl rfl HWK.out (by rw [HK.out]; omega) (by rw [HK.out]; omega) ?_; intro v2 w2 hown hg hob; obtain ⟨A7, q7, rfl⟩ := OwnR.slice hown; have hl7 : (views ++ [cv]).length = k + 1 := (by rw [List.length_append, HK.out]; rfl); rw [hl7] at hown hob ⊢; have HT9 := Sd.mk (HT8.out.views hg HOB.out hown); have HL7 := Sd.mk hl7; have HOB9 := Sd.mk (show ∀ j, (Value.slice A7 (k + 1) q7).ownBlock = some j → w.heap.size ≤ j from fun j hj => (by rcases hob with e2 | e2; (rw [hj] at e2; exact HOB.out j e2.symm); (rw [hj] at e2; have := Option.some.inj e2; have := HT8.out.bel.size; omega))); clear hown hg hob hl7))
                  go_wp2
                  go_roundg (gko - 1)
                  case measure => omega
                  case rel => exact ⟨i + 1, A7, k + 1, q7, views ++ [cv], _, _, lim, by omega, by omega, rfl, by go_num, HL7, HOB9, HI3, HT9⟩
      · have hii : decide (i < len) = false := decide_eq_false (by omega)
        have hii2 : decide ((i : Int) < (len : Int)) = false := decide_eq_false (by omega)
        obtain ⟨mm, hmm⟩ : ∃ mm, vs.length = mm := ⟨_, rfl⟩
        have HMM := Sd.mk hmm
        have hml : mm ≤ 4 * n := by rw [← hmm]; exact HI.out.len
        have hml2 : (mm : Int) ≤ 4 * (n : Int) := by omega
        clear hmm
        go_wp2_with (first
          | (go_at_call 34; (with_reducible refine (len_any HT.out.ty mm HMM.out).mono ?_); rintro er w7 ⟨rfl, rfl⟩))
        go_ret
        exact ⟨rfl, HT.out.bel⟩
theorem tc_row (w : World) (l0 : List Int) (ds : Array Value) (h : (Rk.arr (Rk.int .u8) 2).K w l0 ds.toList) (A : Option Addr) (c : Nat) (l : List Co) (h1 : l.length ≤ c) (h2 : c ≤ maxLen) (h3 : Row coK w A l) :
    Calls Try.prog 10 #[.agg ds, .slice A l.length c] w fun e w' => e = .returned (.bool true) ∧ RowKit.Below w.heap.size w w' := by
  obtain ⟨x, r, c0, c1, -, e1, ⟨rfl, w0⟩, y, r2, c2, c3, -, rfl, ⟨rfl, w1⟩, -, rfl⟩ := h
  obtain rfl := Api.arr_of e1
  have f : ∀ x : Int, (Lit.int .u8 x).wf = true → 0 ≤ x ∧ x ≤ 255 := fun x hx => by simpa [Lit.wf, IntKind.min, IntKind.max, IntKind.bits, IntKind.signed] using hx
  obtain ⟨x', rfl⟩ : ∃ m' : Nat, x = (m' : Int) := ⟨x.toNat, by have := f x w0; omega⟩
  obtain ⟨y', rfl⟩ : ∃ m' : Nat, y = (m' : Int) := ⟨y.toNat, by have := f y w1; omega⟩
  exact tc_law w x' y' (by have := f _ w0; omega) (by have := f _ w1; omega) A c l ⟨h1, by unfold maxLen at h2; omega, h3⟩ _ rfl
end Go.Proofs.Ytdmdfpbklflijaa.Tal

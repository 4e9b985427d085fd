/- ForestPaths: walked. -/
import Derived.Test.YtnomgkmeomlccaaFoW
import Derived.Deep.CutRange
set_option linter.unusedVariables false
set_option linter.unusedSimpArgs false

namespace Go.Proofs.Ytnomgkmeomlccaa.Fst
open Go.RowKit Go.Sort Rd Api _root_.Go.Proofs.Ytnomgkmeomlccaa.Own Mv App Num Dig
open Blk (Block Rq rqN fR digB coreB step_appends_at own_nc)
open Kee (Bk fB bkK Wk Ch chn Tl tlN All8)

theorem opens_a2 : Opens Try.prog 57 (Rk.arr (Rk.int .u8) 2) := Arr.opens_arr Try.underlying57 (opens_int Try.underlying5) (by kernel_rfl) (by kernel_rfl)
theorem a2_of {w : World} {l : List Int} {cs : Array Value} (h : (Rk.arr (Rk.int .u8) 2).K w l cs.toList) : ∃ a b : Nat, cs = #[.int .u8 (a : Nat), .int .u8 (b : Nat)] ∧ a < 256 ∧ b < 256 := by
  obtain ⟨a, r, c0, c1, rfl, e, ⟨rfl, wa⟩, b, r2, c2, c3, rfl, rfl, ⟨rfl, wb⟩, rfl, rfl⟩ := h
  obtain ⟨a', rfl, ha⟩ := Kee.u8_of wa
  obtain ⟨b', rfl, hb⟩ := Kee.u8_of wb
  exact ⟨a', b', Api.arr_of e, ha, hb⟩
def NON : ByteArray := ⟨#[110, 111, 110, 101]⟩
theorem non_nd (l : List Nd) : ndAt l NON = none := ndAt_none.2 (fun x _ e => by have := congrArg ByteArray.size e; rw [Blk.digB_size] at this; cases this)
theorem non_fb : NON ≠ Crt.FB := by decide +kernel
theorem non_has (bs : List Block) : (bld bs).has NON = false := by
  unfold Fo.has
  rw [non_nd, (bld_ok bs).2.2.1, decide_eq_false non_fb]
  rfl
theorem non_hgt (bs : List Block) : (bld bs).hgt NON = -1 := by
  unfold Fo.hgt
  rw [non_nd, (bld_ok bs).2.2.1, if_neg non_fb]
/-- both ways are one -/
theorem pa_same {s : ByteArray} {xs : List ByteArray} {w w' W W' : World} {A B : Option Addr} {n c m d : Nat} {ok ok' : Bool} (h : Pa s xs w (.slice A n c) ok W) (k : Pa s xs w' (.slice B m d) ok' W') : ok = amg xs s ∧ ok' = amg xs s ∧ m = n ∧ ∃ l : List ByteArray, l.length = n ∧ Sl strN W A c l ∧ Sl strN W' B d l := by
  have e1 := h.ok_iff
  have e2 := k.ok_iff
  refine ⟨e1, e2, ?_⟩
  cases hr : amg xs s with
  | true =>
    rw [hr] at e1 e2
    obtain ⟨p, u, x1, x2, x3⟩ := h.yes e1
    obtain ⟨q, v, y1, y2, y3⟩ := k.yes e2
    obtain rfl : p = q := pre_uniq (x1.symm.trans y1) x2 y2
    obtain ⟨A', c', f1, g1⟩ := own_str x3
    obtain ⟨B', d', f2, g2⟩ := own_str y3
    simp only [Value.slice.injEq] at f1 f2
    obtain ⟨rfl, rfl, rfl⟩ := f1
    obtain ⟨rfl, rfl, rfl⟩ := f2
    exact ⟨rfl, p.reverse, rfl, g1, g2⟩
  | false =>
    rw [hr] at e1 e2
    have f1 := (h.no e1).2
    have f2 := (k.no e2).2
    simp only [Value.slice.injEq] at f1 f2
    obtain ⟨rfl, rfl, rfl⟩ := f1
    obtain ⟨rfl, rfl, rfl⟩ := f2
    exact ⟨rfl, [], rfl, ⟨Nat.le_refl _, by omega, fun i x hx => by simp at hx⟩, ⟨Nat.le_refl _, by omega, fun i x hx => by simp at hx⟩⟩
theorem path_sh {w0 w : World} {g : Nat} {f : Fo} (hf : Fw w0 g f w) (hrz : f.root.size ≤ maxLen) (hbz : ∀ x ∈ f.nodes, x.b.just.block.size ≤ maxLen) (s t : ByteArray) (htz : t.size ≤ maxLen) (xs : List ByteArray) (hx : Upx f t xs) (hxl : xs.length ≤ 1000) :
    Calls Try.prog 43 #[.pointer (some ⟨g, 0, none⟩), .string s, .string t] w fun e W' => ∃ A n c ok, e = .returned (.tuple #[.slice A n c, .bool ok]) ∧ Pa s xs w (.slice A n c) ok W' := by
  refine (path_any hf hrz hbz s t htz xs hx hxl).mono ?_
  rintro e w' ⟨v, ok, rfl, hp⟩
  obtain ⟨A, n, c, rfl⟩ : ∃ A n c, v = .slice A n c := by
    cases ok with
    | true =>
      obtain ⟨pre, post, -, -, ho⟩ := hp.yes rfl
      obtain ⟨A, c, e⟩ := OwnR.slice ho
      exact ⟨A, _, c, e⟩
    | false => exact ⟨none, 0, 0, (hp.no rfl).2⟩
  exact ⟨A, n, c, ok, rfl, hp⟩
-- <L1
set_option maxHeartbeats 16000000 in
set_option maxRecDepth 100000 in
theorem fp_law (w : World) (A : Option Addr) (c : Nat) (l : List Tl) (h : Sl tlN w A c l) (h8 : All8 l) (n : Nat) (hn : n = l.length) (a b : Nat) (ha : a < 256) (hb : b < 256) :
    Calls Try.prog 8 #[.slice A n c, .agg #[.int .u8 (a : Nat), .int .u8 (b : Nat)]] w fun e w' => e = .returned (.bool true) ∧ RowKit.Below w.heap.size w w' := by
  have mixed : Try.prog.follows .mixedOrders = true := by kernel_rfl
  have b0 := below_one w (.cells #[.int .u8 (a : Nat), .int .u8 (b : Nat)] 57)
  have EA := Sd.mk (blk_new w (.cells #[.int .u8 (a : Nat), .int .u8 (b : Nat)] 57))
  have HB := Sd.mk b0
  have HS := Sd.mk (h.below b0)
  have HN := Sd.mk hn
  have H8 := Sd.mk h8
  have nc := Nat.le_trans h.le h.cap
  rw [← hn] at nc
  have HAB := Sd.mk (And.intro ha hb)
  clear h hn h8 b0 ha hb
  by_cases hle : n ≤ 30
  · have d30 : decide ((30 : Int) < (n : Int)) = false := decide_eq_false (by omega)
    have d30b : decide (30 < n) = false := decide_eq_false (by omega)
    by_cases h0 : n = 0
    · subst h0
      go_enter Try.func8, Try.ntmps8
      go_upto_region 1 with (fail)
      generalize w.alloc _ = W1 at HB ⊢
      go_wp2_with (first
        | (go_at_call 34; (with_reducible refine (awake7_any _).mono ?_); rintro e w2 ⟨rfl, hb⟩; have HB2 := Sd.mk (below_then HB.out hb); clear HB; have HB := HB2; clear HB2 hb))
      go_ret
      exact ⟨rfl, HB.out⟩
    · have z0 : ((n : Int) == 0) = false := beq_eq_false_iff_ne.2 (by omega)
      have z0b : ((n : Nat) == 0) = false := beq_eq_false_iff_ne.2 (by omega)
      have HCL := Sd.mk (show (chn l).length = n by rw [Kee.chn_len]; exact HN.out.symm)
      have HSZ := Sd.mk (fun x (hx : x ∈ chn l) => Kee.chn_size hx)
      have HCHN := Sd.mk (fun W1 (hb : RowKit.Below (w.alloc (.cells #[.int .u8 (a : Nat), .int .u8 (b : Nat)] 57)).heap.size (w.alloc (.cells #[.int .u8 (a : Nat), .int .u8 (b : Nat)] 57)) W1) => Kee.chain_any W1 A c l (HS.out.below hb) H8.out n HN.out (by omega))
      obtain ⟨bs, hbs⟩ : ∃ bs, chn l = bs := ⟨_, rfl⟩
      rw [hbs] at HCL HSZ HCHN
      clear hbs HS H8 HN
      go_enter Try.func8, Try.ntmps8
      go_upto_region 1 with (fail)
      generalize hg3 : w.heap.size = g3 at EA ⊢
      generalize w.alloc _ = W1 at EA HB HCHN ⊢
      go_upto_region 4 with (first
        | (go_at_call 34; (with_reducible refine (awake7_any _).mono ?_); rintro e w2 ⟨rfl, hb⟩; have HB2 := Sd.mk hb; clear hb)
        | (go_at_call 12; (with_reducible refine (HCHN.out _ HB2.out).mono ?_); rintro e w0 ⟨u, rfl, hch⟩; have HCH := Sd.mk hch; clear hch))
      clear HCHN z0 z0b d30 d30b
      have HB0 := Sd.mk (below_then HB2.out HCH.out.bel)
      obtain ⟨rs, hrs, hrl, hri⟩ := HCH.out.ex
      obtain ⟨A4, c4, e4, hs4⟩ := Kee.own_bk hrs
      subst e4
      have hcl := HCL.out
      rw [hrl, hcl]
      have HRL := Sd.mk (hrl.trans hcl)
      have HA2 := Sd.mk (show All2 (Bw w0) rs bs from all2_of hrl (fun j r x e f => ⟨(hri j r x e f).wk, HSZ.out x (List.mem_of_getElem? f)⟩))
      have HS4 := Sd.mk hs4
      have nc4 := Nat.le_trans hs4.le hs4.cap
      rw [hrl, hcl] at nc4
      clear hrs hrl hri hs4 hcl HCH HB2
      go_upto_region 5 with (first
        | (go_at_call 35; (with_reducible refine (new_any _).mono ?_); rintro e w1 ⟨g, rfl, hf, hb⟩; have HFW := Sd.mk hf; clear hf hb)
        | (go_at_call 41; (with_reducible refine (rnew_any w0 _ HFW.out.bel).mono ?_); rintro e w2 ⟨rfl, hv, hb⟩; have HFW2 := Sd.mk (HFW.out.below hb); have HRV := Sd.mk hv; clear hv hb))
      have b3 := below_one w2 (.cells #[.string F0.root, .int .i64 F0.height, .slice none 0 0, .slice none 0 0] 70)
      have HM0 := Sd.mk (show Mw w0 g w2.heap.size (bld (bs.take 0)) (w2.alloc (.cells #[.string F0.root, .int .i64 F0.height, .slice none 0 0, .slice none 0 0] 70)) from ⟨HFW2.out.below b3, HFW2.out.bel.size, none, 0, 0, none, 0, 0, blk_new w2 _, HRV.out.below b3⟩)
      clear HFW HFW2 HRV b3
      generalize w2.heap.size = gw at HM0 ⊢
      generalize w2.alloc _ = W2 at HM0 ⊢
      go_wp2
      go_loopg [8] n (fun gk v8 wr => ∃ i, i + gk = n ∧ v8 = .int .i64 (i : Nat) ∧ Sd (Mw w0 g gw (bld (bs.take i)) wr))
      case atStart => exact ⟨0, by omega, rfl, HM0⟩
      case round =>
        clear HM0
        obtain ⟨i, hi, rfl, HM⟩ := hrel
        by_cases hlt : i < n
        · have hii : (i : Int) < n := by omega
          obtain ⟨x, hx⟩ : ∃ x, bs[i]? = some x := ⟨bs[i]'(by rw [HCL.out]; exact hlt), List.getElem?_eq_getElem _⟩
          obtain ⟨r, hr⟩ : ∃ r, rs[i]? = some r := ⟨rs[i]'(by rw [HRL.out]; exact hlt), List.getElem?_eq_getElem _⟩
          have HW := Sd.mk (HA2.out.get hr hx)
          have HNX := Sd.mk (bld_take hx)
          have HOK := Sd.mk (bld_ok (bs.take i)).1
          obtain ⟨F, hF⟩ : ∃ F, bld (bs.take i) = F := ⟨_, rfl⟩
          rw [hF] at HNX HOK HM
          obtain ⟨F2, hF2⟩ : ∃ F2, (F.put x).2 = F2 := ⟨_, rfl⟩
          rw [hF2] at HNX
          have HF2 := Sd.mk hF2
          obtain ⟨b1, o1, rfl, p0, p1, p2, p3, p4, p5⟩ := Kee.bk_at HS4.out.row hr
          rw [HW.out.wk.v] at p0
          rw [HW.out.wk.p] at p1
          rw [HW.out.wk.jv] at p2
          rw [HW.out.wk.jb] at p3
          rw [HW.out.wk.n] at p5
          have HP := Sd.mk (fun W1 (hb : RowKit.Below w0.heap.size w0 W1) => (And.intro (cell_below hb p0) (And.intro (cell_below hb p1) (And.intro (cell_below hb p2) (And.intro (cell_below hb p3) (And.intro (cell_below hb p4) (cell_below hb p5)))))))
          obtain ⟨A1, n1, c1, A2, n2, c2, hE, hv⟩ := HM.out.ex
          have HE := Sd.mk hE
          have HV := Sd.mk hv
          have HGE0 := Sd.mk HM.out.fw.bel.size
          clear hx hr hF hF2 p0 p1 p2 p3 p4 p5 hE hv
          go_upto_region 8 with (fail)
          go_cut [9] from 34 to 55 (fun v9 wx => ∃ g9 A3 n3 c3' A4' n4 c4', v9 = .pointer (some ⟨g9, 0, none⟩) ∧ Sd (RowKit.Below wr.heap.size wr wx) ∧ Sd (wx.heap[g9]? = some (.cells #[.string F2.root, .int .i64 F2.height, .slice A3 n3 c3', .slice A4' n4 c4'] 70 (0, 0))) ∧ Sd (Rv w0 F2 (.slice A3 n3 c3') (.slice A4' n4 c4') wx))
          case first =>
            have b7 := below_drew' (w := wr) (Below.refl wr.heap.size wr)
            have HB7 := Sd.mk b7
            have HCE := Sd.mk (fun W2 (hb : RowKit.Below wr.drew.heap.size wr.drew W2) => show (fun W : World => W.cell? ⟨gw, 0, none⟩ = some (.string F.root) ∧ W.cell? ⟨gw, 1, none⟩ = some (.int .i64 F.height) ∧ W.cell? ⟨gw, 2, none⟩ = some (.slice A1 n1 c1) ∧ W.cell? ⟨gw, 3, none⟩ = some (.slice A2 n2 c2) ∧ W.cell? ⟨b1, o1 + i * 6, none⟩ = some (.int .i64 x.view) ∧ W.cell? ⟨b1, o1 + i * 6 + 1, none⟩ = some (.int .i64 x.prop) ∧ W.cell? ⟨b1, o1 + i * 6 + 2, none⟩ = some (.int .i64 x.just.view) ∧ W.cell? ⟨b1, o1 + i * 6 + 3, none⟩ = some (.string x.just.block) ∧ W.cell? ⟨b1, o1 + i * 6 + 4, none⟩ = some (.slice r.sa r.sn r.sc) ∧ W.cell? ⟨b1, o1 + i * 6 + 5, none⟩ = some (.slice r.a x.batch.length r.c)) W2 from (by have hb2 := below_then HB7.out hb; have hp := HP.out W2 (below_then HM.out.fw.bel hb2); exact ⟨blk_at (blk_keep HE.out hb2) 0 _ rfl, blk_at (blk_keep HE.out hb2) 1 _ rfl, blk_at (blk_keep HE.out hb2) 2 _ rfl, blk_at (blk_keep HE.out hb2) 3 _ rfl, hp.1, hp.2.1, hp.2.2.1, hp.2.2.2.1, hp.2.2.2.2.1, hp.2.2.2.2.2⟩))
            have S0 := HCE.out _ (Below.refl _ _)
            have HPUT := Sd.mk (fun W1 (hb : RowKit.Below wr.heap.size wr W1) => rput_sh (HV.out.below hb) HOK.out x r HW.out F2 HF2.out)
            clear b7
            refine Peel.region_peel (n := 11) (S := (fun W : World => W.cell? ⟨gw, 0, none⟩ = some (.string F.root) ∧ W.cell? ⟨gw, 1, none⟩ = some (.int .i64 F.height) ∧ W.cell? ⟨gw, 2, none⟩ = some (.slice A1 n1 c1) ∧ W.cell? ⟨gw, 3, none⟩ = some (.slice A2 n2 c2) ∧ W.cell? ⟨b1, o1 + i * 6, none⟩ = some (.int .i64 x.view) ∧ W.cell? ⟨b1, o1 + i * 6 + 1, none⟩ = some (.int .i64 x.prop) ∧ W.cell? ⟨b1, o1 + i * 6 + 2, none⟩ = some (.int .i64 x.just.view) ∧ W.cell? ⟨b1, o1 + i * 6 + 3, none⟩ = some (.string x.just.block) ∧ W.cell? ⟨b1, o1 + i * 6 + 4, none⟩ = some (.slice r.sa r.sn r.sc) ∧ W.cell? ⟨b1, o1 + i * 6 + 5, none⟩ = some (.slice r.a x.batch.length r.c))) (by kernel_rfl) (by kernel_rfl) S0 (fun hHeld => ?_)
            simp only [List.take_succ_cons, List.take_zero]
            generalize wr.drew = W7 at HB7 HCE S0 hHeld ⊢
            clear S0
            (refine Peel.take 0 (v := ?_) rfl rfl (by kernel_rfl) (by kernel_rfl) (by kernel_rfl) (fun _ _ _ h => h) (by assumption) ?_ ?_; rotate_left; (focus (intro w hSw; (try dsimp only at hSw); obtain ⟨s0, s1, s2, s3, s4, s5, s6, s7, s8, s9⟩ := hSw; (try simp only [List.getElem_toArray, List.getElem_cons_succ, List.getElem_cons_zero]); go_simp; try (with_reducible rfl))); try simp only [List.getElem_toArray, List.getElem_cons_succ, List.getElem_cons_zero, Act.put, List.setIfInBounds_toArray, List.set_cons_zero, List.set_cons_succ])
            (refine Peel.take 1 (v := ?_) rfl rfl (by kernel_rfl) (by kernel_rfl) (by kernel_rfl) (fun _ _ _ h => h) (by assumption) ?_ ?_; rotate_left; (focus (intro w hSw; (try dsimp only at hSw); obtain ⟨s0, s1, s2, s3, s4, s5, s6, s7, s8, s9⟩ := hSw; (try simp only [List.getElem_toArray, List.getElem_cons_succ, List.getElem_cons_zero]); go_simp; try (with_reducible rfl))); try simp only [List.getElem_toArray, List.getElem_cons_succ, List.getElem_cons_zero, Act.put, List.setIfInBounds_toArray, List.set_cons_zero, List.set_cons_succ])
            (refine Peel.take 2 (v := ?_) rfl rfl (by kernel_rfl) (by kernel_rfl) (by kernel_rfl) (fun _ _ _ h => h) (by assumption) ?_ ?_; rotate_left; (focus (intro w hSw; (try dsimp only at hSw); obtain ⟨s0, s1, s2, s3, s4, s5, s6, s7, s8, s9⟩ := hSw; (try simp only [List.getElem_toArray, List.getElem_cons_succ, List.getElem_cons_zero]); go_simp; try (with_reducible rfl))); try simp only [List.getElem_toArray, List.getElem_cons_succ, List.getElem_cons_zero, Act.put, List.setIfInBounds_toArray, List.set_cons_zero, List.set_cons_succ])
            (refine Peel.take 3 (v := ?_) rfl rfl (by kernel_rfl) (by kernel_rfl) (by kernel_rfl) (fun _ _ _ h => h) (by assumption) ?_ ?_; rotate_left; (focus (intro w hSw; (try dsimp only at hSw); obtain ⟨s0, s1, s2, s3, s4, s5, s6, s7, s8, s9⟩ := hSw; (try simp only [List.getElem_toArray, List.getElem_cons_succ, List.getElem_cons_zero]); go_simp; try (with_reducible rfl))); try simp only [List.getElem_toArray, List.getElem_cons_succ, List.getElem_cons_zero, Act.put, List.setIfInBounds_toArray, List.set_cons_zero, List.set_cons_succ])
            (refine Peel.take 4 (v := ?_) rfl rfl (by kernel_rfl) (by kernel_rfl) (by kernel_rfl) (fun _ _ _ h => h) (by assumption) ?_ ?_; rotate_left; (focus (intro w hSw; (try dsimp only at hSw); obtain ⟨s0, s1, s2, s3, s4, s5, s6, s7, s8, s9⟩ := hSw; (try simp only [List.getElem_toArray, List.getElem_cons_succ, List.getElem_cons_zero]); go_simp; try (with_reducible rfl))); try simp only [List.getElem_toArray, List.getElem_cons_succ, List.getElem_cons_zero, Act.put, List.setIfInBounds_toArray, List.set_cons_zero, List.set_cons_succ])
            refine wpAnyH_ready (rs := [5, 9]) (by kernel_rfl) (by simp) ?_
            refine AllReadyH.cons rfl (fun K hK => ?_) (AllReadyH.cons rfl (fun K hK => ?_) AllReadyH.nil)
            · go_simp
              go_at_call 42
              refine (HPUT.out _ HB7.out).mono ?_
              rintro e w5 ⟨A3, n3, c3', A4', n4', c4', rfl, hv5, hb5⟩
              have s5 := HCE.out _ hb5
              have HB5 := Sd.mk hb5
              have HV5 := Sd.mk hv5
              clear hb5 hv5
              (refine hK.out _ _ s5 (fun hHeld => ?_); (clear hK K; try simp only [List.getElem_toArray, List.getElem_cons_succ, List.getElem_cons_zero, Act.put, List.setIfInBounds_toArray, List.set_cons_zero, List.set_cons_succ]))
              clear s5
              (refine Peel.take 6 (v := ?_) rfl rfl (by kernel_rfl) (by kernel_rfl) (by kernel_rfl) (fun _ _ _ h => h) (by assumption) ?_ ?_; rotate_left; (focus (intro w hSw; (try dsimp only at hSw); obtain ⟨s0, s1, s2, s3, s4, s5, s6, s7, s8, s9⟩ := hSw; (try simp only [List.getElem_toArray, List.getElem_cons_succ, List.getElem_cons_zero]); go_simp; try (with_reducible rfl))); try simp only [List.getElem_toArray, List.getElem_cons_succ, List.getElem_cons_zero, Act.put, List.setIfInBounds_toArray, List.set_cons_zero, List.set_cons_succ])
              (refine Peel.take 7 (v := ?_) rfl rfl (by kernel_rfl) (by kernel_rfl) (by kernel_rfl) (fun _ _ _ h => h) (by assumption) ?_ ?_; rotate_left; (focus (intro w hSw; (try dsimp only at hSw); obtain ⟨s0, s1, s2, s3, s4, s5, s6, s7, s8, s9⟩ := hSw; (try simp only [List.getElem_toArray, List.getElem_cons_succ, List.getElem_cons_zero]); go_simp; try (with_reducible rfl))); try simp only [List.getElem_toArray, List.getElem_cons_succ, List.getElem_cons_zero, Act.put, List.setIfInBounds_toArray, List.set_cons_zero, List.set_cons_succ])
              (refine Peel.take 8 (v := ?_) rfl rfl (by kernel_rfl) (by kernel_rfl) (by kernel_rfl) (fun _ _ _ h => h) (by assumption) ?_ ?_; rotate_left; (focus (intro w hSw; (try dsimp only at hSw); obtain ⟨s0, s1, s2, s3, s4, s5, s6, s7, s8, s9⟩ := hSw; (try simp only [List.getElem_toArray, List.getElem_cons_succ, List.getElem_cons_zero]); go_simp; try (with_reducible rfl))); try simp only [List.getElem_toArray, List.getElem_cons_succ, List.getElem_cons_zero, Act.put, List.setIfInBounds_toArray, List.set_cons_zero, List.set_cons_succ])
              (refine wpAnyH_ready (rs := [9]) (by kernel_rfl) (by simp) ?_; refine AllReadyH.cons rfl (fun K hK => ?_) AllReadyH.nil)
              go_simp
              have b8 := below_one w5 (.cells #[.string ⟨#[]⟩, .int .i64 0, .slice none 0 0, .slice none 0 0] 70)
              have s6 := HCE.out _ (below_then HB5.out b8)
              have E9 := Sd.mk (blk_new w5 (.cells #[.string ⟨#[]⟩, .int .i64 0, .slice none 0 0, .slice none 0 0] 70))
              have HB9 := Sd.mk (below_then HB5.out b8)
              have HV9 := Sd.mk (HV5.out.below b8)
              have HG9 := Sd.mk HB5.out.size
              clear b8 HB5 HV5
              (refine hK.out _ _ s6 (fun hHeld => ?_); (clear hK K; try simp only [List.getElem_toArray, List.getElem_cons_succ, List.getElem_cons_zero, Act.put, List.setIfInBounds_toArray, List.set_cons_zero, List.set_cons_succ]))
              generalize w5.heap.size = g9 at E9 HG9 ⊢
              generalize w5.alloc _ = W8 at E9 HB9 HV9 s6 hHeld ⊢
              (clear s6; (have d0 := blk_at E9.out 0 _ rfl; have d1 := blk_at E9.out 1 _ rfl; have d2 := blk_at E9.out 2 _ rfl; have d3 := blk_at E9.out 3 _ rfl; have f0 := blk_frz E9.out 0; have f1 := blk_frz E9.out 1; have f2 := blk_frz E9.out 2; have f3 := blk_frz E9.out 3); (refine wpAnyH_ready (rs := [10]) (by kernel_rfl) (by simp) ?_; refine AllReadyH.cons rfl (fun K hK => ?_) AllReadyH.nil); go_simp; (clear d0 d1 d2 d3 f0 f1 f2 f3); have b9 := below_grown HB9.out (grown4 W8 g9 (.string F2.root) (.int .i64 F2.height) (.slice A3 n3 c3') (.slice A4' n4' c4')) HB9.out.size (fun j e => (Option.some.inj e) ▸ HG9.out); have s9 := HCE.out _ b9; have E10 := Sd.mk (blk_set3 (blk_set3 (blk_set3 (blk_set3 E9.out 0 (.string F2.root)) 1 (.int .i64 F2.height)) 2 (.slice A3 n3 c3')) 3 (.slice A4' n4' c4')); have HV10 := Sd.mk (HV9.out.turned E9.out (by decide) (grown4 W8 g9 (.string F2.root) (.int .i64 F2.height) (.slice A3 n3 c3') (.slice A4' n4' c4')) (Nat.le_trans HGE0.out (Nat.le_trans HB7.out.size HG9.out))); have HB10 := Sd.mk b9; clear b9; (refine hK.out _ _ s9 (fun hHeld => ?_); (clear hK K; try simp only [List.getElem_toArray, List.getElem_cons_succ, List.getElem_cons_zero, Act.put, List.setIfInBounds_toArray, List.set_cons_zero, List.set_cons_succ])); clear s9; (refine wpAnyH_done (by kernel_rfl) ?_ _; simp only [Peel.Qn, List.drop_succ_cons, List.drop_zero]; clear hHeld); go_wp2; go_meet; exact ⟨g9, A3, n3, c3', A4', n4', c4', rfl, ⟨below_then HB7.out HB10.out⟩, E10, HV10⟩)
            · go_simp
              have b8 := below_one W7 (.cells #[.string ⟨#[]⟩, .int .i64 0, .slice none 0 0, .slice none 0 0] 70)
              have s6 := HCE.out _ b8
              have E8 := Sd.mk (blk_new W7 (.cells #[.string ⟨#[]⟩, .int .i64 0, .slice none 0 0, .slice none 0 0] 70))
              have HB8 := Sd.mk b8
              have HG9 := Sd.mk (Nat.le_refl W7.heap.size)
              clear b8
              (refine hK.out _ _ s6 (fun hHeld => ?_); (clear hK K; try simp only [List.getElem_toArray, List.getElem_cons_succ, List.getElem_cons_zero, Act.put, List.setIfInBounds_toArray, List.set_cons_zero, List.set_cons_succ]))
              clear s6
              generalize hg9 : W7.heap.size = g9 at E8 HG9 ⊢
              have HG9 := Sd.mk (show W7.heap.size ≤ g9 by omega)
              clear hg9
              generalize W7.alloc _ = W8 at E8 HB8 hHeld ⊢
              (refine wpAnyH_ready (rs := [5]) (by kernel_rfl) (by simp) ?_; refine AllReadyH.cons rfl (fun K hK => ?_) AllReadyH.nil)
              go_simp
              go_at_call 42
              refine (HPUT.out _ (below_then HB7.out HB8.out)).mono ?_
              rintro e w5 ⟨A3, n3, c3', A4', n4', c4', rfl, hv5, hb5⟩
              have HB9 := Sd.mk (below_then HB8.out hb5)
              have E9 := Sd.mk (blk_keep E8.out hb5)
              have s6 := HCE.out _ HB9.out
              have HV9 := Sd.mk hv5
              clear hb5 hv5 HB8 E8
              (refine hK.out _ _ s6 (fun hHeld => ?_); (clear hK K; try simp only [List.getElem_toArray, List.getElem_cons_succ, List.getElem_cons_zero, Act.put, List.setIfInBounds_toArray, List.set_cons_zero, List.set_cons_succ]))
              (refine Peel.take 6 (v := ?_) rfl rfl (by kernel_rfl) (by kernel_rfl) (by kernel_rfl) (fun _ _ _ h => h) (by assumption) ?_ ?_; rotate_left; (focus (intro w hSw; (try dsimp only at hSw); obtain ⟨s0, s1, s2, s3, s4, s5, s6, s7, s8, s9⟩ := hSw; (try simp only [List.getElem_toArray, List.getElem_cons_succ, List.getElem_cons_zero]); go_simp; try (with_reducible rfl))); try simp only [List.getElem_toArray, List.getElem_cons_succ, List.getElem_cons_zero, Act.put, List.setIfInBounds_toArray, List.set_cons_zero, List.set_cons_succ])
              (refine Peel.take 7 (v := ?_) rfl rfl (by kernel_rfl) (by kernel_rfl) (by kernel_rfl) (fun _ _ _ h => h) (by assumption) ?_ ?_; rotate_left; (focus (intro w hSw; (try dsimp only at hSw); obtain ⟨s0, s1, s2, s3, s4, s5, s6, s7, s8, s9⟩ := hSw; (try simp only [List.getElem_toArray, List.getElem_cons_succ, List.getElem_cons_zero]); go_simp; try (with_reducible rfl))); try simp only [List.getElem_toArray, List.getElem_cons_succ, List.getElem_cons_zero, Act.put, List.setIfInBounds_toArray, List.set_cons_zero, List.set_cons_succ])
              (refine Peel.take 8 (v := ?_) rfl rfl (by kernel_rfl) (by kernel_rfl) (by kernel_rfl) (fun _ _ _ h => h) (by assumption) ?_ ?_; rotate_left; (focus (intro w hSw; (try dsimp only at hSw); obtain ⟨s0, s1, s2, s3, s4, s5, s6, s7, s8, s9⟩ := hSw; (try simp only [List.getElem_toArray, List.getElem_cons_succ, List.getElem_cons_zero]); go_simp; try (with_reducible rfl))); try simp only [List.getElem_toArray, List.getElem_cons_succ, List.getElem_cons_zero, Act.put, List.setIfInBounds_toArray, List.set_cons_zero, List.set_cons_succ])
              (clear s6; (have d0 := blk_at E9.out 0 _ rfl; have d1 := blk_at E9.out 1 _ rfl; have d2 := blk_at E9.out 2 _ rfl; have d3 := blk_at E9.out 3 _ rfl; have f0 := blk_frz E9.out 0; have f1 := blk_frz E9.out 1; have f2 := blk_frz E9.out 2; have f3 := blk_frz E9.out 3); (refine wpAnyH_ready (rs := [10]) (by kernel_rfl) (by simp) ?_; refine AllReadyH.cons rfl (fun K hK => ?_) AllReadyH.nil); go_simp; (clear d0 d1 d2 d3 f0 f1 f2 f3); have b9 := below_grown HB9.out (grown4 w5 g9 (.string F2.root) (.int .i64 F2.height) (.slice A3 n3 c3') (.slice A4' n4' c4')) HB9.out.size (fun j e => (Option.some.inj e) ▸ HG9.out); have s9 := HCE.out _ b9; have E10 := Sd.mk (blk_set3 (blk_set3 (blk_set3 (blk_set3 E9.out 0 (.string F2.root)) 1 (.int .i64 F2.height)) 2 (.slice A3 n3 c3')) 3 (.slice A4' n4' c4')); have HV10 := Sd.mk (HV9.out.turned E9.out (by decide) (grown4 w5 g9 (.string F2.root) (.int .i64 F2.height) (.slice A3 n3 c3') (.slice A4' n4' c4')) (Nat.le_trans HGE0.out (Nat.le_trans HB7.out.size HG9.out))); have HB10 := Sd.mk b9; clear b9; (refine hK.out _ _ s9 (fun hHeld => ?_); (clear hK K; try simp only [List.getElem_toArray, List.getElem_cons_succ, List.getElem_cons_zero, Act.put, List.setIfInBounds_toArray, List.set_cons_zero, List.set_cons_succ])); clear s9; (refine wpAnyH_done (by kernel_rfl) ?_ _; simp only [Peel.Qn, List.drop_succ_cons, List.drop_zero]; clear hHeld); go_wp2; go_meet; exact ⟨g9, A3, n3, c3', A4', n4', c4', rfl, ⟨below_then HB7.out HB10.out⟩, E10, HV10⟩)
          case rest =>
            obtain ⟨g9, A3, n3, c3', A4', n4', c4', rfl, HBx, E9, HV9⟩ := hcut
            have HEx := Sd.mk (blk_keep HE.out HBx.out)
            have HFx := Sd.mk (HM.out.fw.below HBx.out)
            have HGW := Sd.mk HM.out.ge
            clear HBx HE HV HM
            generalize wc = W8 at E9 HV9 HEx HFx ⊢
            (have c0 := blk_at E9.out 0 _ rfl; have c1' := blk_at E9.out 1 _ rfl; have c2' := blk_at E9.out 2 _ rfl; have c3 := blk_at E9.out 3 _ rfl)
            (have d0 := blk_at HEx.out 0 _ rfl; have d1 := blk_at HEx.out 1 _ rfl; have d2 := blk_at HEx.out 2 _ rfl; have d3 := blk_at HEx.out 3 _ rfl; have f0 := blk_frz HEx.out 0; have f1 := blk_frz HEx.out 1; have f2 := blk_frz HEx.out 2; have f3 := blk_frz HEx.out 3)
            go_upto_region 10 with (fail)
            (clear c0 c1' c2' c3)
            (clear d0 d1 d2 d3 f0 f1 f2 f3)
            have hg := grown4 W8 gw (.string F2.root) (.int .i64 F2.height) (.slice A3 n3 c3') (.slice A4' n4' c4')
            have E10 := Sd.mk (blk_set3 (blk_set3 (blk_set3 (blk_set3 HEx.out 0 (.string F2.root)) 1 (.int .i64 F2.height)) 2 (.slice A3 n3 c3')) 3 (.slice A4' n4' c4'))
            have HV10 := Sd.mk (HV9.out.turned HEx.out (by decide) hg HGW.out)
            have HF10 := Sd.mk (HFx.out.turned HEx.out (by decide) (by decide) HGW.out hg)
            clear hg E9 HV9 HEx HFx
            generalize (((World.setCell _ _ _).setCell _ _).setCell _ _).setCell _ _ = W10 at E10 HV10 HF10 ⊢
            obtain ⟨p0, p1, p2, p3, p4, p5⟩ := HP.out W10 HF10.out.bel
            have HPU := Sd.mk (put_any HF10.out HOK.out x r HW.out)
            rw [HF2.out] at HPU
            go_wp2_with (first
              | (go_at_call 36; (with_reducible refine HPU.out.mono ?_); rintro e w11 ⟨rfl, hf, hr⟩; have HM11 := Sd.mk (mw_put (A := A3) (n := n3) (c := c3') (A2 := A4') (n2 := n4') (c2 := c4') HGW.out E10.out HV10.out hf hr); clear hf hr p0 p1 p2 p3 p4 p5))
            go_roundg (gk - 1)
            case measure => omega
            case rel => exact ⟨i + 1, by omega, by go_num, ⟨by rw [HNX.out]; exact HM11.out⟩⟩

        · have hii : decide (i < n) = false := decide_eq_false (by omega)
          have hii2 : decide ((i : Int) < (n : Int)) = false := decide_eq_false (by omega)
          obtain ⟨F, hF⟩ : ∃ F, bld bs = F := ⟨_, rfl⟩
          have HM2 := Sd.mk (show Mw w0 g gw F wr by have h := HM.out; rwa [List.take_of_length_le (by rw [HCL.out]; omega), hF] at h)
          have HOK := Sd.mk (bld_ok bs)
          have HOR := Sd.mk (bld_ord bs)
          have HCN := Sd.mk (cnt_bld bs)
          have HNH := Sd.mk (non_has bs)
          have HNG := Sd.mk (non_hgt bs)
          have HOF := Sd.mk (bld_of (P := fun x => x.just.block.size ≤ maxLen) bs (fun x hx => just_le (HSZ.out x hx)))
          rw [hF] at HOK HOR HCN HNH HNG HOF
          have HRZ := Sd.mk (show F.root.size ≤ maxLen by rw [HOK.out.2.2.1, Crt.FB_size]; unfold maxLen; omega)
          have HBZ := Sd.mk HOF.out.nd
          have HUP := Sd.mk (fun s => upx_of HOR.out s)
          have HC2 := Sd.mk (show F.nodes.length ≤ 30 by have := HCN.out; rw [HCL.out] at this; omega)
          obtain ⟨A1, n1, c1, A2, n2, c2, hE, hv⟩ := HM2.out.ex
          have HE := Sd.mk hE
          have HV := Sd.mk hv
          have EA2 := Sd.mk (blk_keep EA.out (below_then HB0.out HM2.out.fw.bel))
          clear HM hE hv hF
          go_upto_region 11 with (fail)
          have c0 := blk_at HE.out 0 _ rfl
          go_quiet (fail)
          have bq := below_drewN (Below.refl wr.heap.size wr) nq
          have HF9 := Sd.mk (HM2.out.fw.below bq)
          have HV9 := Sd.mk (HV.out.below bq)
          have HE9 := Sd.mk (blk_keep HE.out bq)
          have EA9 := Sd.mk (blk_keep EA2.out bq)
          clear c0 bq HE HV HM2 EA2
          generalize wr.drewN nq = W9 at HF9 HV9 HE9 EA9 ⊢
          have hA4 : ∃ g1 o1, A4 = some ⟨g1, o1, none⟩ := by
            obtain ⟨r, hr⟩ : ∃ r, rs[0]? = some r := ⟨rs[0]'(by rw [HRL.out]; omega), List.getElem?_eq_getElem _⟩
            obtain ⟨g1, o1, e, -⟩ := Kee.bk_at HS4.out.row hr
            exact ⟨g1, o1, e⟩
          obtain ⟨g1, o1, rfl⟩ := hA4
          have HCEL := Sd.mk (fun (k : Nat) (hk : k < n) W1 (hb : RowKit.Below W9.heap.size W9 W1) => (show ∃ (x : Block) (r : Bk), Bw w0 r x ∧ W1.cell? ⟨g1, o1 + k * 6, none⟩ = some (.int .i64 x.view) ∧ W1.cell? ⟨g1, o1 + k * 6 + 1, none⟩ = some (.int .i64 x.prop) ∧ W1.cell? ⟨g1, o1 + k * 6 + 2, none⟩ = some (.int .i64 x.just.view) ∧ W1.cell? ⟨g1, o1 + k * 6 + 3, none⟩ = some (.string x.just.block) ∧ W1.cell? ⟨g1, o1 + k * 6 + 4, none⟩ = some (.slice r.sa r.sn r.sc) ∧ W1.cell? ⟨g1, o1 + k * 6 + 5, none⟩ = some (.slice r.a x.batch.length r.c) from by
            obtain ⟨x, hx⟩ : ∃ x, bs[k]? = some x := ⟨bs[k]'(by rw [HCL.out]; exact hk), List.getElem?_eq_getElem _⟩
            obtain ⟨r, hr⟩ : ∃ r, rs[k]? = some r := ⟨rs[k]'(by rw [HRL.out]; exact hk), List.getElem?_eq_getElem _⟩
            have hw := HA2.out.get hr hx
            obtain ⟨g1', o1', e, p0, p1, p2, p3, p4, p5⟩ := Kee.wk_at HS4.out.row hr hw.wk
            cases e
            have hbb := below_then HF9.out.bel hb
            exact ⟨x, r, hw, cell_below hbb p0, cell_below hbb p1, cell_below hbb p2, cell_below hbb p3, cell_below hbb p4, cell_below hbb p5⟩))
          have HDG := Sd.mk (fun (x : Block) (r : Bk) (hw : Bw w0 r x) (d : ByteArray) (hd : digB x = d) W1 (hb : RowKit.Below W9.heap.size W9 W1) => Blk.rdig_any W1 x r.sa r.sn r.sc r.a x.batch.length r.c (hw.wk.sl.below (below_then HF9.out.bel hb)) rfl d hd (by have := hw.sz; omega))
          have HDZ := Sd.mk (fun (x : Block) (d : ByteArray) (hd : digB x = d) => (show d.size ≤ maxLen by rw [← hd, Blk.digB_size]; unfold maxLen; omega))
          clear HS4 HA2 HRL HCL HSZ
          have kn0 : (0 : Int) < (n : Int) := by omega
          obtain ⟨ka, hka⟩ : ∃ k, a % n = k := ⟨_, rfl⟩
          obtain ⟨kb, hkb⟩ : ∃ k, b % n = k := ⟨_, rfl⟩
          have HKA := Sd.mk (show ka < n by rw [← hka]; exact Nat.mod_lt _ (by omega))
          have HKB := Sd.mk (show kb < n by rw [← hkb]; exact Nat.mod_lt _ (by omega))
          have hra : ((a : Int)).tmod (n : Int) = (ka : Int) := by rw [Int.tmod_eq_emod_of_nonneg (by omega), ← hka]; omega
          have hrb : ((b : Int)).tmod (n : Int) = (kb : Int) := by rw [Int.tmod_eq_emod_of_nonneg (by omega), ← hkb]; omega
          clear hka hkb
          have a0 := blk_at EA9.out 0 _ rfl
          obtain ⟨ta, hta⟩ : ∃ t, decide (0 < a) = t := ⟨_, rfl⟩
          have hta2 : decide ((0 : Int) < (a : Int)) = ta := by rw [← hta, decide_eq_decide]; omega
          go_upto_if 62 with (fail)
          clear hta hta2
          go_cut [11] from 63 to 72 (fun v11 wx => ∃ s, v11 = .string s ∧ Sd (s.size ≤ maxLen) ∧ Sd (RowKit.Below W9.heap.size W9 wx))
          case first =>
            obtain ⟨x, r, hw, p0, p1, p2, p3, p4, p5⟩ := HCEL.out ka HKA.out W9 (Below.refl _ _)
            obtain ⟨d, hd⟩ : ∃ d, digB x = d := ⟨_, rfl⟩
            have HD1 := Sd.mk (HDG.out x r hw d hd W9 (Below.refl _ _))
            have HD2 := Sd.mk (HDZ.out x d hd)
            have kk0 : (0 : Int) ≤ (ka : Int) := by omega
            have kk1 : (ka : Int) < (n : Int) := by have := HKA.out; omega
            have ka1 : (a : Int) < 256 := by have := HAB.out.1; omega
            have ka0 : (0 : Int) ≤ (a : Int) := by omega
            clear hw hd hrb
            cases ta with
            | true =>
              go_wp2_with (first
                | (go_at_call 27; (with_reducible refine HD1.out.mono ?_); rintro e w5 ⟨rfl, hb⟩; have HB5 := Sd.mk hb; clear hb))
              go_meet
              exact ⟨d, rfl, HD2, HB5⟩
            | false =>
              go_wp2
              go_meet
              exact ⟨F.root, rfl, HRZ, ⟨Below.refl _ _⟩⟩
          case rest =>
            obtain ⟨s, rfl, HSZ1, HB1⟩ := hcut
            clear hra a0
            generalize wc = Wb at HB1 ⊢
            have a1 := blk_at (blk_keep EA9.out HB1.out) 1 _ rfl
            obtain ⟨tb, htb⟩ : ∃ t, decide (0 < b) = t := ⟨_, rfl⟩
            have htb2 : decide ((0 : Int) < (b : Int)) = tb := by rw [← htb, decide_eq_decide]; omega
            go_upto_if 75 with (fail)
            clear htb htb2
            go_cut [12] from 76 to 85 (fun v12 wx => ∃ t, v12 = .string t ∧ Sd (t.size ≤ maxLen) ∧ Sd (RowKit.Below W9.heap.size W9 wx))
            case first =>
              obtain ⟨x, r, hw, p0, p1, p2, p3, p4, p5⟩ := HCEL.out kb HKB.out Wb HB1.out
              obtain ⟨d, hd⟩ : ∃ d, digB x = d := ⟨_, rfl⟩
              have HD1 := Sd.mk (HDG.out x r hw d hd Wb HB1.out)
              have HD2 := Sd.mk (HDZ.out x d hd)
              have kk0 : (0 : Int) ≤ (kb : Int) := by omega
              have kk1 : (kb : Int) < (n : Int) := by have := HKB.out; omega
              have ka1 : (b : Int) < 256 := by have := HAB.out.2; omega
              have ka0 : (0 : Int) ≤ (b : Int) := by omega
              clear hw hd
              cases tb with
              | true =>
                go_wp2_with (first
                  | (go_at_call 27; (with_reducible refine HD1.out.mono ?_); rintro e w5 ⟨rfl, hb⟩; have HB5 := Sd.mk (below_then HB1.out hb); clear hb))
                go_meet
                exact ⟨d, rfl, HD2, HB5⟩
              | false =>
                go_wp2
                go_meet
                exact ⟨F.root, rfl, HRZ, HB1⟩
            case rest =>
              obtain ⟨t, rfl, HSZ2, HB2⟩ := hcut
              clear hrb a1 HCEL HDG HDZ HB1
              generalize wc = Wc at HB2 ⊢
              obtain ⟨xs, hxs, hxl⟩ := HUP.out t
              have hx1000 : xs.length ≤ 1000 := by have := HC2.out; omega
              have HXS := Sd.mk (And.intro hxs hxl)
              have HFc := Sd.mk (HF9.out.below HB2.out)
              have HVc := Sd.mk (HV9.out.below HB2.out)
              have HEc := Sd.mk (blk_keep HE9.out HB2.out)
              have HBc := Sd.mk (below_then HB.out (below_then HB0.out HFc.out.bel))
              have HP1 := Sd.mk (path_sh HFc.out HRZ.out HBZ.out s t HSZ2.out xs hxs hx1000)
              have HP2 := Sd.mk (fun W1 (hb : RowKit.Below Wc.heap.size Wc W1) => rpath_any (HVc.out.below hb) s t xs hxs hxl hx1000)
              have HX1 := Sd.mk (fun W1 (hb : RowKit.Below Wc.heap.size Wc W1) => extends_any (HFc.out.below hb) HRZ.out HBZ.out t s HSZ2.out xs hxs hx1000 _ rfl)
              have HX2 := Sd.mk (fun W1 (hb : RowKit.Below Wc.heap.size Wc W1) => extends_any (HFc.out.below hb) HRZ.out HBZ.out NON s (by decide) [] (.inl ⟨HNH.out, rfl⟩) (by simp) false rfl)
              have HX3 := Sd.mk (fun W1 (hb : RowKit.Below Wc.heap.size Wc W1) => has_any (HFc.out.below hb) NON (by decide) false HNH.out)
              have HX4 := Sd.mk (fun W1 (hb : RowKit.Below Wc.heap.size Wc W1) => hgt_any (HFc.out.below hb) NON (by decide) (-1) HNG.out)
              unfold NON at HX2 HX3 HX4
              clear hxs hxl hx1000 HUP HC2 HE9 HV9 HF9 EA9 HB HB0
              go_upto_region 17 with (first
                | (go_at_call 43; (with_reducible refine HP1.out.mono ?_); rintro e wd ⟨Ap, np, cp, ok1, rfl, hp⟩; have HPA := Sd.mk hp; clear hp))
              have E8 := Sd.mk (blk_keep HEc.out HPA.out.bel)
              have c0 := blk_at E8.out 0 _ rfl
              have c1' := blk_at E8.out 1 _ rfl
              have c2' := blk_at E8.out 2 _ rfl
              have c3 := blk_at E8.out 3 _ rfl
              go_upto_region 18 with (first
                | (go_at_call 44; (with_reducible refine (HP2.out _ HPA.out.bel).mono ?_); rintro e we ⟨Aq, nq', cq, ok2, rfl, hp⟩; have HPB := Sd.mk hp; clear hp))
              clear c0 c1' c2' c3 E8
              obtain ⟨k1, k2, k3, lst, k4, k5, k6⟩ := pa_same HPA.out HPB.out
              subst k3
              obtain ⟨am, ham⟩ : ∃ z, amg xs s = z := ⟨_, rfl⟩
              rw [ham] at k1 k2 HX1
              subst k1
              subst k2
              have HBE := Sd.mk (below_then HPA.out.bel HPB.out.bel)
              have HSM := Sd.mk (same_eq we Ap Aq cp cq lst (k5.below HPB.out.bel) k6 nq' k4)
              clear k4 k5 k6 ham
              have HPX := Sd.mk (And.intro HPA.out.bel HPB.out.bel)
              clear HPA HPB
              go_wp2_with (first
                | (go_at_call 45; (with_reducible refine HSM.out.mono ?_); rintro e wf ⟨rfl, hb⟩; have HBF := Sd.mk (below_then HBE.out hb); clear hb)
                | (go_at_call 46; (first | ((with_reducible refine (HX1.out _ HBF.out).mono ?_); rintro e wg ⟨rfl, hb⟩; have HBG := Sd.mk (below_then HBF.out hb); clear hb) | ((with_reducible refine (HX2.out _ HBG.out).mono ?_); rintro e wh ⟨rfl, hb⟩; have HBH := Sd.mk (below_then HBG.out hb); clear hb)))
                | (go_at_call 40; (with_reducible refine (HX3.out _ HBH.out).mono ?_); rintro e wi ⟨rfl, hb⟩; have HBI := Sd.mk (below_then HBH.out hb); clear hb)
                | (go_at_call 47; (with_reducible refine (HX4.out _ HBI.out).mono ?_); rintro e wj ⟨rfl, hb⟩; have HBJ := Sd.mk (below_then HBI.out hb); clear hb))
              go_ret
              exact ⟨rfl, below_then HBc.out HBJ.out⟩
  · have d30 : decide ((30 : Int) < (n : Int)) = true := decide_eq_true (by omega)
    have d30b : decide (30 < n) = true := decide_eq_true (by omega)
    go_enter Try.func8, Try.ntmps8
    go_upto_region 1 with (fail)
    generalize w.alloc _ = W1 at HB ⊢
    go_wp2_with (first
      | (go_at_call 34; (with_reducible refine (awake7_any _).mono ?_); rintro e w2 ⟨rfl, hb⟩; have HB2 := Sd.mk (below_then HB.out hb); clear HB; have HB := HB2; clear HB2 hb))
    go_ret
    exact ⟨rfl, HB.out⟩
-- L1>
theorem fp_row (w : World) (A : Option Addr) (c : Nat) (l : List (List Int)) (h1 : l.length ≤ c) (h2 : c ≤ maxLen) (h3 : Row (Rk.arr (Rk.int .u8) 3) w A l) (at_ : List Int) (cs2 : Array Value) (ha : (Rk.arr (Rk.int .u8) 2).K w at_ cs2.toList) :
    Calls Try.prog 8 #[.slice A l.length c, .agg cs2] w fun e w' => e = .returned (.bool true) ∧ RowKit.Below w.heap.size w w' := by
  obtain ⟨l', hl, hsl, h8⟩ := Kee.tl_of h1 h2 h3
  obtain ⟨a, b, rfl, ha1, hb1⟩ := a2_of ha
  exact fp_law w A c l' hsl h8 _ hl.symm a b ha1 hb1
end Go.Proofs.Ytnomgkmeomlccaa.Fst

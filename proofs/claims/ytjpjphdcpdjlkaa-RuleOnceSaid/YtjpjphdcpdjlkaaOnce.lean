/- RuleOnce, walked: for all states, and lists of blocks. -/
import Derived.Test.YtjpjphdcpdjlkaaRule
import Derived.Test.YtjpjphdcpdjlkaaMv
import Derived.Deep.RegionHeld3
import Derived.Deep.LoopGhost
import Derived.Deep.CutBlock
import Derived.Deep.DeepCutAuto
import Derived.IntWalk
set_option linter.unusedVariables false
set_option linter.unusedSimpArgs false
namespace Go.Proofs.Ytjpjphdcpdjlkaa.Rule
open Go.RowKit Rd Api Few Own Mv


theorem info_int : (Try.prog.info? 3).map (fun i => (i.zero, i.size, i.bytes)) = some (some (.int .i64 0), 1, 8) := by kernel_rfl
/-- what a round finds -/
def Sts (w : World) (h2 : Nat) (sv sl : Int) (v5 : Value) (vs : List Int) (W : World) : Prop :=
  W.heap[h2]? = some (.cells #[.int .i64 sv, .int .i64 sl] 26) ∧ Below w.heap.size w W ∧ OwnR (fun x => [.int .i64 x]) 1 W w.heap.size 3 v5 vs
theorem mv_sts (w : World) (h2 : Nat) (sv sl : Int) (v5 : Value) (vs : List Int) : Mv (Sts w h2 sv sl v5 vs) := mv_and (mv_blk _ _) (mv_and (mv_bel w) (mv_own _ _ _ _ _ _))
theorem Sts.bel {w : World} {h2 : Nat} {sv sl : Int} {v5 : Value} {vs : List Int} {W : World} (h : Sts w h2 sv sl v5 vs W) : Below w.heap.size w W := h.2.1
/-- a block that lies in a row -/
def El (b oi : Nat) (x : Blk) (C : Option Addr) (c' : Nat) (B : Option Addr) (d : Nat) (W : World) : Prop := (W).cell? ⟨b, oi, none⟩ = some (.int .i64 x.view) ∧ (W).cell? ⟨b, oi + 1, none⟩ = some (.int .i64 x.prop) ∧ (W).cell? ⟨b, oi + 2, none⟩ = some (.int .i64 x.just.view) ∧ (W).cell? ⟨b, oi + 3, none⟩ = some (.string x.just.block) ∧ (W).cell? ⟨b, oi + 4, none⟩ = some (.slice C x.just.sigs.length c') ∧ (W).cell? ⟨b, oi + 5, none⟩ = some (.slice B x.batch.length d)
theorem mv_el (b oi : Nat) (x : Blk) (C : Option Addr) (c' : Nat) (B : Option Addr) (d : Nat) : Mv (El b oi x C c' B d) := mv_and (mv_cell _ _) (mv_and (mv_cell _ _) (mv_and (mv_cell _ _) (mv_and (mv_cell _ _) (mv_and (mv_cell _ _) (mv_cell _ _)))))
def Fnd (w : World) (h2 : Nat) (sv sl : Int) (v5 : Value) (vs : List Int) (b oi : Nat) (x : Blk) (C : Option Addr) (c' : Nat) (B : Option Addr) (d : Nat) (W : World) : Prop := Sts w h2 sv sl v5 vs W ∧ El b oi x C c' B d W
section
variable {w W W1 : World} {h2 : Nat} {sv sl : Int} {v5 : Value} {vs : List Int} {b oi : Nat} {x : Blk} {C : Option Addr} {c' : Nat} {B : Option Addr} {d : Nat}
theorem mv_fnd (w : World) (h2 : Nat) (sv sl : Int) (v5 : Value) (vs : List Int) (b oi : Nat) (x : Blk) (C : Option Addr) (c' : Nat) (B : Option Addr) (d : Nat) : Mv (Fnd w h2 sv sl v5 vs b oi x C c' B d) := mv_and (mv_sts _ _ _ _ _ _) (mv_el _ _ _ _ _ _ _)
theorem Fnd.all (h : Fnd w h2 sv sl v5 vs b oi x C c' B d W) : W.cell? ⟨h2, 0, none⟩ = some (.int .i64 sv) ∧ W.cell? ⟨h2, 1, none⟩ = some (.int .i64 sl) ∧ ((W).cell? ⟨b, oi, none⟩ = some (.int .i64 x.view) ∧ (W).cell? ⟨b, oi + 1, none⟩ = some (.int .i64 x.prop) ∧ (W).cell? ⟨b, oi + 2, none⟩ = some (.int .i64 x.just.view) ∧ (W).cell? ⟨b, oi + 3, none⟩ = some (.string x.just.block) ∧ (W).cell? ⟨b, oi + 4, none⟩ = some (.slice C x.just.sigs.length c') ∧ (W).cell? ⟨b, oi + 5, none⟩ = some (.slice B x.batch.length d)) ∧ Sd (Fnd w h2 sv sl v5 vs b oi x C c' B d W) := ⟨blk_at h.1.1 0 _ rfl, blk_at h.1.1 1 _ rfl, h.2, ⟨h⟩⟩
theorem Fnd.below (h : Fnd w h2 sv sl v5 vs b oi x C c' B d W) (hb : Below W.heap.size W W1) : Fnd w h2 sv sl v5 vs b oi x C c' B d W1 := (mv_fnd _ _ _ _ _ _ _ _ _ _ _ _ _).below h hb
theorem Fnd.drew (h : Fnd w h2 sv sl v5 vs b oi x C c' B d W) : Fnd w h2 sv sl v5 vs b oi x C c' B d W.drew := (mv_fnd _ _ _ _ _ _ _ _ _ _ _ _ _).drew h
theorem Fnd.alloc (h : Fnd w h2 sv sl v5 vs b oi x C c' B d W) (o : Obj) : Fnd w h2 sv sl v5 vs b oi x C c' B d (W.alloc o) := (mv_fnd _ _ _ _ _ _ _ _ _ _ _ _ _).alloc h o
theorem Fnd.set2 {W0 : World} {k : Nat} (h : Fnd w h2 sv sl v5 vs b oi x C c' B d W) (h0 : Fnd w h2 sv sl v5 vs b oi x C c' B d W0) (hk : W0.heap.size ≤ k) (u v : Value) : Fnd w h2 sv sl v5 vs b oi x C c' B d ((W.setCell ⟨k, 0, none⟩ u).setCell ⟨k, 1, none⟩ v) :=
  (mv_fnd _ _ _ _ _ _ _ _ _ _ _ _ _).set 1 v h0 ((mv_fnd _ _ _ _ _ _ _ _ _ _ _ _ _).set 0 u h0 h hk) hk
end
theorem own_set {W W0 : World} {w : World} {v5 : Value} {vs : List Int} {h2 j : Nat} {u : Value} {cs : Array Value} (h : OwnR (fun x => [.int .i64 x]) 1 W w.heap.size 3 v5 vs) (h0 : OwnR (fun x => [.int .i64 x]) 1 W0 w.heap.size 3 v5 vs) (k : W0.heap[h2]? = some (.cells cs 26 (0, 0))) : OwnR (fun x => [.int .i64 x]) 1 (W.setCell ⟨h2, j, none⟩ u) w.heap.size 3 v5 vs :=
  OwnR.grown h (row := some h2) ⟨rfl, rfl, rfl, by simp [World.setCell], fun i hi hr => heap_set _ _ j u i (fun e => hr (by rw [e]))⟩ (.inr (OwnR.blk h0 k (by decide)))
/-- The views of the votes: each above the one ahead of it, none above the last vote's. -/
def Ris (sv : Int) (vs : List Int) : Prop := vs.Pairwise (· < ·) ∧ ∀ v ∈ vs, v ≤ sv
theorem ris_nil (sv : Int) : Ris sv [] := ⟨List.Pairwise.nil, fun v h => by simp at h⟩
theorem ris_more {sv x : Int} {vs : List Int} (h : Ris sv vs) (hx : sv < x) : Ris x (vs ++ [x]) := by
  refine ⟨List.pairwise_append.2 ⟨h.1, List.pairwise_singleton _ _, fun a ha b hb => ?_⟩, fun v hv => ?_⟩
  · simp only [List.mem_singleton] at hb
    have := h.2 a ha
    omega
  · rcases List.mem_append.1 hv with hv | hv
    · have := h.2 v hv; omega
    · simp only [List.mem_singleton] at hv; omega
theorem ris_at {sv : Int} {vs : List Int} (h : Ris sv vs) {i : Nat} (h0 : 0 < i) (hi : i < vs.length) : vs[i - 1] < vs[i] :=
  List.pairwise_iff_getElem.1 h.1 (i - 1) i (by omega) hi (by omega)
theorem blk_at' {w : World} {A : Option Addr} {l : List Blk} (h : Row blkK w A l) {i : Nat} (hi : i < l.length) : ∃ b o C c B d, A = some ⟨b, o, none⟩ ∧ b < w.heap.size ∧
    (w.cell? ⟨b, o + i * 6, none⟩ = some (.int .i64 l[i].view) ∧ w.cell? ⟨b, o + i * 6 + 1, none⟩ = some (.int .i64 l[i].prop) ∧ w.cell? ⟨b, o + i * 6 + 2, none⟩ = some (.int .i64 l[i].just.view) ∧ w.cell? ⟨b, o + i * 6 + 3, none⟩ = some (.string l[i].just.block) ∧ w.cell? ⟨b, o + i * 6 + 4, none⟩ = some (.slice C l[i].just.sigs.length c) ∧ w.cell? ⟨b, o + i * 6 + 5, none⟩ = some (.slice B l[i].batch.length d)) ∧
    l[i].just.block.size ≤ maxLen ∧ Sl sigK w C c l[i].just.sigs ∧ Sl reqK w B d l[i].batch := by
  obtain ⟨b, o, cs, hA, hk, hc⟩ := h i l[i] (List.getElem?_eq_getElem hi)
  obtain ⟨C, c, B, d, rfl, -, -, -, h1, h2, h3⟩ := blk_open hk
  exact ⟨b, o, C, c, B, d, hA, World.block_lt_of_cell? w _ (hc 0 _ rfl), ⟨hc 0 _ rfl, hc 1 _ rfl, hc 2 _ rfl, hc 3 _ rfl, hc 4 _ rfl, hc 5 _ rfl⟩, h1, h2, h3⟩

set_option maxHeartbeats 8000000 in
set_option maxRecDepth 100000 in
theorem once_few (w : World) (sv sl : Int) (A : Option Addr) (c : Nat) (l : List Blk) (hn : l.length ≤ 40) (hl : Row blkK w A l) :
    Calls Try.prog 5 #[.agg #[.int .i64 sv, .int .i64 sl], .slice A l.length c] w fun e w' => e = .returned (.bool true) ∧ Below w.heap.size w w' := by
  have h40 : decide (40 < (l.length : Int)) = false := decide_eq_false (by omega)
  have HL := Sd.mk hl
  clear hl
  have X2 := Sd.mk (blk_new w (.cells #[.int .i64 sv, .int .i64 sl] 26))
  have HB := Sd.mk (below_one w (.cells #[.int .i64 sv, .int .i64 sl] 26))
  go_enter Try.func5, Try.ntmps5
  go_wp2_with (first | (go_at_call 22; (with_reducible refine (awake_any _).mono ?_); rintro e w' ⟨rfl, hb⟩; have n2 := Sd.mk (blk_keep X2.out hb); have nB := Sd.mk (below_then HB.out hb); clear X2 HB hb; have X2 := n2; have HB := nB; clear n2 nB))
  have HS := Sd.mk (show Sts w w.heap.size sv sl (.slice none 0 0) [] w' from ⟨X2.out, HB.out, OwnR.nil _ _ _ _ _⟩)
  clear X2 HB
  generalize hh2 : w.heap.size = h2 at HS ⊢
  have H2 := Sd.mk (show w.heap.size ≤ h2 from by omega)
  clear hh2
  go_loopg [5, 6] l.length (fun gk v5 v6 wr => ∃ (i : Nat) (sv : Int) (vs : List Int), i + gk = l.length ∧ v6 = .int .i64 i ∧ vs.length ≤ i ∧ Sd (Sts w h2 sv sl v5 vs wr) ∧ Sd (Ris sv vs))
  case atStart => exact ⟨0, sv, [], by omega, rfl, by simp, HS, ⟨ris_nil sv⟩⟩
  case round =>
    clear HS
    obtain ⟨i, sv, vs, hi, rfl, hvs, HS, HV⟩ := hrel
    by_cases hlt : i < l.length
    · obtain ⟨b, o, C, c', B, d, rfl, hbw, ⟨k0, k1, k2, k3, k4, k5⟩, hx, hs, hr⟩ := blk_at' HL.out hlt
      generalize l[i] = x at k0 k1 k2 k3 k4 k5 hx hs hr
      have HX := Sd.mk hx
      have HSl := Sd.mk hs
      have HR := Sd.mk hr
      have HK := Sd.mk (show _ ∧ _ ∧ _ ∧ _ ∧ _ ∧ _ from ⟨k0, k1, k2, k3, k4, k5⟩)
      have q0 := cell_below HS.out.bel k0
      have q1 := cell_below HS.out.bel k1
      have q2 := cell_below HS.out.bel k2
      have q3 := cell_below HS.out.bel k3
      have q4 := cell_below HS.out.bel k4
      have q5 := cell_below HS.out.bel k5
      clear k0 k1 k2 k3 k4 k5 hx hs hr
      go_upto_region 9 with (first | (go_at_call 23; (with_reducible refine (blk_any _ x C c' B d HX.out (HSl.out.below HS.out.bel) (HR.out.below HS.out.bel)).mono ?_); rintro e wr2 ⟨r, rfl, -, hb⟩; have n2 := Sd.mk ((mv_sts _ _ _ _ _ _).below HS.out hb); clear HS hb q0 q1 q2 q3 q4 q5; have HS := n2; clear n2; cases r))
      · go_ret
        exact ⟨rfl, HS.out.bel⟩
      · have q0 := cell_below HS.out.bel HK.out.1
        have q1 := cell_below HS.out.bel HK.out.2.1
        have q2 := cell_below HS.out.bel HK.out.2.2.1
        have q3 := cell_below HS.out.bel HK.out.2.2.2.1
        have q4 := cell_below HS.out.bel HK.out.2.2.2.2.1
        have q5 := cell_below HS.out.bel HK.out.2.2.2.2.2
        have hX2 := HS.out.1
        have x20 := blk_at hX2 0 _ rfl
        have x21 := blk_at hX2 1 _ rfl
        clear hX2
        obtain ⟨r, hr⟩ : ∃ r, may sv sl x = r := ⟨_, rfl⟩
        obtain ⟨v1, hv1⟩ : ∃ v1, pickV r x.view sv = v1 := ⟨_, rfl⟩
        have M1 := Sd.mk hr
        have N1 := Sd.mk hv1
        clear hr hv1
        have HF := Sd.mk (show Fnd w h2 sv sl u5 vs b (o + i * 6) x C c' B d wr2 from ⟨HS.out, q0, q1, q2, q3, q4, q5⟩)
        clear HS q0 q1 q2 q3 q4 q5 x20 x21
        generalize hoi : o + i * 6 = oi at HF ⊢
        go_cut [7, 8] from 18 to 48 (fun v7 v8 wx => ∃ h7, v7 = .pointer (some ⟨h7, 0, none⟩) ∧ v8 = .bool r ∧ Sd (Fnd w h2 sv sl u5 vs b oi x C c' B d wx) ∧ Sd (wx.heap[h7]? = some (.cells #[.int .i64 v1, .int .i64 sl] 26)) ∧ Sd (h7 ≠ h2))
        case first =>
          go_region_held3 (fun W => W.cell? ⟨h2, 0, none⟩ = some (.int .i64 sv) ∧ W.cell? ⟨h2, 1, none⟩ = some (.int .i64 sl) ∧ (W.cell? ⟨b, oi, none⟩ = some (.int .i64 x.view) ∧ W.cell? ⟨b, oi + 1, none⟩ = some (.int .i64 x.prop) ∧ W.cell? ⟨b, oi + 2, none⟩ = some (.int .i64 x.just.view) ∧ W.cell? ⟨b, oi + 3, none⟩ = some (.string x.just.block) ∧ W.cell? ⟨b, oi + 4, none⟩ = some (.slice C x.just.sigs.length c') ∧ W.cell? ⟨b, oi + 5, none⟩ = some (.slice B x.batch.length d)) ∧ Sd (Fnd w h2 sv sl u5 vs b oi x C c' B d W)) (first | exact Fnd.all (Fnd.drew HF.out) | exact Fnd.all hs | exact Fnd.all (Fnd.alloc hs _) | exact Fnd.all (Fnd.set2 hs HF.out (Nat.le_refl _) _ _) | exact Fnd.all (Fnd.alloc (‹_ ∧ _ ∧ _ ∧ Sd (Fnd _ _ _ _ _ _ _ _ _ _ _ _ _ _)›).2.2.2.out _) | (trace_state; fail)) (first | (go_at_call 24; (with_reducible refine (vote_any _ sv sl x C c' B d r M1.out v1 N1.out).mono ?_); rintro e w' ⟨rfl, hb⟩; have hs := Fnd.below (‹_ ∧ _ ∧ _ ∧ Sd (Fnd _ _ _ _ _ _ _ _ _ _ _ _ _ _)›).2.2.2.out hb; obtain ⟨hc, hf⟩ := bcell hb))
          · go_wp2_with fail
            go_meet
            exact ⟨_, rfl, rfl, ⟨hs.alloc _⟩, ⟨blk_new w' _⟩, ⟨by have := blk_lt' hs.1.1; omega⟩⟩
          · have hk0 := (hb.block _ (by simp)).trans (blk_new wr2 (.cells #[.int .i64 0, .int .i64 0] 26))
            have hs3 := Fnd.set2 hs HF.out (Nat.le_refl _) (.int .i64 v1) (.int .i64 sl)
            have hne : wr2.heap.size ≠ h2 := by have := blk_lt' HF.out.1.1; omega
            have hk3 := blk_set3 (blk_set3 hk0 0 (.int .i64 v1)) 1 (.int .i64 sl)
            clear hb hc hf
            go_wp2_with fail
            go_meet
            exact ⟨_, rfl, rfl, ⟨hs3⟩, ⟨hk3⟩, ⟨hne⟩⟩
        case rest =>
          clear HF
          obtain ⟨h7, rfl, rfl, HF, H7, HN⟩ := hcut
          have hX2 := HF.out.1.1
          have hX7 := H7.out
          have x20 := blk_at hX2 0 _ rfl
          have x21 := blk_at hX2 1 _ rfl
          have z20 := blk_frz hX2 0
          have z21 := blk_frz hX2 1
          have x70 := blk_at hX7 0 _ rfl
          have x71 := blk_at hX7 1 _ rfl
          have q0 := HF.out.2.1
          clear hX2 hX7
          have HE := Sd.mk hoi
          clear hoi
          cases r with
          | false =>
            have e1 : sv = v1 := N1.out
            have HV1 := Sd.mk (show Ris v1 vs from e1 ▸ HV.out)
            clear e1
            go_wp2
            go_roundg (gk - 1)
            case measure => omega
            case rel => exact ⟨i + 1, v1, vs, by omega, by go_num, by omega, ⟨blk_set3 (blk_set3 HF.out.1.1 0 (.int .i64 v1)) 1 (.int .i64 sl), (HF.out.1.bel.setCell H2.out _).setCell H2.out _, own_set (own_set HF.out.1.2.2 HF.out.1.2.2 HF.out.1.1) HF.out.1.2.2 HF.out.1.1⟩, HV1⟩
          | true =>
            have hm := of_decide_eq_true (show decide (sv < x.view ∧ sl ≤ x.just.view) = true from M1.out)
            have e1 : x.view = v1 := N1.out
            have HV1 := Sd.mk (show Ris v1 (vs ++ [v1]) from ris_more HV.out (by omega))
            rw [e1] at q0
            clear hm e1 HV
            have q0' := q0
            rw [← HE.out] at q0'
            have HO := Sd.mk HF.out.1.2.2
            have HBl := Sd.mk HF.out.1.bel
            clear q0
            go_wp2_with (first | (at_builtin; refine append_one (f := fun x : Int => [.int .i64 x]) (n := 1) (fun _ => rfl) (fun _ _ hu => by simp at hu; subst hu; rfl) w.heap.size rfl (.tmp 40) (.tmp 46) 28 3 (.int .i64 0) 8 rfl Try.underlying28 info_int rfl (by decide) u5 vs v1 rfl rfl HO.out HBl.out HBl.out.size (by omega) (by omega) ?_; intro v5 w5 hown hbel hg; have Y2 := Sd.mk (blk_grown HF.out.1.1 hg (OwnR.blk HO.out HF.out.1.1 (by decide))); have Y7 := Sd.mk (blk_grown H7.out hg (OwnR.blk HO.out H7.out (by decide))); have YO := Sd.mk hown; have YB := Sd.mk hbel; clear hown hbel hg x20 x21 z20 z21 x70 x71 HF H7 HO HBl; have x20 := blk_at Y2.out 0 _ rfl; have x21 := blk_at Y2.out 1 _ rfl; have z20 := blk_frz Y2.out 0; have z21 := blk_frz Y2.out 1; have x70 := blk_at Y7.out 0 _ rfl; have x71 := blk_at Y7.out 1 _ rfl))
            go_roundg (gk - 1)
            case measure => omega
            case rel => exact ⟨i + 1, v1, vs ++ [v1], by omega, by go_num, by simp; omega, ⟨blk_set3 (blk_set3 Y2.out 0 (.int .i64 v1)) 1 (.int .i64 sl), (YB.out.setCell H2.out _).setCell H2.out _, own_set (own_set YO.out YO.out Y2.out) YO.out Y2.out⟩, HV1⟩
    · obtain rfl : i = l.length := by omega
      obtain ⟨A5, c5, rfl, hs5⟩ := OwnR.reads (d := num .i64) (fun w x => rfl) (fun _ => rfl) rfl HS.out.2.2
      have HB := Sd.mk HS.out.bel
      have H5 := Sd.mk hs5.row
      have hle := hs5.le
      clear hs5 HS
      go_wp2
      go_loopg [9] vs.length (fun gk v9 wr => ∃ j : Nat, 1 ≤ j ∧ j + gk = vs.length + 1 ∧ v9 = .int .i64 j ∧ Sd (Row (num .i64) wr A5 vs) ∧ Sd (Below w.heap.size w wr))
      case atStart => exact ⟨1, by omega, by omega, rfl, H5, HB⟩
      case round =>
        clear H5 HB
        obtain ⟨j, hj1, hj, rfl, H5, HB⟩ := hrel
        by_cases hjl : j < vs.length
        · obtain ⟨b5, o5, rfl, p0⟩ := num_at H5.out hjl
          obtain ⟨b6, o6, hA6, p1⟩ := num_at H5.out (show j - 1 < vs.length by omega)
          simp only [Option.some.injEq, Addr.mk.injEq, and_true] at hA6
          obtain ⟨rfl, rfl⟩ := hA6
          have hlt := ris_at HV.out (by omega) hjl
          generalize vs[j] = y0 at p0 hlt
          generalize vs[j - 1] = y1 at p1 hlt
          have hd : decide (y0 ≤ y1) = false := decide_eq_false (by omega)
          have s0 : (0 : Int) ≤ (j : Int) := by omega
          have s1 : (j : Int) < (vs.length : Int) := by omega
          have s2 : (0 : Int) ≤ (j : Int) - 1 := by omega
          have s3 : (j : Int) - 1 < (vs.length : Int) := by omega
          have s4 : ((j : Int) - 1).toNat = j - 1 := by omega
          have s5 : IntKind.i64.wrap ((j : Int) - 1) = (j : Int) - 1 := IntWalk.i64_in _ (by omega)
          clear hlt
          go_wp2
          go_quiet (fail)
          go_wp2
          go_roundg (gk - 1)
          case measure => omega
          case rel => exact ⟨j + 1, by omega, by omega, by go_num, ⟨H5.out.keep (fun _ _ => rfl)⟩, ⟨below_drewN HB.out _⟩⟩
        · go_wp2
          go_ret
          exact ⟨rfl, HB.out⟩

set_option maxHeartbeats 8000000 in
set_option maxRecDepth 100000 in
theorem once_row (w : World) (s : Int × Int × Unit) (cs : Array Value) (hs : stK.K w s cs.toList) (A : Option Addr) (c : Nat) (l : List Blk) (hc : l.length ≤ c) (hm : c ≤ maxLen) (hl : Row blkK w A l) :
    Calls Try.prog 5 #[.agg cs, .slice A l.length c] w fun e w' => e = .returned (.bool true) ∧ Below w.heap.size w w' := by
  obtain ⟨e1, -⟩ := st_open hs
  obtain rfl := arr_of e1
  by_cases hn : l.length ≤ 40
  · exact once_few w s.1 s.2.1 A c l hn hl
  · unfold maxLen at hm
    have h40 : decide (40 < (l.length : Int)) = true := decide_eq_true (by omega)
    have HB := Sd.mk (below_one w (.cells #[.int .i64 s.1, .int .i64 s.2.1] 26))
    clear hl hn hs e1
    go_enter Try.func5, Try.ntmps5
    go_wp2_with (first | (go_at_call 22; (with_reducible refine (awake_any _).mono ?_); rintro e w' ⟨rfl, hb⟩; have nB := Sd.mk (below_then HB.out hb); clear HB hb; have HB := nB; clear nB))
    go_ret
    exact ⟨rfl, HB.out⟩
end Go.Proofs.Ytjpjphdcpdjlkaa.Rule

/- forest.put: walked. slices.Delete of one block: walked. forest.adopt: walked. forest.New, Put: walked. -/
import Derived.Test.YtnomgkmeomlccaaForY
import Derived.Test.YtnomgkmeomlccaaKeX
import Derived.Test.YtnomgkmeomlccaaDel
import Derived.Laws.OwnMore
set_option linter.unusedVariables false
set_option linter.unusedSimpArgs false

namespace Go.Proofs.Ytnomgkmeomlccaa.Fst
open Go.RowKit Go.Sort Rd Api Own Mv App Num Dig
open Blk (Block Rq rqN fR digB coreB)
open Smp (Sm)
open Kee (Bk fB bkK Wk wpList_mapUpdate_run)

/-- one more stands -/
theorem Fw.more {w0 W : World} {g : Nat} {f : Fo} (h : Fw w0 g f W) {x : Block} {r : Bk} (hw : Bw w0 r x) (hn : ndAt f.nodes (digB x) = none) (m : Nat) (ov : Value) (hg : W.heap[g]? = some (.cells #[.string f.root, .int .i64 f.height, .map (some m), ov] 117 (0, 0))) :
    ∃ W', (Instr.mapUpdate 115 (.map (some m)) (.string (digB x)) (nodeV x r (w64 (f.hgt x.just.block + 1)))).run Try.prog W = .ok () W' ∧ Fw w0 g (f.more x) W' ∧ Fr W W' := by
  obtain ⟨m', ov', prs, rs, h1, h2, h3, h4, h5, h6, h7⟩ := h.ex
  rw [h1] at hg
  simp at hg
  obtain ⟨rfl, rfl⟩ := hg
  obtain ⟨W', e1, e2, e3, e4⟩ := h2.upd Try.underlying115 Try.underlying9 (digB x) (by rw [Blk.digB_size]; unfold maxLen; omega) (nodeV x r (w64 (f.hgt x.just.block + 1)))
  rw [Smp.put_new (look_none_of h4 hn)] at e2
  refine ⟨W', e1, ⟨below_grown h.bel e3 h.bel.size (fun k e => (Option.some.inj e) ▸ h3), h.gg, m', ov', _, rs, blk_grown h1 e3 (fun e => ?_), e2, h3, h4.snoc ⟨rfl, r, hw, rfl⟩, OwnR.grown h5 e3 (.inr (Kee.own_map h5 h2)), h6, h7⟩, Fr.grown e3 (fun cs t fr e => ?_)⟩
  · cases Option.some.inj e
    obtain ⟨es, ck, hb, -⟩ := h2.h
    rw [h1] at hb
    simp at hb
  · obtain ⟨es, ck, hb, -⟩ := h2.h
    rw [e] at hb
    cases hb
-- <L1
set_option maxHeartbeats 16000000 in
set_option maxRecDepth 100000 in
theorem fput_any {w0 W : World} {g : Nat} {f : Fo} (hf : Fw w0 g f W) (x : Block) (r : Bk) (hw : Bw w0 r x) (hx : x.just.block.size ≤ maxLen) (hn : ndAt f.nodes (digB x) = none) :
    Calls Try.prog 75 #[.pointer (some ⟨g, 0, none⟩), .agg #[.int .i64 x.view, .int .i64 x.prop, .int .i64 x.just.view, .string x.just.block, .slice r.sa r.sn r.sc, .slice r.a x.batch.length r.c]] W fun e w' => e = .returned (.int .i64 (f.code x)) ∧ Fw w0 g (f.fput x) w' ∧ Fr W w' := by
  have mixed : Try.prog.follows .mixedOrders = true := by kernel_rfl
  have b0 := below_one W (.cells #[.int .i64 x.view, .int .i64 x.prop, .int .i64 x.just.view, .string x.just.block, .slice r.sa r.sn r.sc, .slice r.a x.batch.length r.c] 42)
  have E0 := Sd.mk (blk_new W (.cells #[.int .i64 x.view, .int .i64 x.prop, .int .i64 x.just.view, .string x.just.block, .slice r.sa r.sn r.sc, .slice r.a x.batch.length r.c] 42))
  have HF0 := Sd.mk (hf.below b0)
  have HR0 := Sd.mk (Fr.below b0)
  clear b0 hf
  obtain ⟨cd, hcd⟩ : ∃ z, f.code x = z := ⟨_, rfl⟩
  have HST := Sd.mk (fun W1 (h : Fw w0 g f W1) => (by have := stands_any h x r hx; rwa [hcd] at this : Calls Try.prog 114 #[.pointer (some ⟨g, 0, none⟩), .agg #[.int .i64 x.view, .int .i64 x.prop, .int .i64 x.just.view, .string x.just.block, .slice r.sa r.sn r.sc, .slice r.a x.batch.length r.c]] W1 fun e w' => e = .returned (.int .i64 cd) ∧ RowKit.Below W1.heap.size W1 w'))
  rw [hcd]
  go_enter Try.func75, Try.ntmps75
  go_upto_region 1 with (fail)
  generalize W.heap.size = g3 at E0 ⊢
  generalize W.alloc _ = W1 at E0 HF0 HR0 ⊢
  have c0 := blk_at E0.out 0 _ rfl
  have c1 := blk_at E0.out 1 _ rfl
  have c2 := blk_at E0.out 2 _ rfl
  have c3 := blk_at E0.out 3 _ rfl
  have c4 := blk_at E0.out 4 _ rfl
  have c5 := blk_at E0.out 5 _ rfl
  go_upto_region 2 with (first
    | (go_at_call 114; (with_reducible refine (HST.out _ HF0.out).mono ?_); rintro e w2 ⟨rfl, hb⟩; have HF2 := Sd.mk (HF0.out.below hb); have HR2 := Sd.mk (HR0.out.trans (Fr.below hb)); have E2 := Sd.mk (blk_keep E0.out hb); clear hb))
  clear c0 c1 c2 c3 c4 c5 HST HF0 E0
  have hcc := code_cases f x
  rw [hcd] at hcc
  rcases hcc with rfl | rfl | rfl
  · have HFP := Sd.mk (show f.fput x = f.more x by unfold Fo.fput; rw [if_pos hcd])
    obtain ⟨d, hd⟩ : ∃ d, digB x = d := ⟨_, rfl⟩
    obtain ⟨ht, hht⟩ : ∃ z, f.hgt x.just.block = z := ⟨_, rfl⟩
    have HF3 := Sd.mk (HF2.out.below (below_drew' (w := w2) (Below.refl w2.heap.size w2)))
    have E3 := Sd.mk (blk_keep E2.out (below_drew' (w := w2) (Below.refl w2.heap.size w2)))
    have HDG := Sd.mk (fun W4 (hb : RowKit.Below w2.drew.heap.size w2.drew W4) => Blk.dig_any W4 x r.sa r.sn r.sc r.a x.batch.length r.c (hw.wk.sl.below (HF3.out.below hb).bel) rfl d hd (by have := hw.sz; omega))
    have HHT := Sd.mk (fun W4 (hb : RowKit.Below w2.drew.heap.size w2.drew W4) => hgt_any (HF3.out.below hb) x.just.block hx ht hht)
    obtain ⟨m, ov, prs, rs, hg, -, -, -, -, -, -⟩ := HF3.out.ex
    have HMU := Sd.mk (fun W4 (hb : RowKit.Below w2.drew.heap.size w2.drew W4) => (by have := (HF3.out.below hb).more hw hn m ov (blk_keep hg hb); rwa [hd, hht] at this : ∃ W', (Instr.mapUpdate 115 (.map (some m)) (.string d) (nodeV x r (w64 (ht + 1)))).run Try.prog W4 = .ok () W' ∧ Fw w0 g (f.more x) W' ∧ Fr W4 W'))
    have HCE := Sd.mk (fun W4 (hb : RowKit.Below w2.drew.heap.size w2.drew W4) => show (fun W : World => W.cell? ⟨g, 2, none⟩ = some (.map (some m)) ∧ W.cell? ⟨g3, 0, none⟩ = some (.int .i64 x.view) ∧ W.cell? ⟨g3, 1, none⟩ = some (.int .i64 x.prop) ∧ W.cell? ⟨g3, 2, none⟩ = some (.int .i64 x.just.view) ∧ W.cell? ⟨g3, 3, none⟩ = some (.string x.just.block) ∧ W.cell? ⟨g3, 4, none⟩ = some (.slice r.sa r.sn r.sc) ∧ W.cell? ⟨g3, 5, none⟩ = some (.slice r.a x.batch.length r.c)) W4 from ⟨blk_at (blk_keep hg hb) 2 _ rfl, blk_at (blk_keep E3.out hb) 0 _ rfl, blk_at (blk_keep E3.out hb) 1 _ rfl, blk_at (blk_keep E3.out hb) 2 _ rfl, blk_at (blk_keep E3.out hb) 3 _ rfl, blk_at (blk_keep E3.out hb) 4 _ rfl, blk_at (blk_keep E3.out hb) 5 _ rfl⟩)
    clear hg hd hht hcd hw hn hx
    go_upto_region 3 with (fail)
    have S0 := HCE.out _ (Below.refl _ _)
    refine Peel.region_peel (n := 13) (S := (fun W : World => W.cell? ⟨g, 2, none⟩ = some (.map (some m)) ∧ W.cell? ⟨g3, 0, none⟩ = some (.int .i64 x.view) ∧ W.cell? ⟨g3, 1, none⟩ = some (.int .i64 x.prop) ∧ W.cell? ⟨g3, 2, none⟩ = some (.int .i64 x.just.view) ∧ W.cell? ⟨g3, 3, none⟩ = some (.string x.just.block) ∧ W.cell? ⟨g3, 4, none⟩ = some (.slice r.sa r.sn r.sc) ∧ W.cell? ⟨g3, 5, none⟩ = some (.slice r.a x.batch.length r.c))) (by kernel_rfl) (by kernel_rfl) S0 (fun hHeld => ?_)
    simp only [List.take_succ_cons, List.take_zero]
    clear HF2 E2 HF3 E3 S0
    have HB3 := Sd.mk (Below.refl w2.drew.heap.size w2.drew)
    have HR3 := Sd.mk (HR2.out.trans (Fr.below (W1 := w2.drew) (below_drew' (Below.refl _ _))))
    clear HR2
    generalize w2.drew = W3 at HR3 HDG HHT HMU HCE HB3 hHeld ⊢
    (refine Peel.take 0 (v := ?_) rfl rfl (by kernel_rfl) (by kernel_rfl) (by kernel_rfl) (fun _ _ _ h => h) (by assumption) ?_ ?_; rotate_left; (focus (intro w hSw; (try dsimp only at hSw); obtain ⟨s0, s1, s2, s3, s4, s5, s6⟩ := hSw; (try simp only [List.getElem_toArray, List.getElem_cons_succ, List.getElem_cons_zero]); go_simp; try (with_reducible rfl))); try simp only [List.getElem_toArray, List.getElem_cons_succ, List.getElem_cons_zero, Act.put, List.setIfInBounds_toArray, List.set_cons_zero, List.set_cons_succ])
    (refine Peel.take 1 (v := ?_) rfl rfl (by kernel_rfl) (by kernel_rfl) (by kernel_rfl) (fun _ _ _ h => h) (by assumption) ?_ ?_; rotate_left; (focus (intro w hSw; (try dsimp only at hSw); obtain ⟨s0, s1, s2, s3, s4, s5, s6⟩ := hSw; (try simp only [List.getElem_toArray, List.getElem_cons_succ, List.getElem_cons_zero]); go_simp; try (with_reducible rfl))); try simp only [List.getElem_toArray, List.getElem_cons_succ, List.getElem_cons_zero, Act.put, List.setIfInBounds_toArray, List.set_cons_zero, List.set_cons_succ])
    (refine Peel.take 2 (v := ?_) rfl rfl (by kernel_rfl) (by kernel_rfl) (by kernel_rfl) (fun _ _ _ h => h) (by assumption) ?_ ?_; rotate_left; (focus (intro w hSw; (try dsimp only at hSw); obtain ⟨s0, s1, s2, s3, s4, s5, s6⟩ := hSw; (try simp only [List.getElem_toArray, List.getElem_cons_succ, List.getElem_cons_zero]); go_simp; try (with_reducible rfl))); try simp only [List.getElem_toArray, List.getElem_cons_succ, List.getElem_cons_zero, Act.put, List.setIfInBounds_toArray, List.set_cons_zero, List.set_cons_succ])
    (refine Peel.take 3 (v := ?_) rfl rfl (by kernel_rfl) (by kernel_rfl) (by kernel_rfl) (fun _ _ _ h => h) (by assumption) ?_ ?_; rotate_left; (focus (intro w hSw; (try dsimp only at hSw); obtain ⟨s0, s1, s2, s3, s4, s5, s6⟩ := hSw; (try simp only [List.getElem_toArray, List.getElem_cons_succ, List.getElem_cons_zero]); go_simp; try (with_reducible rfl))); try simp only [List.getElem_toArray, List.getElem_cons_succ, List.getElem_cons_zero, Act.put, List.setIfInBounds_toArray, List.set_cons_zero, List.set_cons_succ])
    (refine Peel.take 4 (v := ?_) rfl rfl (by kernel_rfl) (by kernel_rfl) (by kernel_rfl) (fun _ _ _ h => h) (by assumption) ?_ ?_; rotate_left; (focus (intro w hSw; (try dsimp only at hSw); obtain ⟨s0, s1, s2, s3, s4, s5, s6⟩ := hSw; (try simp only [List.getElem_toArray, List.getElem_cons_succ, List.getElem_cons_zero]); go_simp; try (with_reducible rfl))); try simp only [List.getElem_toArray, List.getElem_cons_succ, List.getElem_cons_zero, Act.put, List.setIfInBounds_toArray, List.set_cons_zero, List.set_cons_succ])
    (refine Peel.take 6 (v := ?_) rfl rfl (by kernel_rfl) (by kernel_rfl) (by kernel_rfl) (fun _ _ _ h => h) (by assumption) ?_ ?_; rotate_left; (focus (intro w hSw; (try dsimp only at hSw); obtain ⟨s0, s1, s2, s3, s4, s5, s6⟩ := hSw; (try simp only [List.getElem_toArray, List.getElem_cons_succ, List.getElem_cons_zero]); go_simp; try (with_reducible rfl))); try simp only [List.getElem_toArray, List.getElem_cons_succ, List.getElem_cons_zero, Act.put, List.setIfInBounds_toArray, List.set_cons_zero, List.set_cons_succ])
    (refine Peel.take 7 (v := ?_) rfl rfl (by kernel_rfl) (by kernel_rfl) (by kernel_rfl) (fun _ _ _ h => h) (by assumption) ?_ ?_; rotate_left; (focus (intro w hSw; (try dsimp only at hSw); obtain ⟨s0, s1, s2, s3, s4, s5, s6⟩ := hSw; (try simp only [List.getElem_toArray, List.getElem_cons_succ, List.getElem_cons_zero]); go_simp; try (with_reducible rfl))); try simp only [List.getElem_toArray, List.getElem_cons_succ, List.getElem_cons_zero, Act.put, List.setIfInBounds_toArray, List.set_cons_zero, List.set_cons_succ])
    (refine Peel.take 8 (v := ?_) rfl rfl (by kernel_rfl) (by kernel_rfl) (by kernel_rfl) (fun _ _ _ h => h) (by assumption) ?_ ?_; rotate_left; (focus (intro w hSw; (try dsimp only at hSw); obtain ⟨s0, s1, s2, s3, s4, s5, s6⟩ := hSw; (try simp only [List.getElem_toArray, List.getElem_cons_succ, List.getElem_cons_zero]); go_simp; try (with_reducible rfl))); try simp only [List.getElem_toArray, List.getElem_cons_succ, List.getElem_cons_zero, Act.put, List.setIfInBounds_toArray, List.set_cons_zero, List.set_cons_succ])
    (refine wpAnyH_ready (rs := [5]) (by kernel_rfl) (by simp) ?_; refine AllReadyH.cons rfl (fun K hK => ?_) AllReadyH.nil)
    (go_simp; go_at_call 26; refine (HDG.out _ HB3.out).mono ?_; rintro e w5 ⟨rfl, hb5⟩; have HB4 := Sd.mk (below_then HB3.out hb5); clear hb5; (have s6 := HCE.out _ HB4.out; (refine hK.out _ _ s6 (fun hHeld => ?_); (clear hK K; try simp only [List.getElem_toArray, List.getElem_cons_succ, List.getElem_cons_zero, Act.put, List.setIfInBounds_toArray, List.set_cons_zero, List.set_cons_succ])); clear s6))
    (refine wpAnyH_ready (rs := [9]) (by kernel_rfl) (by simp) ?_; refine AllReadyH.cons rfl (fun K hK => ?_) AllReadyH.nil)
    (go_simp; go_at_call 28; refine (Blk.parent_any _ _ _ _ _ _ _).mono ?_; rintro e w9 ⟨rfl, hb9⟩; have HB5 := Sd.mk (below_then HB4.out hb9); clear hb9; (have s6 := HCE.out _ HB5.out; (refine hK.out _ _ s6 (fun hHeld => ?_); (clear hK K; try simp only [List.getElem_toArray, List.getElem_cons_succ, List.getElem_cons_zero, Act.put, List.setIfInBounds_toArray, List.set_cons_zero, List.set_cons_succ])); clear s6))
    (refine wpAnyH_ready (rs := [10]) (by kernel_rfl) (by simp) ?_; refine AllReadyH.cons rfl (fun K hK => ?_) AllReadyH.nil)
    (go_simp; go_at_call 47; refine (HHT.out _ HB5.out).mono ?_; rintro e wa ⟨rfl, hba⟩; have HB6 := Sd.mk (below_then HB5.out hba); clear hba; (have s6 := HCE.out _ HB6.out; (refine hK.out _ _ s6 (fun hHeld => ?_); (clear hK K; try simp only [List.getElem_toArray, List.getElem_cons_succ, List.getElem_cons_zero, Act.put, List.setIfInBounds_toArray, List.set_cons_zero, List.set_cons_succ])); clear s6))
    (refine Peel.take 11 (v := ?_) rfl rfl (by kernel_rfl) (by kernel_rfl) (by kernel_rfl) (fun _ _ _ h => h) (by assumption) ?_ ?_; rotate_left; (focus (intro w hSw; (try dsimp only at hSw); obtain ⟨s0, s1, s2, s3, s4, s5, s6⟩ := hSw; (try simp only [List.getElem_toArray, List.getElem_cons_succ, List.getElem_cons_zero]); go_simp; try (with_reducible rfl))); try simp only [List.getElem_toArray, List.getElem_cons_succ, List.getElem_cons_zero, Act.put, List.setIfInBounds_toArray, List.set_cons_zero, List.set_cons_succ])
    (refine Peel.take 12 (v := ?_) rfl rfl (by kernel_rfl) (by kernel_rfl) (by kernel_rfl) (fun _ _ _ h => h) (by assumption) ?_ ?_; rotate_left; (focus (intro w hSw; (try dsimp only at hSw); obtain ⟨s0, s1, s2, s3, s4, s5, s6⟩ := hSw; (try simp only [List.getElem_toArray, List.getElem_cons_succ, List.getElem_cons_zero]); go_simp; try (with_reducible rfl))); try simp only [List.getElem_toArray, List.getElem_cons_succ, List.getElem_cons_zero, Act.put, List.setIfInBounds_toArray, List.set_cons_zero, List.set_cons_succ])
    ((refine wpAnyH_done (by kernel_rfl) ?_ _; simp only [Peel.Qn, List.drop_succ_cons, List.drop_zero]; clear hHeld); obtain ⟨W9, hr9, hf9, hfr9⟩ := HMU.out _ HB6.out; have HR9 := Sd.mk hr9; have HF9 := Sd.mk hf9; have HFR9 := Sd.mk ((HR3.out.trans (Fr.below HB6.out)).trans hfr9); clear hr9 hf9 hfr9; refine wpList_mapUpdate_run rfl (.tmp 14) (.tmp 16) (.tmp 23) 115 rfl HR9.out ?_; clear HR9 HMU HHT HDG HCE; go_wp2; go_ret; exact ⟨rfl, by rw [HFP.out]; exact HF9.out, HFR9.out⟩)
  · have HFP := Sd.mk (show f.fput x = f by unfold Fo.fput; rw [if_neg (by rw [hcd]; decide)])
    clear hcd
    go_wp2
    go_ret
    exact ⟨rfl, by rw [HFP.out]; exact HF2.out, HR2.out⟩
  · have HFP := Sd.mk (show f.fput x = f by unfold Fo.fput; rw [if_neg (by rw [hcd]; decide)])
    clear hcd
    go_wp2
    go_ret
    exact ⟨rfl, by rw [HFP.out]; exact HF2.out, HR2.out⟩
-- L1>
end Go.Proofs.Ytnomgkmeomlccaa.Fst
set_option linter.unusedVariables false
set_option linter.unusedSimpArgs false

namespace Go.Proofs.Ytnomgkmeomlccaa.Fst
open Go.RowKit Go.Sort Rd Api Own Mv App Num Dig
open Blk (Block Rq rqN fR digB coreB)
open Smp (Sm)
open Kee (Bk fB fB_one bkK Wk)

/-- the beginning of a row, in the row's place -/
theorem own_take {α : Type} {f : α → List Value} {k : Nat} (hk : ∀ x, (f x).length = k) {W : World} {base q n c : Nat} {e : TypeId} {xs : List α} (h : OwnR f k W base e (.slice (some ⟨q, 0, none⟩) n c) xs) {i : Nat} (hi : i ≤ xs.length) : OwnR f k W base e (.slice (some ⟨q, 0, none⟩) i c) (xs.take i) := by
  rcases h.2 with ⟨h1, _⟩ | ⟨g, cap, cur, h1, hb, hh, hle, hcap, hsz, hcur⟩
  · simp at h1
  · simp only [Value.slice.injEq, Option.some.injEq, Addr.mk.injEq, and_true, true_and] at h1
    obtain ⟨rfl, -, rfl⟩ := h1
    have hl : (xs.take i).length = i := by rw [List.length_take]; omega
    refine ⟨by rw [flat_length hk], .inr ⟨q, c, cur, by rw [hl], hb, hh, by omega, hcap, hsz, ?_⟩⟩
    rw [hl]
    have h2 : flat f (xs.take i) = (flat f xs).take (i * k) := by
      have h3 : xs = xs.take i ++ xs.drop i := (List.take_append_drop i xs).symm
      have h4 : flat f xs = flat f (xs.take i) ++ flat f (xs.drop i) := by
        unfold flat
        rw [← List.flatMap_append, List.take_append_drop]
      rw [h4, List.take_left' (by rw [flat_length hk, hl])]
    rw [h2, ← hcur, List.take_take, Nat.min_eq_left (Nat.mul_le_mul_right _ hi)]
theorem own_cell {α : Type} {f : α → List Value} {k : Nat} (hk : ∀ x, (f x).length = k) {W : World} {base q n c : Nat} {e : TypeId} {xs : List α} (h : OwnR f k W base e (.slice (some ⟨q, 0, none⟩) n c) xs) : n = xs.length ∧ n ≤ c ∧ c ≤ maxLen ∧ ∃ cur, W.heap[q]? = some (.cells cur e (0, 0)) ∧ cur.size = c * k ∧ cur.toList.take (n * k) = flat f xs := by
  rcases h.2 with ⟨h1, _⟩ | ⟨g, cap, cur, h1, hb, hh, hle, hcap, hsz, hcur⟩
  · simp at h1
  · simp only [Value.slice.injEq, Option.some.injEq, Addr.mk.injEq, and_true, true_and] at h1
    obtain ⟨rfl, rfl, rfl⟩ := h1
    exact ⟨rfl, hle, hcap, cur, hh, hsz, hcur⟩
theorem own_tail {α : Type} {f : α → List Value} {k : Nat} (hk : ∀ x, (f x).length = k) {W : World} {q p c : Nat} {e : TypeId} {xs : List α} (h : OwnR f k W 0 e (.slice (some ⟨q, 0, none⟩) p c) xs) (vs : List Value) : OwnR f k (W.setCells q (p * k) vs) 0 e (.slice (some ⟨q, 0, none⟩) p c) xs := by
  obtain ⟨hp, hpc, hcm, cur, hq, hsz, hcur⟩ := own_cell hk h
  obtain ⟨cur2, h1, h2⟩ := Del.blk_setCells (sz := cur.size) vs (p * k) W ⟨cur, hq, rfl⟩
  refine ⟨flat_length hk xs, .inr ⟨q, c, cur2, by rw [hp], Nat.zero_le _, h1, by rw [← hp]; exact hpc, hcm, h2.trans hsz, ?_⟩⟩
  rw [← hp, ← hcur]
  apply List.ext_getElem?
  intro t
  rw [List.getElem?_take, List.getElem?_take]
  split
  · rename_i ht
    have h3 := World.cell?_setCells_out q vs (p * k) W ⟨q, t, none⟩ (fun _ _ => .inl ht)
    rw [cell_of_row _ _ _ _ _ _ h1, cell_of_row _ _ _ _ _ _ hq] at h3
    rw [Array.getElem?_toList, Array.getElem?_toList, h3]
  · rfl
theorem zero_blk (w : World) : (zeroValue 42).run Try.prog w = .ok (.agg #[.int .i64 0, .int .i64 0, .int .i64 0, .string ⟨#[]⟩, .slice none 0 0, .slice none 0 0]) w := by kernel_rfl
/-- what is behind comes in its place -/
theorem del_append (W : World) (q p c : Nat) (rs : List Bk) (h : OwnR fB 6 W 0 42 (.slice (some ⟨q, 0, none⟩) (p + 1) c) rs) (i : Nat) (hi : i < p + 1) (a : Addr) (c' : Nat) (ha : ∀ j u, (flat fB (rs.drop (i + 1)))[j]? = some u → W.cell? (a.add j) = some u) :
    ∃ w', (Builtin.append_ #[25, 25] 25 #[.slice (some ⟨q, 0, none⟩) i c, .slice (some a) (p + 1 - (i + 1)) c']).run Try.prog W = .ok (.slice (some ⟨q, 0, none⟩) p c) w' ∧ OwnR fB 6 w' 0 42 (.slice (some ⟨q, 0, none⟩) p c) (rs.eraseIdx i) ∧ W.grownBy w' (some q) := by
  obtain ⟨hn, hnc, hcm, -⟩ := own_cell (f := fB) (k := 6) (fun _ => rfl) h
  obtain ⟨i0, hi0, hzz⟩ := Option.map_eq_some_iff.1 Kee.info_blk
  simp only [Prod.mk.injEq] at hzz
  have ho := own_take (f := fB) (k := 6) (fun _ => rfl) h (i := i) (by omega)
  have hl : (rs.take i).length = i := by rw [List.length_take]; omega
  unfold OwnR at ho
  rw [hl] at ho
  obtain ⟨w', e1, e2, e3⟩ := run_append_fits (P := Try.prog) W 0 25 25 42 i0 6 Try.underlying25 hi0 hzz.2.1 q i c (flat fB (rs.take i)) ho a (p + 1 - (i + 1)) c' (flat fB (rs.drop (i + 1))) (by rw [flat_length (n := 6) (fun _ => rfl), List.length_drop, ← hn]) ha (fun u hu => by
    obtain ⟨y, _, hy⟩ := List.mem_flatMap.1 hu
    exact fB_one y u hy) (by omega)
  have hp : i + (p + 1 - (i + 1)) = p := by omega
  rw [hp] at e1 e2
  refine ⟨w', e1, ?_, e3⟩
  unfold OwnR
  have hel : (rs.eraseIdx i).length = p := by rw [List.length_eraseIdx, if_pos (by omega)]; omega
  have hfl : flat fB (rs.take i) ++ flat fB (rs.drop (i + 1)) = flat fB (rs.eraseIdx i) := by rw [List.eraseIdx_eq_take_drop_succ]; unfold flat; rw [List.flatMap_append]
  rw [hel, ← hfl]
  exact e2
theorem del_src {W : World} {q p c : Nat} {rs : List Bk} (h : OwnR fB 6 W 0 42 (.slice (some ⟨q, 0, none⟩) (p + 1) c) rs) (i : Nat) (j : Nat) (u : Value) (hu : (flat fB (rs.drop (i + 1)))[j]? = some u) : W.cell? ((⟨q, (i + 1) * 6, none⟩ : Addr).add j) = some u := by
  obtain ⟨hn, hnc, hcm, cur, hq, hsz, hcur⟩ := own_cell (f := fB) (k := 6) (fun _ => rfl) h
  have h4 : flat fB rs = flat fB (rs.take (i + 1)) ++ flat fB (rs.drop (i + 1)) := by unfold flat; rw [← List.flatMap_append, List.take_append_drop]
  have hjl : j < (flat fB (rs.drop (i + 1))).length := (List.getElem?_eq_some_iff.1 hu).1
  rw [flat_length (n := 6) (fun _ => rfl), List.length_drop] at hjl
  have hl : (flat fB (rs.take (i + 1))).length = (i + 1) * 6 := by rw [flat_length (n := 6) (fun _ => rfl), List.length_take]; omega
  have h5 : (flat fB rs)[(i + 1) * 6 + j]? = some u := by
    rw [h4, List.getElem?_append_right (by omega), hl, show (i + 1) * 6 + j - (i + 1) * 6 = j by omega]
    exact hu
  rw [← hcur, List.getElem?_take, if_pos (by omega), Array.getElem?_toList] at h5
  rw [add_flat, cell_of_row _ _ _ _ _ _ hq]
  exact h5
theorem step_append_run {P : Program} {ops : Array Oper} {o : Oper} {a : Act} {W W1 : World} {Q : Exit → Act → World → Prop} {E : Prop} {K : Act → World → Prop} (hgd : o.guard = none) (s x : Operand) (t : TypeId)
    (ho : o.op = .call { callee := .builtin .append, args := #[s, x], argTypes := #[t, t] }) (v : Value) (hr : (Builtin.append_ #[t, t] o.type #[a.eval s, a.eval x]).run P W = .ok v W1) (h : K (a.put o.dst v) W1) :
    if Region.wanted o (yielded ops a.tmps) = true then Oper.wp P o a W K Q else E := by
  rw [if_pos (by simp [Region.wanted, hgd])]
  unfold Oper.wp execOp
  simp only [ho, resolve, invoke, builtin, Sem.run_bind, Sem.run_pure, Result.andThen_ok, List.map_toArray, List.map_cons, List.map_nil, hr]
  exact h
-- <L1
set_option maxHeartbeats 8000000 in
set_option maxRecDepth 100000 in
theorem delete_any (W : World) (q p c : Nat) (rs : List Bk) (h : OwnR fB 6 W 0 42 (.slice (some ⟨q, 0, none⟩) (p + 1) c) rs) (i : Nat) (hi : i < p + 1) :
    Calls Try.prog 117 #[.slice (some ⟨q, 0, none⟩) (p + 1) c, .int .i64 (i : Nat), .int .i64 ((i : Int) + 1)] W fun e w' => e = .returned (.slice (some ⟨q, 0, none⟩) p c) ∧ OwnR fB 6 w' 0 42 (.slice (some ⟨q, 0, none⟩) p c) (rs.eraseIdx i) ∧ W.grownBy w' (some q) := by
  have mixed : Try.prog.follows .mixedOrders = true := by kernel_rfl
  obtain ⟨hn, hnc, hcm, -⟩ := own_cell (f := fB) (k := 6) (fun _ => rfl) h
  have HO := Sd.mk h
  have hc63 : c ≤ 9223372036854775807 := by unfold maxLen at hcm; omega
  obtain ⟨n, hnp⟩ : ∃ n, p + 1 = n := ⟨_, rfl⟩
  have HNP := Sd.mk hnp
  rw [hnp] at hnc hi h ⊢
  have e1 : ((i : Int) == (i : Int) + 1) = false := by rw [beq_eq_false_iff_ne]; omega
  have e2 : decide ((i : Int) = (i : Int) + 1) = false := decide_eq_false (by omega)
  have k1 : (i : Int) ≤ (i : Int) + 1 := by omega
  have k2 : (i : Int) + 1 ≤ (n : Int) := by omega
  have k3 : (n : Int) ≤ (c : Int) := by omega
  have HN := Sd.mk hn
  clear h hn hnp
  go_enter Try.func117, Try.ntmps117
  go_upto_region 5 with (fail)
  have kic : i ≤ c := by omega
  have kjn : i + 1 ≤ n := by omega
  have kjc : i + 1 ≤ c := by omega
  have kjn2 : (i : Int) + 1 ≤ (n : Int) := by omega
  have k0 : (0 : Int) ≤ (i : Int) + 1 := by omega
  have kto : ((i : Int) + 1).toNat = i + 1 := by omega
  have HO2 := Sd.mk (HO.out.below (below_drew' (Below.refl W.heap.size W)))
  refine Peel.region_peel (n := 7) (S := fun _ => True) (by kernel_rfl) (by kernel_rfl) trivial (fun hHeld => ?_)
  simp only [List.take_succ_cons, List.take_zero]
  clear hHeld
  rcases Decidable.em (c = i + 1) with hce | hce
  · subst hce
    obtain ⟨w6, r6, o6, g6⟩ := del_append W.drew q p _ rs HO2.out i (by rw [HNP.out]; exact hi) ⟨q, 0, none⟩ 0 (fun j u hu => by
      rw [List.drop_eq_nil_of_le (by have := HN.out; have := HNP.out; omega)] at hu
      simp [flat] at hu)
    rw [HNP.out, show n - (i + 1) = 0 by omega] at r6
    have HR6 := Sd.mk r6
    have HO6 := Sd.mk o6
    have HG6 := Sd.mk g6
    clear r6 o6 g6
    (refine Peel.take 0 (v := ?_) rfl rfl (by kernel_rfl) (by kernel_rfl) (by kernel_rfl) (fun _ _ _ h => h) trivial ?_ ?_; rotate_left; (focus (intro w hSw; clear hSw; (try simp only [List.getElem_toArray, List.getElem_cons_succ, List.getElem_cons_zero]); go_simp; try (with_reducible rfl))); try simp only [List.getElem_toArray, List.getElem_cons_succ, List.getElem_cons_zero, Act.put, List.setIfInBounds_toArray, List.set_cons_zero, List.set_cons_succ])
    (refine Peel.take 1 (v := ?_) rfl rfl (by kernel_rfl) (by kernel_rfl) (by kernel_rfl) (fun _ _ _ h => h) trivial ?_ ?_; rotate_left; (focus (intro w hSw; clear hSw; (try simp only [List.getElem_toArray, List.getElem_cons_succ, List.getElem_cons_zero]); go_simp; try (with_reducible rfl))); try simp only [List.getElem_toArray, List.getElem_cons_succ, List.getElem_cons_zero, Act.put, List.setIfInBounds_toArray, List.set_cons_zero, List.set_cons_succ])
    (refine Peel.take 2 (v := ?_) rfl rfl (by kernel_rfl) (by kernel_rfl) (by kernel_rfl) (fun _ _ _ h => h) trivial ?_ ?_; rotate_left; (focus (intro w hSw; clear hSw; (try simp only [List.getElem_toArray, List.getElem_cons_succ, List.getElem_cons_zero]); go_simp; try (with_reducible rfl))); try simp only [List.getElem_toArray, List.getElem_cons_succ, List.getElem_cons_zero, Act.put, List.setIfInBounds_toArray, List.set_cons_zero, List.set_cons_succ])
    (refine Peel.take 3 (v := ?_) rfl rfl (by kernel_rfl) (by kernel_rfl) (by kernel_rfl) (fun _ _ _ h => h) trivial ?_ ?_; rotate_left; (focus (intro w hSw; clear hSw; (try simp only [List.getElem_toArray, List.getElem_cons_succ, List.getElem_cons_zero]); go_simp; try (with_reducible rfl))); try simp only [List.getElem_toArray, List.getElem_cons_succ, List.getElem_cons_zero, Act.put, List.setIfInBounds_toArray, List.set_cons_zero, List.set_cons_succ])
    (refine Peel.take 4 (v := ?_) rfl rfl (by kernel_rfl) (by kernel_rfl) (by kernel_rfl) (fun _ _ _ h => h) trivial ?_ ?_; rotate_left; (focus (intro w hSw; clear hSw; (try simp only [List.getElem_toArray, List.getElem_cons_succ, List.getElem_cons_zero]); go_simp; try (with_reducible rfl))); try simp only [List.getElem_toArray, List.getElem_cons_succ, List.getElem_cons_zero, Act.put, List.setIfInBounds_toArray, List.set_cons_zero, List.set_cons_succ])
    (refine Peel.take 5 (v := ?_) rfl rfl (by kernel_rfl) (by kernel_rfl) (by kernel_rfl) (fun _ _ _ h => h) trivial ?_ ?_; rotate_left; (focus (intro w hSw; clear hSw; (try simp only [List.getElem_toArray, List.getElem_cons_succ, List.getElem_cons_zero]); go_simp; try (with_reducible rfl))); try simp only [List.getElem_toArray, List.getElem_cons_succ, List.getElem_cons_zero, Act.put, List.setIfInBounds_toArray, List.set_cons_zero, List.set_cons_succ])
    ((refine wpAnyH_ready (rs := [6]) (by kernel_rfl) (by simp) ?_; refine AllReadyH.cons rfl (fun K hK => ?_) AllReadyH.nil); refine step_append_run rfl (.tmp 22) (.tmp 25) 25 rfl _ HR6.out ?_; refine hK.out _ _ trivial (fun hHeld => ?_); (clear hK K; try simp only [List.getElem_toArray, List.getElem_cons_succ, List.getElem_cons_zero, Act.put, List.setIfInBounds_toArray, List.set_cons_zero, List.set_cons_succ]); clear hHeld; (refine wpAnyH_done (by kernel_rfl) ?_ _; simp only [Peel.Qn, List.drop_succ_cons, List.drop_zero]); have z1 : n = p + 1 := HNP.out.symm; obtain ⟨-, hpc, -, cur, hq, hsz, -⟩ := own_cell (f := fB) (k := 6) (fun _ => rfl) HO6.out; have HQ6 := Sd.mk hq; obtain ⟨vs, hvl, hcl⟩ := Del.run_clear_k (P := Try.prog) w6 25 42 _ Try.underlying25 zero_blk 6 rfl (fun v hv => by simp [Value.cells] at hv; rcases hv with rfl | rfl | rfl | rfl | rfl | rfl <;> rfl) (by omega) q (p * 6) 1 ((i + 1) - p) (by omega) (fun t ht => by rw [blk_at HQ6.out (p * 6 + t) _ (Array.getElem?_eq_getElem (by omega))]; rfl) (fun t ht => blk_frz HQ6.out (p * 6 + t)); have HOT := Sd.mk (own_tail (f := fB) (k := 6) (fun _ => rfl) HO6.out vs); have HGT := Sd.mk (Rp.grown_then (Rp.grown_then (Rp.grown_below (below_drew' (w := W) (Below.refl W.heap.size W)) (some q)) HG6.out) (Del.grown_setCells (blk_lt' HQ6.out) (p * 6) vs)); clear hvl hq hsz HO6 HG6 HQ6 HO2; have z2 : p ≤ n := (by omega); have z3 : (p : Int) ≤ (n : Int) := (by omega); have z4 : n - p = 1 := (by omega); have z5 : ¬ (i + 1) = p := (by omega); go_wp2; go_ret; exact ⟨rfl, HOT.out, HGT.out⟩)
  · obtain ⟨w6, r6, o6, g6⟩ := del_append W.drew q p c rs HO2.out i (by rw [HNP.out]; exact hi) ⟨q, (i + 1) * 6, none⟩ (c - (i + 1)) (fun j u hu => del_src HO2.out i j u hu)
    rw [HNP.out] at r6
    have HR6 := Sd.mk r6
    have HO6 := Sd.mk o6
    have HG6 := Sd.mk g6
    clear r6 o6 g6
    (refine Peel.take 0 (v := ?_) rfl rfl (by kernel_rfl) (by kernel_rfl) (by kernel_rfl) (fun _ _ _ h => h) trivial ?_ ?_; rotate_left; (focus (intro w hSw; clear hSw; (try simp only [List.getElem_toArray, List.getElem_cons_succ, List.getElem_cons_zero]); go_simp; try (with_reducible rfl))); try simp only [List.getElem_toArray, List.getElem_cons_succ, List.getElem_cons_zero, Act.put, List.setIfInBounds_toArray, List.set_cons_zero, List.set_cons_succ])
    (refine Peel.take 1 (v := ?_) rfl rfl (by kernel_rfl) (by kernel_rfl) (by kernel_rfl) (fun _ _ _ h => h) trivial ?_ ?_; rotate_left; (focus (intro w hSw; clear hSw; (try simp only [List.getElem_toArray, List.getElem_cons_succ, List.getElem_cons_zero]); go_simp; try (with_reducible rfl))); try simp only [List.getElem_toArray, List.getElem_cons_succ, List.getElem_cons_zero, Act.put, List.setIfInBounds_toArray, List.set_cons_zero, List.set_cons_succ])
    (refine Peel.take 2 (v := ?_) rfl rfl (by kernel_rfl) (by kernel_rfl) (by kernel_rfl) (fun _ _ _ h => h) trivial ?_ ?_; rotate_left; (focus (intro w hSw; clear hSw; (try simp only [List.getElem_toArray, List.getElem_cons_succ, List.getElem_cons_zero]); go_simp; try (with_reducible rfl))); try simp only [List.getElem_toArray, List.getElem_cons_succ, List.getElem_cons_zero, Act.put, List.setIfInBounds_toArray, List.set_cons_zero, List.set_cons_succ])
    (refine Peel.take 3 (v := ?_) rfl rfl (by kernel_rfl) (by kernel_rfl) (by kernel_rfl) (fun _ _ _ h => h) trivial ?_ ?_; rotate_left; (focus (intro w hSw; clear hSw; (try simp only [List.getElem_toArray, List.getElem_cons_succ, List.getElem_cons_zero]); go_simp; try (with_reducible rfl))); try simp only [List.getElem_toArray, List.getElem_cons_succ, List.getElem_cons_zero, Act.put, List.setIfInBounds_toArray, List.set_cons_zero, List.set_cons_succ])
    (refine Peel.take 4 (v := ?_) rfl rfl (by kernel_rfl) (by kernel_rfl) (by kernel_rfl) (fun _ _ _ h => h) trivial ?_ ?_; rotate_left; (focus (intro w hSw; clear hSw; (try simp only [List.getElem_toArray, List.getElem_cons_succ, List.getElem_cons_zero]); go_simp; try (with_reducible rfl))); try simp only [List.getElem_toArray, List.getElem_cons_succ, List.getElem_cons_zero, Act.put, List.setIfInBounds_toArray, List.set_cons_zero, List.set_cons_succ])
    (refine Peel.take 5 (v := ?_) rfl rfl (by kernel_rfl) (by kernel_rfl) (by kernel_rfl) (fun _ _ _ h => h) trivial ?_ ?_; rotate_left; (focus (intro w hSw; clear hSw; (try simp only [List.getElem_toArray, List.getElem_cons_succ, List.getElem_cons_zero]); go_simp; try (with_reducible rfl))); try simp only [List.getElem_toArray, List.getElem_cons_succ, List.getElem_cons_zero, Act.put, List.setIfInBounds_toArray, List.set_cons_zero, List.set_cons_succ])
    ((refine wpAnyH_ready (rs := [6]) (by kernel_rfl) (by simp) ?_; refine AllReadyH.cons rfl (fun K hK => ?_) AllReadyH.nil); refine step_append_run rfl (.tmp 22) (.tmp 25) 25 rfl _ HR6.out ?_; refine hK.out _ _ trivial (fun hHeld => ?_); (clear hK K; try simp only [List.getElem_toArray, List.getElem_cons_succ, List.getElem_cons_zero, Act.put, List.setIfInBounds_toArray, List.set_cons_zero, List.set_cons_succ]); clear hHeld; (refine wpAnyH_done (by kernel_rfl) ?_ _; simp only [Peel.Qn, List.drop_succ_cons, List.drop_zero]); have z1 : n = p + 1 := HNP.out.symm; obtain ⟨-, hpc, -, cur, hq, hsz, -⟩ := own_cell (f := fB) (k := 6) (fun _ => rfl) HO6.out; have HQ6 := Sd.mk hq; obtain ⟨vs, hvl, hcl⟩ := Del.run_clear_k (P := Try.prog) w6 25 42 _ Try.underlying25 zero_blk 6 rfl (fun v hv => by simp [Value.cells] at hv; rcases hv with rfl | rfl | rfl | rfl | rfl | rfl <;> rfl) (by omega) q (p * 6) 1 (c - p) (by omega) (fun t ht => by rw [blk_at HQ6.out (p * 6 + t) _ (Array.getElem?_eq_getElem (by omega))]; rfl) (fun t ht => blk_frz HQ6.out (p * 6 + t)); have HOT := Sd.mk (own_tail (f := fB) (k := 6) (fun _ => rfl) HO6.out vs); have HGT := Sd.mk (Rp.grown_then (Rp.grown_then (Rp.grown_below (below_drew' (w := W) (Below.refl W.heap.size W)) (some q)) HG6.out) (Del.grown_setCells (blk_lt' HQ6.out) (p * 6) vs)); clear hvl hq hsz HO6 HG6 HQ6 HO2; have z2 : p ≤ n := (by omega); have z3 : (p : Int) ≤ (n : Int) := (by omega); have z4 : n - p = 1 := (by omega); have z5 : ¬ c = p := (by omega); go_wp2; go_ret; exact ⟨rfl, HOT.out, HGT.out⟩)
-- L1>
end Go.Proofs.Ytnomgkmeomlccaa.Fst
set_option linter.unusedVariables false
set_option linter.unusedSimpArgs false

namespace Go.Proofs.Ytnomgkmeomlccaa.Fst
open Go.RowKit Go.Sort Rd Api Own Mv App Num Dig
open Blk (Block Rq rqN fR digB coreB)
open Smp (Sm)
open Kee (Bk fB bkK Wk)

set_option maxHeartbeats 8000000 in
set_option maxRecDepth 100000 in
theorem idx_adopt (w0 w : World) (A : Option Addr) (c : Nat) (rs : List Bk) (bs : List Block) (h : Sl bkK w A c rs) (ha : All2 (Bw w0) rs bs) (m : Nat) (hm : m = bs.length) (cap : Value) (dec : Block → Bool) (hclo : ∀ (r : Bk) (x : Block) (W : World), Bw w0 r x → x ∈ bs → RowKit.Below w.heap.size w W → Calls Try.prog 116 #[.agg #[.int .i64 x.view, .int .i64 x.prop, .int .i64 x.just.view, .string x.just.block, .slice r.sa r.sn r.sc, .slice r.a x.batch.length r.c], cap] W fun e w' => e = .returned (.bool (dec x)) ∧ RowKit.Below W.heap.size W w') :
    Calls Try.prog 115 #[.slice A m c, .func (.func 116) #[] #[cap]] w fun e w' => e = .returned (.int .i64 (ixI (bs.findIdx? dec))) ∧ RowKit.Below w.heap.size w w' := by
  have HCL := Sd.mk hclo
  have HM := Sd.mk hm
  have HA := Sd.mk ha
  have HR := Sd.mk h.row
  have hl := h.le
  have hc := h.cap
  rw [ha.len, ← hm] at hl
  clear hclo hm ha h
  go_enter Try.func115, Try.ntmps115
  go_wp2
  go_loopg [5, 8] m (fun gk v5 v8 wr => ∃ i, i + gk = m ∧ v8 = .int .i64 (i : Nat) ∧ Sd (∀ (j : Nat) (x : Block), j < i → bs[j]? = some x → dec x = false) ∧ Sd (RowKit.Below w.heap.size w wr))
  case atStart => exact ⟨0, by omega, rfl, ⟨fun j x hj => by omega⟩, ⟨Below.refl _ _⟩⟩
  case round =>
    obtain ⟨i, hi, rfl, HD, HB⟩ := hrel
    by_cases hlt : i < m
    · have hii : (i : Int) < m := by omega
      obtain ⟨x, hx⟩ : ∃ x, bs[i]? = some x := ⟨bs[i]'(by rw [← HM.out]; exact hlt), List.getElem?_eq_getElem _⟩
      obtain ⟨r, hr⟩ : ∃ r, rs[i]? = some r := ⟨rs[i]'(by rw [HA.out.len, ← HM.out]; exact hlt), List.getElem?_eq_getElem _⟩
      have hbw := HA.out.get hr hx
      obtain ⟨b1, o1, rfl, p0, p1, p2, p3, p4, p5⟩ := Kee.wk_at HR.out hr hbw.wk
      have q0 := cell_below HB.out p0
      have q1 := cell_below HB.out p1
      have q2 := cell_below HB.out p2
      have q3 := cell_below HB.out p3
      have q4 := cell_below HB.out p4
      have q5 := cell_below HB.out p5
      obtain ⟨d, hd⟩ : ∃ d, dec x = d := ⟨_, rfl⟩
      have HDX := Sd.mk hd
      have HX := Sd.mk hx
      have HCX := Sd.mk (show Calls Try.prog 116 #[.agg #[.int .i64 x.view, .int .i64 x.prop, .int .i64 x.just.view, .string x.just.block, .slice r.sa r.sn r.sc, .slice r.a x.batch.length r.c], cap] wr fun e w' => e = .returned (.bool d) ∧ RowKit.Below wr.heap.size wr w' from by have := HCL.out r x wr hbw (List.mem_of_getElem? hx) HB.out; rwa [hd] at this)
      clear p0 p1 p2 p3 p4 p5 hx hr hd hbw
      cases d with
      | true =>
        have HE := Sd.mk (show bs.findIdx? dec = some i from List.findIdx?_eq_some_iff_getElem.2 ⟨(List.getElem?_eq_some_iff.1 HX.out).1, (by rw [(List.getElem?_eq_some_iff.1 HX.out).2]; exact HDX.out), fun j hj => (by have hjl : j < bs.length := Nat.lt_trans hj (List.getElem?_eq_some_iff.1 HX.out).1; have := HD.out j bs[j] hj (List.getElem?_eq_getElem hjl); simpa using this)⟩)
        go_wp2_with (first
          | (go_at_call 116; (with_reducible refine HCX.out.mono ?_); rintro e w2 ⟨rfl, hb⟩; have HB2 := Sd.mk (below_then HB.out hb); clear hb))
        go_ret
        rw [HE.out]
        exact ⟨rfl, HB2.out⟩
      | false =>
        have HD2 := Sd.mk (show ∀ (j : Nat) (y : Block), j < i + 1 → bs[j]? = some y → dec y = false from fun j y hj hy => by
          rcases Nat.lt_or_ge j i with e | e
          · exact HD.out j y e hy
          · rw [show j = i by omega, HX.out] at hy
            cases Option.some.inj hy
            exact HDX.out)
        go_wp2_with (first
          | (go_at_call 116; (with_reducible refine HCX.out.mono ?_); rintro e w2 ⟨rfl, hb⟩; have HB2 := Sd.mk (below_then HB.out hb); clear hb))
        go_roundg (gk - 1)
        case measure => omega
        case rel => exact ⟨i + 1, by omega, by go_num, HD2, HB2⟩
    · have hii : decide (i < m) = false := decide_eq_false (by omega)
      have hii2 : decide ((i : Int) < (m : Int)) = false := decide_eq_false (by omega)
      have HE := Sd.mk (show bs.findIdx? dec = none from List.findIdx?_eq_none_iff.2 (fun x hx => by
        obtain ⟨j, hj⟩ := List.getElem?_of_mem hx
        exact HD.out j x (by have := (List.getElem?_eq_some_iff.1 hj).1; rw [← HM.out] at this; omega) hj))
      go_wp2
      go_ret
      rw [HE.out]
      exact ⟨rfl, HB.out⟩

set_option maxHeartbeats 8000000 in
set_option maxRecDepth 100000 in
theorem adopt1_any {w0 W : World} {g : Nat} {f : Fo} (hf : Fw w0 g f W) (r : Bk) (x : Block) (hw : Bw w0 r x) (gp : Nat) (hc : W.heap[gp]? = some (.cells #[.pointer (some ⟨g, 0, none⟩)] 62 (0, 0))) :
    Calls Try.prog 116 #[.agg #[.int .i64 x.view, .int .i64 x.prop, .int .i64 x.just.view, .string x.just.block, .slice r.sa r.sn r.sc, .slice r.a x.batch.length r.c], .pointer (some ⟨gp, 0, none⟩)] W fun e w' => e = .returned (.bool (f.has x.just.block)) ∧ RowKit.Below W.heap.size W w' := by
  have mixed : Try.prog.follows .mixedOrders = true := by kernel_rfl
  have b0 := below_one W (.cells #[.int .i64 x.view, .int .i64 x.prop, .int .i64 x.just.view, .string x.just.block, .slice r.sa r.sn r.sc, .slice r.a x.batch.length r.c] 42)
  have HB := Sd.mk b0
  have X0 := Sd.mk (blk_new W (.cells #[.int .i64 x.view, .int .i64 x.prop, .int .i64 x.just.view, .string x.just.block, .slice r.sa r.sn r.sc, .slice r.a x.batch.length r.c] 42))
  have HH := Sd.mk (blk_keep hc b0)
  have HF := Sd.mk (hf.below b0)
  have HZ := Sd.mk (just_le hw.sz)
  obtain ⟨d, hd⟩ : ∃ d, f.has x.just.block = d := ⟨_, rfl⟩
  have HD := Sd.mk hd
  rw [hd]
  clear hf hw hc b0 hd
  go_enter Try.func116, Try.ntmps116
  go_upto_region 1 with (fail)
  generalize hBx : W.heap.size = Bx at X0 ⊢
  generalize W.alloc _ = W1 at HB X0 HH HF ⊢
  have HHS := Sd.mk (fun W2 (hb : RowKit.Below W1.heap.size W1 W2) => has_any (HF.out.below hb) x.just.block HZ.out d HD.out)
  have c0 := fun d os => cell_regrown (blk_at X0.out 0 _ rfl) d os
  have c1 := fun d os => cell_regrown (blk_at X0.out 1 _ rfl) d os
  have c2 := fun d os => cell_regrown (blk_at X0.out 2 _ rfl) d os
  have c3 := fun d os => cell_regrown (blk_at X0.out 3 _ rfl) d os
  have c4 := fun d os => cell_regrown (blk_at X0.out 4 _ rfl) d os
  have c5 := fun d os => cell_regrown (blk_at X0.out 5 _ rfl) d os
  have e0 := fun d os => cell_regrown (blk_at HH.out 0 _ rfl) d os
  refine wp_region_quiet_below (by assumption) (by kernel_rfl) ?_
  repeat (go_big_quiet_step ((first | (go_at_call 28; with_reducible refine Calls.regrown_of (Blk.parent_any _ _ _ _ _ _ _)) | (go_at_call 40; with_reducible refine Calls.regrown_of (HHS.out _ (below_regrown _ _ _))))))
  refine wpQuiet_nil ?_
  rintro W9 ⟨⟨nq, osq⟩, rfl⟩
  have HB9 := Sd.mk (below_then HB.out (below_regrown W1 nq osq))
  go_wp2
  go_ret
  exact ⟨rfl, by have h := HB9.out; first | exact h | rwa [hBx] at h⟩
theorem Fw.lessen {w0 W w8 : World} {g m q p c k n : Nat} {prs : Smp.Prs} {rs : List Bk} (f : Fo) (jb : RowKit.Below w0.heap.size w0 W) (jg : w0.heap.size ≤ g) (j1 : W.heap[g]? = some (.cells #[.string f.root, .int .i64 f.height, .map (some m), .slice (some ⟨q, 0, none⟩) n c] 117 (0, 0))) (j2 : Sm m prs W) (j3 : w0.heap.size ≤ m) (j4 : All2 (En w0) prs f.nodes) (j5 : OwnR fB 6 W 0 42 (.slice (some ⟨q, 0, none⟩) n c) rs) (j6 : ∀ k, (Value.slice (some ⟨q, 0, none⟩) n c).ownBlock = some k → w0.heap.size ≤ k) (j7 : All2 (Bw w0) rs f.orph)
    (ho : OwnR fB 6 w8 0 42 (.slice (some ⟨q, 0, none⟩) p c) (rs.eraseIdx k)) (hg : W.grownBy w8 (some q)) : w8.heap[g]? = some (.cells #[.string f.root, .int .i64 f.height, .map (some m), .slice (some ⟨q, 0, none⟩) n c] 117 (0, 0)) ∧ Fw w0 g (f.less k) (w8.setCell ⟨g, 3, none⟩ (.slice (some ⟨q, 0, none⟩) p c)) ∧ Fr W (w8.setCell ⟨g, 3, none⟩ (.slice (some ⟨q, 0, none⟩) p c)) := by
  have hq := j6 q rfl
  have e8 : w8.heap[g]? = some (.cells #[.string f.root, .int .i64 f.height, .map (some m), .slice (some ⟨q, 0, none⟩) n c] 117 (0, 0)) := blk_grown j1 hg (j5.blk j1 (by decide))
  have hG := Kee.grown_set w8 g 3 (.slice (some ⟨q, 0, none⟩) p c)
  have hgm : some g ≠ some m := fun e => by
    cases Option.some.inj e
    obtain ⟨es, ck, hb, -⟩ := j2.h
    rw [j1] at hb
    simp at hb
  have hb8 := below_grown jb hg jb.size (fun k e => (Option.some.inj e) ▸ hq)
  refine ⟨e8, ⟨below_grown hb8 hG hb8.size (fun k e => (Option.some.inj e) ▸ jg), jg, m, _, prs, rs.eraseIdx k, (blk_set3 e8 3 _).trans rfl, (j2.grown hg (by have := Kee.own_map j5 j2; exact this)).grown hG hgm, j3, j4, OwnR.grown ho hG (.inr (ho.blk e8 (by decide))), fun k e => (by cases Option.some.inj e; exact hq), j7.erase k⟩, (Fr.grown hg (fun cs t fr e => ?_)).trans (Fr.grown hG (fun cs t fr e => ?_))⟩
  · obtain ⟨-, -, -, cur, hc, -⟩ := own_cell (f := fB) (k := 6) (fun _ => rfl) j5
    rw [hc] at e
    simp at e
    exact .inr e.2.1.symm
  · rw [e8] at e
    simp at e
    exact .inl e.2.1.symm
theorem own_some {α : Type} {f : α → List Value} {n base : Nat} {e : TypeId} {v : Value} {xs : List α} {W : World} (h : OwnR f n W base e v xs) (hne : xs ≠ []) : ∃ q c, v = .slice (some ⟨q, 0, none⟩) xs.length c := by
  rcases h.2 with ⟨-, h0⟩ | ⟨g, cap, cur, h1, -⟩
  · exact absurd (List.eq_nil_of_length_eq_zero h0) hne
  · exact ⟨g, cap, h1⟩
-- <L1
set_option maxHeartbeats 16000000 in
set_option maxRecDepth 100000 in
theorem adopt_any {w0 W : World} {g : Nat} {f : Fo} (hf : Fw w0 g f W) (hok : Ok f) :
    Calls Try.prog 76 #[.pointer (some ⟨g, 0, none⟩)] W fun e w' => e = .returned (.tuple #[]) ∧ Fw w0 g (f.adopt f.orph.length) w' ∧ Fr W w' := by
  have mixed : Try.prog.follows .mixedOrders = true := by kernel_rfl
  have b0 := below_one W (.cells #[.pointer (some ⟨g, 0, none⟩)] 62)
  have E0 := Sd.mk (blk_new W (.cells #[.pointer (some ⟨g, 0, none⟩)] 62))
  have HF0 := Sd.mk (hf.below b0)
  have HR0 := Sd.mk (Fr.below b0)
  have HO := Sd.mk hok
  obtain ⟨T, hT⟩ : ∃ T, f.adopt f.orph.length = T := ⟨_, rfl⟩
  have HT := Sd.mk hT
  rw [hT]
  clear b0 hf hok hT
  go_enter Try.func76, Try.ntmps76
  go_upto_region 1 with (fail)
  generalize W.heap.size = gp at E0 ⊢
  generalize W.alloc _ = W1 at E0 HF0 HR0 ⊢
  go_loopg [2, 3] f.orph.length (fun gk v2 v3 wr => ∃ f' : Fo, f'.orph.length = gk ∧ Sd (Ok f') ∧ Sd (f'.adopt f'.orph.length = T) ∧ Sd (Fw w0 g f' wr) ∧ Sd (Fr W wr) ∧ Sd (wr.heap[gp]? = some (.cells #[.pointer (some ⟨g, 0, none⟩)] 62 (0, 0))))
  case atStart => exact ⟨f, rfl, HO, HT, HF0, HR0, E0⟩
  case round =>
    clear HO HT HF0 HR0 E0
    obtain ⟨f', hgk, HO, HT, HF, HR, HE⟩ := hrel
    have HGK := Sd.mk hgk
    clear hgk
    have c0 := blk_at HE.out 0 _ rfl
    obtain ⟨m, ov, prs, rs, h1, h2, h3, h4, h5, h6, h7⟩ := HF.out.ex
    obtain ⟨A, c, rfl, hs⟩ := Kee.own_bk h5
    have HI := Sd.mk (idx_adopt w0 wr A c rs f'.orph hs h7 _ rfl (.pointer (some ⟨gp, 0, none⟩)) (fun b => f'.has b.just.block) (fun r x W2 hx _ hb => adopt1_any (HF.out.below hb) r x hx gp (blk_keep HE.out hb)))
    have c3 := blk_at h1 3 _ rfl
    rw [h7.len] at c3
    rw [show f'.orph.findIdx? (fun b => f'.has b.just.block) = f'.first from rfl] at HI
    clear h1 h2 h3 h4 h5 h6 h7 hs
    cases hfi : f'.first with
    | none =>
      rw [hfi, show ixI none = -1 from rfl] at HI
      have HTT := Sd.mk (show f' = T by rw [← HT.out, adopt_none hfi])
      clear hfi
      go_wp2_with (first
        | (go_at_call 115; (with_reducible refine HI.out.mono ?_); rintro e w1 ⟨rfl, hb⟩; have HB := Sd.mk hb; clear hb))
      refine bodyPost_ret (results_none rfl _ _ _) rfl ?_
      exact ⟨rfl, by rw [← HTT.out]; exact HF.out.below HB.out, HR.out.trans (Fr.below HB.out)⟩
    | some k =>
      rw [hfi, show ixI (some k) = (k : Int) from rfl] at HI
      obtain ⟨x, hx, -, -⟩ := first_some hfi
      have hkl := (List.getElem?_eq_some_iff.1 hx).1
      have HKL := Sd.mk hkl
      obtain ⟨p, hp⟩ : ∃ p, f'.orph.length = p + 1 := ⟨f'.orph.length - 1, by omega⟩
      have HP := Sd.mk hp
      have hp8 : p ≤ 8 := by have := HO.out.few; omega
      have HLL := Sd.mk (less_len hx)
      have hst := ok_step HO.out hx
      have HO2 := Sd.mk hst.1
      have HN2 := Sd.mk hst.2
      have HT2 := Sd.mk (show ((f'.less k).fput x).adopt ((f'.less k).fput x).orph.length = T by
        rw [← HT.out, ← less_len hx, adopt_some hfi hx, fput_orph])
      have HLF := Sd.mk (show ((f'.less k).fput x).orph.length = p by rw [fput_orph]; have := less_len hx; omega)
      have HX := Sd.mk hx
      clear hfi hst HT HO hx hkl
      rw [hp] at HI c3
      rw [hp] at HKL
      have hkp : k < p + 1 := HKL.out
      have hkw : IntKind.i64.wrap ((k : Int) + 1) = (k : Int) + 1 := Rp.wraps_i64 _ (by omega) (by omega)
      have hkz : decide ((k : Int) < 0) = false := decide_eq_false (by omega)
      have kk0 : (0 : Int) ≤ (k : Int) := by omega
      have kk1 : (k : Int) < ((p : Int) + 1) := by omega
      clear hp
      go_upto_region 3 with (first
        | (go_at_call 115; (with_reducible refine HI.out.mono ?_); rintro e w1 ⟨rfl, hb⟩; have HF1 := Sd.mk (HF.out.below hb); have HR1 := Sd.mk (HR.out.trans (Fr.below hb)); have HE1 := Sd.mk (blk_keep HE.out hb); clear hb))
      clear HI c0 c3 HF HR HE
      obtain ⟨m1, ov1, prs1, rs1, j1, j2, j3, j4, j5, j6, j7⟩ := HF1.out.ex
      have hrl : rs1.length = p + 1 := by rw [j7.len]; exact HP.out
      obtain ⟨q, c1, rfl⟩ := own_some j5 (fun e => by rw [e] at hrl; simp at hrl)
      rw [hrl] at j1 j5 j6
      obtain ⟨r1, hr1⟩ : ∃ r, rs1[k]? = some r := ⟨rs1[k]'(by omega), List.getElem?_eq_getElem _⟩
      have HBW := Sd.mk (j7.get hr1 HX.out)
      obtain ⟨A2, c2, eA, hs2⟩ := Kee.own_bk j5
      rw [hrl] at eA
      simp only [Value.slice.injEq, true_and] at eA
      obtain ⟨rfl, rfl⟩ := eA
      have hcc1 := hs2.le
      rw [hrl] at hcc1
      have hcc2 := hs2.cap
      obtain ⟨b1, o1, hbo, p0, p1, p2, p3, p4, p5⟩ := Kee.wk_at hs2.row hr1 HBW.out.wk
      simp only [Option.some.injEq, Addr.mk.injEq, and_true] at hbo
      obtain ⟨rfl, rfl⟩ := hbo
      simp only [Nat.zero_add] at p0 p1 p2 p3 p4 p5
      have HQL := Sd.mk (show q < w1.heap.size from (OwnR.ge j5 rfl).2)
      have c0 := blk_at HE1.out 0 _ rfl
      have c3 := blk_at j1 3 _ rfl
      have J := Sd.mk (And.intro j1 (And.intro j2 (And.intro j3 (And.intro j4 (And.intro j5 (And.intro j6 j7))))))
      clear j1 j2 j3 j4 j5 j6 j7 hs2 hr1
      go_upto_region 4 with (fail)
      have b3 := below_one w1 (.cells #[.int .i64 x.view, .int .i64 x.prop, .int .i64 x.just.view, .string x.just.block, .slice r1.sa r1.sn r1.sc, .slice r1.a x.batch.length r1.c] 42)
      have b4 := below_drew' b3
      have E4 := Sd.mk (blk_keep (blk_new w1 (.cells #[.int .i64 x.view, .int .i64 x.prop, .int .i64 x.just.view, .string x.just.block, .slice r1.sa r1.sn r1.sc, .slice r1.a x.batch.length r1.c] 42)) (below_drew' (Below.refl _ _)))
      have HNE := Sd.mk (show q ≠ w1.heap.size from fun e => by have := HQL.out; omega)
      have HE4 := Sd.mk (blk_keep HE1.out b4)
      have HF4 := Sd.mk (HF1.out.below b4)
      have HR4 := Sd.mk (HR1.out.trans (Fr.below b4))
      obtain ⟨j1, j2, j3, j4, j5, j6, j7⟩ := J.out
      have J4 := Sd.mk (And.intro (blk_keep j1 b4) (And.intro (j2.below b4) (And.intro j3 (And.intro j4 (And.intro (j5.below b4) (And.intro j6 j7))))))
      clear b3 b4 p0 p1 p2 p3 p4 p5 c0 c3 J j1 j2 j3 j4 j5 j6 j7 HE1 HF1 HR1 HQL
      have S0 : (w1.alloc (.cells #[.int .i64 x.view, .int .i64 x.prop, .int .i64 x.just.view, .string x.just.block, .slice r1.sa r1.sn r1.sc, .slice r1.a x.batch.length r1.c] 42)).drew.cell? ⟨gp, 0, none⟩ = some (.pointer (some ⟨g, 0, none⟩)) ∧ (w1.alloc (.cells #[.int .i64 x.view, .int .i64 x.prop, .int .i64 x.just.view, .string x.just.block, .slice r1.sa r1.sn r1.sc, .slice r1.a x.batch.length r1.c] 42)).drew.cell? ⟨g, 3, none⟩ = some (.slice (some ⟨q, 0, none⟩) (p + 1) c1) := ⟨blk_at HE4.out 0 _ rfl, blk_at J4.out.1 3 _ rfl⟩
      refine Peel.region_peel (n := 11) (S := fun W2 => W2.cell? ⟨gp, 0, none⟩ = some (.pointer (some ⟨g, 0, none⟩)) ∧ W2.cell? ⟨g, 3, none⟩ = some (.slice (some ⟨q, 0, none⟩) (p + 1) c1)) (by kernel_rfl) (by kernel_rfl) S0 (fun hHeld => ?_)
      simp only [List.take_succ_cons, List.take_zero]
      clear S0
      generalize w1.heap.size = g3 at E4 HNE ⊢
      generalize (w1.alloc _).drew = W4 at E4 HE4 HF4 HR4 J4 hHeld ⊢
      (refine Peel.take 0 (v := ?_) rfl rfl (by kernel_rfl) (by kernel_rfl) (by kernel_rfl) (fun _ _ _ h => h) (by assumption) ?_ ?_; rotate_left; (focus (intro w hSw; (try dsimp only at hSw); obtain ⟨s0, s1⟩ := hSw; (try simp only [List.getElem_toArray, List.getElem_cons_succ, List.getElem_cons_zero]); go_simp; try (with_reducible rfl))); try simp only [List.getElem_toArray, List.getElem_cons_succ, List.getElem_cons_zero, Act.put, List.setIfInBounds_toArray, List.set_cons_zero, List.set_cons_succ])
      (refine Peel.take 1 (v := ?_) rfl rfl (by kernel_rfl) (by kernel_rfl) (by kernel_rfl) (fun _ _ _ h => h) (by assumption) ?_ ?_; rotate_left; (focus (intro w hSw; (try dsimp only at hSw); obtain ⟨s0, s1⟩ := hSw; (try simp only [List.getElem_toArray, List.getElem_cons_succ, List.getElem_cons_zero]); go_simp; try (with_reducible rfl))); try simp only [List.getElem_toArray, List.getElem_cons_succ, List.getElem_cons_zero, Act.put, List.setIfInBounds_toArray, List.set_cons_zero, List.set_cons_succ])
      (refine Peel.take 2 (v := ?_) rfl rfl (by kernel_rfl) (by kernel_rfl) (by kernel_rfl) (fun _ _ _ h => h) (by assumption) ?_ ?_; rotate_left; (focus (intro w hSw; (try dsimp only at hSw); obtain ⟨s0, s1⟩ := hSw; (try simp only [List.getElem_toArray, List.getElem_cons_succ, List.getElem_cons_zero]); go_simp; try (with_reducible rfl))); try simp only [List.getElem_toArray, List.getElem_cons_succ, List.getElem_cons_zero, Act.put, List.setIfInBounds_toArray, List.set_cons_zero, List.set_cons_succ])
      (refine Peel.take 3 (v := ?_) rfl rfl (by kernel_rfl) (by kernel_rfl) (by kernel_rfl) (fun _ _ _ h => h) (by assumption) ?_ ?_; rotate_left; (focus (intro w hSw; (try dsimp only at hSw); obtain ⟨s0, s1⟩ := hSw; (try simp only [List.getElem_toArray, List.getElem_cons_succ, List.getElem_cons_zero]); go_simp; try (with_reducible rfl))); try simp only [List.getElem_toArray, List.getElem_cons_succ, List.getElem_cons_zero, Act.put, List.setIfInBounds_toArray, List.set_cons_zero, List.set_cons_succ])
      (refine Peel.take 4 (v := ?_) rfl rfl (by kernel_rfl) (by kernel_rfl) (by kernel_rfl) (fun _ _ _ h => h) (by assumption) ?_ ?_; rotate_left; (focus (intro w hSw; (try dsimp only at hSw); obtain ⟨s0, s1⟩ := hSw; (try simp only [List.getElem_toArray, List.getElem_cons_succ, List.getElem_cons_zero]); go_simp; try (with_reducible rfl))); try simp only [List.getElem_toArray, List.getElem_cons_succ, List.getElem_cons_zero, Act.put, List.setIfInBounds_toArray, List.set_cons_zero, List.set_cons_succ])
      (refine Peel.take 5 (v := ?_) rfl rfl (by kernel_rfl) (by kernel_rfl) (by kernel_rfl) (fun _ _ _ h => h) (by assumption) ?_ ?_; rotate_left; (focus (intro w hSw; (try dsimp only at hSw); obtain ⟨s0, s1⟩ := hSw; (try simp only [List.getElem_toArray, List.getElem_cons_succ, List.getElem_cons_zero]); go_simp; try (with_reducible rfl))); try simp only [List.getElem_toArray, List.getElem_cons_succ, List.getElem_cons_zero, Act.put, List.setIfInBounds_toArray, List.set_cons_zero, List.set_cons_succ])
      (refine Peel.take 6 (v := ?_) rfl rfl (by kernel_rfl) (by kernel_rfl) (by kernel_rfl) (fun _ _ _ h => h) (by assumption) ?_ ?_; rotate_left; (focus (intro w hSw; (try dsimp only at hSw); obtain ⟨s0, s1⟩ := hSw; (try simp only [List.getElem_toArray, List.getElem_cons_succ, List.getElem_cons_zero]); go_simp; try (with_reducible rfl))); try simp only [List.getElem_toArray, List.getElem_cons_succ, List.getElem_cons_zero, Act.put, List.setIfInBounds_toArray, List.set_cons_zero, List.set_cons_succ])
      (refine Peel.take 7 (v := ?_) rfl rfl (by kernel_rfl) (by kernel_rfl) (by kernel_rfl) (fun _ _ _ h => h) (by assumption) ?_ ?_; rotate_left; (focus (intro w hSw; (try dsimp only at hSw); obtain ⟨s0, s1⟩ := hSw; (try simp only [List.getElem_toArray, List.getElem_cons_succ, List.getElem_cons_zero]); go_simp; try (with_reducible rfl))); try simp only [List.getElem_toArray, List.getElem_cons_succ, List.getElem_cons_zero, Act.put, List.setIfInBounds_toArray, List.set_cons_zero, List.set_cons_succ])
      (refine wpAnyH_ready (rs := [8]) (by kernel_rfl) (by simp) ?_; refine AllReadyH.cons rfl (fun K hK => ?_) AllReadyH.nil)
      go_simp
      go_at_call 117
      try rw [hkw]
      refine (delete_any W4 q p c1 rs1 J4.out.2.2.2.2.1 k hkp).mono ?_
      rintro e w8 ⟨rfl, ho8, hg8⟩
      obtain ⟨e8, hf9, hr9⟩ := Fw.lessen f' HF4.out.bel HF4.out.gg J4.out.1 J4.out.2.1 J4.out.2.2.1 J4.out.2.2.2.1 J4.out.2.2.2.2.1 J4.out.2.2.2.2.2.1 J4.out.2.2.2.2.2.2 ho8 hg8
      have hp8 := blk_grown HE4.out hg8 (J4.out.2.2.2.2.1.blk HE4.out (by decide))
      have hbx := blk_grown E4.out hg8 (fun e => HNE.out (Option.some.inj e))
      have s8 : w8.cell? ⟨gp, 0, none⟩ = some (.pointer (some ⟨g, 0, none⟩)) ∧ w8.cell? ⟨g, 3, none⟩ = some (.slice (some ⟨q, 0, none⟩) (p + 1) c1) := ⟨blk_at hp8 0 _ rfl, blk_at e8 3 _ rfl⟩
      have HE8 := Sd.mk e8
      have HF9 := Sd.mk hf9
      have HR9 := Sd.mk (HR4.out.trans hr9)
      have HE9 := Sd.mk (hr9.keep _ _ _ _ HE4.out (by decide) (by decide))
      have HX9 := Sd.mk ((heap_set w8 g 3 (.slice (some ⟨q, 0, none⟩) p c1) g3 (fun e => by rw [e, e8] at hbx; simp at hbx)).trans hbx)
      clear ho8 hg8 e8 hf9 hr9 hp8 hbx
      (refine hK.out _ _ s8 (fun hHeld => ?_); (clear hK K; try simp only [List.getElem_toArray, List.getElem_cons_succ, List.getElem_cons_zero, Act.put, List.setIfInBounds_toArray, List.set_cons_zero, List.set_cons_succ]))
      (refine Peel.take 9 (v := ?_) rfl rfl (by kernel_rfl) (by kernel_rfl) (by kernel_rfl) (fun _ _ _ h => h) (by assumption) ?_ ?_; rotate_left; (focus (intro w hSw; (try dsimp only at hSw); obtain ⟨s0, s1⟩ := hSw; (try simp only [List.getElem_toArray, List.getElem_cons_succ, List.getElem_cons_zero]); go_simp; try (with_reducible rfl))); try simp only [List.getElem_toArray, List.getElem_cons_succ, List.getElem_cons_zero, Act.put, List.setIfInBounds_toArray, List.set_cons_zero, List.set_cons_succ])
      (refine Peel.take 10 (v := ?_) rfl rfl (by kernel_rfl) (by kernel_rfl) (by kernel_rfl) (fun _ _ _ h => h) (by assumption) ?_ ?_; rotate_left; (focus (intro w hSw; (try dsimp only at hSw); obtain ⟨s0, s1⟩ := hSw; (try simp only [List.getElem_toArray, List.getElem_cons_succ, List.getElem_cons_zero]); go_simp; try (with_reducible rfl))); try simp only [List.getElem_toArray, List.getElem_cons_succ, List.getElem_cons_zero, Act.put, List.setIfInBounds_toArray, List.set_cons_zero, List.set_cons_succ])
      (refine wpAnyH_done (by kernel_rfl) ?_ _; simp only [Peel.Qn, List.drop_succ_cons, List.drop_zero]; clear hHeld)
      clear HF4 HR4 HE4 J4 E4
      have d3 := s8.2
      have f3 := blk_frz HE8.out 3
      go_upto_region 5 with (fail)
      clear s8 d3 f3 HE8
      generalize World.setCell _ _ _ = W9 at HF9 HR9 HE9 HX9 ⊢
      have c0 := blk_at HE9.out 0 _ rfl
      have y0 := blk_at HX9.out 0 _ rfl
      have y1 := blk_at HX9.out 1 _ rfl
      have y2 := blk_at HX9.out 2 _ rfl
      have y3 := blk_at HX9.out 3 _ rfl
      have y4 := blk_at HX9.out 4 _ rfl
      have y5 := blk_at HX9.out 5 _ rfl
      have HPT := Sd.mk (fput_any HF9.out x r1 HBW.out (just_le HBW.out.sz) HN2.out)
      go_wp2_with (first
        | (go_at_call 75; (with_reducible refine HPT.out.mono ?_); rintro e wb ⟨rfl, hfb, hrb⟩; have HFB := Sd.mk hfb; have HRB := Sd.mk (HR9.out.trans hrb); have HEB := Sd.mk (hrb.keep _ _ _ _ HE9.out (by decide) (by decide)); clear hfb hrb))
      go_roundg (gk - 1)
      case measure => have h1 := HGK.out; have h2 := HP.out; omega
      case rel => exact ⟨(f'.less k).fput x, by have h1 := HGK.out; have h2 := HP.out; have h3 := HLF.out; omega, HO2, HT2, HFB, HRB, HEB⟩
-- L1>
end Go.Proofs.Ytnomgkmeomlccaa.Fst
set_option linter.unusedVariables false
set_option linter.unusedSimpArgs false

namespace Go.Proofs.Ytnomgkmeomlccaa.Fst
open Go.RowKit Go.Sort Rd Api Own Mv App Num Dig
open Blk (Block Rq rqN fR digB coreB)
open Smp (Sm)
open Kee (Bk fB fB_one bkK Wk info_blk)

def F0 : Fo := ⟨Crt.FB, 0, [], []⟩
theorem ok_0 : Ok F0 := ⟨fun b hb => by simp [F0] at hb, List.nodup_nil, by simp [F0]⟩
set_option maxHeartbeats 4000000 in
set_option maxRecDepth 100000 in
theorem new_any (w : World) : Calls Try.prog 35 #[] w fun e w' => ∃ g, e = .returned (.pointer (some ⟨g, 0, none⟩)) ∧ Fw w g F0 w' ∧ RowKit.Below w.heap.size w w' := by
  have hmm := @run_makeMap Try.prog
  obtain ⟨fb, hfb⟩ : ∃ d, Crt.FB = d := ⟨_, rfl⟩
  have HFB := Sd.mk hfb
  clear hfb
  go_enter Try.func35, Try.ntmps35
  go_wp2_with (first
    | (go_at_call 29; (with_reducible refine (Blk.first_any _ fb HFB.out).mono ?_); rintro e w1 ⟨rfl, hb⟩; have HB := Sd.mk hb; clear hb))
  go_ret
  have hb := below_then (below_one w1 (.map #[] 0)) (below_one (w1.alloc (.map #[] 0)) (.cells #[.string fb, .int .i64 0, .map (some w1.heap.size), .slice none 0 0] 117))
  refine ⟨w1.heap.size + 1, rfl, ⟨below_then HB.out hb, Nat.le_succ_of_le HB.out.size, w1.heap.size, .slice none 0 0, [], [], ?_, Smp.sm_empty (blk_keep (blk_new w1 _) (below_one _ _)), HB.out.size, trivial, OwnR.nil _ _ _ _ _, fun k hk => (by simp [Value.ownBlock] at hk), trivial⟩, below_then HB.out hb⟩
  show _ = some (Obj.cells #[.string Crt.FB, .int .i64 0, .map (some w1.heap.size), .slice none 0 0] 117 (0, 0))
  rw [HFB.out]
  exact blk_new1 _ _ _
theorem Fr.grown2 {W W1 : World} {row : Option Nat} (hg : W.grownBy W1 row) (hne : ∀ g, row = some g → ∀ cs t fr, W.heap[g]? = some (.cells cs t fr) → t = 117 ∨ t = 42) : Fr W W1 :=
  ⟨hg.size, fun k cs t fr e n1 n2 => blk_grown e hg (fun e2 => by
    rcases hne k e2 cs t fr e with h | h
    · exact n1 h
    · exact n2 h)⟩
theorem own_type {α : Type} {f : α → List Value} {n base : Nat} {e : TypeId} {v : Value} {xs : List α} {W : World} (h : OwnR f n W base e v xs) {q : Nat} (hq : v.ownBlock = some q) : ∃ cur, W.heap[q]? = some (.cells cur e (0, 0)) := by
  rcases h.2 with ⟨h1, _⟩ | ⟨g, cap, cur, h1, _, hh, _⟩
  · rw [h1] at hq; simp [Value.ownBlock] at hq
  · rw [h1] at hq
    simp [Value.ownBlock] at hq
    subst hq
    exact ⟨cur, hh⟩
theorem Fw.push {w0 W W1 : World} {g m : Nat} {ov v1 : Value} {prs : Smp.Prs} {rs : List Bk} {r : Bk} {x : Block} (f : Fo) (jb : RowKit.Below w0.heap.size w0 W) (jg : w0.heap.size ≤ g) (j1 : W.heap[g]? = some (.cells #[.string f.root, .int .i64 f.height, .map (some m), ov] 117 (0, 0))) (j2 : Sm m prs W) (j3 : w0.heap.size ≤ m) (j4 : All2 (En w0) prs f.nodes) (j5 : OwnR fB 6 W 0 42 ov rs) (j6 : ∀ k, ov.ownBlock = some k → w0.heap.size ≤ k) (j7 : All2 (Bw w0) rs f.orph)
    (hw : Bw w0 r x) (ho : OwnR fB 6 W1 0 42 v1 (rs ++ [r])) (hg : W.grownBy W1 ov.ownBlock) (hn : v1.ownBlock = ov.ownBlock ∨ v1.ownBlock = some (W.heap.size + 1)) : W1.heap[g]? = some (.cells #[.string f.root, .int .i64 f.height, .map (some m), ov] 117 (0, 0)) ∧ Fw w0 g ⟨f.root, f.height, f.nodes, f.orph ++ [x]⟩ (W1.setCell ⟨g, 3, none⟩ v1) ∧ Fr W (W1.setCell ⟨g, 3, none⟩ v1) := by
  have e8 : W1.heap[g]? = some (.cells #[.string f.root, .int .i64 f.height, .map (some m), ov] 117 (0, 0)) := blk_grown j1 hg (j5.blk j1 (by decide))
  have hG := Kee.grown_set W1 g 3 v1
  have hgm : some g ≠ some m := fun e => by
    cases Option.some.inj e
    obtain ⟨es, ck, hb, -⟩ := j2.h
    rw [j1] at hb
    simp at hb
  have hb8 := below_grown jb hg jb.size j6
  have hnew : ∀ k, v1.ownBlock = some k → w0.heap.size ≤ k := fun k hk => by
    rcases hn with e | e
    · exact j6 k (e ▸ hk)
    · rw [hk] at e
      cases Option.some.inj e
      have := jb.size
      omega
  refine ⟨e8, ⟨below_grown hb8 hG hb8.size (fun k e => (Option.some.inj e) ▸ jg), jg, m, _, prs, rs ++ [r], (blk_set3 e8 3 _).trans rfl, (j2.grown hg (Kee.own_map j5 j2)).grown hG hgm, j3, j4, OwnR.grown ho hG (.inr (ho.blk e8 (by decide))), hnew, j7.snoc hw⟩, (Fr.grown2 hg (fun q hq cs t fr e => ?_)).trans (Fr.grown hG (fun cs t fr e => ?_))⟩
  · obtain ⟨cur, hc⟩ := own_type j5 hq
    rw [hc] at e
    simp at e
    exact .inr e.2.1.symm
  · rw [e8] at e
    simp at e
    exact .inl e.2.1.symm
/-- a box, apart from the orphans' row -/
structure Bx (g g3 : Nat) (cs : Array Value) (W : World) : Prop where
  bx : W.heap[g3]? = some (.cells cs 42 (0, 0))
  gl : g < W.heap.size
  ne : ∀ a b c ov, W.heap[g]? = some (.cells #[a, b, c, ov] 117 (0, 0)) → ov.ownBlock ≠ some g3
theorem Bx.below {g g3 : Nat} {cs : Array Value} {W W1 : World} (h : Bx g g3 cs W) (hb : RowKit.Below W.heap.size W W1) : Bx g g3 cs W1 :=
  ⟨blk_keep h.bx hb, Nat.lt_of_lt_of_le h.gl hb.size, fun a b c ov e => h.ne a b c ov (by rw [← hb.block g h.gl]; exact e)⟩
theorem bx_new {w0 W : World} {g : Nat} {f : Fo} (h : Fw w0 g f W) (cs : Array Value) : Bx g W.heap.size cs (W.alloc (.cells cs 42)) := by
  obtain ⟨m, ov, prs, rs, h1, h2, h3, h4, h5, h6, h7⟩ := h.ex
  refine ⟨blk_new W _, by have := blk_lt' h1; simp; omega, fun a b c ov' e e2 => ?_⟩
  rw [blk_keep h1 (below_one W _)] at e
  simp at e
  obtain ⟨-, -, -, rfl⟩ := e
  have := (OwnR.ge h5 e2).2
  omega
-- <L1
set_option maxHeartbeats 16000000 in
set_option maxRecDepth 100000 in
theorem put_any {w0 W : World} {g : Nat} {f : Fo} (hf : Fw w0 g f W) (hok : Ok f) (x : Block) (r : Bk) (hw : Bw w0 r x) :
    Calls Try.prog 36 #[.pointer (some ⟨g, 0, none⟩), .agg #[.int .i64 x.view, .int .i64 x.prop, .int .i64 x.just.view, .string x.just.block, .slice r.sa r.sn r.sc, .slice r.a x.batch.length r.c]] W fun e w' => e = .returned (.int .i64 (f.put x).1) ∧ Fw w0 g (f.put x).2 w' ∧ Fr W w' := by
  have mixed : Try.prog.follows .mixedOrders = true := by kernel_rfl
  have b0 := below_one W (.cells #[.int .i64 x.view, .int .i64 x.prop, .int .i64 x.just.view, .string x.just.block, .slice r.sa r.sn r.sc, .slice r.a x.batch.length r.c] 42)
  have E0 := Sd.mk (bx_new hf #[.int .i64 x.view, .int .i64 x.prop, .int .i64 x.just.view, .string x.just.block, .slice r.sa r.sn r.sc, .slice r.a x.batch.length r.c])
  have HF0 := Sd.mk (hf.below b0)
  have HR0 := Sd.mk (Fr.below b0)
  have HO := Sd.mk hok
  have HW := Sd.mk hw
  have HJ := Sd.mk (just_le hw.sz)
  obtain ⟨d, hd⟩ : ∃ d, digB x = d := ⟨_, rfl⟩
  have HDG := Sd.mk (fun W1 (h : Fw w0 g f W1) => Blk.dig_any W1 x r.sa r.sn r.sc r.a x.batch.length r.c (hw.wk.sl.below h.bel) rfl d hd (by have := hw.sz; omega))
  have HDZ := Sd.mk (show d.size ≤ maxLen by rw [← hd, Blk.digB_size]; unfold maxLen; omega)
  obtain ⟨hs, hhs⟩ : ∃ z, f.has d = z := ⟨_, rfl⟩
  obtain ⟨ho, hho⟩ : ∃ z, f.hasO d = z := ⟨_, rfl⟩
  obtain ⟨hp, hhp⟩ : ∃ z, f.has x.just.block = z := ⟨_, rfl⟩
  have HHS := Sd.mk (fun W1 (h : Fw w0 g f W1) => has_any h d HDZ.out hs hhs)
  have HHO := Sd.mk (fun W1 (h : Fw w0 g f W1) => orphan_any h d ho hho)
  have HHP := Sd.mk (fun W1 (h : Fw w0 g f W1) => has_any h x.just.block HJ.out hp hhp)
  have HPU := Sd.mk (show f.put x = if hs || ho then (6, f) else if hp then (if f.code x = 0 then (0, (f.more x).adopt 10) else (f.code x, f)) else if 8 ≤ f.orph.length then (7, f) else (0, ⟨f.root, f.height, f.nodes, f.orph ++ [x]⟩) by unfold Fo.put; rw [hd, hhs, hho, hhp])
  have HNN := Sd.mk (show hs = false → ndAt f.nodes (digB x) = none from fun e => by
    rw [hd]
    rw [e] at hhs
    unfold Fo.has at hhs
    simp only [Bool.or_eq_false_iff, Option.isSome_eq_false_iff, Option.isNone_iff_eq_none] at hhs
    exact hhs.1)
  have HNE := Sd.mk (show ho = false → ∀ b' ∈ f.orph, digB b' ≠ digB x from fun e b' hb' e2 => by
    rw [e] at hho
    unfold Fo.hasO at hho
    rw [List.any_eq_false] at hho
    exact hho b' hb' (by rw [← hd]; simpa using e2))
  clear b0 hf hok hw hd hhs hho hhp
  go_enter Try.func36, Try.ntmps36
  go_upto_region 1 with (fail)
  generalize W.heap.size = g3 at E0 ⊢
  generalize W.alloc _ = W1 at E0 HF0 HR0 ⊢
  (have c0 := blk_at E0.out.bx 0 _ rfl; have c1 := blk_at E0.out.bx 1 _ rfl; have c2 := blk_at E0.out.bx 2 _ rfl; have c3 := blk_at E0.out.bx 3 _ rfl; have c4 := blk_at E0.out.bx 4 _ rfl; have c5 := blk_at E0.out.bx 5 _ rfl)
  go_upto_region 2 with (first
    | (go_at_call 26; (with_reducible refine (HDG.out _ HF0.out).mono ?_); rintro e w2 ⟨rfl, hb⟩; have HF2 := Sd.mk (HF0.out.below hb); have HR2 := Sd.mk (HR0.out.trans (Fr.below hb)); have E2 := Sd.mk (E0.out.below hb); clear hb))
  (clear c0 c1 c2 c3 c4 c5)
  clear HF0 HR0 E0 HDG
  cases hs with
  | true =>
    have HPX := Sd.mk (show f.put x = (6, f) from HPU.out)
    go_wp2_with (first
      | (go_at_call 40; (with_reducible refine (HHS.out _ HF2.out).mono ?_); rintro e w3 ⟨rfl, hb⟩; have HF3 := Sd.mk (HF2.out.below hb); have HR3 := Sd.mk (HR2.out.trans (Fr.below hb)); clear hb))
    go_ret
    rw [HPX.out]
    exact ⟨rfl, HF3.out, HR3.out⟩
  | false =>
    cases ho with
    | true =>
      have HPX := Sd.mk (show f.put x = (6, f) from HPU.out)
      go_wp2_with (first
        | (go_at_call 40; (with_reducible refine (HHS.out _ HF2.out).mono ?_); rintro e w3 ⟨rfl, hb⟩; have HF3 := Sd.mk (HF2.out.below hb); have HR3 := Sd.mk (HR2.out.trans (Fr.below hb)); clear hb)
        | (go_at_call 74; (with_reducible refine (HHO.out _ HF3.out).mono ?_); rintro e w4 ⟨rfl, hb⟩; have HF4 := Sd.mk (HF3.out.below hb); have HR4 := Sd.mk (HR3.out.trans (Fr.below hb)); clear hb))
      go_ret
      rw [HPX.out]
      exact ⟨rfl, HF4.out, HR4.out⟩
    | false =>
      go_upto_region 4 with (first
        | (go_at_call 40; (with_reducible refine (HHS.out _ HF2.out).mono ?_); rintro e w3 ⟨rfl, hb⟩; have HF3 := Sd.mk (HF2.out.below hb); have HR3 := Sd.mk (HR2.out.trans (Fr.below hb)); have E3 := Sd.mk (E2.out.below hb); clear hb)
        | (go_at_call 74; (with_reducible refine (HHO.out _ HF3.out).mono ?_); rintro e w4 ⟨rfl, hb⟩; have HF4 := Sd.mk (HF3.out.below hb); have HR4 := Sd.mk (HR3.out.trans (Fr.below hb)); have E4 := Sd.mk (E3.out.below hb); clear hb))
      clear HF2 HR2 E2 HF3 HR3 E3 HHS HHO
      (have c0 := blk_at E4.out.bx 0 _ rfl; have c1 := blk_at E4.out.bx 1 _ rfl; have c2 := blk_at E4.out.bx 2 _ rfl; have c3 := blk_at E4.out.bx 3 _ rfl; have c4 := blk_at E4.out.bx 4 _ rfl; have c5 := blk_at E4.out.bx 5 _ rfl)
      have HN := Sd.mk (HNN.out trivial)
      cases hp with
      | true =>
        obtain ⟨cd, hcd⟩ : ∃ z, f.code x = z := ⟨_, rfl⟩
        have HPX := Sd.mk (show f.put x = if cd = 0 then (0, (f.more x).adopt 10) else (cd, f) by rw [← hcd]; exact HPU.out)
        have HFP := Sd.mk (show f.fput x = if cd = 0 then f.more x else f by rw [← hcd]; rfl)
        have hcc := code_cases f x
        rw [hcd] at hcc
        have HPF := Sd.mk (fun W1 (h : Fw w0 g f W1) => (by have := fput_any h x r HW.out HJ.out HN.out; rwa [hcd] at this : Calls Try.prog 75 #[.pointer (some ⟨g, 0, none⟩), .agg #[.int .i64 x.view, .int .i64 x.prop, .int .i64 x.just.view, .string x.just.block, .slice r.sa r.sn r.sc, .slice r.a x.batch.length r.c]] W1 fun e w' => e = .returned (.int .i64 cd) ∧ Fw w0 g (f.fput x) w' ∧ Fr W1 w'))
        have HOM := Sd.mk (ok_more HO.out (HNE.out trivial))
        have HAE := Sd.mk (show (f.more x).adopt (f.more x).orph.length = (f.more x).adopt 10 from (adopt_enough 10 (f.more x) (by have := HO.out.few; show f.orph.length ≤ 10; omega)).symm)
        clear hcd
        go_upto_region 10 with (first
          | (go_at_call 28; (with_reducible refine (Blk.parent_any _ _ _ _ _ _ _).mono ?_); rintro e w5 ⟨rfl, hb⟩; have HF5 := Sd.mk (HF4.out.below hb); have HR5 := Sd.mk (HR4.out.trans (Fr.below hb)); have E5 := Sd.mk (E4.out.below hb); clear hb; (clear c0 c1 c2 c3 c4 c5); (have c0 := blk_at E5.out.bx 0 _ rfl; have c1 := blk_at E5.out.bx 1 _ rfl; have c2 := blk_at E5.out.bx 2 _ rfl; have c3 := blk_at E5.out.bx 3 _ rfl; have c4 := blk_at E5.out.bx 4 _ rfl; have c5 := blk_at E5.out.bx 5 _ rfl))
          | (go_at_call 40; (with_reducible refine (HHP.out _ HF5.out).mono ?_); rintro e w6 ⟨rfl, hb⟩; have HF6 := Sd.mk (HF5.out.below hb); have HR6 := Sd.mk (HR5.out.trans (Fr.below hb)); have E6 := Sd.mk (E5.out.below hb); clear hb; (clear c0 c1 c2 c3 c4 c5); (have c0 := blk_at E6.out.bx 0 _ rfl; have c1 := blk_at E6.out.bx 1 _ rfl; have c2 := blk_at E6.out.bx 2 _ rfl; have c3 := blk_at E6.out.bx 3 _ rfl; have c4 := blk_at E6.out.bx 4 _ rfl; have c5 := blk_at E6.out.bx 5 _ rfl))
          | (go_at_call 75; (with_reducible refine (HPF.out _ HF6.out).mono ?_); rintro e w7 ⟨rfl, hf7, hr7⟩; have HF7 := Sd.mk hf7; have HR7 := Sd.mk (HR6.out.trans hr7); clear hf7 hr7; (clear c0 c1 c2 c3 c4 c5)))
        clear HF4 HR4 E4 HF5 HR5 E5 HF6 HR6 E6 HHP HPF
        rcases hcc with rfl | rfl | rfl
        · have HF8 := Sd.mk (show Fw w0 g (f.more x) w7 by have h := HF7.out; rw [HFP.out] at h; exact h)
          have HAD := Sd.mk (adopt_any HF8.out HOM.out)
          rw [HAE.out] at HAD
          have HPY := Sd.mk (show f.put x = (0, (f.more x).adopt 10) from HPX.out)
          clear HF7
          go_wp2_with (first
            | (go_at_call 76; (with_reducible refine HAD.out.mono ?_); rintro e w8 ⟨rfl, hf8, hr8⟩; have HF9 := Sd.mk hf8; have HR9 := Sd.mk (HR7.out.trans hr8); clear hf8 hr8))
          go_ret
          rw [HPY.out]
          exact ⟨rfl, HF9.out, HR9.out⟩
        · have HF8 := Sd.mk (show Fw w0 g f w7 by have h := HF7.out; rw [HFP.out] at h; exact h)
          have HPY := Sd.mk (show f.put x = (5, f) from HPX.out)
          go_wp2
          go_ret
          rw [HPY.out]
          exact ⟨rfl, HF8.out, HR7.out⟩
        · have HF8 := Sd.mk (show Fw w0 g f w7 by have h := HF7.out; rw [HFP.out] at h; exact h)
          have HPY := Sd.mk (show f.put x = (7, f) from HPX.out)
          go_wp2
          go_ret
          rw [HPY.out]
          exact ⟨rfl, HF8.out, HR7.out⟩
      | false =>
        go_upto_region 5 with (first
          | (go_at_call 28; (with_reducible refine (Blk.parent_any _ _ _ _ _ _ _).mono ?_); rintro e w5 ⟨rfl, hb⟩; have HF5 := Sd.mk (HF4.out.below hb); have HR5 := Sd.mk (HR4.out.trans (Fr.below hb)); have E5 := Sd.mk (E4.out.below hb); clear hb; (clear c0 c1 c2 c3 c4 c5); (have c0 := blk_at E5.out.bx 0 _ rfl; have c1 := blk_at E5.out.bx 1 _ rfl; have c2 := blk_at E5.out.bx 2 _ rfl; have c3 := blk_at E5.out.bx 3 _ rfl; have c4 := blk_at E5.out.bx 4 _ rfl; have c5 := blk_at E5.out.bx 5 _ rfl))
          | (go_at_call 40; (with_reducible refine (HHP.out _ HF5.out).mono ?_); rintro e w6 ⟨rfl, hb⟩; have HF6 := Sd.mk (HF5.out.below hb); have HR6 := Sd.mk (HR5.out.trans (Fr.below hb)); have E6 := Sd.mk (E5.out.below hb); clear hb; (clear c0 c1 c2 c3 c4 c5)))
        clear HF4 HR4 E4 HF5 HR5 E5 HHP
        obtain ⟨m, ov, prs, rs, j1, j2, j3, j4, j5, j6, j7⟩ := HF6.out.ex
        obtain ⟨Ao, no, co, rfl, hno⟩ : ∃ A n c, ov = .slice A n c ∧ n = f.orph.length := by
          obtain ⟨A, c, e⟩ := OwnR.slice j5
          exact ⟨A, _, c, e, j7.len⟩
        have HNO := Sd.mk hno
        have hno8 : no ≤ 8 := by have := HO.out.few; omega
        have d3 := blk_at j1 3 _ rfl
        have J := Sd.mk (And.intro j1 (And.intro j2 (And.intro j3 (And.intro j4 (And.intro j5 (And.intro j6 j7))))))
        clear j1 j2 j3 j4 j5 j6 j7 hno
        rcases Decidable.em (8 ≤ no) with h8 | h8
        · have hd8 : decide ((8 : Int) ≤ (no : Int)) = true := decide_eq_true (by omega)
          have HPY := Sd.mk (show f.put x = (7, f) from HPU.out.trans (by rw [if_neg (by simp), if_neg (by simp), if_pos (by rw [← HNO.out]; exact h8)]))
          go_wp2
          go_ret
          rw [HPY.out]
          exact ⟨rfl, HF6.out, HR6.out⟩
        · have hd8 : decide ((8 : Int) ≤ (no : Int)) = false := decide_eq_false (by omega)
          have HPY := Sd.mk (show f.put x = (0, ⟨f.root, f.height, f.nodes, f.orph ++ [x]⟩) from HPU.out.trans (by rw [if_neg (by simp), if_neg (by simp), if_neg (by rw [← HNO.out]; exact h8)]))
          go_upto_region 7 with (fail)
          clear d3
          have b6 := below_drew' (w := w6) (Below.refl w6.heap.size w6)
          have E7 := Sd.mk (E6.out.below b6)
          have HF7 := Sd.mk (HF6.out.below b6)
          have HR7 := Sd.mk (HR6.out.trans (Fr.below b6))
          obtain ⟨j1, j2, j3, j4, j5, j6, j7⟩ := J.out
          have J7 := Sd.mk (And.intro (blk_keep j1 b6) (And.intro (j2.below b6) (And.intro j3 (And.intro j4 (And.intro (j5.below b6) (And.intro j6 j7))))))
          have HRL := Sd.mk (show rs.length = no from j7.len.trans HNO.out.symm)
          clear j1 j2 j3 j4 j5 j6 j7 J b6 HF6 HR6 E6
          have S0 : (fun W2 : World => W2.cell? ⟨g, 3, none⟩ = some (.slice Ao no co) ∧ W2.cell? ⟨g3, 0, none⟩ = some (.int .i64 x.view) ∧ W2.cell? ⟨g3, 1, none⟩ = some (.int .i64 x.prop) ∧ W2.cell? ⟨g3, 2, none⟩ = some (.int .i64 x.just.view) ∧ W2.cell? ⟨g3, 3, none⟩ = some (.string x.just.block) ∧ W2.cell? ⟨g3, 4, none⟩ = some (.slice r.sa r.sn r.sc) ∧ W2.cell? ⟨g3, 5, none⟩ = some (.slice r.a x.batch.length r.c)) w6.drew := ⟨blk_at J7.out.1 3 _ rfl, blk_at E7.out.bx 0 _ rfl, blk_at E7.out.bx 1 _ rfl, blk_at E7.out.bx 2 _ rfl, blk_at E7.out.bx 3 _ rfl, blk_at E7.out.bx 4 _ rfl, blk_at E7.out.bx 5 _ rfl⟩
          refine Peel.region_peel (n := 10) (S := (fun W2 : World => W2.cell? ⟨g, 3, none⟩ = some (.slice Ao no co) ∧ W2.cell? ⟨g3, 0, none⟩ = some (.int .i64 x.view) ∧ W2.cell? ⟨g3, 1, none⟩ = some (.int .i64 x.prop) ∧ W2.cell? ⟨g3, 2, none⟩ = some (.int .i64 x.just.view) ∧ W2.cell? ⟨g3, 3, none⟩ = some (.string x.just.block) ∧ W2.cell? ⟨g3, 4, none⟩ = some (.slice r.sa r.sn r.sc) ∧ W2.cell? ⟨g3, 5, none⟩ = some (.slice r.a x.batch.length r.c))) (by kernel_rfl) (by kernel_rfl) S0 (fun hHeld => ?_)
          simp only [List.take_succ_cons, List.take_zero]
          generalize w6.drew = W7 at E7 HF7 HR7 J7 S0 hHeld ⊢
          (refine Peel.take 0 (v := ?_) rfl rfl (by kernel_rfl) (by kernel_rfl) (by kernel_rfl) (fun _ _ _ h => h) (by assumption) ?_ ?_; rotate_left; (focus (intro w hSw; (try dsimp only at hSw); obtain ⟨s0, s1, s2, s3, s4, s5, s6⟩ := hSw; (try simp only [List.getElem_toArray, List.getElem_cons_succ, List.getElem_cons_zero]); go_simp; try (with_reducible rfl))); try simp only [List.getElem_toArray, List.getElem_cons_succ, List.getElem_cons_zero, Act.put, List.setIfInBounds_toArray, List.set_cons_zero, List.set_cons_succ])
          (refine Peel.take 1 (v := ?_) rfl rfl (by kernel_rfl) (by kernel_rfl) (by kernel_rfl) (fun _ _ _ h => h) (by assumption) ?_ ?_; rotate_left; (focus (intro w hSw; (try dsimp only at hSw); obtain ⟨s0, s1, s2, s3, s4, s5, s6⟩ := hSw; (try simp only [List.getElem_toArray, List.getElem_cons_succ, List.getElem_cons_zero]); go_simp; try (with_reducible rfl))); try simp only [List.getElem_toArray, List.getElem_cons_succ, List.getElem_cons_zero, Act.put, List.setIfInBounds_toArray, List.set_cons_zero, List.set_cons_succ])
          (refine Peel.take 2 (v := ?_) rfl rfl (by kernel_rfl) (by kernel_rfl) (by kernel_rfl) (fun _ _ _ h => h) (by assumption) ?_ ?_; rotate_left; (focus (intro w hSw; (try dsimp only at hSw); obtain ⟨s0, s1, s2, s3, s4, s5, s6⟩ := hSw; (try simp only [List.getElem_toArray, List.getElem_cons_succ, List.getElem_cons_zero]); go_simp; try (with_reducible rfl))); try simp only [List.getElem_toArray, List.getElem_cons_succ, List.getElem_cons_zero, Act.put, List.setIfInBounds_toArray, List.set_cons_zero, List.set_cons_succ])
          (refine Peel.take 3 (v := ?_) rfl rfl (by kernel_rfl) (by kernel_rfl) (by kernel_rfl) (fun _ _ _ h => h) (by assumption) ?_ ?_; rotate_left; (focus (intro w hSw; (try dsimp only at hSw); obtain ⟨s0, s1, s2, s3, s4, s5, s6⟩ := hSw; (try simp only [List.getElem_toArray, List.getElem_cons_succ, List.getElem_cons_zero]); go_simp; try (with_reducible rfl))); try simp only [List.getElem_toArray, List.getElem_cons_succ, List.getElem_cons_zero, Act.put, List.setIfInBounds_toArray, List.set_cons_zero, List.set_cons_succ])
          (refine Peel.take 4 (v := ?_) rfl rfl (by kernel_rfl) (by kernel_rfl) (by kernel_rfl) (fun _ _ _ h => h) (by assumption) ?_ ?_; rotate_left; (focus (intro w hSw; (try dsimp only at hSw); obtain ⟨s0, s1, s2, s3, s4, s5, s6⟩ := hSw; (try simp only [List.getElem_toArray, List.getElem_cons_succ, List.getElem_cons_zero]); go_simp; try (with_reducible rfl))); try simp only [List.getElem_toArray, List.getElem_cons_succ, List.getElem_cons_zero, Act.put, List.setIfInBounds_toArray, List.set_cons_zero, List.set_cons_succ])
          (refine Peel.take 5 (v := ?_) rfl rfl (by kernel_rfl) (by kernel_rfl) (by kernel_rfl) (fun _ _ _ h => h) (by assumption) ?_ ?_; rotate_left; (focus (intro w hSw; (try dsimp only at hSw); obtain ⟨s0, s1, s2, s3, s4, s5, s6⟩ := hSw; (try simp only [List.getElem_toArray, List.getElem_cons_succ, List.getElem_cons_zero]); go_simp; try (with_reducible rfl))); try simp only [List.getElem_toArray, List.getElem_cons_succ, List.getElem_cons_zero, Act.put, List.setIfInBounds_toArray, List.set_cons_zero, List.set_cons_succ])
          (refine wpAnyH_ready (rs := [6]) (by kernel_rfl) (by simp) ?_; refine AllReadyH.cons rfl (fun K hK => ?_) AllReadyH.nil)
          go_simp
          have b7 := below_one W7 (.cells #[.int .i64 x.view, .int .i64 x.prop, .int .i64 x.just.view, .string x.just.block, .slice r.sa r.sn r.sc, .slice r.a x.batch.length r.c] 42)
          have s7 : (fun W2 : World => W2.cell? ⟨g, 3, none⟩ = some (.slice Ao no co) ∧ W2.cell? ⟨g3, 0, none⟩ = some (.int .i64 x.view) ∧ W2.cell? ⟨g3, 1, none⟩ = some (.int .i64 x.prop) ∧ W2.cell? ⟨g3, 2, none⟩ = some (.int .i64 x.just.view) ∧ W2.cell? ⟨g3, 3, none⟩ = some (.string x.just.block) ∧ W2.cell? ⟨g3, 4, none⟩ = some (.slice r.sa r.sn r.sc) ∧ W2.cell? ⟨g3, 5, none⟩ = some (.slice r.a x.batch.length r.c)) (W7.alloc (.cells #[.int .i64 x.view, .int .i64 x.prop, .int .i64 x.just.view, .string x.just.block, .slice r.sa r.sn r.sc, .slice r.a x.batch.length r.c] 42)) := ⟨cell_below b7 S0.1, cell_below b7 S0.2.1, cell_below b7 S0.2.2.1, cell_below b7 S0.2.2.2.1, cell_below b7 S0.2.2.2.2.1, cell_below b7 S0.2.2.2.2.2.1, cell_below b7 S0.2.2.2.2.2.2⟩
          (refine hK.out _ _ s7 (fun hHeld => ?_); (clear hK K; try simp only [List.getElem_toArray, List.getElem_cons_succ, List.getElem_cons_zero, Act.put, List.setIfInBounds_toArray, List.set_cons_zero, List.set_cons_succ]))
          clear s7 b7
          (refine wpAnyH_ready (rs := [7]) (by kernel_rfl) (by simp) ?_; refine AllReadyH.cons rfl (fun K hK => ?_) AllReadyH.nil)
          refine step_append_at (f := fB) (n := 6) (fun _ => rfl) fB_one rfl (.tmp 32) (.tmp 34) 25 42 (.agg #[.int .i64 0, .int .i64 0, .int .i64 0, .string ByteArray.empty, .slice none 0 0, .slice none 0 0]) 88 rfl Try.underlying25 info_blk rfl (by decide) (.slice Ao no co) rs ⟨x.view, x.prop, x.just.view, x.just.block, r.sa, r.sn, r.sc, r.a, x.batch.length, r.c⟩ rfl rfl J7.out.2.2.2.2.1 (by rw [HRL.out]; omega) (by rw [HRL.out]; omega) ?_
          intro v9 w9 hown hg hob
          obtain ⟨e8, hf9, hr9⟩ := Fw.push f HF7.out.bel HF7.out.gg J7.out.1 J7.out.2.1 J7.out.2.2.1 J7.out.2.2.2.1 J7.out.2.2.2.2.1 J7.out.2.2.2.2.2.1 J7.out.2.2.2.2.2.2 (x := x) (r := ⟨x.view, x.prop, x.just.view, x.just.block, r.sa, r.sn, r.sc, r.a, x.batch.length, r.c⟩) ⟨⟨rfl, rfl, rfl, rfl, rfl, HW.out.wk.sl⟩, HW.out.sz⟩ hown hg hob
          have hbx : w9.heap[g3]? = some (.cells #[.int .i64 x.view, .int .i64 x.prop, .int .i64 x.just.view, .string x.just.block, .slice r.sa r.sn r.sc, .slice r.a x.batch.length r.c] 42 (0, 0)) := blk_grown E7.out.bx hg (E7.out.ne _ _ _ _ J7.out.1)
          obtain ⟨A9, c9, rfl⟩ : ∃ A c, v9 = .slice A (rs.length + 1) c := by
            obtain ⟨A, c, e⟩ := OwnR.slice hown
            exact ⟨A, c, by rw [e, List.length_append]; rfl⟩
          have s9 : (fun W2 : World => W2.cell? ⟨g, 3, none⟩ = some (.slice Ao no co) ∧ W2.cell? ⟨g3, 0, none⟩ = some (.int .i64 x.view) ∧ W2.cell? ⟨g3, 1, none⟩ = some (.int .i64 x.prop) ∧ W2.cell? ⟨g3, 2, none⟩ = some (.int .i64 x.just.view) ∧ W2.cell? ⟨g3, 3, none⟩ = some (.string x.just.block) ∧ W2.cell? ⟨g3, 4, none⟩ = some (.slice r.sa r.sn r.sc) ∧ W2.cell? ⟨g3, 5, none⟩ = some (.slice r.a x.batch.length r.c)) w9 := ⟨blk_at e8 3 _ rfl, blk_at hbx 0 _ rfl, blk_at hbx 1 _ rfl, blk_at hbx 2 _ rfl, blk_at hbx 3 _ rfl, blk_at hbx 4 _ rfl, blk_at hbx 5 _ rfl⟩
          have HE8 := Sd.mk e8
          have HF9 := Sd.mk hf9
          have HR9 := Sd.mk (HR7.out.trans hr9)
          clear hown hg hob e8 hf9 hr9 hbx
          (refine hK.out _ _ s9 (fun hHeld => ?_); (clear hK K; try simp only [List.getElem_toArray, List.getElem_cons_succ, List.getElem_cons_zero, Act.put, List.setIfInBounds_toArray, List.set_cons_zero, List.set_cons_succ]))
          (refine Peel.take 8 (v := ?_) rfl rfl (by kernel_rfl) (by kernel_rfl) (by kernel_rfl) (fun _ _ _ h => h) (by assumption) ?_ ?_; rotate_left; (focus (intro w hSw; (try dsimp only at hSw); obtain ⟨s0, s1, s2, s3, s4, s5, s6⟩ := hSw; (try simp only [List.getElem_toArray, List.getElem_cons_succ, List.getElem_cons_zero]); go_simp; try (with_reducible rfl))); try simp only [List.getElem_toArray, List.getElem_cons_succ, List.getElem_cons_zero, Act.put, List.setIfInBounds_toArray, List.set_cons_zero, List.set_cons_succ])
          (refine Peel.take 9 (v := ?_) rfl rfl (by kernel_rfl) (by kernel_rfl) (by kernel_rfl) (fun _ _ _ h => h) (by assumption) ?_ ?_; rotate_left; (focus (intro w hSw; (try dsimp only at hSw); obtain ⟨s0, s1, s2, s3, s4, s5, s6⟩ := hSw; (try simp only [List.getElem_toArray, List.getElem_cons_succ, List.getElem_cons_zero]); go_simp; try (with_reducible rfl))); try simp only [List.getElem_toArray, List.getElem_cons_succ, List.getElem_cons_zero, Act.put, List.setIfInBounds_toArray, List.set_cons_zero, List.set_cons_succ])
          (refine wpAnyH_done (by kernel_rfl) ?_ _; simp only [Peel.Qn, List.drop_succ_cons, List.drop_zero]; clear hHeld)
          clear HF7 HR7 J7 E7
          have d3 := s9.1
          have f3 := blk_frz HE8.out 3
          go_wp2
          clear s9 d3 f3 HE8
          go_ret
          rw [HPY.out]
          exact ⟨rfl, HF9.out, HR9.out⟩
-- L1>
end Go.Proofs.Ytnomgkmeomlccaa.Fst

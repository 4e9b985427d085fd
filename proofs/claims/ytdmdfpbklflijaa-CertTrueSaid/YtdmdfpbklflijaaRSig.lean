/- The reference's signature of a vote; its Once: walked. -/
import Derived.Test.YtdmdfpbklflijaaLawCS
import Derived.Test.YtdmdfpbklflijaaMkP
set_option linter.unusedVariables false
set_option linter.unusedSimpArgs false

namespace Go.Proofs.Ytdmdfpbklflijaa.Crt
open Go.RowKit Go.Sort Rd Api Own Mv App Num Dig Mac Rp

/-- a node's tags -/
def rtags (seed : ByteArray) (fr : Int) (tx : ByteArray) (n : Nat) : List ByteArray := (List.range n).map fun i => mtag seed fr (i : Nat) tx
theorem rtags_len (seed : ByteArray) (fr : Int) (tx : ByteArray) (n : Nat) : (rtags seed fr tx n).length = n := by simp [rtags]
theorem rtags_succ (seed : ByteArray) (fr : Int) (tx : ByteArray) (n : Nat) : rtags seed fr tx (n + 1) = rtags seed fr tx n ++ [mtag seed fr (n : Nat) tx] := by simp [rtags, List.range_succ]
theorem rtags_at (seed : ByteArray) (fr : Int) (tx : ByteArray) {n i : Nat} (hi : i < n) : (rtags seed fr tx n)[i]? = some (mtag seed fr (i : Nat) tx) := by simp [rtags, hi]
theorem rtags_16 (seed : ByteArray) (fr : Int) (tx : ByteArray) (n : Nat) : ∀ t ∈ rtags seed fr tx n, t.size = 16 := fun t ht => by
  obtain ⟨i, _, rfl⟩ := List.mem_map.1 ht
  exact mtag_size _ _ _ _
/-- amid a signature's making -/
structure Sv (W0 : World) (node : Int) (A : Option Addr) (i c : Nat) (tags : List ByteArray) (Bs Br : Nat) (W : World) : Prop where
  bel : RowKit.Below W0.heap.size W0 W
  bs : W.heap[Bs]? = some (.cells #[.int .i64 node, .slice A i c] 39 (0, 0))
  br : W.heap[Br]? = some (.cells #[.int .i64 0, .slice none 0 0] 39 (0, 0))
  own : OwnR fT 1 W 0 9 (.slice A i c) tags
  fr : ∀ k, (Value.slice A i c).ownBlock = some k → W0.heap.size ≤ k
  ge : W0.heap.size ≤ Bs ∧ W0.heap.size ≤ Br ∧ Bs ≠ Br
section
variable {W0 : World} {node : Int} {A : Option Addr} {i c : Nat} {tags : List ByteArray} {Bs Br : Nat} {W W1 : World}
theorem Sv.below (h : Sv W0 node A i c tags Bs Br W) (hb : RowKit.Below W.heap.size W W1) : Sv W0 node A i c tags Bs Br W1 := ⟨below_then h.bel hb, blk_keep h.bs hb, blk_keep h.br hb, h.own.below hb, h.fr, h.ge⟩
theorem Sv.push (h : Sv W0 node A i c tags Bs Br W) {N : Nat} (hN : W0.heap.size ≤ N) {x : ByteArray} {A6 : Option Addr} {j q6 : Nat} (hown : OwnR fT 1 W1 0 9 (.slice A6 j q6) (tags ++ [x])) (hg : W.grownBy W1 (Value.slice A i c).ownBlock) (hob : (Value.slice A6 j q6).ownBlock = (Value.slice A i c).ownBlock ∨ (Value.slice A6 j q6).ownBlock = some N) :
    Sv W0 node A6 j q6 (tags ++ [x]) Bs Br (W1.setCell ⟨Bs, 1, none⟩ (.slice A6 j q6)) := by
  have r6 := blk_grown h.bs hg (OwnR.blk h.own h.bs (by decide))
  have b6 := blk_grown h.br hg (OwnR.blk h.own h.br (by decide))
  refine ⟨(below_grown h.bel hg h.bel.size h.fr).setCell (p := ⟨Bs, 1, none⟩) h.ge.1 _, (blk_set3 r6 1 _).trans rfl, (heap_set _ _ _ _ _ (Ne.symm h.ge.2.2)).trans b6, OwnR.grown hown (row := some Bs) (grown_set _ _ _ _) (.inr (OwnR.blk hown r6 (by decide))), fun k hk => ?_, h.ge⟩
  rcases hob with e | e
  · exact h.fr k (e ▸ hk)
  · rw [hk] at e; have := Option.some.inj e; omega
theorem sv_start (W : World) (x : Int) : Sv W x none 0 0 [] (W.heap.size + 1) W.heap.size ((W.alloc (.cells #[.int .i64 0, .slice none 0 0] 39)).alloc (.cells #[.int .i64 x, .slice none 0 0] 39)) := by
  have b1 := below_one W (.cells #[.int .i64 0, .slice none 0 0] 39)
  have b2 := below_one (W.alloc (.cells #[.int .i64 0, .slice none 0 0] 39)) (.cells #[.int .i64 x, .slice none 0 0] 39)
  exact ⟨below_then b1 b2, blk_new1 W _ _, blk_keep (blk_new W _) b2, OwnR.nil _ _ _ _ _, fun k hk => by simp [Value.ownBlock] at hk, by omega, Nat.le_refl _, by omega⟩
end
set_option maxHeartbeats 8000000 in
set_option maxRecDepth 100000 in
theorem refsigv_any (W : World) (seed : ByteArray) (hsd : seed.size ≤ 35184372088832) (fr : Int) (n : Nat) (hn : n ≤ 7) (view : Int) (block : ByteArray) (hb32 : block.size ≤ 32) (tx : ByteArray) (htx : vtxt view block = tx) :
    Calls Try.prog 28 #[.string seed, .int .i64 fr, .int .i64 (n : Nat), .int .i64 view, .string block] W fun e w' => ∃ A c, e = .returned (.agg #[.int .i64 fr, .slice A n c]) ∧ OwnR fT 1 w' 0 9 (.slice A n c) (rtags seed fr tx n) ∧ (∀ k, (Value.slice A n c).ownBlock = some k → W.heap.size ≤ k) ∧ RowKit.Below W.heap.size W w' := by
  have HT := Sd.mk htx
  have HTZ := Sd.mk (show tx.size ≤ 35184372088832 by rw [← htx, vtxt_size]; omega)
  have HL := Sd.mk (sv_start W fr)
  clear htx
  go_enter Try.func28, Try.ntmps28
  go_upto_region 2 with (fail)
  generalize W.heap.size + 1 = Bs at HL ⊢
  generalize hBr : W.heap.size = Br at HL ⊢
  generalize (W.alloc _).alloc _ = W1 at HL ⊢
  go_wp2
  go_loopg [12] n (fun gk v12 wr => ∃ i A c, i + gk = n ∧ v12 = .int .i64 (i : Nat) ∧ Sd (Sv W fr A i c (rtags seed fr tx i) Bs Br wr))
  case atStart => exact ⟨0, none, 0, by omega, rfl, HL⟩
  case round =>
    clear HL
    obtain ⟨i, A, c, hi, rfl, HL⟩ := hrel
    by_cases hlt : i < n
    · have hii : (i : Int) < n := by omega
      obtain ⟨y, hy⟩ : ∃ y, mtag seed fr (i : Nat) tx = y := ⟨_, rfl⟩
      have HTG := Sd.mk (show rtags seed fr tx (i + 1) = rtags seed fr tx i ++ [y] by rw [rtags_succ, hy])
      have HY := Sd.mk hy
      have HD := Sd.mk (HL.out.below (below_drew' (Below.refl _ _)))
      have HLN := Sd.mk (rtags_len seed fr tx i)
      have b1 := blk_at HD.out.bs 1 _ rfl
      clear hy HL
      go_wp2
      refine Peel.region_peel (n := 12) (S := fun W1 => W1.cell? ⟨Bs, 1, none⟩ = some (.slice A i c)) (by kernel_rfl) (by kernel_rfl) b1 (fun hHeld => ?_)
      simp only [List.take_succ_cons, List.take_zero]
      (refine Peel.take 0 (v := ?_) rfl rfl (by kernel_rfl) (by kernel_rfl) (by kernel_rfl) (fun _ _ _ h => h) (by assumption) ?_ ?_; rotate_left; (focus (intro w hSw; (try dsimp only at hSw); (try simp only [List.getElem_toArray, List.getElem_cons_succ, List.getElem_cons_zero]); go_simp; try (with_reducible rfl))); try simp only [List.getElem_toArray, List.getElem_cons_succ, List.getElem_cons_zero, Act.put, List.setIfInBounds_toArray, List.set_cons_zero, List.set_cons_succ])
      (refine Peel.take 1 (v := ?_) rfl rfl (by kernel_rfl) (by kernel_rfl) (by kernel_rfl) (fun _ _ _ h => h) (by assumption) ?_ ?_; rotate_left; (focus (intro w hSw; (try dsimp only at hSw); (try simp only [List.getElem_toArray, List.getElem_cons_succ, List.getElem_cons_zero]); go_simp; try (with_reducible rfl))); try simp only [List.getElem_toArray, List.getElem_cons_succ, List.getElem_cons_zero, Act.put, List.setIfInBounds_toArray, List.set_cons_zero, List.set_cons_succ])
      (refine Peel.take 2 (v := ?_) rfl rfl (by kernel_rfl) (by kernel_rfl) (by kernel_rfl) (fun _ _ _ h => h) (by assumption) ?_ ?_; rotate_left; (focus (intro w hSw; (try dsimp only at hSw); (try simp only [List.getElem_toArray, List.getElem_cons_succ, List.getElem_cons_zero]); go_simp; try (with_reducible rfl))); try simp only [List.getElem_toArray, List.getElem_cons_succ, List.getElem_cons_zero, Act.put, List.setIfInBounds_toArray, List.set_cons_zero, List.set_cons_succ])
      (refine Peel.take 3 (v := ?_) rfl rfl (by kernel_rfl) (by kernel_rfl) (by kernel_rfl) (fun _ _ _ h => h) (by assumption) ?_ ?_; rotate_left; (focus (intro w hSw; (try dsimp only at hSw); (try simp only [List.getElem_toArray, List.getElem_cons_succ, List.getElem_cons_zero]); go_simp; try (with_reducible rfl))); try simp only [List.getElem_toArray, List.getElem_cons_succ, List.getElem_cons_zero, Act.put, List.setIfInBounds_toArray, List.set_cons_zero, List.set_cons_succ])
      (refine Peel.take 4 (v := ?_) rfl rfl (by kernel_rfl) (by kernel_rfl) (by kernel_rfl) (fun _ _ _ h => h) (by assumption) ?_ ?_; rotate_left; (focus (intro w hSw; (try dsimp only at hSw); (try simp only [List.getElem_toArray, List.getElem_cons_succ, List.getElem_cons_zero]); go_simp; try (with_reducible rfl))); try simp only [List.getElem_toArray, List.getElem_cons_succ, List.getElem_cons_zero, Act.put, List.setIfInBounds_toArray, List.set_cons_zero, List.set_cons_succ])
      (refine Peel.take 5 (v := ?_) rfl rfl (by kernel_rfl) (by kernel_rfl) (by kernel_rfl) (fun _ _ _ h => h) (by assumption) ?_ ?_; rotate_left; (focus (intro w hSw; (try dsimp only at hSw); (try simp only [List.getElem_toArray, List.getElem_cons_succ, List.getElem_cons_zero]); go_simp; try (with_reducible rfl))); try simp only [List.getElem_toArray, List.getElem_cons_succ, List.getElem_cons_zero, Act.put, List.setIfInBounds_toArray, List.set_cons_zero, List.set_cons_succ])
      (refine Peel.take 6 (v := ?_) rfl rfl (by kernel_rfl) (by kernel_rfl) (by kernel_rfl) (fun _ _ _ h => h) (by assumption) ?_ ?_; rotate_left; (focus (intro w hSw; (try dsimp only at hSw); (try simp only [List.getElem_toArray, List.getElem_cons_succ, List.getElem_cons_zero]); go_simp; try (with_reducible rfl))); try simp only [List.getElem_toArray, List.getElem_cons_succ, List.getElem_cons_zero, Act.put, List.setIfInBounds_toArray, List.set_cons_zero, List.set_cons_succ])
      (refine wpAnyH_ready (rs := [7]) (by kernel_rfl) (by simp) ?_; refine AllReadyH.cons rfl (fun K hK => ?_) AllReadyH.nil)
      go_simp
      go_at_call 24
      with_reducible refine (reftext_any _ view block (by omega) tx HT.out).mono ?_
      rintro e w2 ⟨rfl, hb⟩
      have HL2 := Sd.mk (HD.out.below hb)
      have y1 := blk_at HL2.out.bs 1 _ rfl
      clear hb
      (refine hK.out _ _ y1 (fun hHeld => ?_); (clear hK K; try simp only [List.getElem_toArray, List.getElem_cons_succ, List.getElem_cons_zero, Act.put, List.setIfInBounds_toArray, List.set_cons_zero, List.set_cons_succ]))
      (refine wpAnyH_ready (rs := [8]) (by kernel_rfl) (by simp) ?_; refine AllReadyH.cons rfl (fun K hK => ?_) AllReadyH.nil)
      go_simp
      go_at_call 52
      with_reducible refine (reftag_any _ seed fr (i : Nat) tx hsd HTZ.out y HY.out).mono ?_
      rintro e w3 ⟨rfl, hb⟩
      have HL3 := Sd.mk (HL2.out.below hb)
      have y2 := blk_at HL3.out.bs 1 _ rfl
      have ya : (w3.alloc (.cells #[.string y] 9)).cell? ⟨Bs, 1, none⟩ = some (.slice A i c) := cell_below (below_one w3 _) y2
      clear hb
      (refine hK.out _ _ y2 (fun hHeld => ?_); (clear hK K; try simp only [List.getElem_toArray, List.getElem_cons_succ, List.getElem_cons_zero, Act.put, List.setIfInBounds_toArray, List.set_cons_zero, List.set_cons_succ]))
      (refine wpAnyH_ready (rs := [9]) (by kernel_rfl) (by simp) ?_; refine AllReadyH.cons rfl (fun K hK => ?_) AllReadyH.nil)
      go_simp
      (refine hK.out _ _ ya (fun hHeld => ?_); (clear hK K; try simp only [List.getElem_toArray, List.getElem_cons_succ, List.getElem_cons_zero, Act.put, List.setIfInBounds_toArray, List.set_cons_zero, List.set_cons_succ]))
      (refine wpAnyH_ready (rs := [10]) (by kernel_rfl) (by simp) ?_; refine AllReadyH.cons rfl (fun K hK => ?_) AllReadyH.nil)
      (refine step_append_at (f := fT) (n := 1) (fun _ => rfl) fT_one rfl (.tmp 21) (.tmp 29) 37 9 (.string ByteArray.empty) 16 rfl Try.underlying37 info_str rfl (by decide) (.slice A i c) (rtags seed fr tx i) y rfl rfl HL3.out.own (by rw [HLN.out]; omega) (by rw [HLN.out]; omega) ?_; intro v6 w6 hown hgrow hob; obtain ⟨A6, q6, rfl⟩ := OwnR.slice hown; have hl6 : (rtags seed fr tx i ++ [y]).length = i + 1 := (by rw [List.length_append, HLN.out]; rfl); rw [hl6] at hown hob ⊢; have r6 := blk_grown HL3.out.bs hgrow (OwnR.blk HL3.out.own HL3.out.bs (by decide)); have c6 := blk_at r6 1 _ rfl; have f6 := blk_frz r6 1; have HL6 := Sd.mk (HL3.out.push (by have := HL3.out.bel.size; omega) hown hgrow hob); clear hown hgrow hob hl6)
      (refine hK.out _ _ c6 (fun hHeld => ?_); (clear hK K; try simp only [List.getElem_toArray, List.getElem_cons_succ, List.getElem_cons_zero, Act.put, List.setIfInBounds_toArray, List.set_cons_zero, List.set_cons_succ]))
      (refine Peel.take 11 (v := ?_) rfl rfl (by kernel_rfl) (by kernel_rfl) (by kernel_rfl) (fun _ _ _ h => h) (by assumption) ?_ ?_; rotate_left; (focus (intro w hSw; (try dsimp only at hSw); (try simp only [List.getElem_toArray, List.getElem_cons_succ, List.getElem_cons_zero]); go_simp; try (with_reducible rfl))); try simp only [List.getElem_toArray, List.getElem_cons_succ, List.getElem_cons_zero, Act.put, List.setIfInBounds_toArray, List.set_cons_zero, List.set_cons_succ])
      (refine wpAnyH_done (by kernel_rfl) ?_ _; simp only [Peel.Qn, List.drop_succ_cons, List.drop_zero]; clear hHeld)
      go_wp2
      have HL7 := Sd.mk (show Sv W fr A6 (i + 1) q6 (rtags seed fr tx (i + 1)) Bs Br _ from by rw [HTG.out]; exact HL6.out)
      clear c6 f6 r6 HL6 HD b1
      generalize w6.setCell _ _ = W7 at HL7 ⊢
      go_roundg (gk - 1)
      case measure => omega
      case rel => exact ⟨i + 1, A6, q6, by omega, by go_num, HL7⟩
    · have hii : decide (i < n) = false := decide_eq_false (by omega)
      have hii2 : decide ((i : Int) < n) = false := decide_eq_false (by omega)
      obtain rfl : i = n := by omega
      have q0 := blk_at HL.out.bs 0 _ rfl
      have q1 := blk_at HL.out.bs 1 _ rfl
      have r0 := blk_at HL.out.br 0 _ rfl
      have r1 := blk_at HL.out.br 1 _ rfl
      have f0 := blk_frz HL.out.br 0
      have f1 := blk_frz HL.out.br 1
      go_wp2
      have X8 : ((wr.setCell ⟨Br, 0, none⟩ (.int .i64 fr)).setCell ⟨Br, 1, none⟩ (.slice A i c)).heap[Br]? = some (.cells #[.int .i64 fr, .slice A i c] 39 (0, 0)) := (blk_set3 (blk_set3 HL.out.br 0 _) 1 _).trans rfl
      have y0 := blk_at X8 0 _ rfl
      have y1 := blk_at X8 1 _ rfl
      have HG := Sd.mk (show RowKit.Below W.heap.size W ((wr.setCell ⟨Br, 0, none⟩ (.int .i64 fr)).setCell ⟨Br, 1, none⟩ (.slice A i c)) from
        (HL.out.bel.setCell (p := ⟨Br, 0, none⟩) HL.out.ge.2.1 _).setCell (p := ⟨Br, 1, none⟩) HL.out.ge.2.1 _)
      have HOW := Sd.mk (OwnR.grown (OwnR.grown HL.out.own (grown_set wr Br 0 (.int .i64 fr)) (.inr (OwnR.blk HL.out.own HL.out.br (by decide)))) (grown_set _ Br 1 (.slice A i c)) (.inr (by have := OwnR.blk HL.out.own HL.out.br (by decide); exact this)))
      have HFR := Sd.mk (show ∀ k, (Value.slice A i c).ownBlock = some k → W.heap.size ≤ k from HL.out.fr)
      clear q0 q1 r0 r1 f0 f1 X8 HL
      generalize (wr.setCell _ _).setCell _ _ = W9 at y0 y1 HG HOW ⊢
      exact bodyPost_ret (v := .agg #[.int .i64 fr, .slice A i c]) (by simp [results, Try.results28, go_sem, y0, y1]) rfl ⟨A, c, rfl, HOW.out, (by have h := HFR.out; first | exact h | rwa [hBr] at h), (by have h := HG.out; first | exact h | rwa [hBr] at h)⟩
set_option maxHeartbeats 8000000 in
set_option maxRecDepth 100000 in
theorem refonce_any (w : World) (A : Option Addr) (c : Nat) (l : List Int) (hs : Sl (Own.num .i64) w A c l) (m : Nat) (hm : m = l.length) (h100 : m ≤ 100) (n : Int) (hr : ∀ x ∈ l, 0 ≤ x ∧ x < n) :
    Calls Try.prog 29 #[.slice A m c, .int .i64 n] w fun e w' => ∃ v, e = .returned v ∧ Og w v (Mk.fst l) w' := by
  have HS := Sd.mk hs
  have HM := Sd.mk hm
  have HR := Sd.mk hr
  have mc := Nat.le_trans hs.le hs.cap
  rw [← hm] at mc
  clear hs hm hr
  have H0 := Sd.mk (show Og w (.slice none 0 0) (Mk.fst (l.take 0)) w from ⟨OwnR.nil _ _ _ _ _, Below.refl _ _⟩)
  go_enter Try.func29, Try.ntmps29
  go_wp2
  go_loopg [5, 6] m (fun gk v5 v6 wr => ∃ i B q d, i + gk = m ∧ q ≤ i ∧ v5 = .slice B q d ∧ v6 = .int .i64 (i : Nat) ∧ Sd ((Mk.fst (l.take i)).length = q) ∧ Sd (Og w (.slice B q d) (Mk.fst (l.take i)) wr))
  case atStart => exact ⟨0, none, 0, 0, by omega, by omega, rfl, rfl, ⟨rfl⟩, H0⟩
  case round =>
    clear H0
    obtain ⟨i, B, q, d, hi, hqi, rfl, rfl, HQ, HO⟩ := hrel
    by_cases hlt : i < m
    · have hii : (i : Int) < m := by omega
      obtain ⟨x, hx⟩ : ∃ x, l[i]? = some x := ⟨_, List.getElem?_eq_getElem (show i < l.length by rw [← HM.out]; exact hlt)⟩
      obtain ⟨b1, o1, rfl, p0⟩ := num_get HS.out hx
      have p0 := cell_below HO.out.bel p0
      have HFS := Sd.mk (show Mk.fst (l.take (i + 1)) = if x ∈ Mk.fst (l.take i) then Mk.fst (l.take i) else Mk.fst (l.take i) ++ [x] by rw [List.take_add_one, hx]; exact Mk.fst_snoc _ _)
      have hxr := HR.out x (List.mem_of_getElem? hx)
      have d0 : decide (0 ≤ x) = true := decide_eq_true hxr.1
      have d1 : decide (x < n) = true := decide_eq_true hxr.2
      obtain ⟨A9, c9, e9, hsl⟩ := HO.out.slice
      rw [HQ.out] at e9
      simp only [Value.slice.injEq] at e9
      obtain ⟨rfl, -, rfl⟩ := e9
      have HSL := Sd.mk hsl
      obtain ⟨r, hrr⟩ : ∃ r : Bool, r = true ↔ x ∈ Mk.fst (l.take i) := ⟨decide (x ∈ Mk.fst (l.take i)), by simp⟩
      have HHS := Sd.mk (refhas_any wr B d _ HSL.out q HQ.out.symm x r hrr)
      have HRR := Sd.mk hrr
      clear hx hsl hrr hxr
      cases r with
      | true =>
        have HF2 := Sd.mk (show Mk.fst (l.take (i + 1)) = Mk.fst (l.take i) by rw [HFS.out, if_pos (HRR.out.1 rfl)])
        have HQ2 := Sd.mk (show (Mk.fst (l.take (i + 1))).length = q by rw [HF2.out]; exact HQ.out)
        have HO2 := Sd.mk (show Og w (.slice B q d) (Mk.fst (l.take (i + 1))) wr by rw [HF2.out]; exact HO.out)
        go_wp2_with (first
          | (go_at_call 18; (with_reducible refine HHS.out.mono ?_); rintro e w2 ⟨rfl, hw⟩; obtain rfl := hw.symm))
        go_roundg (gk - 1)
        case measure => omega
        case rel => exact ⟨i + 1, B, q, d, by omega, by omega, rfl, by go_num, HQ2, HO2⟩
      | false =>
        have HF2 := Sd.mk (show Mk.fst (l.take (i + 1)) = Mk.fst (l.take i) ++ [x] by rw [HFS.out, if_neg (fun h => by have := HRR.out.2 h; cases this)])
        go_wp2_with (first
          | (go_at_call 18; (with_reducible refine HHS.out.mono ?_); rintro e w2 ⟨rfl, hw⟩; obtain rfl := hw.symm)
          | (at_builtin; refine append_one (f := fI) (n := 1) (fun _ => rfl) fI_one w.heap.size rfl (.tmp 35) (.tmp 40) 28 3 (.int .i64 0) 8 rfl Try.underlying28 info_int rfl (by decide) (.slice B q d) (Mk.fst (l.take i)) x rfl rfl HO.out.own HO.out.bel HO.out.bel.size (by rw [HQ.out]; omega) (by rw [HQ.out]; omega) ?_; intro v6 w6 hown hbel hgrow; obtain ⟨A6, q6, rfl⟩ := OwnR.slice hown; have hl6 : (Mk.fst (l.take i) ++ [x]).length = q + 1 := (by rw [List.length_append, HQ.out]; rfl); rw [hl6] at hown ⊢; have HK6 := Sd.mk hl6; have HO6 := Sd.mk (⟨hown, hbel⟩ : Og w (.slice A6 (q + 1) q6) (Mk.fst (l.take i) ++ [x]) w6); clear hown hbel hgrow hl6))
        go_roundg (gk - 1)
        case measure => omega
        case rel => exact ⟨i + 1, A6, q + 1, q6, by omega, by omega, rfl, by go_num, ⟨by rw [HF2.out]; exact HK6.out⟩, ⟨by rw [HF2.out]; exact HO6.out⟩⟩
    · have hii : decide (i < m) = false := decide_eq_false (by omega)
      have hii2 : decide ((i : Int) < (m : Int)) = false := decide_eq_false (by omega)
      have HE := Sd.mk (show l.take i = l from List.take_of_length_le (by rw [← HM.out]; omega))
      go_wp2
      go_ret
      exact ⟨_, rfl, by have := HO.out; rw [HE.out] at this; exact this⟩
end Go.Proofs.Ytdmdfpbklflijaa.Crt

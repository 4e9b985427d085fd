/- A reader: a signature: walked. -/
import Derived.Test.YtdmdfpbklflijaaRw
import Derived.Deep.RegionLaw
import Derived.Test.YtdmdfpbklflijaaPeel
import Derived.Deep.CutRange
set_option linter.unusedVariables false
set_option linter.unusedSimpArgs false

namespace Go.Proofs.Ytdmdfpbklflijaa.Rp
open Go.RowKit Rd Api Own Mv App Num

def fT (t : ByteArray) : List Value := [.string t]
theorem fT_one : ∀ x : ByteArray, ∀ u ∈ fT x, u.oneCell' = true := fun _ _ hu => by simp [fT] at hu; subst hu; rfl
theorem info_str : ((Try.prog).info? 9).map (fun i => (i.zero, i.size, i.bytes)) = some (some (.string ByteArray.empty), 1, 16) := by kernel_rfl
/-- amid a signature's reading -/
structure Sw (W0 : World) (g : Nat) (s : RS) (node : Int) (A : Option Addr) (i c : Nat) (tags : List ByteArray) (Bs Br : Nat) (W : World) : Prop where
  gd : Gd g W0 s W
  bs : W.heap[Bs]? = some (.cells #[.int .i64 node, .slice A i c] 39 (0, 0))
  br : W.heap[Br]? = some (.cells #[.int .i64 0, .slice none 0 0] 39 (0, 0))
  own : OwnR fT 1 W 0 9 (.slice A i c) tags
  fr : ∀ k, (Value.slice A i c).ownBlock = some k → W0.heap.size ≤ k
  lt : g < W0.heap.size
  ge : W0.heap.size ≤ Bs ∧ W0.heap.size ≤ Br ∧ Bs ≠ Br
section
variable {W0 : World} {g : Nat} {s t : RS} {node : Int} {A : Option Addr} {i c : Nat} {tags : List ByteArray} {Bs Br : Nat} {W W1 : World}
theorem Sw.below (h : Sw W0 g s node A i c tags Bs Br W) (hb : Below W.heap.size W W1) : Sw W0 g s node A i c tags Bs Br W1 := ⟨h.gd.bel hb, blk_keep h.bs hb, blk_keep h.br hb, h.own.below hb, h.fr, h.lt, h.ge⟩
theorem Sw.call (h : Sw W0 g s node A i c tags Bs Br W) (k : Gd g W t W1) : Sw W0 g t node A i c tags Bs Br W1 :=
  ⟨h.gd.then k, blk_grown h.bs k.gr (fun e => by have := h.lt; have := h.ge.1; have := Option.some.inj e; omega), blk_grown h.br k.gr (fun e => by have := h.lt; have := h.ge.2.1; have := Option.some.inj e; omega), OwnR.grown h.own k.gr (.inr (OwnR.blk h.own h.gd.rb (by decide))), h.fr, h.lt, h.ge⟩
/-- one more tag -/
theorem Sw.push (h : Sw W0 g s node A i c tags Bs Br W) {N : Nat} (hN : W0.heap.size ≤ N) {x : ByteArray} {A6 : Option Addr} {j q6 : Nat} (hown : OwnR fT 1 W1 0 9 (.slice A6 j q6) (tags ++ [x])) (hg : W.grownBy W1 (Value.slice A i c).ownBlock) (hob : (Value.slice A6 j q6).ownBlock = (Value.slice A i c).ownBlock ∨ (Value.slice A6 j q6).ownBlock = some N) :
    Sw W0 g s node A6 j q6 (tags ++ [x]) Bs Br (W1.setCell ⟨Bs, 1, none⟩ (.slice A6 j q6)) := by
  have r6 := blk_grown h.bs hg (OwnR.blk h.own h.bs (by decide))
  have b6 := blk_grown h.br hg (OwnR.blk h.own h.br (by decide))
  have g6 : Rb g s W1 := blk_grown h.gd.rb hg (OwnR.blk h.own h.gd.rb (by decide))
  have hsz := h.gd.gr.size
  have hne : g ≠ Bs := by have := h.lt; have := h.ge.1; omega
  refine ⟨⟨(heap_set _ _ _ _ _ hne).trans g6, ?_⟩, (blk_set3 r6 1 _).trans rfl, (heap_set _ _ _ _ _ (Ne.symm h.ge.2.2)).trans b6, OwnR.grown hown (row := some Bs) (grown_set _ _ _ _) (.inr (OwnR.blk hown r6 (by decide))), fun k hk => ?_, h.lt, h.ge⟩
  · have h1 := h.gd.gr
    refine ⟨hg.os.trans h1.os, hg.tape.trans h1.tape, hg.output.trans h1.output, ?_, fun k hk hr => ?_⟩
    · have := hg.size; simp only [World.setCell, Array.size_modify]; omega
    · rw [heap_set _ _ _ _ _ (by have := h.ge.1; omega), hg.block k (by omega) (fun e => by have := h.fr k e.symm; omega)]
      exact h1.block k hk hr
  · rcases hob with e | e
    · exact h.fr k (e ▸ hk)
    · rw [hk] at e; have := Option.some.inj e; omega
theorem sw_start {W2 : World} {x : Int} (h : Rb g s W0) (hg : Gd g (W0.alloc (.cells #[.int .i64 0, .slice none 0 0] 39)) t W2) : Sw W0 g t x none 0 0 [] W2.heap.size W0.heap.size (W2.alloc (.cells #[.int .i64 x, .slice none 0 0] 39)) := by
  have hlt := blk_lt' h
  have b1 := below_one W0 (.cells #[.int .i64 0, .slice none 0 0] 39)
  have b2 := below_one W2 (.cells #[.int .i64 x, .slice none 0 0] 39)
  have hs := hg.gr.size
  simp only [World.size_alloc] at hs
  have r2 : W2.heap[W0.heap.size]? = some (.cells #[.int .i64 0, .slice none 0 0] 39 (0, 0)) := blk_grown (blk_new W0 _) hg.gr (fun e => by have := Option.some.inj e; omega)
  exact ⟨⟨hg.rb.below b2, grown_then (grown_below b1 _) (grown_then hg.gr (grown_below b2 _))⟩, blk_new _ _, blk_keep r2 b2, OwnR.nil _ _ _ _ _, fun k hk => by simp [Value.ownBlock] at hk, hlt, by omega, Nat.le_refl _, by omega⟩
end
set_option maxHeartbeats 8000000 in
set_option maxRecDepth 100000 in
theorem sig_any {g : Nat} {s : RS} {W : World} (h : Rb g s W) (hz : s.b.size ≤ 9223372036854775807) (x : Sg.Sig) (t : RS) (hx : sigF s = (x, t)) :
    Calls Try.prog 123 #[.pointer (some ⟨g, 0, none⟩)] W fun e w' => ∃ A c, e = .returned (.agg #[.int .i64 x.node, .slice A x.tags.length c]) ∧ OwnR fT 1 w' 0 9 (.slice A x.tags.length c) x.tags ∧ (∀ k, (Value.slice A x.tags.length c).ownBlock = some k → W.heap.size ≤ k) ∧ Gd g W t w' := by
  obtain ⟨a, s1, ha⟩ : ∃ a s1, numF 0 6 s = (a, s1) := ⟨_, _, rfl⟩
  obtain ⟨b, s2, hb⟩ : ∃ b s2, numF 0 7 s1 = (b, s2) := ⟨_, _, rfl⟩
  have hz1 : s1.b.size ≤ 9223372036854775807 := by have := num_le 0 6 s; rw [ha] at this; simp only at this; omega
  have hz2 : s2.b.size ≤ 9223372036854775807 := by have := num_le 0 7 s1; rw [hb] at this; simp only at this; omega
  have hb7 : 0 ≤ b ∧ b ≤ 7 := by have := num_in 0 7 s1 (.inr trivial); rw [hb] at this; simp only at this; omega
  obtain ⟨m, rfl⟩ : ∃ m : Nat, b = (m : Int) := ⟨b.toNat, by omega⟩
  have HX := Sd.mk (show (⟨a, (tagsF s2 m).1⟩, (tagsF s2 m).2) = (x, t) by rw [← hx]; unfold sigF; rw [ha]; simp only; rw [hb]; simp only [Int.toNat_natCast])
  have hm7 : m ≤ 7 := by omega
  have HZ2 := Sd.mk (fun k => Nat.le_trans (tags_le s2 k).1 hz2)
  have HH := Sd.mk h
  have HN1 := Sd.mk (number_any (h.below (below_one W (.cells #[.int .i64 0, .slice none 0 0] 39))) 0 6 hz a s1 ha)
  have HN2 := Sd.mk (fun W1 (h1 : Rb g s1 W1) => number_any h1 0 7 hz1 (m : Int) s2 hb)
  clear h hz hx ha hb hz1 hz2 hb7
  go_enter Try.func123, Try.ntmps123
  go_upto_region 2 with (first
    | (go_at_call 121; (with_reducible refine HN1.out.mono ?_); rintro e w1 ⟨rfl, hg⟩; have HL := Sd.mk (sw_start (x := a) HH.out hg); clear hg))
  clear HN1 HH
  generalize w1.heap.size = Bs at HL ⊢
  generalize hBr : W.heap.size = Br at HL ⊢
  generalize w1.alloc _ = W1 at HL ⊢
  go_upto_region 3 with (first
    | (go_at_call 121; (with_reducible refine (HN2.out _ HL.out.gd.rb).mono ?_); rintro e w2 ⟨rfl, hg⟩; have HL2 := Sd.mk (HL.out.call hg); clear hg))
  clear HN2 HL
  go_loopg [9] m (fun gk v9 wr => ∃ i A c, i + gk = m ∧ v9 = .int .i64 (i : Nat) ∧ Sd (Sw W g (tagsF s2 i).2 a A i c (tagsF s2 i).1 Bs Br wr))
  case atStart => exact ⟨0, none, 0, by omega, rfl, HL2⟩
  case round =>
    clear HL2
    obtain ⟨i, A, c, hi, rfl, HL⟩ := hrel
    by_cases hlt : i < m
    · have hii : (i : Int) < m := by omega
      obtain ⟨y, s3, hy⟩ : ∃ y s3, cutF 16 (tagsF s2 i).2 = (y, s3) := ⟨_, _, rfl⟩
      have HT := Sd.mk (show tagsF s2 (i + 1) = ((tagsF s2 i).1 ++ [y], s3) by simp only [tagsF, hy])
      have HD := Sd.mk (HL.out.below (below_drew' (Below.refl _ _)))
      have HCT := Sd.mk (cut_any HD.out.gd.rb 16 (HZ2.out i) y s3 hy)
      have HLN := Sd.mk (tags_len s2 i)
      have b1 := blk_at HD.out.bs 1 _ rfl
      clear hy HL
      go_wp2
      refine Peel.region_peel (n := 7) (S := fun W1 => W1.cell? ⟨Bs, 1, none⟩ = some (.slice A i c)) (by kernel_rfl) (by kernel_rfl) b1 (fun hHeld => ?_)
      simp only [List.take_succ_cons, List.take_zero]
      (refine Peel.take 0 (v := ?_) rfl rfl (by kernel_rfl) (by kernel_rfl) (by kernel_rfl) (fun _ _ _ h => h) (by assumption) ?_ ?_; rotate_left; (focus (intro w hSw; (try dsimp only at hSw); (try simp only [List.getElem_toArray, List.getElem_cons_succ, List.getElem_cons_zero]); go_simp; try (with_reducible rfl))); try simp only [List.getElem_toArray, List.getElem_cons_succ, List.getElem_cons_zero, Act.put, List.setIfInBounds_toArray, List.set_cons_zero, List.set_cons_succ])
      (refine Peel.take 1 (v := ?_) rfl rfl (by kernel_rfl) (by kernel_rfl) (by kernel_rfl) (fun _ _ _ h => h) (by assumption) ?_ ?_; rotate_left; (focus (intro w hSw; (try dsimp only at hSw); (try simp only [List.getElem_toArray, List.getElem_cons_succ, List.getElem_cons_zero]); go_simp; try (with_reducible rfl))); try simp only [List.getElem_toArray, List.getElem_cons_succ, List.getElem_cons_zero, Act.put, List.setIfInBounds_toArray, List.set_cons_zero, List.set_cons_succ])
      (refine Peel.take 2 (v := ?_) rfl rfl (by kernel_rfl) (by kernel_rfl) (by kernel_rfl) (fun _ _ _ h => h) (by assumption) ?_ ?_; rotate_left; (focus (intro w hSw; (try dsimp only at hSw); (try simp only [List.getElem_toArray, List.getElem_cons_succ, List.getElem_cons_zero]); go_simp; try (with_reducible rfl))); try simp only [List.getElem_toArray, List.getElem_cons_succ, List.getElem_cons_zero, Act.put, List.setIfInBounds_toArray, List.set_cons_zero, List.set_cons_succ])
      (refine wpAnyH_ready (rs := [3]) (by kernel_rfl) (by simp) ?_; refine AllReadyH.cons rfl (fun K hK => ?_) AllReadyH.nil)
      go_simp
      go_at_call 122
      with_reducible refine HCT.out.mono ?_
      rintro e w2 ⟨rfl, hg⟩
      have HL2 := Sd.mk (HD.out.call hg)
      have y1 := blk_at HL2.out.bs 1 _ rfl
      have ya : (w2.alloc (.cells #[.string y] 9)).cell? ⟨Bs, 1, none⟩ = some (.slice A i c) := cell_below (below_one w2 _) y1
      clear hg
      (refine hK.out _ _ y1 (fun hHeld => ?_); (clear hK K; try simp only [List.getElem_toArray, List.getElem_cons_succ, List.getElem_cons_zero, Act.put, List.setIfInBounds_toArray, List.set_cons_zero, List.set_cons_succ]))
      (refine wpAnyH_ready (rs := [4]) (by kernel_rfl) (by simp) ?_; refine AllReadyH.cons rfl (fun K hK => ?_) AllReadyH.nil)
      go_simp
      (refine hK.out _ _ ya (fun hHeld => ?_); (clear hK K; try simp only [List.getElem_toArray, List.getElem_cons_succ, List.getElem_cons_zero, Act.put, List.setIfInBounds_toArray, List.set_cons_zero, List.set_cons_succ]))
      (refine wpAnyH_ready (rs := [5]) (by kernel_rfl) (by simp) ?_; refine AllReadyH.cons rfl (fun K hK => ?_) AllReadyH.nil)
      (refine step_append_at (f := fT) (n := 1) (fun _ => rfl) fT_one rfl (.tmp 12) (.tmp 15) 37 9 (.string ByteArray.empty) 16 rfl Try.underlying37 info_str rfl (by decide) (.slice A i c) (tagsF s2 i).1 y rfl rfl HL2.out.own (by rw [HLN.out]; omega) (by rw [HLN.out]; omega) ?_; intro v6 w6 hown hgrow hob; obtain ⟨A6, q6, rfl⟩ := OwnR.slice hown; have hl6 : ((tagsF s2 i).1 ++ [y]).length = i + 1 := (by rw [List.length_append, HLN.out]; rfl); rw [hl6] at hown hob ⊢; have r6 := blk_grown HL2.out.bs hgrow (OwnR.blk HL2.out.own HL2.out.bs (by decide)); have c6 := blk_at r6 1 _ rfl; have f6 := blk_frz r6 1; have HL6 := Sd.mk (HL2.out.push (by have := HL2.out.gd.gr.size; omega) hown hgrow hob); clear hown hgrow hob hl6)
      (refine hK.out _ _ c6 (fun hHeld => ?_); (clear hK K; try simp only [List.getElem_toArray, List.getElem_cons_succ, List.getElem_cons_zero, Act.put, List.setIfInBounds_toArray, List.set_cons_zero, List.set_cons_succ]))
      (refine Peel.take 6 (v := ?_) rfl rfl (by kernel_rfl) (by kernel_rfl) (by kernel_rfl) (fun _ _ _ h => h) (by assumption) ?_ ?_; rotate_left; (focus (intro w hSw; (try dsimp only at hSw); (try simp only [List.getElem_toArray, List.getElem_cons_succ, List.getElem_cons_zero]); go_simp; try (with_reducible rfl))); try simp only [List.getElem_toArray, List.getElem_cons_succ, List.getElem_cons_zero, Act.put, List.setIfInBounds_toArray, List.set_cons_zero, List.set_cons_succ])
      (refine wpAnyH_done (by kernel_rfl) ?_ _; simp only [Peel.Qn, List.drop_succ_cons, List.drop_zero]; clear hHeld)
      go_wp2
      have HL7 := Sd.mk (show Sw W g (tagsF s2 (i + 1)).2 a A6 (i + 1) q6 (tagsF s2 (i + 1)).1 Bs Br _ from by rw [HT.out]; exact HL6.out)
      clear c6 f6 r6 HL6 HD b1
      generalize w6.setCell _ _ = W7 at HL7 ⊢
      go_roundg (gk - 1)
      case measure => omega
      case rel => exact ⟨i + 1, A6, q6, by omega, by go_num, HL7⟩
    · have hii : decide (i < m) = false := decide_eq_false (by omega)
      have hii2 : decide ((i : Int) < m) = false := decide_eq_false (by omega)
      obtain rfl : i = m := by omega
      obtain ⟨rfl, rfl⟩ := Prod.mk.inj HX.out
      have HLN := Sd.mk (tags_len s2 i)
      have q0 := blk_at HL.out.bs 0 _ rfl
      have q1 := blk_at HL.out.bs 1 _ rfl
      have r0 := blk_at HL.out.br 0 _ rfl
      have r1 := blk_at HL.out.br 1 _ rfl
      have f0 := blk_frz HL.out.br 0
      have f1 := blk_frz HL.out.br 1
      go_wp2
      have X8 : ((wr.setCell ⟨Br, 0, none⟩ (.int .i64 a)).setCell ⟨Br, 1, none⟩ (.slice A i c)).heap[Br]? = some (.cells #[.int .i64 a, .slice A i c] 39 (0, 0)) := (blk_set3 (blk_set3 HL.out.br 0 _) 1 _).trans rfl
      have y0 := blk_at X8 0 _ rfl
      have y1 := blk_at X8 1 _ rfl
      have HG := Sd.mk (show Gd g W (tagsF s2 i).2 ((wr.setCell ⟨Br, 0, none⟩ (.int .i64 a)).setCell ⟨Br, 1, none⟩ (.slice A i c)) from
        have hne : g ≠ Br := by have := HL.out.lt; have := HL.out.ge.2.1; omega
        ⟨(heap_set _ _ _ _ _ hne).trans ((heap_set _ _ _ _ _ hne).trans HL.out.gd.rb), by
          have h1 := HL.out.gd.gr
          have hB := HL.out.ge.2.1
          refine ⟨h1.os, h1.tape, h1.output, by have := h1.size; simpa [World.setCell] using this, fun k hk hr => ?_⟩
          rw [heap_set _ _ _ _ _ (by omega), heap_set _ _ _ _ _ (by omega)]
          exact h1.block k hk hr⟩)
      have HOW := Sd.mk (OwnR.grown (OwnR.grown HL.out.own (grown_set wr Br 0 (.int .i64 a)) (.inr (OwnR.blk HL.out.own HL.out.br (by decide)))) (grown_set _ Br 1 (.slice A i c)) (.inr (by have := OwnR.blk HL.out.own HL.out.br (by decide); exact this)))
      have HFR := Sd.mk (show ∀ k, (Value.slice A i c).ownBlock = some k → W.heap.size ≤ k from HL.out.fr)
      rw [hBr] at HFR
      clear q0 q1 r0 r1 f0 f1 X8 HL HX
      generalize (wr.setCell _ _).setCell _ _ = W9 at y0 y1 HG HOW ⊢
      rw [HLN.out]
      exact bodyPost_ret (v := .agg #[.int .i64 a, .slice A i c]) (by simp [results, Try.results123, go_sem, y0, y1]) rfl ⟨A, c, rfl, HOW.out, HFR.out, HG.out⟩
end Go.Proofs.Ytdmdfpbklflijaa.Rp

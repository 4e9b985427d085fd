/- Signing: walked. -/
import Derived.Test.YtdmdfpbklflijaaMacI
import Derived.Deep.RegionLaw
set_option linter.unusedVariables false
set_option linter.unusedSimpArgs false
namespace Go.Proofs.Ytdmdfpbklflijaa.Mac
open Go.RowKit Rd Api Own Mv Num Dig

/-- append(v, y), as one step of a region that draws -/
theorem step_append_one {P : Program} {ops : Array Oper} {o : Oper} {a : Act} {K : Act → World → Prop} {Q : Exit → Act → World → Prop} {E : Prop} {α : Type} {f : α → List Value} {n : Nat} (hn : ∀ x, (f x).length = n) (h1 : ∀ x, ∀ u ∈ f x, u.oneCell' = true) {w0 W : World} (base : Nat) (hgd : o.guard = none) (s x : Operand) (t e : TypeId) (z : Value) (bytes : Nat)
    (ho : o.op = .call { callee := .builtin .append, args := #[s, x], argTypes := #[t, t] })
    (ht : P.underlying t = some (.slice e)) (hinfo : (P.info? e).map (fun i => (i.zero, i.size, i.bytes)) = some (some z, n, bytes)) (hz : z.cells.size = n) (hn0 : 0 < n)
    (v : Value) (xs : List α) (y : α) (hs : a.eval s = v) (hx : a.eval x = .slice (some ⟨W.heap.size, 0, none⟩) 1 1)
    (HO : OwnR f n W base e v xs) (HB : Below base w0 W) (hbase : base ≤ W.heap.size) (hl : (xs.length + 1) * bytes ≤ 140737488355328) (hl2 : xs.length + 1 ≤ 9223372036854775807)
    (h : ∀ v1 w1, OwnR f n w1 base e v1 (xs ++ [y]) → Below base w0 w1 → W.grownBy w1 v.ownBlock → K (a.put o.dst v1) w1) :
    if Region.wanted o (yielded ops a.tmps) = true then Oper.wp P o a (W.alloc (.cells (f y).toArray e)) K Q else E := by
  have hw : Region.wanted o (yielded ops a.tmps) = true := by simp [Region.wanted, hgd]
  rw [if_pos hw]
  obtain ⟨i0, hi, hzz⟩ := Option.map_eq_some_iff.1 hinfo
  simp only [Prod.mk.injEq] at hzz
  obtain ⟨hz0, hz1, hz2⟩ := hzz
  have HO2 := OwnR.below HO (below_one W (.cells (f y).toArray e))
  obtain ⟨v', w', hr, hown, hg, -, -⟩ := run_append_own_at (P := P) (W.alloc (.cells (f y).toArray e)) base t o.type e i0 z n bytes ht hi hz0 hz1 hz2 hz hn0 v xs.length (flat f xs) HO2 ⟨W.heap.size, 0, none⟩ 1 1 (f y) (by rw [hn]; omega)
    (fun j u hu => by rw [add_flat, Nat.zero_add]; exact blk_at (blk_new W _) j u (by simpa using hu)) (h1 y) (by unfold maxLen; omega) hl (by simp; omega)
  unfold Oper.wp execOp
  simp only [ho, resolve, invoke, builtin, Sem.run_bind, Sem.run_pure, Result.andThen_ok, List.map_toArray, List.map_cons, List.map_nil, hs, hx, hr]
  refine h v' w' (by unfold OwnR; rw [flat_append]; simpa using hown) (below_grown (below_then' HB hbase (below_one W _)) hg (by simp; omega) (fun k hk => (OwnR.ge HO hk).1)) ?_
  exact ⟨hg.os, hg.tape, hg.output, by have := hg.size; simp at this; omega, fun k hk hr => (hg.block k (by simp; omega) hr).trans ((below_one W _).block k hk)⟩

def fS (x : ByteArray) : List Value := [.string x]
def tagsF (seed : ByteArray) (fr : Int) (tx : ByteArray) (n : Nat) : List ByteArray := (List.range n).map fun i => mtag seed (endF fr) (endF (i : Nat)) tx
theorem tagsF_length (seed : ByteArray) (fr : Int) (tx : ByteArray) (n : Nat) : (tagsF seed fr tx n).length = n := by simp [tagsF]
theorem tagsF_succ (seed : ByteArray) (fr : Int) (tx : ByteArray) (n : Nat) : tagsF seed fr tx (n + 1) = tagsF seed fr tx n ++ [mtag seed (endF fr) (endF (n : Nat)) tx] := by simp [tagsF, List.range_succ]
theorem tagsF_at (seed : ByteArray) (fr : Int) (tx : ByteArray) {n i : Nat} (hi : i < n) : (tagsF seed fr tx n)[i]? = some (mtag seed (endF fr) (endF (i : Nat)) tx) := by simp [tagsF, hi]

/-- what is signed so far -/
structure Sp (w : World) (g8 g10 : Nat) (fr : Int) (v : Value) (xs : List ByteArray) (W : World) : Prop where
  r8 : W.heap[g8]? = some (.cells #[.int .i64 0, .slice none 0 0] 39 (0, 0))
  r10 : W.heap[g10]? = some (.cells #[.int .i64 fr, v] 39 (0, 0))
  own : OwnR fS 1 W w.heap.size 9 v xs
  bel : Below w.heap.size w W
theorem Sp.below {w : World} {g8 g10 : Nat} {fr : Int} {v : Value} {xs : List ByteArray} {W W1 : World} (h : Sp w g8 g10 fr v xs W) (hb : Below W.heap.size W W1) : Sp w g8 g10 fr v xs W1 := ⟨blk_keep h.r8 hb, blk_keep h.r10 hb, OwnR.below h.own hb, below_then h.bel hb⟩
theorem Sp.drew {w : World} {g8 g10 : Nat} {fr : Int} {v : Value} {xs : List ByteArray} {W : World} (h : Sp w g8 g10 fr v xs W) : Sp w g8 g10 fr v xs W.drew := ⟨h.r8, h.r10, h.own, below_drew' h.bel⟩
theorem info_str : ((Try.prog).info? 9).map (fun i => (i.zero, i.size, i.bytes)) = some (some (.string ByteArray.empty), 1, 16) := by kernel_rfl

set_option maxHeartbeats 8000000 in
set_option maxRecDepth 100000 in
theorem sign_ok (w : World) (seed : ByteArray) (fr : Int) (n : Nat) (tx : ByteArray) (h0 : 0 ≤ fr ∧ fr < (n : Int)) (h1 : 1 ≤ n ∧ n ≤ 7) (hs : seed.size ≤ 35184372088832) (ht : tx.size ≤ 35184372088832) :
    Calls Try.prog 32 #[.string seed, .int .i64 fr, .int .i64 (n : Int), .string tx] w fun e w' => ∃ v, e = .returned (.tuple #[.agg #[.int .i64 fr, v], .int .i64 0]) ∧ OwnR fS 1 w' w.heap.size 9 v (tagsF seed fr tx n) ∧ Below w.heap.size w w' := by
  have hN := fun W => nodes_any W n true (decide_eq_true (show (1 : Int) ≤ n ∧ (n : Int) ≤ 7 by omega))
  have d1 : decide (fr < 0) = false := decide_eq_false (by omega)
  have d2 : decide ((n : Int) ≤ fr) = false := decide_eq_false (by omega)
  have n7 : n ≤ 7 := h1.2
  clear h0 h1
  go_enter Try.func32, Try.ntmps32
  go_wp2_with (first | (go_at_call 53; (with_reducible refine (hN _).mono ?_); rintro e w1 ⟨rfl, rfl⟩))
  clear hN
  have HP := Sd.mk (show Sp w w.heap.size (w.heap.size + 1) fr (.slice none 0 0) [] ((w.alloc (.cells #[.int .i64 0, .slice none 0 0] 39)).alloc (.cells #[.int .i64 fr, .slice none 0 0] 39)) from
    ⟨blk_keep (blk_new _ _) (below_one _ _), blk_new1 _ _ _, OwnR.nil _ _ _ _ _, below_then (below_one _ _) (below_one _ _)⟩)
  generalize World.alloc _ _ = W at HP ⊢
  go_loopg [28] n (fun gk v28 wr => ∃ i, i + gk = n ∧ v28 = .int .i64 (i : Nat) ∧ Sd (∃ v, Sp w w.heap.size (w.heap.size + 1) fr v (tagsF seed fr tx i) wr))
  case atStart => exact ⟨0, by omega, rfl, ⟨_, HP.out⟩⟩
  case round =>
    clear HP
    obtain ⟨i, hi, rfl, HX⟩ := hrel
    obtain ⟨v, hv⟩ := HX.out
    have HP := Sd.mk hv
    clear hv HX
    by_cases hlt : i < n
    · have hii : (i : Int) < n := by omega
      obtain ⟨y, hy⟩ : ∃ y, mtag seed (endF fr) (endF (i : Nat)) tx = y := ⟨_, rfl⟩
      have HY := Sd.mk hy
      clear hy
      go_upto_region 7 with (fail)
      have HP1 := Sd.mk HP.out.drew
      have c1 := blk_at HP.out.r10 1 _ rfl
      clear HP
      go_region_law (first
        | (go_simp; go_at_call 68; (with_reducible refine (mactag_any _ seed fr i tx hs ht y HY.out).mono ?_); rintro e w5 ⟨rfl, hb5⟩; have HP5 := Sd.mk (HP1.out.below hb5); have c1 := blk_at HP5.out.r10 1 _ rfl; have c1a : ∀ o, (w5.alloc o).cell? ⟨w.heap.size + 1, 1, none⟩ = some v := (fun o => cell_below (below_one w5 o) c1))
        | (refine step_append_one (f := fS) (n := 1) (fun _ => rfl) (fun _ _ hu => by simp [fS] at hu; subst hu; rfl) w.heap.size rfl (.tmp 32) (.tmp 38) 37 9 (.string ByteArray.empty) 16 rfl Try.underlying37 info_str rfl (by decide) v (tagsF seed fr tx i) y rfl rfl HP5.out.own HP5.out.bel HP5.out.bel.size (by rw [tagsF_length]; omega) (by rw [tagsF_length]; omega) ?_; intro v6 w6 hown hbel hgrow; have r10 := blk_grown HP5.out.r10 hgrow (OwnR.blk HP5.out.own HP5.out.r10 (by decide)); have r8 := blk_grown HP5.out.r8 hgrow (OwnR.blk HP5.out.own HP5.out.r8 (by decide)); have c6 := blk_at r10 1 _ rfl; have f6 := blk_frz r10 1; obtain ⟨A6, q6, rfl⟩ := OwnR.slice hown; have hlen : (tagsF seed fr tx i ++ [y]).length = i + 1 := (by rw [List.length_append, tagsF_length]; rfl); rw [hlen] at hown ⊢; clear hlen)
        | fail)
      all_goals
        have HP7 := Sd.mk (show Sp w w.heap.size (w.heap.size + 1) fr (.slice A6 (i + 1) q6) (tagsF seed fr tx (i + 1)) (w6.setCell ⟨w.heap.size + 1, 1, none⟩ (.slice A6 (i + 1) q6)) from by
          refine ⟨(heap_set _ _ _ _ _ (by omega)).trans r8, (blk_set3 r10 1 _).trans rfl, ?_, hbel.setCell (by simp only; omega) _⟩
          rw [tagsF_succ, HY.out]
          exact OwnR.grown hown (row := some (w.heap.size + 1)) ⟨rfl, rfl, rfl, by simp [World.setCell], fun k hk hr => heap_set _ _ _ _ k (fun e => hr (by rw [e]))⟩ (.inr (OwnR.blk hown r10 (by decide))))
        go_wp2
        go_roundg (gk - 1)
        case measure => omega
        case rel => exact ⟨i + 1, by omega, by go_num, ⟨_, HP7.out⟩⟩
    · have hii : decide (i < n) = false := decide_eq_false (by omega)
      obtain rfl : i = n := by omega
      obtain ⟨A, q, rfl⟩ := OwnR.slice HP.out.own
      rw [tagsF_length] at HP
      have a0 := blk_at HP.out.r10 0 _ rfl
      have a1 := blk_at HP.out.r10 1 _ rfl
      have b0 := blk_at HP.out.r8 0 _ rfl
      have b1 := blk_at HP.out.r8 1 _ rfl
      have f0 := blk_frz HP.out.r8 0
      have f1 := blk_frz HP.out.r8 1
      go_wp2
      have X8 : ((wr.setCell ⟨w.heap.size, 0, none⟩ (.int .i64 fr)).setCell ⟨w.heap.size, 1, none⟩ (.slice A i q)).heap[w.heap.size]? = some (.cells #[.int .i64 fr, .slice A i q] 39 (0, 0)) := (blk_set3 (blk_set3 HP.out.r8 0 _) 1 _).trans rfl
      have y0 := blk_at X8 0 _ rfl
      have y1 := blk_at X8 1 _ rfl
      have hown : OwnR fS 1 ((wr.setCell ⟨w.heap.size, 0, none⟩ (.int .i64 fr)).setCell ⟨w.heap.size, 1, none⟩ (.slice A i q)) w.heap.size 9 (.slice A i q) (tagsF seed fr tx i) :=
        OwnR.grown HP.out.own (row := some w.heap.size) ⟨rfl, rfl, rfl, by simp [World.setCell], fun k hk hr => (heap_set _ _ _ _ k (fun e => hr (by rw [e]))).trans (heap_set _ _ _ _ k (fun e => hr (by rw [e])))⟩ (.inr (OwnR.blk HP.out.own HP.out.r8 (by decide)))
      have hbel := (HP.out.bel.setCell (p := ⟨w.heap.size, 0, none⟩) (Nat.le_refl _) (.int .i64 fr)).setCell (p := ⟨w.heap.size, 1, none⟩) (Nat.le_refl _) (.slice A i q)
      clear a0 a1 b0 b1 f0 f1 X8 HP
      generalize (wr.setCell ⟨w.heap.size, 0, none⟩ (.int .i64 fr)).setCell _ _ = w9 at y0 y1 hown hbel ⊢
      exact bodyPost_ret (v := .tuple #[.agg #[.int .i64 fr, .slice A i q], .int .i64 0]) (by simp [results, Try.results32, go_sem, y0, y1]) rfl ⟨_, rfl, hown, hbel⟩
end Go.Proofs.Ytdmdfpbklflijaa.Mac

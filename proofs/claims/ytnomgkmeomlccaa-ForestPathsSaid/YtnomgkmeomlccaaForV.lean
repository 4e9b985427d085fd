/- The reference's adopt: walked. The reference's New and Put: walked. The reference's Put: walked. -/
import Derived.Test.YtnomgkmeomlccaaForS
import Derived.BigQuiet
import Derived.Test.YtnomgkmeomlccaaForF
import Derived.Deep.CutRange
set_option linter.unusedVariables false
set_option linter.unusedSimpArgs false
namespace Go.Proofs.Ytnomgkmeomlccaa.Fst
open Go.RowKit Go.Sort Rd Api Own Mv App Num Dig
open Blk (Block Rq rqN fR digB coreB step_appends_at own_nc)
open Kee (Bk fB bkK Wk)

theorem er_ne {α : Type} {l : List α} {i k : Nat} {x : α} (h : l[k]? = some x) (hne : k ≠ i) : (l.take (k + 1)).eraseIdx i = (l.take k).eraseIdx i ++ [x] := by
  have hk := (List.getElem?_eq_some_iff.1 h).1
  have hl : (l.take k).length = k := by rw [List.length_take]; omega
  rw [List.take_add_one, h]
  show (l.take k ++ [x]).eraseIdx i = _
  rcases Nat.lt_or_ge i k with e | e
  · rw [List.eraseIdx_append_of_lt_length (by omega)]
  · rw [List.eraseIdx_of_length_le (by rw [List.length_append, hl]; simp; omega), List.eraseIdx_of_length_le (by omega)]
theorem er_eq {α : Type} {l : List α} {i : Nat} {x : α} (h : l[i]? = some x) : (l.take (i + 1)).eraseIdx i = (l.take i).eraseIdx i := by
  have hk := (List.getElem?_eq_some_iff.1 h).1
  have hl : (l.take i).length = i := by rw [List.length_take]; omega
  rw [List.take_add_one, h]
  show (l.take i ++ [x]).eraseIdx i = _
  rw [List.eraseIdx_append_of_length_le (by omega), hl, Nat.sub_self, List.eraseIdx_of_length_le (l := l.take i) (by omega)]
  show l.take i ++ [] = l.take i
  rw [List.append_nil]
/-- a row of items of the call's own -/
structure Ro2 (w : World) (v : Value) (l : List It) (W : World) : Prop where
  own : OwnR fI 7 W 0 123 v l
  new : ∀ k, v.ownBlock = some k → w.heap.size ≤ k
  bel : RowKit.Below w.heap.size w W
theorem Ro2.push {w W W1 : World} {v v1 : Value} {l : List It} {x : It} (h : Ro2 w v l W) (ho : OwnR fI 7 W1 0 123 v1 (l ++ [x])) (hg : W.grownBy W1 v.ownBlock) (hn : v1.ownBlock = v.ownBlock ∨ v1.ownBlock = some (W.heap.size + 1)) : Ro2 w v1 (l ++ [x]) W1 := by
  refine ⟨ho, fun j hj => ?_, below_grown h.bel hg h.bel.size h.new⟩
  rcases hn with e | e
  · exact h.new j (e ▸ hj)
  · rw [hj] at e
    cases Option.some.inj e
    have := h.bel.size
    omega
theorem it_raw {W : World} {A : Option Addr} {l : List It} (h : Row itN W A l) {i : Nat} {x : It} (hx : l[i]? = some x) : ∃ g o, A = some ⟨g, o, none⟩ ∧ W.cell? ⟨g, o + i * 7, none⟩ = some (.string x.h) ∧ W.cell? ⟨g, o + i * 7 + 1, none⟩ = some (.int .i64 x.r.v) ∧ W.cell? ⟨g, o + i * 7 + 2, none⟩ = some (.int .i64 x.r.p) ∧ W.cell? ⟨g, o + i * 7 + 3, none⟩ = some (.int .i64 x.r.jv) ∧ W.cell? ⟨g, o + i * 7 + 4, none⟩ = some (.string x.r.jb) ∧ W.cell? ⟨g, o + i * 7 + 5, none⟩ = some (.slice x.r.sa x.r.sn x.r.sc) ∧ W.cell? ⟨g, o + i * 7 + 6, none⟩ = some (.slice x.r.a x.r.n x.r.c) := by
  obtain ⟨g, o, cs, hA, rfl, hc⟩ := h i x hx
  exact ⟨g, o, hA, hc 0 _ rfl, hc 1 _ rfl, hc 2 _ rfl, hc 3 _ rfl, hc 4 _ rfl, hc 5 _ rfl, hc 6 _ rfl⟩
theorem rv_turned {w0 W wd W1 : World} {f : Fo} {nv ov : Value} {g : Nat} {cs : Array Value} (h : Rv w0 f nv ov wd) (E : wd.heap[g]? = some (.cells cs 70 (0, 0))) (hb : RowKit.Below W.heap.size W W1) (h0 : RowKit.Below w0.heap.size w0 W) (hg : wd.grownBy W1 (some g)) : Rv w0 f nv ov W1 := by
  obtain ⟨is, h1, h2⟩ := h.n
  obtain ⟨js, h3, h4⟩ := h.o
  exact ⟨below_then h0 hb, ⟨is, OwnR.grown h1 hg (.inr (h1.blk E (by decide))), h2⟩, ⟨js, OwnR.grown h3 hg (.inr (h3.blk E (by decide))), h4⟩⟩
-- <L1
set_option maxHeartbeats 16000000 in
set_option maxRecDepth 100000 in
theorem radopt_any (w0 : World) : ∀ (n : Nat), n ≤ 10 → ∀ (W : World) (f : Fo) (An Ao : Option Addr) (nn cn no co : Nat), f.orph.length ≤ 8 → Rv w0 f (.slice An nn cn) (.slice Ao no co) W →
    Calls Try.prog 81 #[.agg #[.string f.root, .int .i64 f.height, .slice An nn cn, .slice Ao no co], .int .i64 (n : Nat)] W fun e w' => ∃ nv ov, e = .returned (.agg #[.string (f.adopt n).root, .int .i64 (f.adopt n).height, nv, ov]) ∧ Rv w0 (f.adopt n) nv ov w' ∧ RowKit.Below W.heap.size W w' := by
  intro n
  induction n with
  | zero =>
    intro hn10 W f An Ao nn cn no co h8 hv
    have mixed : Try.prog.follows .mixedOrders = true := by kernel_rfl
    obtain ⟨An', cn', Ao', co', is, js, e1, e2, s1, s2, a1, a2⟩ := hv.open
    simp only [Value.slice.injEq] at e1 e2
    obtain ⟨rfl, hnn, rfl⟩ := e1
    obtain ⟨rfl, hno, rfl⟩ := e2
    have HV := Sd.mk hv
    have b0 := below_one W (.cells #[.string f.root, .int .i64 f.height, .slice An nn cn, .slice Ao no co] 70)
    have b1 := below_one (W.alloc (.cells #[.string f.root, .int .i64 f.height, .slice An nn cn, .slice Ao no co] 70)) (.cells #[.string ⟨#[]⟩, .int .i64 0, .slice none 0 0, .slice none 0 0] 70)
    have HB := Sd.mk (below_then b0 b1)
    have EF := Sd.mk (blk_keep (blk_new W (.cells #[.string f.root, .int .i64 f.height, .slice An nn cn, .slice Ao no co] 70)) b1)
    have EZ := Sd.mk (blk_new1 W (.cells #[.string f.root, .int .i64 f.height, .slice An nn cn, .slice Ao no co] 70) (.cells #[.string ⟨#[]⟩, .int .i64 0, .slice none 0 0, .slice none 0 0] 70))
    rw [show (((0 : Nat) : Int)) = 0 from rfl]
    clear hv s1 s2 a1 a2 b0 b1 hno hnn
    go_enter Try.func81, Try.ntmps81
    go_upto_region 1 with (fail)
    have HG1 := Sd.mk (show W.heap.size ≤ W.heap.size + 1 by omega)
    generalize (W.alloc _).alloc _ = W1 at EF EZ HB ⊢
    generalize W.heap.size + 1 = g4 at EZ HG1 ⊢
    go_wp2
    go_loopg [5] no (fun gk v5 wr => v5 = .int .i64 0 ∧ gk = no ∧ Sd (wr = W1))
    case atStart => exact ⟨rfl, rfl, ⟨rfl⟩⟩
    case round =>
      obtain ⟨rfl, hgk, HW1⟩ := hrel
      have hwr := HW1.out
      subst hwr
      have EF2 := EF
      have EZ2 := EZ
      have HB2 := HB
      have c3z := blk_at EF.out 3 _ rfl
      rcases Decidable.em (0 < no) with h0 | h0
      · have k1 : decide ((0 : Int) < (no : Int)) = true := decide_eq_true (by omega)
        have k2 : (0 : Int) < (no : Int) := by omega
        clear c3z hgk
        (have c0 := blk_at EF2.out 0 _ rfl; have c1 := blk_at EF2.out 1 _ rfl; have c2 := blk_at EF2.out 2 _ rfl; have c3 := blk_at EF2.out 3 _ rfl; have e0 := blk_at EZ2.out 0 _ rfl; have e1 := blk_at EZ2.out 1 _ rfl; have e2 := blk_at EZ2.out 2 _ rfl; have e3 := blk_at EZ2.out 3 _ rfl; have f0 := blk_frz EZ2.out 0; have f1 := blk_frz EZ2.out 1; have f2 := blk_frz EZ2.out 2; have f3 := blk_frz EZ2.out 3; have X9 := Sd.mk (blk_set3 (blk_set3 (blk_set3 (blk_set3 EZ2.out 0 (.string f.root)) 1 (.int .i64 f.height)) 2 (.slice An nn cn)) 3 (.slice Ao no co)); have HB9 := Sd.mk ((((HB2.out.setCell (p := ⟨g4, 0, none⟩) HG1.out (.string f.root)).setCell (p := ⟨g4, 1, none⟩) HG1.out (.int .i64 f.height)).setCell (p := ⟨g4, 2, none⟩) HG1.out (.slice An nn cn)).setCell (p := ⟨g4, 3, none⟩) HG1.out (.slice Ao no co)))
        go_wp2
        (clear c0 c1 c2 c3 e0 e1 e2 e3 f0 f1 f2 f3)
        generalize (((World.setCell _ _ _).setCell _ _).setCell _ _).setCell _ _ = W9 at X9 HB9 ⊢
        (have y0 := blk_at X9.out 0 _ rfl; have y1 := blk_at X9.out 1 _ rfl; have y2 := blk_at X9.out 2 _ rfl; have y3 := blk_at X9.out 3 _ rfl)
        exact bodyPost_ret (v := .agg #[.string f.root, .int .i64 f.height, .slice An nn cn, .slice Ao no co]) (by simp [results, Try.results81, go_sem, y0, y1, y2, y3]) rfl ⟨_, _, rfl, HV.out.below HB9.out, HB9.out⟩
      · have k1 : decide ((0 : Int) < (no : Int)) = false := decide_eq_false (by omega)
        have k1b : decide (0 < no) = false := decide_eq_false (by omega)
        clear c3z hgk h0
        (have c0 := blk_at EF2.out 0 _ rfl; have c1 := blk_at EF2.out 1 _ rfl; have c2 := blk_at EF2.out 2 _ rfl; have c3 := blk_at EF2.out 3 _ rfl; have e0 := blk_at EZ2.out 0 _ rfl; have e1 := blk_at EZ2.out 1 _ rfl; have e2 := blk_at EZ2.out 2 _ rfl; have e3 := blk_at EZ2.out 3 _ rfl; have f0 := blk_frz EZ2.out 0; have f1 := blk_frz EZ2.out 1; have f2 := blk_frz EZ2.out 2; have f3 := blk_frz EZ2.out 3; have X9 := Sd.mk (blk_set3 (blk_set3 (blk_set3 (blk_set3 EZ2.out 0 (.string f.root)) 1 (.int .i64 f.height)) 2 (.slice An nn cn)) 3 (.slice Ao no co)); have HB9 := Sd.mk ((((HB2.out.setCell (p := ⟨g4, 0, none⟩) HG1.out (.string f.root)).setCell (p := ⟨g4, 1, none⟩) HG1.out (.int .i64 f.height)).setCell (p := ⟨g4, 2, none⟩) HG1.out (.slice An nn cn)).setCell (p := ⟨g4, 3, none⟩) HG1.out (.slice Ao no co)))
        go_wp2
        (clear c0 c1 c2 c3 e0 e1 e2 e3 f0 f1 f2 f3)
        generalize (((World.setCell _ _ _).setCell _ _).setCell _ _).setCell _ _ = W9 at X9 HB9 ⊢
        (have y0 := blk_at X9.out 0 _ rfl; have y1 := blk_at X9.out 1 _ rfl; have y2 := blk_at X9.out 2 _ rfl; have y3 := blk_at X9.out 3 _ rfl)
        exact bodyPost_ret (v := .agg #[.string f.root, .int .i64 f.height, .slice An nn cn, .slice Ao no co]) (by simp [results, Try.results81, go_sem, y0, y1, y2, y3]) rfl ⟨_, _, rfl, HV.out.below HB9.out, HB9.out⟩
  | succ n ih =>
    intro hn10 W f An Ao nn cn no co h8 hv
    have mixed : Try.prog.follows .mixedOrders = true := by kernel_rfl
    obtain ⟨An', cn', Ao', co', is, js, e1, e2, s1, s2, a1, a2⟩ := hv.open
    simp only [Value.slice.injEq] at e1 e2
    obtain ⟨rfl, hnn, rfl⟩ := e1
    obtain ⟨rfl, hno, rfl⟩ := e2
    have IH := Sd.mk ih
    have HV := Sd.mk hv
    have HNO := Sd.mk hno
    have HS := Sd.mk s2
    have HA := Sd.mk a2
    have h8n : no ≤ 8 := by omega
    have nc1 := s2.le
    have nc2 := s2.cap
    rw [a2.len, ← hno] at nc1
    have b0 := below_one W (.cells #[.string f.root, .int .i64 f.height, .slice An nn cn, .slice Ao no co] 70)
    have b1 := below_one (W.alloc (.cells #[.string f.root, .int .i64 f.height, .slice An nn cn, .slice Ao no co] 70)) (.cells #[.string ⟨#[]⟩, .int .i64 0, .slice none 0 0, .slice none 0 0] 70)
    have HB := Sd.mk (below_then b0 b1)
    have EF := Sd.mk (blk_keep (blk_new W (.cells #[.string f.root, .int .i64 f.height, .slice An nn cn, .slice Ao no co] 70)) b1)
    have EZ := Sd.mk (blk_new1 W (.cells #[.string f.root, .int .i64 f.height, .slice An nn cn, .slice Ao no co] 70) (.cells #[.string ⟨#[]⟩, .int .i64 0, .slice none 0 0, .slice none 0 0] 70))
    have hcast : (((n + 1 : Nat) : Int)) = (n : Int) + 1 := by omega
    rw [hcast]
    have kn0 : (0 : Int) < (n : Int) + 1 := by omega
    have knw : IntKind.i64.wrap (n : Int) = (n : Int) := Rp.wraps_i64 _ (by omega) (by omega)
    clear hv s1 s2 a1 a2 b0 b1 hno hnn ih hcast
    go_enter Try.func81, Try.ntmps81
    go_upto_region 1 with (fail)
    have HG0 := Sd.mk (Nat.le_refl W.heap.size)
    have HG1 := Sd.mk (show W.heap.size ≤ W.heap.size + 1 by omega)
    have HGE := Sd.mk (show W.heap.size + 1 ≠ W.heap.size by omega)
    generalize (W.alloc _).alloc _ = W1 at EF EZ HB ⊢
    generalize W.heap.size + 1 = g4 at EZ HGE HG1 ⊢
    go_wp2
    go_loopg [5] no (fun gk v5 wr => ∃ i, i + gk = no ∧ v5 = .int .i64 (i : Nat) ∧ Sd (∀ (j : Nat) (b : Block), j < i → f.orph[j]? = some b → f.has b.just.block = false) ∧ Sd (RowKit.Below W1.heap.size W1 wr))
    case atStart => exact ⟨0, by omega, rfl, ⟨fun j b hj => by omega⟩, ⟨Below.refl _ _⟩⟩
    case round =>
      obtain ⟨i, hi, rfl, HD, HBR⟩ := hrel
      have EF2 := Sd.mk (blk_keep EF.out HBR.out)
      have EZ2 := Sd.mk (blk_keep EZ.out HBR.out)
      have HB2 := Sd.mk (below_then HB.out HBR.out)
      by_cases hlt : i < no
      · have hii : (i : Int) < no := by omega
        obtain ⟨x, hx⟩ : ∃ x, f.orph[i]? = some x := ⟨f.orph[i]'(by rw [← HNO.out]; exact hlt), List.getElem?_eq_getElem _⟩
        obtain ⟨t, ht⟩ : ∃ t, js[i]? = some t := ⟨js[i]'(by rw [HA.out.len, ← HNO.out]; exact hlt), List.getElem?_eq_getElem _⟩
        have HIW := Sd.mk (HA.out.get ht hx)
        obtain ⟨b3, o3, hAo, p0, p1, p2, p3, p4, p5, p6⟩ := it_at HS.out.row ht HIW.out
        obtain ⟨r, hr⟩ : ∃ r, f.has x.just.block = r := ⟨_, rfl⟩
        have HRH := Sd.mk (fun W2 (hb : RowKit.Below W.heap.size W W2) => rhas_any (HV.out.below hb) x.just.block r hr)
        have HX := Sd.mk hx
        have HTT := Sd.mk ht
        have HRR := Sd.mk hr
        have HP := Sd.mk (And.intro p0 (And.intro p1 (And.intro p2 (And.intro p3 (And.intro p4 (And.intro p5 p6))))))
        subst hAo
        have d2 := blk_at EF2.out 3 _ rfl
        clear hx ht hr p0 p1 p2 p3 p4 p5 p6
        go_upto_region 4 with (fail)
        have c0 := fun d os => cell_regrown (blk_at EF2.out 0 _ rfl) d os
        have c1 := fun d os => cell_regrown (blk_at EF2.out 1 _ rfl) d os
        have c2 := fun d os => cell_regrown (blk_at EF2.out 2 _ rfl) d os
        have c3 := fun d os => cell_regrown (blk_at EF2.out 3 _ rfl) d os
        have q4 := fun d os => cell_regrown (cell_below HB2.out HP.out.2.2.2.2.1) d os
        clear d2
        refine wp_region_quiet_below (by assumption) (by kernel_rfl) ?_
        repeat (go_big_quiet_step ((first | (go_at_call 78; with_reducible refine Calls.regrown_of (HRH.out _ (below_then HB2.out (below_regrown _ _ _)))))))
        refine wpQuiet_nil ?_
        rintro W9 ⟨⟨nq, osq⟩, hW9⟩
        have hbW : RowKit.Below wr.heap.size wr W9 := by subst hW9; exact below_regrown wr nq osq
        clear hW9
        have HB9 := Sd.mk (below_then HB2.out hbW)
        have HBR9 := Sd.mk (below_then HBR.out hbW)
        have EF9 := Sd.mk (blk_keep EF2.out hbW)
        have EZ9 := Sd.mk (blk_keep EZ2.out hbW)
        clear c0 c1 c2 c3 q4 EF2 EZ2 HB2 HBR HRH
        clear hbW
        cases r with
        | false =>
          have HD2 := Sd.mk (show ∀ (j : Nat) (b : Block), j < i + 1 → f.orph[j]? = some b → f.has b.just.block = false from fun j b hj hb => by
            rcases Nat.lt_or_ge j i with e | e
            · exact HD.out j b e hb
            · rw [show j = i by omega, HX.out] at hb
              cases Option.some.inj hb
              exact HRR.out)
          go_wp2
          go_roundg (gk - 1)
          case measure => omega
          case rel => exact ⟨i + 1, by omega, by go_num, HD2, HBR9⟩
        | true =>
          have HFI := Sd.mk (show f.first = some i from List.findIdx?_eq_some_iff_getElem.2 ⟨(List.getElem?_eq_some_iff.1 HX.out).1, (by rw [(List.getElem?_eq_some_iff.1 HX.out).2]; exact HRR.out), fun j hj => (by have hjl : j < f.orph.length := Nat.lt_trans hj (List.getElem?_eq_some_iff.1 HX.out).1; have := HD.out j f.orph[j] hj (List.getElem?_eq_getElem hjl); simpa using this)⟩)
          have HAD := Sd.mk (show f.adopt (n + 1) = ((f.less i).fput x).adopt n from adopt_some HFI.out HX.out n)
          clear HFI HD HRR HBR9
          have c3 := blk_at EF9.out 3 _ rfl
          have q0 := cell_below HB9.out HP.out.1
          have q1 := cell_below HB9.out HP.out.2.1
          have q2 := cell_below HB9.out HP.out.2.2.1
          have q3 := cell_below HB9.out HP.out.2.2.2.1
          have q4 := cell_below HB9.out HP.out.2.2.2.2.1
          have q5 := cell_below HB9.out HP.out.2.2.2.2.2.1
          have q6 := cell_below HB9.out HP.out.2.2.2.2.2.2
          go_upto_region 6 with (fail)
          have b6 := below_one W9 (.cells #[.string (digB x), .int .i64 x.view, .int .i64 x.prop, .int .i64 x.just.view, .string x.just.block, .slice t.r.sa t.r.sn t.r.sc, .slice t.r.a x.batch.length t.r.c] 123)
          have EX := Sd.mk (blk_new W9 (.cells #[.string (digB x), .int .i64 x.view, .int .i64 x.prop, .int .i64 x.just.view, .string x.just.block, .slice t.r.sa t.r.sn t.r.sc, .slice t.r.a x.batch.length t.r.c] 123))
          have HB6 := Sd.mk (below_then HB9.out b6)
          have EF6 := Sd.mk (blk_keep EF9.out b6)
          have EZ6 := Sd.mk (blk_keep EZ9.out b6)
          clear b6 c3 q0 q1 q2 q3 q4 q5 q6 HB9 EF9 EZ9
          generalize W9.heap.size = g6 at EX ⊢
          generalize W9.alloc _ = W6 at EX HB6 EF6 EZ6 ⊢
          go_wp2
          go_loopg [7, 8] no (fun gk v7 v8 wr => ∃ k, k + gk = no ∧ v8 = .int .i64 (k : Nat) ∧ Sd (Ro2 W6 v7 ((js.take k).eraseIdx i) wr))
          case atStart => exact ⟨0, by omega, rfl, ⟨OwnR.nil _ _ _ _ _, fun k hk => (by simp [Value.ownBlock] at hk), Below.refl _ _⟩⟩
          case round =>
            obtain ⟨k, hk, rfl, HRO⟩ := hrel
            have c3 := blk_at (blk_keep EF6.out HRO.out.bel) 3 _ rfl
            by_cases hkt : k < no
            · have hkk : (k : Int) < no := by omega
              rcases Decidable.em (k = i) with hki | hki
              · have e1 : ((k : Int) == (i : Int)) = true := beq_iff_eq.2 (by omega)
                have e2 : ((k : Int) != (i : Int)) = false := by rw [bne, e1]; rfl
                have e3 : (k : Int) = (i : Int) := by omega
                have HR2 := Sd.mk (show Ro2 W6 u7 ((js.take (k + 1)).eraseIdx i) wr by have h := HRO.out; rw [hki] at h ⊢; rw [er_eq HTT.out]; exact h)
                clear HRO hki
                go_wp2
                go_roundg (gk - 1)
                case measure => omega
                case rel => exact ⟨k + 1, by omega, by go_num, HR2⟩
              · have e1 : ((k : Int) == (i : Int)) = false := beq_eq_false_iff_ne.2 (by omega)
                have e2 : ((k : Int) != (i : Int)) = true := by rw [bne, e1]; rfl
                obtain ⟨z, hz⟩ : ∃ z, js[k]? = some z := ⟨js[k]'(by rw [HA.out.len, ← HNO.out]; exact hkt), List.getElem?_eq_getElem _⟩
                have HER := Sd.mk (er_ne hz hki)
                obtain ⟨b4, o4, hbb, p0, p1, p2, p3, p4, p5, p6⟩ := it_raw HS.out.row hz
                simp only [Option.some.injEq, Addr.mk.injEq] at hbb
                obtain ⟨rfl, rfl, -⟩ := hbb
                have HBW := below_then HB6.out HRO.out.bel
                have q0 := cell_below HBW p0
                have q1 := cell_below HBW p1
                have q2 := cell_below HBW p2
                have q3 := cell_below HBW p3
                have q4 := cell_below HBW p4
                have q5 := cell_below HBW p5
                have q6 := cell_below HBW p6
                have hel : ((js.take k).eraseIdx i).length ≤ 8 := by
                  have h1 := List.length_eraseIdx_le (js.take k) i
                  rw [List.length_take] at h1
                  omega
                obtain ⟨out, hout⟩ : ∃ out, (js.take k).eraseIdx i = out := ⟨_, rfl⟩
                rw [hout] at HER hel HRO
                obtain ⟨A7, c7, e7⟩ := OwnR.slice HRO.out.own
                subst e7
                clear p0 p1 p2 p3 p4 p5 p6 hz hout HBW hki
                go_wp2_with (first
                  | (at_builtin; go_loud (refine append_at (f := fI) (n := 7) (fun _ => rfl) fI_one rfl (.tmp 47) (.tmp 53) 68 123 (.agg #[.string ByteArray.empty, .int .i64 0, .int .i64 0, .int .i64 0, .string ByteArray.empty, .slice none 0 0, .slice none 0 0]) 104 rfl Try.underlying68 info_it rfl (by decide) (.slice A7 out.length c7) out z rfl rfl HRO.out.own (by omega) (by omega) ?_; intro v9 w9 hown hg hob; have HR9 := Sd.mk (HRO.out.push hown hg hob); clear hown hg hob)))
                go_roundg (gk - 1)
                case measure => omega
                case rel => exact ⟨k + 1, by omega, by go_num, ⟨by rw [HER.out]; exact HR9.out⟩⟩
            · have hkk : decide (k < no) = false := decide_eq_false (by omega)
              have hkk2 : decide ((k : Int) < (no : Int)) = false := decide_eq_false (by omega)
              have HRE := Sd.mk (show Ro2 W6 u7 (js.eraseIdx i) wr by have h := HRO.out; rwa [List.take_of_length_le (by rw [HA.out.len, ← HNO.out]; omega)] at h)
              obtain ⟨A7, m7, c7, e7⟩ : ∃ A n c, u7 = .slice A n c := by
                obtain ⟨A, c, e⟩ := OwnR.slice HRE.out.own
                exact ⟨A, _, c, e⟩
              subst e7
              have EF7 := Sd.mk (blk_keep EF6.out HRE.out.bel)
              have EZ7 := Sd.mk (blk_keep EZ6.out HRE.out.bel)
              have EX7 := Sd.mk (blk_keep EX.out HRE.out.bel)
              have HB7 := Sd.mk (below_then HB6.out HRE.out.bel)
              have HO7 := Sd.mk HRE.out.own
              clear HRO HRE EF6 EZ6 EX HB6
              have f3 := blk_frz EF7.out 3
              go_upto_region 13 with (fail)
              clear c3 f3
              have EF8 := Sd.mk (show (wr.setCell ⟨W.heap.size, 3, none⟩ (.slice A7 m7 c7)).heap[W.heap.size]? = some (.cells #[.string f.root, .int .i64 f.height, .slice An nn cn, .slice A7 m7 c7] 70 (0, 0)) from (blk_set3 EF7.out 3 _).trans rfl)
              have EZ8 := Sd.mk ((heap_set wr W.heap.size 3 (.slice A7 m7 c7) g4 HGE.out).trans EZ7.out)
              have EX8 := Sd.mk ((heap_set wr W.heap.size 3 (.slice A7 m7 c7) g6 (fun e => by have h1 := EX7.out; rw [e, EF7.out] at h1; simp at h1)).trans EX7.out)
              have HB8 := Sd.mk (HB7.out.setCell (p := ⟨W.heap.size, 3, none⟩) HG0.out (.slice A7 m7 c7))
              have HO8 := Sd.mk (OwnR.grown HO7.out (Kee.grown_set wr W.heap.size 3 (.slice A7 m7 c7)) (.inr (HO7.out.blk EF7.out (by decide))))
              clear EF7 EZ7 EX7 HB7 HO7
              generalize World.setCell _ _ _ = W8 at EF8 EZ8 EX8 HB8 HO8 ⊢
              have HRV := Sd.mk (show Rv w0 (f.less i) (.slice An nn cn) (.slice A7 m7 c7) W8 from ⟨(HV.out.below HB8.out).bel, (HV.out.below HB8.out).n, ⟨_, HO8.out, HA.out.erase i⟩⟩)
              have HPT := Sd.mk (rfput_any HRV.out x t HIW.out)
              have d0 := blk_at EF8.out 0 _ rfl
              have d1 := blk_at EF8.out 1 _ rfl
              have d2 := blk_at EF8.out 2 _ rfl
              have d3 := blk_at EF8.out 3 _ rfl
              have y0 := blk_at EX8.out 0 _ rfl
              have y1 := blk_at EX8.out 1 _ rfl
              have y2 := blk_at EX8.out 2 _ rfl
              have y3 := blk_at EX8.out 3 _ rfl
              have y4 := blk_at EX8.out 4 _ rfl
              have y5 := blk_at EX8.out 5 _ rfl
              have y6 := blk_at EX8.out 6 _ rfl
              have HER := Sd.mk (show ((f.less i).fput x).root = f.root by unfold Fo.fput; split <;> rfl)
              have HEH := Sd.mk (show ((f.less i).fput x).height = f.height by unfold Fo.fput; split <;> rfl)
              have HE8 := Sd.mk (show ((f.less i).fput x).orph.length ≤ 8 by rw [fput_orph]; have h1 := less_len HX.out; omega)
              go_upto_region 14 with (first
                | (go_at_call 80; refine HPT.out.mono ?_; rintro e wb ⟨nv, ov, rfl, hrv, hbb⟩; obtain ⟨An2, cn2, Ao2, co2, is2, js2, rfl, rfl, -⟩ := hrv.open; have HRV2 := Sd.mk hrv; have HBB := Sd.mk (below_then HB8.out hbb); have EZB := Sd.mk (blk_keep EZ8.out hbb); clear hrv hbb))
              clear d0 d1 d2 d3 y0 y1 y2 y3 y4 y5 y6 HRV HPT EF8 EX8 EZ8 HB8 HO8
              generalize ((f.less i).fput x).nodes.length = N2 at HRV2 ⊢
              generalize ((f.less i).fput x).orph.length = M2 at HRV2 HE8 ⊢
              have HIH := Sd.mk (fun W3 (h : Rv w0 ((f.less i).fput x) (.slice An2 N2 cn2) (.slice Ao2 M2 co2) W3) (h8 : ((f.less i).fput x).orph.length ≤ 8) => (by have := IH.out (by omega) W3 ((f.less i).fput x) An2 Ao2 N2 cn2 M2 co2 h8 h; rw [HER.out, HEH.out] at this; exact this))
              have bz := below_one wb (.cells #[.string (f.less i).root, .int .i64 (f.less i).height, .slice An2 N2 cn2, .slice Ao2 M2 co2] 70)
              have EB := Sd.mk (blk_new wb (.cells #[.string (f.less i).root, .int .i64 (f.less i).height, .slice An2 N2 cn2, .slice Ao2 M2 co2] 70))
              have HRV3 := Sd.mk (HRV2.out.below bz)
              have HBC := Sd.mk (below_then HBB.out bz)
              have EZC := Sd.mk (blk_keep EZB.out bz)
              clear bz HRV2 HBB EZB
              generalize wb.heap.size = g9 at EB ⊢
              generalize wb.alloc _ = Wc at EB HRV3 HBC EZC ⊢
              have d0 := blk_at EB.out 0 _ rfl
              have d1 := blk_at EB.out 1 _ rfl
              have d2 := blk_at EB.out 2 _ rfl
              have d3 := blk_at EB.out 3 _ rfl
              have HI8 := Sd.mk (HIH.out Wc HRV3.out (by rw [fput_orph]; have h1 := less_len HX.out; omega))
              clear HIH
              go_wp2_with (first
                | (go_at_call 81; refine HI8.out.mono ?_; rintro e wd ⟨nv, ov, rfl, hrv, hbd⟩; obtain ⟨An3, cn3, Ao3, co3, is3, js3, rfl, rfl, -⟩ := hrv.open; have HRD := Sd.mk hrv; have HBD := Sd.mk (below_then HBC.out hbd); have EZD := Sd.mk (blk_keep EZC.out hbd); clear hrv hbd; have e0 := blk_at EZD.out 0 _ rfl; have e1 := blk_at EZD.out 1 _ rfl; have e2 := blk_at EZD.out 2 _ rfl; have e3 := blk_at EZD.out 3 _ rfl; have f0 := blk_frz EZD.out 0; have f1 := blk_frz EZD.out 1; have f2 := blk_frz EZD.out 2; have f3 := blk_frz EZD.out 3))
              clear e0 e1 e2 e3 f0 f1 f2 f3 d0 d1 d2 d3
              generalize (((f.less i).fput x).adopt n).nodes.length = N3 at HRD ⊢
              generalize (((f.less i).fput x).adopt n).orph.length = M3 at HRD ⊢
              have X9 := Sd.mk (blk_set3 (blk_set3 (blk_set3 (blk_set3 EZD.out 0 (.string (((f.less i).fput x).adopt n).root)) 1 (.int .i64 (((f.less i).fput x).adopt n).height)) 2 (.slice An3 N3 cn3)) 3 (.slice Ao3 M3 co3))
              have HB9 := Sd.mk ((((HBD.out.setCell (p := ⟨g4, 0, none⟩) HG1.out (.string (((f.less i).fput x).adopt n).root)).setCell (p := ⟨g4, 1, none⟩) HG1.out (.int .i64 (((f.less i).fput x).adopt n).height)).setCell (p := ⟨g4, 2, none⟩) HG1.out (.slice An3 N3 cn3)).setCell (p := ⟨g4, 3, none⟩) HG1.out (.slice Ao3 M3 co3))
              have HR9 := Sd.mk (rv_turned HRD.out EZD.out HB9.out HV.out.bel (Rp.grown_then (Kee.grown_set wd g4 0 (.string (((f.less i).fput x).adopt n).root)) (Rp.grown_then (Kee.grown_set _ g4 1 (.int .i64 (((f.less i).fput x).adopt n).height)) (Rp.grown_then (Kee.grown_set _ g4 2 (.slice An3 N3 cn3)) (Kee.grown_set _ g4 3 (.slice Ao3 M3 co3))))))
              clear HRD EZD HBD
              generalize (((World.setCell _ _ _).setCell _ _).setCell _ _).setCell _ _ = We at X9 HB9 HR9 ⊢
              (have y0 := blk_at X9.out 0 _ rfl; have y1 := blk_at X9.out 1 _ rfl; have y2 := blk_at X9.out 2 _ rfl; have y3 := blk_at X9.out 3 _ rfl)
              rw [HAD.out]
              exact bodyPost_ret (v := .agg #[.string (((f.less i).fput x).adopt n).root, .int .i64 (((f.less i).fput x).adopt n).height, .slice An3 N3 cn3, .slice Ao3 M3 co3]) (by simp [results, Try.results81, go_sem, y0, y1, y2, y3]) rfl ⟨_, _, rfl, HR9.out, HB9.out⟩
      · have hii : decide (i < no) = false := decide_eq_false (by omega)
        have hii2 : decide ((i : Int) < (no : Int)) = false := decide_eq_false (by omega)
        have HFN := Sd.mk (show f.adopt (n + 1) = f from adopt_none (List.findIdx?_eq_none_iff.2 (fun b hb => by
          obtain ⟨j, hj⟩ := List.getElem?_of_mem hb
          exact HD.out j b (by have := (List.getElem?_eq_some_iff.1 hj).1; rw [← HNO.out] at this; omega) hj)) _)
        (have c0 := blk_at EF2.out 0 _ rfl; have c1 := blk_at EF2.out 1 _ rfl; have c2 := blk_at EF2.out 2 _ rfl; have c3 := blk_at EF2.out 3 _ rfl; have e0 := blk_at EZ2.out 0 _ rfl; have e1 := blk_at EZ2.out 1 _ rfl; have e2 := blk_at EZ2.out 2 _ rfl; have e3 := blk_at EZ2.out 3 _ rfl; have f0 := blk_frz EZ2.out 0; have f1 := blk_frz EZ2.out 1; have f2 := blk_frz EZ2.out 2; have f3 := blk_frz EZ2.out 3; have X9 := Sd.mk (blk_set3 (blk_set3 (blk_set3 (blk_set3 EZ2.out 0 (.string f.root)) 1 (.int .i64 f.height)) 2 (.slice An nn cn)) 3 (.slice Ao no co)); have HB9 := Sd.mk ((((HB2.out.setCell (p := ⟨g4, 0, none⟩) HG1.out (.string f.root)).setCell (p := ⟨g4, 1, none⟩) HG1.out (.int .i64 f.height)).setCell (p := ⟨g4, 2, none⟩) HG1.out (.slice An nn cn)).setCell (p := ⟨g4, 3, none⟩) HG1.out (.slice Ao no co)))
        go_wp2
        (clear c0 c1 c2 c3 e0 e1 e2 e3 f0 f1 f2 f3)
        generalize (((World.setCell _ _ _).setCell _ _).setCell _ _).setCell _ _ = W9 at X9 HB9 ⊢
        (have y0 := blk_at X9.out 0 _ rfl; have y1 := blk_at X9.out 1 _ rfl; have y2 := blk_at X9.out 2 _ rfl; have y3 := blk_at X9.out 3 _ rfl)
        rw [HFN.out]
        exact bodyPost_ret (v := .agg #[.string f.root, .int .i64 f.height, .slice An nn cn, .slice Ao no co]) (by simp [results, Try.results81, go_sem, y0, y1, y2, y3]) rfl ⟨_, _, rfl, HV.out.below HB9.out, HB9.out⟩
-- L1>
end Go.Proofs.Ytnomgkmeomlccaa.Fst
set_option linter.unusedVariables false
set_option linter.unusedSimpArgs false
namespace Go.Proofs.Ytnomgkmeomlccaa.Fst
open Go.RowKit Go.Sort Rd Api Own Mv App Num Dig
open Blk (Block Rq rqN fR digB coreB step_appends_at own_nc)
open Kee (Bk fB bkK Wk)

-- <L1
set_option maxHeartbeats 4000000 in
set_option maxRecDepth 100000 in
theorem rnew_any (w0 w : World) (hb0 : RowKit.Below w0.heap.size w0 w) : Calls Try.prog 41 #[] w fun e w' => e = .returned (.agg #[.string F0.root, .int .i64 F0.height, .slice none 0 0, .slice none 0 0]) ∧ Rv w0 F0 (.slice none 0 0) (.slice none 0 0) w' ∧ RowKit.Below w.heap.size w w' := by
  obtain ⟨fb, hfb⟩ : ∃ d, Crt.FB = d := ⟨_, rfl⟩
  have HFB := Sd.mk hfb
  have HB0 := Sd.mk hb0
  have b0 := below_one w (.cells #[.string ⟨#[]⟩, .int .i64 0, .slice none 0 0, .slice none 0 0] 70)
  have E0 := Sd.mk (blk_new w (.cells #[.string ⟨#[]⟩, .int .i64 0, .slice none 0 0, .slice none 0 0] 70))
  have HB := Sd.mk b0
  clear hfb hb0 b0
  go_enter Try.func41, Try.ntmps41
  go_upto_region 1 with (fail)
  have HGE := Sd.mk (Nat.le_refl w.heap.size)
  generalize w.alloc _ = W1 at E0 HB ⊢
  go_wp2_with (first
    | (go_at_call 30; (with_reducible refine (Crt.reffirst_any _ fb HFB.out).mono ?_); rintro e w1 ⟨rfl, hb⟩; have HB2 := Sd.mk (below_then HB.out hb); have E2 := Sd.mk (blk_keep E0.out hb); clear hb; have e0 := blk_at E2.out 0 _ rfl; have e1 := blk_at E2.out 1 _ rfl; have e2 := blk_at E2.out 2 _ rfl; have e3 := blk_at E2.out 3 _ rfl; have f0 := blk_frz E2.out 0; have f1 := blk_frz E2.out 1; have f2 := blk_frz E2.out 2; have f3 := blk_frz E2.out 3))
  clear e0 e1 e2 e3 f0 f1 f2 f3
  have X9 := Sd.mk (blk_set3 (blk_set3 (blk_set3 (blk_set3 E2.out 0 (.string fb)) 1 (.int .i64 0)) 2 (.slice none 0 0)) 3 (.slice none 0 0))
  have HB9 := Sd.mk ((((HB2.out.setCell (p := ⟨w.heap.size, 0, none⟩) HGE.out (.string fb)).setCell (p := ⟨w.heap.size, 1, none⟩) HGE.out (.int .i64 0)).setCell (p := ⟨w.heap.size, 2, none⟩) HGE.out (.slice none 0 0)).setCell (p := ⟨w.heap.size, 3, none⟩) HGE.out (.slice none 0 0))
  generalize (((World.setCell _ _ _).setCell _ _).setCell _ _).setCell _ _ = W9 at X9 HB9 ⊢
  have y0 := blk_at X9.out 0 _ rfl
  have y1 := blk_at X9.out 1 _ rfl
  have y2 := blk_at X9.out 2 _ rfl
  have y3 := blk_at X9.out 3 _ rfl
  rw [show F0.root = fb from HFB.out]
  exact bodyPost_ret (v := .agg #[.string fb, .int .i64 0, .slice none 0 0, .slice none 0 0]) (by simp [results, Try.results41, go_sem, y0, y1, y2, y3]) rfl ⟨rfl, ⟨below_then HB0.out HB9.out, ⟨[], OwnR.nil _ _ _ _ _, trivial⟩, ⟨[], OwnR.nil _ _ _ _ _, trivial⟩⟩, HB9.out⟩
-- L1>
end Go.Proofs.Ytnomgkmeomlccaa.Fst
set_option linter.unusedVariables false
set_option linter.unusedSimpArgs false

namespace Go.Proofs.Ytnomgkmeomlccaa.Fst
open Go.RowKit Go.Sort Rd Api Own Mv App Num Dig
open Blk (Block Rq rqN fR digB coreB step_appends_at own_nc)
open Kee (Bk fB bkK Wk)

theorem hasO_at (f : Fo) (h : ByteArray) : f.hasO h = (atI f.orph h).isSome := by
  unfold Fo.hasO atI
  rw [List.findIdx?_isSome]
theorem rfput_sh {w0 W : World} {f : Fo} {An Ao : Option Addr} {nn cn no co : Nat} (hv : Rv w0 f (.slice An nn cn) (.slice Ao no co) W) (x : Block) (r : Bk) (hw : Bw w0 r x) (d : ByteArray) (hd : digB x = d) (cd : Int) (hcd : f.code x = cd) :
    Calls Try.prog 80 #[.agg #[.string f.root, .int .i64 f.height, .slice An nn cn, .slice Ao no co], .agg #[.string d, .int .i64 x.view, .int .i64 x.prop, .int .i64 x.just.view, .string x.just.block, .slice r.sa r.sn r.sc, .slice r.a x.batch.length r.c]] W fun e w' => ∃ A1 n1 c1 A2 n2 c2, e = .returned (.tuple #[.agg #[.string f.root, .int .i64 f.height, .slice A1 n1 c1, .slice A2 n2 c2], .int .i64 cd]) ∧ Rv w0 (f.fput x) (.slice A1 n1 c1) (.slice A2 n2 c2) w' ∧ RowKit.Below W.heap.size W w' := by
  subst hd hcd
  refine (rfput_any hv x ⟨digB x, r⟩ ⟨rfl, hw⟩).mono ?_
  rintro e w' ⟨nv, ov, rfl, h, hb⟩
  obtain ⟨A1, c1, A2, c2, is, js, rfl, rfl, -, -, -, -⟩ := h.open
  exact ⟨_, _, _, _, _, _, rfl, h, hb⟩
theorem radopt_sh {w0 W : World} {f : Fo} {An Ao : Option Addr} {nn cn no co : Nat} (hv : Rv w0 f (.slice An nn cn) (.slice Ao no co) W) (h8 : f.orph.length ≤ 8) :
    Calls Try.prog 81 #[.agg #[.string f.root, .int .i64 f.height, .slice An nn cn, .slice Ao no co], .int .i64 10] W fun e w' => ∃ A1 n1 c1 A2 n2 c2, e = .returned (.agg #[.string (f.adopt 10).root, .int .i64 (f.adopt 10).height, .slice A1 n1 c1, .slice A2 n2 c2]) ∧ Rv w0 (f.adopt 10) (.slice A1 n1 c1) (.slice A2 n2 c2) w' ∧ RowKit.Below W.heap.size W w' := by
  refine (radopt_any w0 10 (Nat.le_refl _) W f An Ao nn cn no co h8 hv).mono ?_
  rintro e w' ⟨nv, ov, rfl, h, hb⟩
  obtain ⟨A1, c1, A2, c2, is, js, rfl, rfl, -, -, -, -⟩ := h.open
  exact ⟨_, _, _, _, _, _, rfl, h, hb⟩
theorem radopt_more {w0 W : World} {f : Fo} {An Ao : Option Addr} {nn cn no co : Nat} (x : Block) (hv : Rv w0 (f.more x) (.slice An nn cn) (.slice Ao no co) W) (h8 : f.orph.length ≤ 8) (F : Fo) (hF : (f.more x).adopt 10 = F) :
    Calls Try.prog 81 #[.agg #[.string f.root, .int .i64 f.height, .slice An nn cn, .slice Ao no co], .int .i64 10] W fun e w' => ∃ A1 n1 c1 A2 n2 c2, e = .returned (.agg #[.string F.root, .int .i64 F.height, .slice A1 n1 c1, .slice A2 n2 c2]) ∧ Rv w0 F (.slice A1 n1 c1) (.slice A2 n2 c2) w' ∧ RowKit.Below W.heap.size W w' := by
  subst hF
  exact radopt_sh hv h8
theorem rv_orph {w0 W : World} {f : Fo} {nv ov v2 : Value} {x : Block} {r : Bk} {d : ByteArray} {js : List It} (h : Rv w0 f nv ov W) (ho : OwnR fI 7 W 0 123 v2 (js ++ [(⟨d, ⟨x.view, x.prop, x.just.view, x.just.block, r.sa, r.sn, r.sc, r.a, x.batch.length, r.c⟩⟩ : It)])) (ha : All2 (Iw w0) js f.orph) (hw : Bw w0 r x) (hd : digB x = d) : Rv w0 ⟨f.root, f.height, f.nodes, f.orph ++ [x]⟩ nv v2 W :=
  ⟨h.bel, h.n, ⟨_, ho, ha.snoc ⟨hd.symm, ⟨⟨rfl, rfl, rfl, rfl, rfl, hw.wk.sl⟩, hw.sz⟩⟩⟩⟩
theorem rv_set {w0 W : World} {f : Fo} {nv ov : Value} {g : Nat} {cs : Array Value} (h : Rv w0 f nv ov W) (E : W.heap[g]? = some (.cells cs 70 (0, 0))) (a b c d : Value) (hb : RowKit.Below w0.heap.size w0 ((((W.setCell ⟨g, 0, none⟩ a).setCell ⟨g, 1, none⟩ b).setCell ⟨g, 2, none⟩ c).setCell ⟨g, 3, none⟩ d)) : Rv w0 f nv ov ((((W.setCell ⟨g, 0, none⟩ a).setCell ⟨g, 1, none⟩ b).setCell ⟨g, 2, none⟩ c).setCell ⟨g, 3, none⟩ d) := by
  obtain ⟨is, h1, h2⟩ := h.n
  obtain ⟨js, h3, h4⟩ := h.o
  have hg := Rp.grown_then (Kee.grown_set W g 0 a) (Rp.grown_then (Kee.grown_set _ g 1 b) (Rp.grown_then (Kee.grown_set _ g 2 c) (Kee.grown_set _ g 3 d)))
  exact ⟨hb, ⟨is, OwnR.grown h1 hg (.inr (h1.blk E (by decide))), h2⟩, ⟨js, OwnR.grown h3 hg (.inr (h3.blk E (by decide))), h4⟩⟩
-- <L1
set_option maxHeartbeats 16000000 in
set_option maxRecDepth 100000 in
theorem rput_any {w0 W : World} {f : Fo} {An Ao : Option Addr} {nn cn no co : Nat} (hv : Rv w0 f (.slice An nn cn) (.slice Ao no co) W) (hok : Ok f) (x : Block) (r : Bk) (hw : Bw w0 r x) :
    Calls Try.prog 42 #[.agg #[.string f.root, .int .i64 f.height, .slice An nn cn, .slice Ao no co], .agg #[.int .i64 x.view, .int .i64 x.prop, .int .i64 x.just.view, .string x.just.block, .slice r.sa r.sn r.sc, .slice r.a x.batch.length r.c]] W fun e w' => ∃ nv ov, e = .returned (.tuple #[.agg #[.string (f.put x).2.root, .int .i64 (f.put x).2.height, nv, ov], .int .i64 (f.put x).1]) ∧ Rv w0 (f.put x).2 nv ov w' ∧ RowKit.Below W.heap.size W w' := by
  have mixed : Try.prog.follows .mixedOrders = true := by kernel_rfl
  have HV := Sd.mk hv
  have HO := Sd.mk hok
  have HW := Sd.mk hw
  obtain ⟨d, hd⟩ : ∃ d, digB x = d := ⟨_, rfl⟩
  have HDG := Sd.mk (fun W1 (hb : RowKit.Below W.heap.size W W1) => Blk.rdig_any W1 x r.sa r.sn r.sc r.a x.batch.length r.c (hw.wk.sl.below (hv.below hb).bel) rfl d hd (by have := hw.sz; omega))
  have HDD := Sd.mk hd
  have b0 := below_one W (.cells #[.string f.root, .int .i64 f.height, .slice An nn cn, .slice Ao no co] 70)
  have b1 := below_one (W.alloc (.cells #[.string f.root, .int .i64 f.height, .slice An nn cn, .slice Ao no co] 70)) (.cells #[.int .i64 x.view, .int .i64 x.prop, .int .i64 x.just.view, .string x.just.block, .slice r.sa r.sn r.sc, .slice r.a x.batch.length r.c] 42)
  have b2 := below_one ((W.alloc (.cells #[.string f.root, .int .i64 f.height, .slice An nn cn, .slice Ao no co] 70)).alloc (.cells #[.int .i64 x.view, .int .i64 x.prop, .int .i64 x.just.view, .string x.just.block, .slice r.sa r.sn r.sc, .slice r.a x.batch.length r.c] 42)) (.cells #[.string ⟨#[]⟩, .int .i64 0, .slice none 0 0, .slice none 0 0] 70)
  have HB := Sd.mk (below_drew' (below_then b0 (below_then b1 b2)))
  have hdr := below_drew' (w := ((W.alloc (.cells #[.string f.root, .int .i64 f.height, .slice An nn cn, .slice Ao no co] 70)).alloc (.cells #[.int .i64 x.view, .int .i64 x.prop, .int .i64 x.just.view, .string x.just.block, .slice r.sa r.sn r.sc, .slice r.a x.batch.length r.c] 42)).alloc (.cells #[.string ⟨#[]⟩, .int .i64 0, .slice none 0 0, .slice none 0 0] 70)) (Below.refl (((W.alloc (.cells #[.string f.root, .int .i64 f.height, .slice An nn cn, .slice Ao no co] 70)).alloc (.cells #[.int .i64 x.view, .int .i64 x.prop, .int .i64 x.just.view, .string x.just.block, .slice r.sa r.sn r.sc, .slice r.a x.batch.length r.c] 42)).alloc (.cells #[.string ⟨#[]⟩, .int .i64 0, .slice none 0 0, .slice none 0 0] 70)).heap.size _)
  have EF := Sd.mk (blk_keep (blk_keep (blk_new W (.cells #[.string f.root, .int .i64 f.height, .slice An nn cn, .slice Ao no co] 70)) (below_then b1 b2)) hdr)
  have EI := Sd.mk (blk_keep (blk_keep (blk_new1 W (.cells #[.string f.root, .int .i64 f.height, .slice An nn cn, .slice Ao no co] 70) (.cells #[.int .i64 x.view, .int .i64 x.prop, .int .i64 x.just.view, .string x.just.block, .slice r.sa r.sn r.sc, .slice r.a x.batch.length r.c] 42)) b2) hdr)
  have EZ := Sd.mk (blk_keep (blk_new ((W.alloc (.cells #[.string f.root, .int .i64 f.height, .slice An nn cn, .slice Ao no co] 70)).alloc (.cells #[.int .i64 x.view, .int .i64 x.prop, .int .i64 x.just.view, .string x.just.block, .slice r.sa r.sn r.sc, .slice r.a x.batch.length r.c] 42)) (.cells #[.string ⟨#[]⟩, .int .i64 0, .slice none 0 0, .slice none 0 0] 70)) hdr)
  rw [show ((W.alloc (.cells #[.string f.root, .int .i64 f.height, .slice An nn cn, .slice Ao no co] 70)).alloc (.cells #[.int .i64 x.view, .int .i64 x.prop, .int .i64 x.just.view, .string x.just.block, .slice r.sa r.sn r.sc, .slice r.a x.batch.length r.c] 42)).heap.size = W.heap.size + 1 + 1 by simp] at EZ
  clear hv hok hw hd b0 b1 b2 hdr
  go_enter Try.func42, Try.ntmps42
  go_upto_region 1 with (fail)
  have HGE := Sd.mk (show W.heap.size ≤ W.heap.size + 1 + 1 by omega)
  generalize hg0 : W.heap.size = g0 at EF EI EZ ⊢
  have HG0 := Sd.mk (show W.heap.size ≤ g0 by omega)
  have HG20 := Sd.mk (show g0 + 1 + 1 ≠ g0 by omega)
  have HGE := Sd.mk (show W.heap.size ≤ g0 + 1 + 1 by omega)
  generalize g0 + 1 + 1 = g2 at EZ HGE HG20 ⊢
  generalize g0 + 1 = g1 at EI ⊢
  go_cut [6] from 9 to 12 (fun v6 wx => ∃ g6, v6 = .pointer (some ⟨g6, 0, none⟩) ∧ Sd (RowKit.Below W.heap.size W wx) ∧ Sd (wx.heap[g6]? = some (.cells #[.string d, .int .i64 x.view, .int .i64 x.prop, .int .i64 x.just.view, .string x.just.block, .slice r.sa r.sn r.sc, .slice r.a x.batch.length r.c] 123 (0, 0))) ∧ Sd (wx.heap[g0]? = some (.cells #[.string f.root, .int .i64 f.height, .slice An nn cn, .slice Ao no co] 70 (0, 0))) ∧ Sd (wx.heap[g1]? = some (.cells #[.int .i64 x.view, .int .i64 x.prop, .int .i64 x.just.view, .string x.just.block, .slice r.sa r.sn r.sc, .slice r.a x.batch.length r.c] 42 (0, 0))) ∧ Sd (wx.heap[g2]? = some (.cells #[.string ⟨#[]⟩, .int .i64 0, .slice none 0 0, .slice none 0 0] 70 (0, 0))))
  case first =>
    have HCE := Sd.mk (fun W2 (hb : RowKit.Below (((W.alloc (.cells #[.string f.root, .int .i64 f.height, .slice An nn cn, .slice Ao no co] 70)).alloc (.cells #[.int .i64 x.view, .int .i64 x.prop, .int .i64 x.just.view, .string x.just.block, .slice r.sa r.sn r.sc, .slice r.a x.batch.length r.c] 42)).alloc (.cells #[.string ⟨#[]⟩, .int .i64 0, .slice none 0 0, .slice none 0 0] 70)).drew.heap.size (((W.alloc (.cells #[.string f.root, .int .i64 f.height, .slice An nn cn, .slice Ao no co] 70)).alloc (.cells #[.int .i64 x.view, .int .i64 x.prop, .int .i64 x.just.view, .string x.just.block, .slice r.sa r.sn r.sc, .slice r.a x.batch.length r.c] 42)).alloc (.cells #[.string ⟨#[]⟩, .int .i64 0, .slice none 0 0, .slice none 0 0] 70)).drew W2) => show (fun W : World => W.cell? ⟨g1, 0, none⟩ = some (.int .i64 x.view) ∧ W.cell? ⟨g1, 1, none⟩ = some (.int .i64 x.prop) ∧ W.cell? ⟨g1, 2, none⟩ = some (.int .i64 x.just.view) ∧ W.cell? ⟨g1, 3, none⟩ = some (.string x.just.block) ∧ W.cell? ⟨g1, 4, none⟩ = some (.slice r.sa r.sn r.sc) ∧ W.cell? ⟨g1, 5, none⟩ = some (.slice r.a x.batch.length r.c)) W2 from ⟨blk_at (blk_keep EI.out hb) 0 _ rfl, blk_at (blk_keep EI.out hb) 1 _ rfl, blk_at (blk_keep EI.out hb) 2 _ rfl, blk_at (blk_keep EI.out hb) 3 _ rfl, blk_at (blk_keep EI.out hb) 4 _ rfl, blk_at (blk_keep EI.out hb) 5 _ rfl⟩)
    have S0 := HCE.out _ (Below.refl _ _)
    refine Peel.region_peel (n := 5) (S := (fun W : World => W.cell? ⟨g1, 0, none⟩ = some (.int .i64 x.view) ∧ W.cell? ⟨g1, 1, none⟩ = some (.int .i64 x.prop) ∧ W.cell? ⟨g1, 2, none⟩ = some (.int .i64 x.just.view) ∧ W.cell? ⟨g1, 3, none⟩ = some (.string x.just.block) ∧ W.cell? ⟨g1, 4, none⟩ = some (.slice r.sa r.sn r.sc) ∧ W.cell? ⟨g1, 5, none⟩ = some (.slice r.a x.batch.length r.c))) (by kernel_rfl) (by kernel_rfl) S0 (fun hHeld => ?_)
    simp only [List.take_succ_cons, List.take_zero]
    generalize (((W.alloc _).alloc _).alloc _).drew = W1 at EF EI EZ HB HCE S0 hHeld ⊢
    clear S0
    (refine Peel.take 0 (v := ?_) rfl rfl (by kernel_rfl) (by kernel_rfl) (by kernel_rfl) (fun _ _ _ h => h) (by assumption) ?_ ?_; rotate_left; (focus (intro w hSw; (try dsimp only at hSw); obtain ⟨s0, s1, s2, s3, s4, s5⟩ := hSw; (try simp only [List.getElem_toArray, List.getElem_cons_succ, List.getElem_cons_zero]); go_simp; try (with_reducible rfl))); try simp only [List.getElem_toArray, List.getElem_cons_succ, List.getElem_cons_zero, Act.put, List.setIfInBounds_toArray, List.set_cons_zero, List.set_cons_succ])
    (refine Peel.take 2 (v := ?_) rfl rfl (by kernel_rfl) (by kernel_rfl) (by kernel_rfl) (fun _ _ _ h => h) (by assumption) ?_ ?_; rotate_left; (focus (intro w hSw; (try dsimp only at hSw); obtain ⟨s0, s1, s2, s3, s4, s5⟩ := hSw; (try simp only [List.getElem_toArray, List.getElem_cons_succ, List.getElem_cons_zero]); go_simp; try (with_reducible rfl))); try simp only [List.getElem_toArray, List.getElem_cons_succ, List.getElem_cons_zero, Act.put, List.setIfInBounds_toArray, List.set_cons_zero, List.set_cons_succ])
    refine wpAnyH_ready (rs := [1, 4]) (by kernel_rfl) (by simp) ?_
    refine AllReadyH.cons rfl (fun K hK => ?_) (AllReadyH.cons rfl (fun K hK => ?_) AllReadyH.nil)
    · go_simp
      go_at_call 27
      refine (HDG.out _ HB.out).mono ?_
      rintro e w5 ⟨rfl, hb5⟩
      have s5 := HCE.out _ hb5
      have HB5 := Sd.mk (below_then HB.out hb5)
      have EF5 := Sd.mk (blk_keep EF.out hb5)
      have EI5 := Sd.mk (blk_keep EI.out hb5)
      have EZ5 := Sd.mk (blk_keep EZ.out hb5)
      have HBL := Sd.mk hb5
      clear hb5
      (refine hK.out _ _ s5 (fun hHeld => ?_); (clear hK K; try simp only [List.getElem_toArray, List.getElem_cons_succ, List.getElem_cons_zero, Act.put, List.setIfInBounds_toArray, List.set_cons_zero, List.set_cons_succ]))
      clear s5
      (refine Peel.take 3 (v := ?_) rfl rfl (by kernel_rfl) (by kernel_rfl) (by kernel_rfl) (fun _ _ _ h => h) (by assumption) ?_ ?_; rotate_left; (focus (intro w hSw; (try dsimp only at hSw); obtain ⟨s0, s1, s2, s3, s4, s5⟩ := hSw; (try simp only [List.getElem_toArray, List.getElem_cons_succ, List.getElem_cons_zero]); go_simp; try (with_reducible rfl))); try simp only [List.getElem_toArray, List.getElem_cons_succ, List.getElem_cons_zero, Act.put, List.setIfInBounds_toArray, List.set_cons_zero, List.set_cons_succ])
      (refine wpAnyH_ready (rs := [4]) (by kernel_rfl) (by simp) ?_; refine AllReadyH.cons rfl (fun K hK => ?_) AllReadyH.nil)
      go_simp
      have s6 := HCE.out _ (below_then HBL.out (below_one w5 (.cells #[.string ⟨#[]⟩, .int .i64 0, .int .i64 0, .int .i64 0, .string ⟨#[]⟩, .slice none 0 0, .slice none 0 0] 123)))
      (refine hK.out _ _ s6 (fun hHeld => ?_); (clear hK K; try simp only [List.getElem_toArray, List.getElem_cons_succ, List.getElem_cons_zero, Act.put, List.setIfInBounds_toArray, List.set_cons_zero, List.set_cons_succ]))
      clear s6
      (refine wpAnyH_done (by kernel_rfl) ?_ _; simp only [Peel.Qn, List.drop_succ_cons, List.drop_zero]; clear hHeld)
      go_wp2
      go_meet
      have b6 := below_one w5 (.cells #[.string d, .int .i64 x.view, .int .i64 x.prop, .int .i64 x.just.view, .string x.just.block, .slice r.sa r.sn r.sc, .slice r.a x.batch.length r.c] 123)
      exact ⟨_, rfl, ⟨below_then HB5.out b6⟩, ⟨blk_new w5 (.cells #[.string d, .int .i64 x.view, .int .i64 x.prop, .int .i64 x.just.view, .string x.just.block, .slice r.sa r.sn r.sc, .slice r.a x.batch.length r.c] 123)⟩, ⟨blk_keep EF5.out b6⟩, ⟨blk_keep EI5.out b6⟩, ⟨blk_keep EZ5.out b6⟩⟩
    · go_simp
      have b4 := below_one W1 (.cells #[.string ⟨#[]⟩, .int .i64 0, .int .i64 0, .int .i64 0, .string ⟨#[]⟩, .slice none 0 0, .slice none 0 0] 123)
      have s4 := HCE.out _ b4
      have EX4 := Sd.mk (blk_new W1 (.cells #[.string ⟨#[]⟩, .int .i64 0, .int .i64 0, .int .i64 0, .string ⟨#[]⟩, .slice none 0 0, .slice none 0 0] 123))
      have HB4 := Sd.mk b4
      have HG6 := Sd.mk HB.out.size
      clear b4
      (refine hK.out _ _ s4 (fun hHeld => ?_); (clear hK K; try simp only [List.getElem_toArray, List.getElem_cons_succ, List.getElem_cons_zero, Act.put, List.setIfInBounds_toArray, List.set_cons_zero, List.set_cons_succ]))
      clear s4
      generalize W1.heap.size = g6 at EX4 HG6 ⊢
      generalize W1.alloc _ = W4 at EX4 HB4 hHeld ⊢
      (refine wpAnyH_ready (rs := [1]) (by kernel_rfl) (by simp) ?_; refine AllReadyH.cons rfl (fun K hK => ?_) AllReadyH.nil)
      go_simp
      go_at_call 27
      refine (HDG.out _ (below_then HB.out HB4.out)).mono ?_
      rintro e w5 ⟨rfl, hb5⟩
      have HB5 := Sd.mk (below_then HB4.out hb5)
      have EX5 := Sd.mk (blk_keep EX4.out hb5)
      have s5 := HCE.out _ HB5.out
      clear hb5
      (refine hK.out _ _ s5 (fun hHeld => ?_); (clear hK K; try simp only [List.getElem_toArray, List.getElem_cons_succ, List.getElem_cons_zero, Act.put, List.setIfInBounds_toArray, List.set_cons_zero, List.set_cons_succ]))
      clear s5
      (refine Peel.take 3 (v := ?_) rfl rfl (by kernel_rfl) (by kernel_rfl) (by kernel_rfl) (fun _ _ _ h => h) (by assumption) ?_ ?_; rotate_left; (focus (intro w hSw; (try dsimp only at hSw); obtain ⟨s0, s1, s2, s3, s4, s5⟩ := hSw; (try simp only [List.getElem_toArray, List.getElem_cons_succ, List.getElem_cons_zero]); go_simp; try (with_reducible rfl))); try simp only [List.getElem_toArray, List.getElem_cons_succ, List.getElem_cons_zero, Act.put, List.setIfInBounds_toArray, List.set_cons_zero, List.set_cons_succ])
      (refine wpAnyH_done (by kernel_rfl) ?_ _; simp only [Peel.Qn, List.drop_succ_cons, List.drop_zero]; clear hHeld)
      (have x0 := blk_at EX5.out 0 _ rfl; have x1 := blk_at EX5.out 1 _ rfl; have x2 := blk_at EX5.out 2 _ rfl; have x3 := blk_at EX5.out 3 _ rfl; have x4 := blk_at EX5.out 4 _ rfl; have x5 := blk_at EX5.out 5 _ rfl; have x6 := blk_at EX5.out 6 _ rfl)
      have f0 := blk_frz EX5.out 0
      have f1 := blk_frz EX5.out 1
      have f2 := blk_frz EX5.out 2
      have f3 := blk_frz EX5.out 3
      have f4 := blk_frz EX5.out 4
      have f5 := blk_frz EX5.out 5
      have f6 := blk_frz EX5.out 6
      go_wp2
      go_meet
      clear x0 x1 x2 x3 x4 x5 x6 f0 f1 f2 f3 f4 f5 f6
      have HG := Sd.mk (Rp.grown_then (Kee.grown_set w5 g6 0 (.string d)) (Rp.grown_then (Kee.grown_set _ g6 1 (.int .i64 x.view)) (Rp.grown_then (Kee.grown_set _ g6 2 (.int .i64 x.prop)) (Rp.grown_then (Kee.grown_set _ g6 3 (.int .i64 x.just.view)) (Rp.grown_then (Kee.grown_set _ g6 4 (.string x.just.block)) (Rp.grown_then (Kee.grown_set _ g6 5 (.slice r.sa r.sn r.sc)) (Kee.grown_set _ g6 6 (.slice r.a x.batch.length r.c))))))))
      exact ⟨g6, rfl, ⟨below_grown (below_then HB.out HB5.out) HG.out (below_then HB.out HB5.out).size (fun k e => (Option.some.inj e) ▸ HG6.out)⟩, ⟨blk_set3 (blk_set3 (blk_set3 (blk_set3 (blk_set3 (blk_set3 (blk_set3 EX5.out 0 (.string d)) 1 (.int .i64 x.view)) 2 (.int .i64 x.prop)) 3 (.int .i64 x.just.view)) 4 (.string x.just.block)) 5 (.slice r.sa r.sn r.sc)) 6 (.slice r.a x.batch.length r.c)⟩, ⟨blk_grown (blk_keep EF.out HB5.out) HG.out (fun e => by have h1 := EX5.out; rw [Option.some.inj e, blk_keep EF.out HB5.out] at h1; simp at h1)⟩, ⟨blk_grown (blk_keep EI.out HB5.out) HG.out (fun e => by have h1 := EX5.out; rw [Option.some.inj e, blk_keep EI.out HB5.out] at h1; simp at h1)⟩, ⟨blk_grown (blk_keep EZ.out HB5.out) HG.out (fun e => by have h1 := EX5.out; rw [Option.some.inj e, blk_keep EZ.out HB5.out] at h1; simp at h1)⟩⟩
  case rest =>
    obtain ⟨g6, rfl, HBc, EXc, EFc, EIc, EZc⟩ := hcut
    clear HB EF EI EZ HDG
    generalize wc = W6 at HBc EXc EFc EIc EZc ⊢
    obtain ⟨hs, hhs⟩ : ∃ z, f.has d = z := ⟨_, rfl⟩
    obtain ⟨ho, hho⟩ : ∃ z, f.hasO d = z := ⟨_, rfl⟩
    obtain ⟨hp, hhp⟩ : ∃ z, f.has x.just.block = z := ⟨_, rfl⟩
    have HPU := Sd.mk (show f.put x = if hs || ho then (6, f) else if hp then (if f.code x = 0 then (0, (f.more x).adopt 10) else (f.code x, f)) else if 8 ≤ f.orph.length then (7, f) else (0, ⟨f.root, f.height, f.nodes, f.orph ++ [x]⟩) by unfold Fo.put; rw [HDD.out, hhs, hho, hhp])
    have HHS := Sd.mk (fun W2 (hb : RowKit.Below W.heap.size W W2) => rhas_any (HV.out.below hb) d hs hhs)
    have HHP := Sd.mk (fun W2 (hb : RowKit.Below W.heap.size W W2) => rhas_any (HV.out.below hb) x.just.block hp hhp)
    obtain ⟨An', cn', Ao', co', is, js, e1, e2, s1, s2, a1, a2⟩ := HV.out.open
    simp only [Value.slice.injEq] at e1 e2
    obtain ⟨rfl, hnn, rfl⟩ := e1
    obtain ⟨rfl, hno, rfl⟩ := e2
    obtain ⟨q, hq⟩ : ∃ z, ixz (atI f.orph d) = z := ⟨_, rfl⟩
    have HAT := Sd.mk (fun W1 (hb : RowKit.Below W.heap.size W W1) => at_any w0 W1 Ao co js f.orph (s2.below hb) a2 no hno d q hq)
    have hq0 : decide ((0 : Int) ≤ q) = ho := (by rw [← hho, hasO_at, ← hq, ixz_ge])
    have HNO := Sd.mk hno
    have HIL := Sd.mk (show js.length = no by rw [a2.len, ← hno])
    have HS := Sd.mk s2
    have HA := Sd.mk a2
    have HNC := Sd.mk (show Ao = none → co = 0 from fun e => by
      obtain ⟨is', h1, -⟩ := HV.out.o
      exact own_nc h1 Ao no co rfl e)
    clear hhs hhp hho hq hno hnn s1 s2 a1 a2
    ((have c0 := blk_at EFc.out 0 _ rfl; have c1 := blk_at EFc.out 1 _ rfl; have c2 := blk_at EFc.out 2 _ rfl; have c3 := blk_at EFc.out 3 _ rfl); have x0 := blk_at EXc.out 0 _ rfl)
    cases hs with
    | true =>
      have HPX := Sd.mk (show f.put x = (6, f) from HPU.out)
      clear HHP HAT
      go_upto_region 3 with (first | (go_at_call 78; (with_reducible refine (HHS.out _ HBc.out).mono ?_); rintro e w7 ⟨rfl, hb⟩; clear HHS; (clear c0 c1 c2 c3 x0); (have HBn := Sd.mk (below_then HBc.out hb); have EFn := Sd.mk (blk_keep EFc.out hb); have EZn := Sd.mk (blk_keep EZc.out hb); have EXn := Sd.mk (blk_keep EXc.out hb); have EIn := Sd.mk (blk_keep EIc.out hb); clear hb HBc EFc EZc EXc EIc; have HBc := HBn; have EFc := EFn; have EZc := EZn; have EXc := EXn; have EIc := EIn; clear HBn EFn EZn EXn EIn); ((have c0 := blk_at EFc.out 0 _ rfl; have c1 := blk_at EFc.out 1 _ rfl; have c2 := blk_at EFc.out 2 _ rfl; have c3 := blk_at EFc.out 3 _ rfl); have x0 := blk_at EXc.out 0 _ rfl)))
      (clear c0 c1 c2 c3 x0)
      ((have c0 := blk_at EFc.out 0 _ rfl; have c1 := blk_at EFc.out 1 _ rfl; have c2 := blk_at EFc.out 2 _ rfl; have c3 := blk_at EFc.out 3 _ rfl); (have e0 := blk_at EZc.out 0 _ rfl; have e1 := blk_at EZc.out 1 _ rfl; have e2 := blk_at EZc.out 2 _ rfl; have e3 := blk_at EZc.out 3 _ rfl; have f0 := blk_frz EZc.out 0; have f1 := blk_frz EZc.out 1; have f2 := blk_frz EZc.out 2; have f3 := blk_frz EZc.out 3; have X9 := Sd.mk (blk_set3 (blk_set3 (blk_set3 (blk_set3 EZc.out 0 (.string f.root)) 1 (.int .i64 f.height)) 2 (.slice An nn cn)) 3 (.slice Ao no co)); have HB9 := Sd.mk ((((HBc.out.setCell (p := ⟨g2, 0, none⟩) HGE.out (.string f.root)).setCell (p := ⟨g2, 1, none⟩) HGE.out (.int .i64 f.height)).setCell (p := ⟨g2, 2, none⟩) HGE.out (.slice An nn cn)).setCell (p := ⟨g2, 3, none⟩) HGE.out (.slice Ao no co))); go_wp2; clear c0 c1 c2 c3; (clear e0 e1 e2 e3 f0 f1 f2 f3); (generalize (((World.setCell _ _ _).setCell _ _).setCell _ _).setCell _ _ = W9 at X9 HB9 ⊢; have y0 := blk_at X9.out 0 _ rfl; have y1 := blk_at X9.out 1 _ rfl; have y2 := blk_at X9.out 2 _ rfl; have y3 := blk_at X9.out 3 _ rfl; rw [HPX.out]; exact bodyPost_ret (v := .tuple #[.agg #[.string f.root, .int .i64 f.height, .slice An nn cn, .slice Ao no co], .int .i64 6]) (by simp [results, Try.results42, go_sem, y0, y1, y2, y3]) rfl ⟨_, _, rfl, HV.out.below HB9.out, by have h := HB9.out; first | exact h | rwa [hg0] at h⟩))
    | false =>
      cases ho with
      | true =>
        have HPX := Sd.mk (show f.put x = (6, f) from HPU.out)
        clear HHP
        go_upto_region 3 with (first | (go_at_call 78; (with_reducible refine (HHS.out _ HBc.out).mono ?_); rintro e w7 ⟨rfl, hb⟩; clear HHS; (clear c0 c1 c2 c3 x0); (have HBn := Sd.mk (below_then HBc.out hb); have EFn := Sd.mk (blk_keep EFc.out hb); have EZn := Sd.mk (blk_keep EZc.out hb); have EXn := Sd.mk (blk_keep EXc.out hb); have EIn := Sd.mk (blk_keep EIc.out hb); clear hb HBc EFc EZc EXc EIc; have HBc := HBn; have EFc := EFn; have EZc := EZn; have EXc := EXn; have EIc := EIn; clear HBn EFn EZn EXn EIn); ((have c0 := blk_at EFc.out 0 _ rfl; have c1 := blk_at EFc.out 1 _ rfl; have c2 := blk_at EFc.out 2 _ rfl; have c3 := blk_at EFc.out 3 _ rfl); have x0 := blk_at EXc.out 0 _ rfl)) | (go_at_call 79; (with_reducible refine (HAT.out _ HBc.out).mono ?_); rintro e w8 ⟨rfl, hb⟩; clear HAT; (clear c0 c1 c2 c3 x0); (have HBn := Sd.mk (below_then HBc.out hb); have EFn := Sd.mk (blk_keep EFc.out hb); have EZn := Sd.mk (blk_keep EZc.out hb); have EXn := Sd.mk (blk_keep EXc.out hb); have EIn := Sd.mk (blk_keep EIc.out hb); clear hb HBc EFc EZc EXc EIc; have HBc := HBn; have EFc := EFn; have EZc := EZn; have EXc := EXn; have EIc := EIn; clear HBn EFn EZn EXn EIn); ((have c0 := blk_at EFc.out 0 _ rfl; have c1 := blk_at EFc.out 1 _ rfl; have c2 := blk_at EFc.out 2 _ rfl; have c3 := blk_at EFc.out 3 _ rfl); have x0 := blk_at EXc.out 0 _ rfl)))
        (clear c0 c1 c2 c3 x0)
        ((have c0 := blk_at EFc.out 0 _ rfl; have c1 := blk_at EFc.out 1 _ rfl; have c2 := blk_at EFc.out 2 _ rfl; have c3 := blk_at EFc.out 3 _ rfl); (have e0 := blk_at EZc.out 0 _ rfl; have e1 := blk_at EZc.out 1 _ rfl; have e2 := blk_at EZc.out 2 _ rfl; have e3 := blk_at EZc.out 3 _ rfl; have f0 := blk_frz EZc.out 0; have f1 := blk_frz EZc.out 1; have f2 := blk_frz EZc.out 2; have f3 := blk_frz EZc.out 3; have X9 := Sd.mk (blk_set3 (blk_set3 (blk_set3 (blk_set3 EZc.out 0 (.string f.root)) 1 (.int .i64 f.height)) 2 (.slice An nn cn)) 3 (.slice Ao no co)); have HB9 := Sd.mk ((((HBc.out.setCell (p := ⟨g2, 0, none⟩) HGE.out (.string f.root)).setCell (p := ⟨g2, 1, none⟩) HGE.out (.int .i64 f.height)).setCell (p := ⟨g2, 2, none⟩) HGE.out (.slice An nn cn)).setCell (p := ⟨g2, 3, none⟩) HGE.out (.slice Ao no co))); go_wp2; clear c0 c1 c2 c3; (clear e0 e1 e2 e3 f0 f1 f2 f3); (generalize (((World.setCell _ _ _).setCell _ _).setCell _ _).setCell _ _ = W9 at X9 HB9 ⊢; have y0 := blk_at X9.out 0 _ rfl; have y1 := blk_at X9.out 1 _ rfl; have y2 := blk_at X9.out 2 _ rfl; have y3 := blk_at X9.out 3 _ rfl; rw [HPX.out]; exact bodyPost_ret (v := .tuple #[.agg #[.string f.root, .int .i64 f.height, .slice An nn cn, .slice Ao no co], .int .i64 6]) (by simp [results, Try.results42, go_sem, y0, y1, y2, y3]) rfl ⟨_, _, rfl, HV.out.below HB9.out, by have h := HB9.out; first | exact h | rwa [hg0] at h⟩))
      | false =>
        go_upto_region 4 with (first | (go_at_call 78; (with_reducible refine (HHS.out _ HBc.out).mono ?_); rintro e w7 ⟨rfl, hb⟩; clear HHS; (clear c0 c1 c2 c3 x0); (have HBn := Sd.mk (below_then HBc.out hb); have EFn := Sd.mk (blk_keep EFc.out hb); have EZn := Sd.mk (blk_keep EZc.out hb); have EXn := Sd.mk (blk_keep EXc.out hb); have EIn := Sd.mk (blk_keep EIc.out hb); clear hb HBc EFc EZc EXc EIc; have HBc := HBn; have EFc := EFn; have EZc := EZn; have EXc := EXn; have EIc := EIn; clear HBn EFn EZn EXn EIn); ((have c0 := blk_at EFc.out 0 _ rfl; have c1 := blk_at EFc.out 1 _ rfl; have c2 := blk_at EFc.out 2 _ rfl; have c3 := blk_at EFc.out 3 _ rfl); have x0 := blk_at EXc.out 0 _ rfl)) | (go_at_call 79; (with_reducible refine (HAT.out _ HBc.out).mono ?_); rintro e w8 ⟨rfl, hb⟩; clear HAT; (clear c0 c1 c2 c3 x0); (have HBn := Sd.mk (below_then HBc.out hb); have EFn := Sd.mk (blk_keep EFc.out hb); have EZn := Sd.mk (blk_keep EZc.out hb); have EXn := Sd.mk (blk_keep EXc.out hb); have EIn := Sd.mk (blk_keep EIc.out hb); clear hb HBc EFc EZc EXc EIc; have HBc := HBn; have EFc := EFn; have EZc := EZn; have EXc := EXn; have EIc := EIn; clear HBn EFn EZn EXn EIn); ((have c0 := blk_at EFc.out 0 _ rfl; have c1 := blk_at EFc.out 1 _ rfl; have c2 := blk_at EFc.out 2 _ rfl; have c3 := blk_at EFc.out 3 _ rfl); have x0 := blk_at EXc.out 0 _ rfl)))
        have i3 := blk_at EIc.out 3 _ rfl
        clear hq0
        cases hp with
        | true =>
          obtain ⟨cd, hcd⟩ : ∃ z, f.code x = z := ⟨_, rfl⟩
          have HPP := Sd.mk (show f.put x = if cd = 0 then (0, (f.more x).adopt 10) else (cd, f) by rw [← hcd]; exact HPU.out)
          have HFP := Sd.mk (show f.fput x = if cd = 0 then f.more x else f by rw [← hcd]; rfl)
          have hcc := code_cases f x
          rw [hcd] at hcc
          have HPF := Sd.mk (fun W1 (hb : RowKit.Below W.heap.size W W1) => rfput_sh (HV.out.below hb) x r HW.out d HDD.out cd hcd)
          have HO8 := Sd.mk HO.out.few
          clear hcd
          go_upto_region 10 with (first
            | (go_at_call 78; (with_reducible refine (HHP.out _ HBc.out).mono ?_); rintro e w9 ⟨rfl, hb⟩; clear HHP; (clear c0 c1 c2 c3 x0); clear i3; (have HBn := Sd.mk (below_then HBc.out hb); have EFn := Sd.mk (blk_keep EFc.out hb); have EZn := Sd.mk (blk_keep EZc.out hb); have EXn := Sd.mk (blk_keep EXc.out hb); have EIn := Sd.mk (blk_keep EIc.out hb); clear hb HBc EFc EZc EXc EIc; have HBc := HBn; have EFc := EFn; have EZc := EZn; have EXc := EXn; have EIc := EIn; clear HBn EFn EZn EXn EIn); (have c0 := blk_at EFc.out 0 _ rfl; have c1 := blk_at EFc.out 1 _ rfl; have c2 := blk_at EFc.out 2 _ rfl; have c3 := blk_at EFc.out 3 _ rfl); (have x0 := blk_at EXc.out 0 _ rfl; have x1 := blk_at EXc.out 1 _ rfl; have x2 := blk_at EXc.out 2 _ rfl; have x3 := blk_at EXc.out 3 _ rfl; have x4 := blk_at EXc.out 4 _ rfl; have x5 := blk_at EXc.out 5 _ rfl; have x6 := blk_at EXc.out 6 _ rfl))
            | (go_at_call 80; (with_reducible refine (HPF.out _ HBc.out).mono ?_); rintro e w10 ⟨A1, n1, c1', A2, n2, c2', rfl, hv1, hb⟩; clear HPF; clear c0 c1 c2 c3 x0 x1 x2 x3 x4 x5 x6; have HV1 := Sd.mk hv1; clear hv1; (have HBn := Sd.mk (below_then HBc.out hb); have EFn := Sd.mk (blk_keep EFc.out hb); have EZn := Sd.mk (blk_keep EZc.out hb); have EXn := Sd.mk (blk_keep EXc.out hb); have EIn := Sd.mk (blk_keep EIc.out hb); clear hb HBc EFc EZc EXc EIc; have HBc := HBn; have EFc := EFn; have EZc := EZn; have EXc := EXn; have EIc := EIn; clear HBn EFn EZn EXn EIn)))
          have b7 := below_one w10 (.cells #[.string f.root, .int .i64 f.height, .slice A1 n1 c1', .slice A2 n2 c2'] 70)
          have E7 := Sd.mk (blk_new w10 (.cells #[.string f.root, .int .i64 f.height, .slice A1 n1 c1', .slice A2 n2 c2'] 70))
          have HV2 := Sd.mk (HV1.out.below b7)
          clear HV1
          (have HBn := Sd.mk (below_then HBc.out b7); have EFn := Sd.mk (blk_keep EFc.out b7); have EZn := Sd.mk (blk_keep EZc.out b7); have EXn := Sd.mk (blk_keep EXc.out b7); have EIn := Sd.mk (blk_keep EIc.out b7); clear b7 HBc EFc EZc EXc EIc; have HBc := HBn; have EFc := EFn; have EZc := EZn; have EXc := EXn; have EIc := EIn; clear HBn EFn EZn EXn EIn)
          generalize w10.heap.size = g7 at E7 ⊢
          generalize w10.alloc _ = W10 at E7 HBc EFc EZc EXc EIc HV2 ⊢
          rcases hcc with rfl | rfl | rfl
          · obtain ⟨F2, hF2⟩ : ∃ F, (f.more x).adopt 10 = F := ⟨_, rfl⟩
            have HPX := Sd.mk (show f.put x = (0, F2) by rw [← hF2]; exact HPP.out)
            have HV3 := Sd.mk (show Rv w0 (f.more x) (.slice A1 n1 c1') (.slice A2 n2 c2') W10 by have h := HV2.out; rw [HFP.out] at h; exact h)
            have HAD := Sd.mk (radopt_more x HV3.out HO8.out F2 hF2)
            clear HV2 HV3 hF2
            (have c0 := blk_at E7.out 0 _ rfl; have c1 := blk_at E7.out 1 _ rfl; have c2 := blk_at E7.out 2 _ rfl; have c3 := blk_at E7.out 3 _ rfl)
            go_wp2_with (first
              | (go_at_call 81; (with_reducible refine HAD.out.mono ?_); rintro e w11 ⟨A3, n3, c3', A4, n4, c4', rfl, hv1, hb⟩; clear HAD; clear c0 c1 c2 c3; have HV1 := Sd.mk hv1; clear hv1; (have HBn := Sd.mk (below_then HBc.out hb); have EFn := Sd.mk (blk_keep EFc.out hb); have EZn := Sd.mk (blk_keep EZc.out hb); have EXn := Sd.mk (blk_keep EXc.out hb); have EIn := Sd.mk (blk_keep EIc.out hb); clear hb HBc EFc EZc EXc EIc; have HBc := HBn; have EFc := EFn; have EZc := EZn; have EXc := EXn; have EIc := EIn; clear HBn EFn EZn EXn EIn); (have e0 := blk_at EZc.out 0 _ rfl; have e1 := blk_at EZc.out 1 _ rfl; have e2 := blk_at EZc.out 2 _ rfl; have e3 := blk_at EZc.out 3 _ rfl; have f0 := blk_frz EZc.out 0; have f1 := blk_frz EZc.out 1; have f2 := blk_frz EZc.out 2; have f3 := blk_frz EZc.out 3; have X9 := Sd.mk (blk_set3 (blk_set3 (blk_set3 (blk_set3 EZc.out 0 (.string F2.root)) 1 (.int .i64 F2.height)) 2 (.slice A3 n3 c3')) 3 (.slice A4 n4 c4')); have HB9 := Sd.mk ((((HBc.out.setCell (p := ⟨g2, 0, none⟩) HGE.out (.string F2.root)).setCell (p := ⟨g2, 1, none⟩) HGE.out (.int .i64 F2.height)).setCell (p := ⟨g2, 2, none⟩) HGE.out (.slice A3 n3 c3')).setCell (p := ⟨g2, 3, none⟩) HGE.out (.slice A4 n4 c4')))))
            (clear e0 e1 e2 e3 f0 f1 f2 f3)
            have HO9 := Sd.mk (rv_set HV1.out EZc.out (.string F2.root) (.int .i64 F2.height) (.slice A3 n3 c3') (.slice A4 n4 c4'))
            generalize (((World.setCell _ _ _).setCell _ _).setCell _ _).setCell _ _ = W9 at X9 HB9 HO9 ⊢
            have y0 := blk_at X9.out 0 _ rfl
            have y1 := blk_at X9.out 1 _ rfl
            have y2 := blk_at X9.out 2 _ rfl
            have y3 := blk_at X9.out 3 _ rfl
            rw [HPX.out]
            exact bodyPost_ret (v := .tuple #[.agg #[.string F2.root, .int .i64 F2.height, .slice A3 n3 c3', .slice A4 n4 c4'], .int .i64 0]) (by simp [results, Try.results42, go_sem, y0, y1, y2, y3]) rfl ⟨_, _, rfl, HO9.out (below_then HV.out.bel HB9.out), by have h := HB9.out; first | exact h | rwa [hg0] at h⟩
          · have HPX := Sd.mk (show f.put x = (5, f) from HPP.out)
            ((have c0 := blk_at EFc.out 0 _ rfl; have c1 := blk_at EFc.out 1 _ rfl; have c2 := blk_at EFc.out 2 _ rfl; have c3 := blk_at EFc.out 3 _ rfl); (have e0 := blk_at EZc.out 0 _ rfl; have e1 := blk_at EZc.out 1 _ rfl; have e2 := blk_at EZc.out 2 _ rfl; have e3 := blk_at EZc.out 3 _ rfl; have f0 := blk_frz EZc.out 0; have f1 := blk_frz EZc.out 1; have f2 := blk_frz EZc.out 2; have f3 := blk_frz EZc.out 3; have X9 := Sd.mk (blk_set3 (blk_set3 (blk_set3 (blk_set3 EZc.out 0 (.string f.root)) 1 (.int .i64 f.height)) 2 (.slice An nn cn)) 3 (.slice Ao no co)); have HB9 := Sd.mk ((((HBc.out.setCell (p := ⟨g2, 0, none⟩) HGE.out (.string f.root)).setCell (p := ⟨g2, 1, none⟩) HGE.out (.int .i64 f.height)).setCell (p := ⟨g2, 2, none⟩) HGE.out (.slice An nn cn)).setCell (p := ⟨g2, 3, none⟩) HGE.out (.slice Ao no co))); go_wp2; clear c0 c1 c2 c3; (clear e0 e1 e2 e3 f0 f1 f2 f3); (generalize (((World.setCell _ _ _).setCell _ _).setCell _ _).setCell _ _ = W9 at X9 HB9 ⊢; have y0 := blk_at X9.out 0 _ rfl; have y1 := blk_at X9.out 1 _ rfl; have y2 := blk_at X9.out 2 _ rfl; have y3 := blk_at X9.out 3 _ rfl; rw [HPX.out]; exact bodyPost_ret (v := .tuple #[.agg #[.string f.root, .int .i64 f.height, .slice An nn cn, .slice Ao no co], .int .i64 5]) (by simp [results, Try.results42, go_sem, y0, y1, y2, y3]) rfl ⟨_, _, rfl, HV.out.below HB9.out, by have h := HB9.out; first | exact h | rwa [hg0] at h⟩))
          · have HPX := Sd.mk (show f.put x = (7, f) from HPP.out)
            ((have c0 := blk_at EFc.out 0 _ rfl; have c1 := blk_at EFc.out 1 _ rfl; have c2 := blk_at EFc.out 2 _ rfl; have c3 := blk_at EFc.out 3 _ rfl); (have e0 := blk_at EZc.out 0 _ rfl; have e1 := blk_at EZc.out 1 _ rfl; have e2 := blk_at EZc.out 2 _ rfl; have e3 := blk_at EZc.out 3 _ rfl; have f0 := blk_frz EZc.out 0; have f1 := blk_frz EZc.out 1; have f2 := blk_frz EZc.out 2; have f3 := blk_frz EZc.out 3; have X9 := Sd.mk (blk_set3 (blk_set3 (blk_set3 (blk_set3 EZc.out 0 (.string f.root)) 1 (.int .i64 f.height)) 2 (.slice An nn cn)) 3 (.slice Ao no co)); have HB9 := Sd.mk ((((HBc.out.setCell (p := ⟨g2, 0, none⟩) HGE.out (.string f.root)).setCell (p := ⟨g2, 1, none⟩) HGE.out (.int .i64 f.height)).setCell (p := ⟨g2, 2, none⟩) HGE.out (.slice An nn cn)).setCell (p := ⟨g2, 3, none⟩) HGE.out (.slice Ao no co))); go_wp2; clear c0 c1 c2 c3; (clear e0 e1 e2 e3 f0 f1 f2 f3); (generalize (((World.setCell _ _ _).setCell _ _).setCell _ _).setCell _ _ = W9 at X9 HB9 ⊢; have y0 := blk_at X9.out 0 _ rfl; have y1 := blk_at X9.out 1 _ rfl; have y2 := blk_at X9.out 2 _ rfl; have y3 := blk_at X9.out 3 _ rfl; rw [HPX.out]; exact bodyPost_ret (v := .tuple #[.agg #[.string f.root, .int .i64 f.height, .slice An nn cn, .slice Ao no co], .int .i64 7]) (by simp [results, Try.results42, go_sem, y0, y1, y2, y3]) rfl ⟨_, _, rfl, HV.out.below HB9.out, by have h := HB9.out; first | exact h | rwa [hg0] at h⟩))
        | false =>
          go_upto_region 5 with (first | (go_at_call 78; (with_reducible refine (HHP.out _ HBc.out).mono ?_); rintro e w9 ⟨rfl, hb⟩; clear HHP; (clear c0 c1 c2 c3 x0); clear i3; (have HBn := Sd.mk (below_then HBc.out hb); have EFn := Sd.mk (blk_keep EFc.out hb); have EZn := Sd.mk (blk_keep EZc.out hb); have EXn := Sd.mk (blk_keep EXc.out hb); have EIn := Sd.mk (blk_keep EIc.out hb); clear hb HBc EFc EZc EXc EIc; have HBc := HBn; have EFc := EFn; have EZc := EZn; have EXc := EXn; have EIc := EIn; clear HBn EFn EZn EXn EIn); (have c0 := blk_at EFc.out 0 _ rfl; have c1 := blk_at EFc.out 1 _ rfl; have c2 := blk_at EFc.out 2 _ rfl; have c3 := blk_at EFc.out 3 _ rfl); (have x0 := blk_at EXc.out 0 _ rfl; have x1 := blk_at EXc.out 1 _ rfl; have x2 := blk_at EXc.out 2 _ rfl; have x3 := blk_at EXc.out 3 _ rfl; have x4 := blk_at EXc.out 4 _ rfl; have x5 := blk_at EXc.out 5 _ rfl; have x6 := blk_at EXc.out 6 _ rfl)))
          clear c0 c1 c2 c3 x0 x1 x2 x3 x4 x5 x6
          have c3 := blk_at EFc.out 3 _ rfl
          rcases Decidable.em (8 ≤ no) with h8 | h8
          · have k8 : decide ((8 : Int) ≤ (no : Int)) = true := decide_eq_true (by omega)
            have HPX := Sd.mk (show f.put x = (7, f) from HPU.out.trans (by rw [if_neg (by simp), if_neg (by simp), if_pos (by rw [← HNO.out]; exact h8)]))
            go_upto_region 6 with (fail)
            clear c3
            ((have c0 := blk_at EFc.out 0 _ rfl; have c1 := blk_at EFc.out 1 _ rfl; have c2 := blk_at EFc.out 2 _ rfl; have c3 := blk_at EFc.out 3 _ rfl); (have e0 := blk_at EZc.out 0 _ rfl; have e1 := blk_at EZc.out 1 _ rfl; have e2 := blk_at EZc.out 2 _ rfl; have e3 := blk_at EZc.out 3 _ rfl; have f0 := blk_frz EZc.out 0; have f1 := blk_frz EZc.out 1; have f2 := blk_frz EZc.out 2; have f3 := blk_frz EZc.out 3; have X9 := Sd.mk (blk_set3 (blk_set3 (blk_set3 (blk_set3 EZc.out 0 (.string f.root)) 1 (.int .i64 f.height)) 2 (.slice An nn cn)) 3 (.slice Ao no co)); have HB9 := Sd.mk ((((HBc.out.setCell (p := ⟨g2, 0, none⟩) HGE.out (.string f.root)).setCell (p := ⟨g2, 1, none⟩) HGE.out (.int .i64 f.height)).setCell (p := ⟨g2, 2, none⟩) HGE.out (.slice An nn cn)).setCell (p := ⟨g2, 3, none⟩) HGE.out (.slice Ao no co))); go_wp2; clear c0 c1 c2 c3; (clear e0 e1 e2 e3 f0 f1 f2 f3); (generalize (((World.setCell _ _ _).setCell _ _).setCell _ _).setCell _ _ = W9 at X9 HB9 ⊢; have y0 := blk_at X9.out 0 _ rfl; have y1 := blk_at X9.out 1 _ rfl; have y2 := blk_at X9.out 2 _ rfl; have y3 := blk_at X9.out 3 _ rfl; rw [HPX.out]; exact bodyPost_ret (v := .tuple #[.agg #[.string f.root, .int .i64 f.height, .slice An nn cn, .slice Ao no co], .int .i64 7]) (by simp [results, Try.results42, go_sem, y0, y1, y2, y3]) rfl ⟨_, _, rfl, HV.out.below HB9.out, by have h := HB9.out; first | exact h | rwa [hg0] at h⟩))
          · have k8 : decide ((8 : Int) ≤ (no : Int)) = false := decide_eq_false (by omega)
            have HPY := Sd.mk (show f.put x = (0, ⟨f.root, f.height, f.nodes, f.orph ++ [x]⟩) from HPU.out.trans (by rw [if_neg (by simp), if_neg (by simp), if_neg (by rw [← HNO.out]; exact h8)]))
            go_upto_region 7 with (fail)
            clear c3
            have b4 := below_drew' (w := w9) (Below.refl w9.heap.size w9)
            have HB4 := Sd.mk (below_then HBc.out b4)
            have EF4 := Sd.mk (blk_keep EFc.out b4)
            have EX4 := Sd.mk (blk_keep EXc.out b4)
            have EZ4 := Sd.mk (blk_keep EZc.out b4)
            clear b4 HBc EFc EXc EZc EIc
            have HCL := Sd.mk (fun W5 (hb : RowKit.Below w9.drew.heap.size w9.drew W5) => show (fun W : World => W.cell? ⟨g0, 3, none⟩ = some (.slice Ao no co) ∧ W.cell? ⟨g6, 0, none⟩ = some (.string d) ∧ W.cell? ⟨g6, 1, none⟩ = some (.int .i64 x.view) ∧ W.cell? ⟨g6, 2, none⟩ = some (.int .i64 x.prop) ∧ W.cell? ⟨g6, 3, none⟩ = some (.int .i64 x.just.view) ∧ W.cell? ⟨g6, 4, none⟩ = some (.string x.just.block) ∧ W.cell? ⟨g6, 5, none⟩ = some (.slice r.sa r.sn r.sc) ∧ W.cell? ⟨g6, 6, none⟩ = some (.slice r.a x.batch.length r.c)) W5 from ⟨blk_at (blk_keep EF4.out hb) 3 _ rfl, blk_at (blk_keep EX4.out hb) 0 _ rfl, blk_at (blk_keep EX4.out hb) 1 _ rfl, blk_at (blk_keep EX4.out hb) 2 _ rfl, blk_at (blk_keep EX4.out hb) 3 _ rfl, blk_at (blk_keep EX4.out hb) 4 _ rfl, blk_at (blk_keep EX4.out hb) 5 _ rfl, blk_at (blk_keep EX4.out hb) 6 _ rfl⟩)
            have S0 := HCL.out _ (Below.refl _ _)
            refine Peel.region_peel (n := 8) (S := (fun W : World => W.cell? ⟨g0, 3, none⟩ = some (.slice Ao no co) ∧ W.cell? ⟨g6, 0, none⟩ = some (.string d) ∧ W.cell? ⟨g6, 1, none⟩ = some (.int .i64 x.view) ∧ W.cell? ⟨g6, 2, none⟩ = some (.int .i64 x.prop) ∧ W.cell? ⟨g6, 3, none⟩ = some (.int .i64 x.just.view) ∧ W.cell? ⟨g6, 4, none⟩ = some (.string x.just.block) ∧ W.cell? ⟨g6, 5, none⟩ = some (.slice r.sa r.sn r.sc) ∧ W.cell? ⟨g6, 6, none⟩ = some (.slice r.a x.batch.length r.c))) (by kernel_rfl) (by kernel_rfl) S0 (fun hHeld => ?_)
            simp only [List.take_succ_cons, List.take_zero]
            clear S0
            generalize w9.drew = W4 at HB4 EF4 EX4 EZ4 HCL hHeld ⊢
            have HY := Sd.mk (show Yg fI 7 123 W4 ((⟨d, ⟨x.view, x.prop, x.just.view, x.just.block, r.sa, r.sn, r.sc, r.a, x.batch.length, r.c⟩⟩ : It)) none [] none W4 from ⟨Below.refl _ _, fun u e => (by cases e), fun k e => (by cases e)⟩)
            (refine Peel.take 1 (v := ?_) rfl rfl (by kernel_rfl) (by kernel_rfl) (by kernel_rfl) (fun _ _ _ h => h) (by assumption) ?_ ?_; rotate_left; (focus (intro w hSw; (try dsimp only at hSw); obtain ⟨s0, s1, s2, s3, s4, s5, s6, s7⟩ := hSw; (try simp only [List.getElem_toArray, List.getElem_cons_succ, List.getElem_cons_zero]); go_simp; try (with_reducible rfl))); try simp only [List.getElem_toArray, List.getElem_cons_succ, List.getElem_cons_zero, Act.put, List.setIfInBounds_toArray, List.set_cons_zero, List.set_cons_succ])
            (refine Peel.take 2 (v := ?_) rfl rfl (by kernel_rfl) (by kernel_rfl) (by kernel_rfl) (fun _ _ _ h => h) (by assumption) ?_ ?_; rotate_left; (focus (intro w hSw; (try dsimp only at hSw); obtain ⟨s0, s1, s2, s3, s4, s5, s6, s7⟩ := hSw; (try simp only [List.getElem_toArray, List.getElem_cons_succ, List.getElem_cons_zero]); go_simp; try (with_reducible rfl))); try simp only [List.getElem_toArray, List.getElem_cons_succ, List.getElem_cons_zero, Act.put, List.setIfInBounds_toArray, List.set_cons_zero, List.set_cons_succ])
            (refine Peel.take 4 (v := ?_) rfl rfl (by kernel_rfl) (by kernel_rfl) (by kernel_rfl) (fun _ _ _ h => h) (by assumption) ?_ ?_; rotate_left; (focus (intro w hSw; (try dsimp only at hSw); obtain ⟨s0, s1, s2, s3, s4, s5, s6, s7⟩ := hSw; (try simp only [List.getElem_toArray, List.getElem_cons_succ, List.getElem_cons_zero]); go_simp; try (with_reducible rfl))); try simp only [List.getElem_toArray, List.getElem_cons_succ, List.getElem_cons_zero, Act.put, List.setIfInBounds_toArray, List.set_cons_zero, List.set_cons_succ])
            (refine wpAnyH_ready (rs := [0, 5]) (by kernel_rfl) (by simp) ?_; refine AllReadyH.cons rfl (fun K hK => ?_) (AllReadyH.cons rfl (fun K hK => ?_) AllReadyH.nil))
            · (go_simp; have HYN := Sd.mk HY.out.o0; (clear hHeld; have hHeld := HCL.out _ HYN.out.bel; refine hK.out _ _ hHeld (fun hHeld => ?_); clear HY; (clear hK K; try simp only [List.getElem_toArray, List.getElem_cons_succ, List.getElem_cons_zero, Act.put, List.setIfInBounds_toArray, List.set_cons_zero, List.set_cons_succ])); generalize W4.heap.size = k0 at HYN ⊢; generalize W4.alloc _ = Wa at HYN hHeld ⊢; have HY := HYN; clear HYN)
              (refine wpAnyH_ready (rs := [3, 5]) (by kernel_rfl) (by simp) ?_; refine AllReadyH.cons rfl (fun K hK => ?_) (AllReadyH.cons rfl (fun K hK => ?_) AllReadyH.nil))
              · (refine step_appends_at (d := itN) (f := fI) (n := 7) (fun _ _ _ => Iff.rfl) rfl (fun _ => rfl) fI_one rfl (.tmp 37) (.tmp 39) 68 123 (.agg #[.string ByteArray.empty, .int .i64 0, .int .i64 0, .int .i64 0, .string ByteArray.empty, .slice none 0 0, .slice none 0 0]) 104 rfl Try.underlying68 info_it rfl (by decide) _ [] js Ao no co HIL.out.symm rfl rfl (HS.out.row.below (below_then HB4.out HY.out.bel)) HNC.out (HY.out.ov _ rfl).1 (by rw [HIL.out, List.length_nil]; omega) (by rw [HIL.out, List.length_nil]; omega) ?_; intro v1 Wb hown hg hob; rw [List.nil_append] at hown; have HYN := Sd.mk (HY.out.app hown hg hob); clear hown hg hob; (clear hHeld; have hHeld := HCL.out _ HYN.out.bel; refine hK.out _ _ hHeld (fun hHeld => ?_); clear HY; (clear hK K; try simp only [List.getElem_toArray, List.getElem_cons_succ, List.getElem_cons_zero, Act.put, List.setIfInBounds_toArray, List.set_cons_zero, List.set_cons_succ])); have HY := HYN; clear HYN)
                (refine wpAnyH_ready (rs := [5]) (by kernel_rfl) (by simp) ?_; refine AllReadyH.cons rfl (fun K hK => ?_) AllReadyH.nil)
                (go_simp; have HYN := Sd.mk HY.out.o4; dsimp only [fI, fB] at HYN; (clear hHeld; have hHeld := HCL.out _ HYN.out.bel; refine hK.out _ _ hHeld (fun hHeld => ?_); clear HY; (clear hK K; try simp only [List.getElem_toArray, List.getElem_cons_succ, List.getElem_cons_zero, Act.put, List.setIfInBounds_toArray, List.set_cons_zero, List.set_cons_succ])); generalize Wb.heap.size = k5 at HYN ⊢; generalize Wb.alloc _ = Wc at HYN hHeld ⊢; have HY := HYN; clear HYN)
                ((refine wpAnyH_ready (rs := [6]) (by kernel_rfl) (by simp) ?_; refine AllReadyH.cons rfl (fun K hK => ?_) AllReadyH.nil); refine step_appends_at (d := itN) (f := fI) (n := 7) (fun _ _ _ => Iff.rfl) rfl (fun _ => rfl) fI_one rfl (.tmp 40) (.tmp 42) 68 123 (.agg #[.string ByteArray.empty, .int .i64 0, .int .i64 0, .int .i64 0, .string ByteArray.empty, .slice none 0 0, .slice none 0 0]) 104 rfl Try.underlying68 info_it rfl (by decide) _ js [(⟨d, ⟨x.view, x.prop, x.just.view, x.just.block, r.sa, r.sn, r.sc, r.a, x.batch.length, r.c⟩⟩ : It)] _ 1 1 rfl rfl rfl (row_one (d := itN) (f := fI) (fun _ _ => rfl) (HY.out.r4 _ rfl).1) (fun e => by cases e) (HY.out.ov _ rfl).1 (by rw [HIL.out, List.length_singleton]; omega) (by rw [HIL.out, List.length_singleton]; omega) ?_; intro v2 Wd hown hg hob; have HYN := Sd.mk (HY.out.app hown hg hob); clear hown hg hob; (clear hHeld; have hHeld := HCL.out _ HYN.out.bel; refine hK.out _ _ hHeld (fun hHeld => ?_); clear HY; (clear hK K; try simp only [List.getElem_toArray, List.getElem_cons_succ, List.getElem_cons_zero, Act.put, List.setIfInBounds_toArray, List.set_cons_zero, List.set_cons_succ])); have HY := HYN; clear HYN)
                ((refine Peel.take 7 (v := ?_) rfl rfl (by kernel_rfl) (by kernel_rfl) (by kernel_rfl) (fun _ _ _ h => h) (by assumption) ?_ ?_; rotate_left; (focus (intro w hSw; (try dsimp only at hSw); obtain ⟨s0, s1, s2, s3, s4, s5, s6, s7⟩ := hSw; (try simp only [List.getElem_toArray, List.getElem_cons_succ, List.getElem_cons_zero]); go_simp; try (with_reducible rfl))); try simp only [List.getElem_toArray, List.getElem_cons_succ, List.getElem_cons_zero, Act.put, List.setIfInBounds_toArray, List.set_cons_zero, List.set_cons_succ]); (refine wpAnyH_done (by kernel_rfl) ?_ _; simp only [Peel.Qn, List.drop_succ_cons, List.drop_zero]; clear hHeld); obtain ⟨hov, hnew⟩ := HY.out.ov _ rfl; obtain ⟨A9, c9, e9⟩ : ∃ A c, v2 = .slice A (no + 1) c := (by obtain ⟨A, c, e⟩ := OwnR.slice hov; exact ⟨A, c, by rw [e, List.length_append, HIL.out]; rfl⟩); subst e9; have EF5 := Sd.mk (blk_keep EF4.out HY.out.bel); have EZ5 := Sd.mk (blk_keep EZ4.out HY.out.bel); have HB5 := Sd.mk (below_then HB4.out HY.out.bel); have HOV := Sd.mk hov; clear hov hnew HY HB4 EF4 EX4 EZ4 HCL; have c3 := blk_at EF5.out 3 _ rfl; have f3 := blk_frz EF5.out 3; go_upto_region 8 with (fail); clear c3 f3; have EF6 := Sd.mk (show (Wd.setCell ⟨g0, 3, none⟩ (.slice A9 (no + 1) c9)).heap[g0]? = some (.cells #[.string f.root, .int .i64 f.height, .slice An nn cn, .slice A9 (no + 1) c9] 70 (0, 0)) from (blk_set3 EF5.out 3 _).trans rfl); have EZ6 := Sd.mk ((heap_set Wd g0 3 (.slice A9 (no + 1) c9) g2 HG20.out).trans EZ5.out); have HB6 := Sd.mk (HB5.out.setCell (p := ⟨g0, 3, none⟩) HG0.out (.slice A9 (no + 1) c9)); have HO6 := Sd.mk (OwnR.grown HOV.out (Kee.grown_set Wd g0 3 (.slice A9 (no + 1) c9)) (.inr (HOV.out.blk EF5.out (by decide)))); clear EF5 EZ5 HB5 HOV; generalize World.setCell _ _ _ = W6 at EF6 EZ6 HB6 HO6 ⊢; have HO9 := Sd.mk (OwnR.grown HO6.out (Rp.grown_then (Kee.grown_set W6 g2 0 (.string f.root)) (Rp.grown_then (Kee.grown_set _ g2 1 (.int .i64 f.height)) (Rp.grown_then (Kee.grown_set _ g2 2 (.slice An nn cn)) (Kee.grown_set _ g2 3 (.slice A9 (no + 1) c9))))) (.inr (HO6.out.blk EZ6.out (by decide)))); (have c0 := blk_at EF6.out 0 _ rfl; have c1 := blk_at EF6.out 1 _ rfl; have c2 := blk_at EF6.out 2 _ rfl; have c3 := blk_at EF6.out 3 _ rfl); (have e0 := blk_at EZ6.out 0 _ rfl; have e1 := blk_at EZ6.out 1 _ rfl; have e2 := blk_at EZ6.out 2 _ rfl; have e3 := blk_at EZ6.out 3 _ rfl; have f0 := blk_frz EZ6.out 0; have f1 := blk_frz EZ6.out 1; have f2 := blk_frz EZ6.out 2; have f3 := blk_frz EZ6.out 3; have X9 := Sd.mk (blk_set3 (blk_set3 (blk_set3 (blk_set3 EZ6.out 0 (.string f.root)) 1 (.int .i64 f.height)) 2 (.slice An nn cn)) 3 (.slice A9 (no + 1) c9)); have HB9 := Sd.mk ((((HB6.out.setCell (p := ⟨g2, 0, none⟩) HGE.out (.string f.root)).setCell (p := ⟨g2, 1, none⟩) HGE.out (.int .i64 f.height)).setCell (p := ⟨g2, 2, none⟩) HGE.out (.slice An nn cn)).setCell (p := ⟨g2, 3, none⟩) HGE.out (.slice A9 (no + 1) c9))); go_wp2; clear c0 c1 c2 c3; (clear e0 e1 e2 e3 f0 f1 f2 f3); clear EF6 EZ6 HB6 HO6; generalize (((World.setCell _ _ _).setCell _ _).setCell _ _).setCell _ _ = W9 at X9 HB9 HO9 ⊢; have y0 := blk_at X9.out 0 _ rfl; have y1 := blk_at X9.out 1 _ rfl; have y2 := blk_at X9.out 2 _ rfl; have y3 := blk_at X9.out 3 _ rfl; rw [HPY.out]; exact bodyPost_ret (v := .tuple #[.agg #[.string f.root, .int .i64 f.height, .slice An nn cn, .slice A9 (no + 1) c9], .int .i64 0]) (by simp [results, Try.results42, go_sem, y0, y1, y2, y3]) rfl ⟨_, _, rfl, rv_orph (HV.out.below HB9.out) HO9.out HA.out HW.out HDD.out, by have h := HB9.out; first | exact h | rwa [hg0] at h⟩)
              · (go_simp; have HYN := Sd.mk HY.out.o4; dsimp only [fI, fB] at HYN; (clear hHeld; have hHeld := HCL.out _ HYN.out.bel; refine hK.out _ _ hHeld (fun hHeld => ?_); clear HY; (clear hK K; try simp only [List.getElem_toArray, List.getElem_cons_succ, List.getElem_cons_zero, Act.put, List.setIfInBounds_toArray, List.set_cons_zero, List.set_cons_succ])); generalize Wa.heap.size = k5 at HYN ⊢; generalize Wa.alloc _ = Wb at HYN hHeld ⊢; have HY := HYN; clear HYN)
                (refine wpAnyH_ready (rs := [3]) (by kernel_rfl) (by simp) ?_; refine AllReadyH.cons rfl (fun K hK => ?_) AllReadyH.nil)
                (refine step_appends_at (d := itN) (f := fI) (n := 7) (fun _ _ _ => Iff.rfl) rfl (fun _ => rfl) fI_one rfl (.tmp 37) (.tmp 39) 68 123 (.agg #[.string ByteArray.empty, .int .i64 0, .int .i64 0, .int .i64 0, .string ByteArray.empty, .slice none 0 0, .slice none 0 0]) 104 rfl Try.underlying68 info_it rfl (by decide) _ [] js Ao no co HIL.out.symm rfl rfl (HS.out.row.below (below_then HB4.out HY.out.bel)) HNC.out (HY.out.ov _ rfl).1 (by rw [HIL.out, List.length_nil]; omega) (by rw [HIL.out, List.length_nil]; omega) ?_; intro v1 Wc hown hg hob; rw [List.nil_append] at hown; have HYN := Sd.mk (HY.out.app hown hg hob); clear hown hg hob; (clear hHeld; have hHeld := HCL.out _ HYN.out.bel; refine hK.out _ _ hHeld (fun hHeld => ?_); clear HY; (clear hK K; try simp only [List.getElem_toArray, List.getElem_cons_succ, List.getElem_cons_zero, Act.put, List.setIfInBounds_toArray, List.set_cons_zero, List.set_cons_succ])); have HY := HYN; clear HYN)
                ((refine wpAnyH_ready (rs := [6]) (by kernel_rfl) (by simp) ?_; refine AllReadyH.cons rfl (fun K hK => ?_) AllReadyH.nil); refine step_appends_at (d := itN) (f := fI) (n := 7) (fun _ _ _ => Iff.rfl) rfl (fun _ => rfl) fI_one rfl (.tmp 40) (.tmp 42) 68 123 (.agg #[.string ByteArray.empty, .int .i64 0, .int .i64 0, .int .i64 0, .string ByteArray.empty, .slice none 0 0, .slice none 0 0]) 104 rfl Try.underlying68 info_it rfl (by decide) _ js [(⟨d, ⟨x.view, x.prop, x.just.view, x.just.block, r.sa, r.sn, r.sc, r.a, x.batch.length, r.c⟩⟩ : It)] _ 1 1 rfl rfl rfl (row_one (d := itN) (f := fI) (fun _ _ => rfl) (HY.out.r4 _ rfl).1) (fun e => by cases e) (HY.out.ov _ rfl).1 (by rw [HIL.out, List.length_singleton]; omega) (by rw [HIL.out, List.length_singleton]; omega) ?_; intro v2 Wd hown hg hob; have HYN := Sd.mk (HY.out.app hown hg hob); clear hown hg hob; (clear hHeld; have hHeld := HCL.out _ HYN.out.bel; refine hK.out _ _ hHeld (fun hHeld => ?_); clear HY; (clear hK K; try simp only [List.getElem_toArray, List.getElem_cons_succ, List.getElem_cons_zero, Act.put, List.setIfInBounds_toArray, List.set_cons_zero, List.set_cons_succ])); have HY := HYN; clear HYN)
                ((refine Peel.take 7 (v := ?_) rfl rfl (by kernel_rfl) (by kernel_rfl) (by kernel_rfl) (fun _ _ _ h => h) (by assumption) ?_ ?_; rotate_left; (focus (intro w hSw; (try dsimp only at hSw); obtain ⟨s0, s1, s2, s3, s4, s5, s6, s7⟩ := hSw; (try simp only [List.getElem_toArray, List.getElem_cons_succ, List.getElem_cons_zero]); go_simp; try (with_reducible rfl))); try simp only [List.getElem_toArray, List.getElem_cons_succ, List.getElem_cons_zero, Act.put, List.setIfInBounds_toArray, List.set_cons_zero, List.set_cons_succ]); (refine wpAnyH_done (by kernel_rfl) ?_ _; simp only [Peel.Qn, List.drop_succ_cons, List.drop_zero]; clear hHeld); obtain ⟨hov, hnew⟩ := HY.out.ov _ rfl; obtain ⟨A9, c9, e9⟩ : ∃ A c, v2 = .slice A (no + 1) c := (by obtain ⟨A, c, e⟩ := OwnR.slice hov; exact ⟨A, c, by rw [e, List.length_append, HIL.out]; rfl⟩); subst e9; have EF5 := Sd.mk (blk_keep EF4.out HY.out.bel); have EZ5 := Sd.mk (blk_keep EZ4.out HY.out.bel); have HB5 := Sd.mk (below_then HB4.out HY.out.bel); have HOV := Sd.mk hov; clear hov hnew HY HB4 EF4 EX4 EZ4 HCL; have c3 := blk_at EF5.out 3 _ rfl; have f3 := blk_frz EF5.out 3; go_upto_region 8 with (fail); clear c3 f3; have EF6 := Sd.mk (show (Wd.setCell ⟨g0, 3, none⟩ (.slice A9 (no + 1) c9)).heap[g0]? = some (.cells #[.string f.root, .int .i64 f.height, .slice An nn cn, .slice A9 (no + 1) c9] 70 (0, 0)) from (blk_set3 EF5.out 3 _).trans rfl); have EZ6 := Sd.mk ((heap_set Wd g0 3 (.slice A9 (no + 1) c9) g2 HG20.out).trans EZ5.out); have HB6 := Sd.mk (HB5.out.setCell (p := ⟨g0, 3, none⟩) HG0.out (.slice A9 (no + 1) c9)); have HO6 := Sd.mk (OwnR.grown HOV.out (Kee.grown_set Wd g0 3 (.slice A9 (no + 1) c9)) (.inr (HOV.out.blk EF5.out (by decide)))); clear EF5 EZ5 HB5 HOV; generalize World.setCell _ _ _ = W6 at EF6 EZ6 HB6 HO6 ⊢; have HO9 := Sd.mk (OwnR.grown HO6.out (Rp.grown_then (Kee.grown_set W6 g2 0 (.string f.root)) (Rp.grown_then (Kee.grown_set _ g2 1 (.int .i64 f.height)) (Rp.grown_then (Kee.grown_set _ g2 2 (.slice An nn cn)) (Kee.grown_set _ g2 3 (.slice A9 (no + 1) c9))))) (.inr (HO6.out.blk EZ6.out (by decide)))); (have c0 := blk_at EF6.out 0 _ rfl; have c1 := blk_at EF6.out 1 _ rfl; have c2 := blk_at EF6.out 2 _ rfl; have c3 := blk_at EF6.out 3 _ rfl); (have e0 := blk_at EZ6.out 0 _ rfl; have e1 := blk_at EZ6.out 1 _ rfl; have e2 := blk_at EZ6.out 2 _ rfl; have e3 := blk_at EZ6.out 3 _ rfl; have f0 := blk_frz EZ6.out 0; have f1 := blk_frz EZ6.out 1; have f2 := blk_frz EZ6.out 2; have f3 := blk_frz EZ6.out 3; have X9 := Sd.mk (blk_set3 (blk_set3 (blk_set3 (blk_set3 EZ6.out 0 (.string f.root)) 1 (.int .i64 f.height)) 2 (.slice An nn cn)) 3 (.slice A9 (no + 1) c9)); have HB9 := Sd.mk ((((HB6.out.setCell (p := ⟨g2, 0, none⟩) HGE.out (.string f.root)).setCell (p := ⟨g2, 1, none⟩) HGE.out (.int .i64 f.height)).setCell (p := ⟨g2, 2, none⟩) HGE.out (.slice An nn cn)).setCell (p := ⟨g2, 3, none⟩) HGE.out (.slice A9 (no + 1) c9))); go_wp2; clear c0 c1 c2 c3; (clear e0 e1 e2 e3 f0 f1 f2 f3); clear EF6 EZ6 HB6 HO6; generalize (((World.setCell _ _ _).setCell _ _).setCell _ _).setCell _ _ = W9 at X9 HB9 HO9 ⊢; have y0 := blk_at X9.out 0 _ rfl; have y1 := blk_at X9.out 1 _ rfl; have y2 := blk_at X9.out 2 _ rfl; have y3 := blk_at X9.out 3 _ rfl; rw [HPY.out]; exact bodyPost_ret (v := .tuple #[.agg #[.string f.root, .int .i64 f.height, .slice An nn cn, .slice A9 (no + 1) c9], .int .i64 0]) (by simp [results, Try.results42, go_sem, y0, y1, y2, y3]) rfl ⟨_, _, rfl, rv_orph (HV.out.below HB9.out) HO9.out HA.out HW.out HDD.out, by have h := HB9.out; first | exact h | rwa [hg0] at h⟩)
            · (go_simp; have HYN := Sd.mk HY.out.o4; dsimp only [fI, fB] at HYN; (clear hHeld; have hHeld := HCL.out _ HYN.out.bel; refine hK.out _ _ hHeld (fun hHeld => ?_); clear HY; (clear hK K; try simp only [List.getElem_toArray, List.getElem_cons_succ, List.getElem_cons_zero, Act.put, List.setIfInBounds_toArray, List.set_cons_zero, List.set_cons_succ])); generalize W4.heap.size = k5 at HYN ⊢; generalize W4.alloc _ = Wa at HYN hHeld ⊢; have HY := HYN; clear HYN)
              (refine wpAnyH_ready (rs := [0]) (by kernel_rfl) (by simp) ?_; refine AllReadyH.cons rfl (fun K hK => ?_) AllReadyH.nil)
              (go_simp; have HYN := Sd.mk HY.out.o0; (clear hHeld; have hHeld := HCL.out _ HYN.out.bel; refine hK.out _ _ hHeld (fun hHeld => ?_); clear HY; (clear hK K; try simp only [List.getElem_toArray, List.getElem_cons_succ, List.getElem_cons_zero, Act.put, List.setIfInBounds_toArray, List.set_cons_zero, List.set_cons_succ])); generalize Wa.heap.size = k0 at HYN ⊢; generalize Wa.alloc _ = Wb at HYN hHeld ⊢; have HY := HYN; clear HYN)
              (refine wpAnyH_ready (rs := [3]) (by kernel_rfl) (by simp) ?_; refine AllReadyH.cons rfl (fun K hK => ?_) AllReadyH.nil)
              (refine step_appends_at (d := itN) (f := fI) (n := 7) (fun _ _ _ => Iff.rfl) rfl (fun _ => rfl) fI_one rfl (.tmp 37) (.tmp 39) 68 123 (.agg #[.string ByteArray.empty, .int .i64 0, .int .i64 0, .int .i64 0, .string ByteArray.empty, .slice none 0 0, .slice none 0 0]) 104 rfl Try.underlying68 info_it rfl (by decide) _ [] js Ao no co HIL.out.symm rfl rfl (HS.out.row.below (below_then HB4.out HY.out.bel)) HNC.out (HY.out.ov _ rfl).1 (by rw [HIL.out, List.length_nil]; omega) (by rw [HIL.out, List.length_nil]; omega) ?_; intro v1 Wc hown hg hob; rw [List.nil_append] at hown; have HYN := Sd.mk (HY.out.app hown hg hob); clear hown hg hob; (clear hHeld; have hHeld := HCL.out _ HYN.out.bel; refine hK.out _ _ hHeld (fun hHeld => ?_); clear HY; (clear hK K; try simp only [List.getElem_toArray, List.getElem_cons_succ, List.getElem_cons_zero, Act.put, List.setIfInBounds_toArray, List.set_cons_zero, List.set_cons_succ])); have HY := HYN; clear HYN)
              ((refine wpAnyH_ready (rs := [6]) (by kernel_rfl) (by simp) ?_; refine AllReadyH.cons rfl (fun K hK => ?_) AllReadyH.nil); refine step_appends_at (d := itN) (f := fI) (n := 7) (fun _ _ _ => Iff.rfl) rfl (fun _ => rfl) fI_one rfl (.tmp 40) (.tmp 42) 68 123 (.agg #[.string ByteArray.empty, .int .i64 0, .int .i64 0, .int .i64 0, .string ByteArray.empty, .slice none 0 0, .slice none 0 0]) 104 rfl Try.underlying68 info_it rfl (by decide) _ js [(⟨d, ⟨x.view, x.prop, x.just.view, x.just.block, r.sa, r.sn, r.sc, r.a, x.batch.length, r.c⟩⟩ : It)] _ 1 1 rfl rfl rfl (row_one (d := itN) (f := fI) (fun _ _ => rfl) (HY.out.r4 _ rfl).1) (fun e => by cases e) (HY.out.ov _ rfl).1 (by rw [HIL.out, List.length_singleton]; omega) (by rw [HIL.out, List.length_singleton]; omega) ?_; intro v2 Wd hown hg hob; have HYN := Sd.mk (HY.out.app hown hg hob); clear hown hg hob; (clear hHeld; have hHeld := HCL.out _ HYN.out.bel; refine hK.out _ _ hHeld (fun hHeld => ?_); clear HY; (clear hK K; try simp only [List.getElem_toArray, List.getElem_cons_succ, List.getElem_cons_zero, Act.put, List.setIfInBounds_toArray, List.set_cons_zero, List.set_cons_succ])); have HY := HYN; clear HYN)
              ((refine Peel.take 7 (v := ?_) rfl rfl (by kernel_rfl) (by kernel_rfl) (by kernel_rfl) (fun _ _ _ h => h) (by assumption) ?_ ?_; rotate_left; (focus (intro w hSw; (try dsimp only at hSw); obtain ⟨s0, s1, s2, s3, s4, s5, s6, s7⟩ := hSw; (try simp only [List.getElem_toArray, List.getElem_cons_succ, List.getElem_cons_zero]); go_simp; try (with_reducible rfl))); try simp only [List.getElem_toArray, List.getElem_cons_succ, List.getElem_cons_zero, Act.put, List.setIfInBounds_toArray, List.set_cons_zero, List.set_cons_succ]); (refine wpAnyH_done (by kernel_rfl) ?_ _; simp only [Peel.Qn, List.drop_succ_cons, List.drop_zero]; clear hHeld); obtain ⟨hov, hnew⟩ := HY.out.ov _ rfl; obtain ⟨A9, c9, e9⟩ : ∃ A c, v2 = .slice A (no + 1) c := (by obtain ⟨A, c, e⟩ := OwnR.slice hov; exact ⟨A, c, by rw [e, List.length_append, HIL.out]; rfl⟩); subst e9; have EF5 := Sd.mk (blk_keep EF4.out HY.out.bel); have EZ5 := Sd.mk (blk_keep EZ4.out HY.out.bel); have HB5 := Sd.mk (below_then HB4.out HY.out.bel); have HOV := Sd.mk hov; clear hov hnew HY HB4 EF4 EX4 EZ4 HCL; have c3 := blk_at EF5.out 3 _ rfl; have f3 := blk_frz EF5.out 3; go_upto_region 8 with (fail); clear c3 f3; have EF6 := Sd.mk (show (Wd.setCell ⟨g0, 3, none⟩ (.slice A9 (no + 1) c9)).heap[g0]? = some (.cells #[.string f.root, .int .i64 f.height, .slice An nn cn, .slice A9 (no + 1) c9] 70 (0, 0)) from (blk_set3 EF5.out 3 _).trans rfl); have EZ6 := Sd.mk ((heap_set Wd g0 3 (.slice A9 (no + 1) c9) g2 HG20.out).trans EZ5.out); have HB6 := Sd.mk (HB5.out.setCell (p := ⟨g0, 3, none⟩) HG0.out (.slice A9 (no + 1) c9)); have HO6 := Sd.mk (OwnR.grown HOV.out (Kee.grown_set Wd g0 3 (.slice A9 (no + 1) c9)) (.inr (HOV.out.blk EF5.out (by decide)))); clear EF5 EZ5 HB5 HOV; generalize World.setCell _ _ _ = W6 at EF6 EZ6 HB6 HO6 ⊢; have HO9 := Sd.mk (OwnR.grown HO6.out (Rp.grown_then (Kee.grown_set W6 g2 0 (.string f.root)) (Rp.grown_then (Kee.grown_set _ g2 1 (.int .i64 f.height)) (Rp.grown_then (Kee.grown_set _ g2 2 (.slice An nn cn)) (Kee.grown_set _ g2 3 (.slice A9 (no + 1) c9))))) (.inr (HO6.out.blk EZ6.out (by decide)))); (have c0 := blk_at EF6.out 0 _ rfl; have c1 := blk_at EF6.out 1 _ rfl; have c2 := blk_at EF6.out 2 _ rfl; have c3 := blk_at EF6.out 3 _ rfl); (have e0 := blk_at EZ6.out 0 _ rfl; have e1 := blk_at EZ6.out 1 _ rfl; have e2 := blk_at EZ6.out 2 _ rfl; have e3 := blk_at EZ6.out 3 _ rfl; have f0 := blk_frz EZ6.out 0; have f1 := blk_frz EZ6.out 1; have f2 := blk_frz EZ6.out 2; have f3 := blk_frz EZ6.out 3; have X9 := Sd.mk (blk_set3 (blk_set3 (blk_set3 (blk_set3 EZ6.out 0 (.string f.root)) 1 (.int .i64 f.height)) 2 (.slice An nn cn)) 3 (.slice A9 (no + 1) c9)); have HB9 := Sd.mk ((((HB6.out.setCell (p := ⟨g2, 0, none⟩) HGE.out (.string f.root)).setCell (p := ⟨g2, 1, none⟩) HGE.out (.int .i64 f.height)).setCell (p := ⟨g2, 2, none⟩) HGE.out (.slice An nn cn)).setCell (p := ⟨g2, 3, none⟩) HGE.out (.slice A9 (no + 1) c9))); go_wp2; clear c0 c1 c2 c3; (clear e0 e1 e2 e3 f0 f1 f2 f3); clear EF6 EZ6 HB6 HO6; generalize (((World.setCell _ _ _).setCell _ _).setCell _ _).setCell _ _ = W9 at X9 HB9 HO9 ⊢; have y0 := blk_at X9.out 0 _ rfl; have y1 := blk_at X9.out 1 _ rfl; have y2 := blk_at X9.out 2 _ rfl; have y3 := blk_at X9.out 3 _ rfl; rw [HPY.out]; exact bodyPost_ret (v := .tuple #[.agg #[.string f.root, .int .i64 f.height, .slice An nn cn, .slice A9 (no + 1) c9], .int .i64 0]) (by simp [results, Try.results42, go_sem, y0, y1, y2, y3]) rfl ⟨_, _, rfl, rv_orph (HV.out.below HB9.out) HO9.out HA.out HW.out HDD.out, by have h := HB9.out; first | exact h | rwa [hg0] at h⟩)
-- L1>
end Go.Proofs.Ytnomgkmeomlccaa.Fst

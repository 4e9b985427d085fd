/- slices.IndexFunc, ContainsFunc on blocks; forest.orphan: walked. forest.stands: walked. -/
import Derived.Test.YtnomgkmeomlccaaForW
import Derived.Test.YtnomgkmeomlccaaKeX
import Derived.BigQuiet
set_option linter.unusedVariables false
set_option linter.unusedSimpArgs false

namespace Go.Proofs.Ytnomgkmeomlccaa.Fst
open Go.RowKit Go.Sort Rd Api Own Mv App Num Dig
open Blk (Block Rq rqN fR digB coreB)
open Smp (Sm)
open Kee (Bk fB bkK Wk)

/-- a place, or -1 -/
def ixI : Option Nat → Int
  | some k => (k : Int)
  | none => -1
set_option maxHeartbeats 8000000 in
set_option maxRecDepth 100000 in
theorem idx_orphan (w0 w : World) (A : Option Addr) (c : Nat) (rs : List Bk) (bs : List Block) (h : Sl bkK w A c rs) (ha : All2 (Bw w0) rs bs) (m : Nat) (hm : m = bs.length) (cap : Value) (dec : Block → Bool) (hclo : ∀ (r : Bk) (x : Block) (W : World), Bw w0 r x → x ∈ bs → RowKit.Below w.heap.size w W → Calls Try.prog 113 #[.agg #[.int .i64 x.view, .int .i64 x.prop, .int .i64 x.just.view, .string x.just.block, .slice r.sa r.sn r.sc, .slice r.a x.batch.length r.c], cap] W fun e w' => e = .returned (.bool (dec x)) ∧ RowKit.Below W.heap.size W w') :
    Calls Try.prog 115 #[.slice A m c, .func (.func 113) #[] #[cap]] w fun e w' => e = .returned (.int .i64 (ixI (bs.findIdx? dec))) ∧ RowKit.Below w.heap.size w w' := by
  have HCL := Sd.mk hclo
  have HM := Sd.mk hm
  have HA := Sd.mk ha
  have HR := Sd.mk h.row
  have hl := h.le
  have hc := h.cap
  rw [ha.len, ← hm] at hl
  clear hclo hm ha h
  go_enter Try.func115, Try.ntmps115
  go_wp2
  go_loopg [5, 8] m (fun gk v5 v8 wr => ∃ i, i + gk = m ∧ v8 = .int .i64 (i : Nat) ∧ Sd (∀ (j : Nat) (x : Block), j < i → bs[j]? = some x → dec x = false) ∧ Sd (RowKit.Below w.heap.size w wr))
  case atStart => exact ⟨0, by omega, rfl, ⟨fun j x hj => by omega⟩, ⟨Below.refl _ _⟩⟩
  case round =>
    obtain ⟨i, hi, rfl, HD, HB⟩ := hrel
    by_cases hlt : i < m
    · have hii : (i : Int) < m := by omega
      obtain ⟨x, hx⟩ : ∃ x, bs[i]? = some x := ⟨bs[i]'(by rw [← HM.out]; exact hlt), List.getElem?_eq_getElem _⟩
      obtain ⟨r, hr⟩ : ∃ r, rs[i]? = some r := ⟨rs[i]'(by rw [HA.out.len, ← HM.out]; exact hlt), List.getElem?_eq_getElem _⟩
      have hbw := HA.out.get hr hx
      obtain ⟨b1, o1, rfl, p0, p1, p2, p3, p4, p5⟩ := Kee.wk_at HR.out hr hbw.wk
      have q0 := cell_below HB.out p0
      have q1 := cell_below HB.out p1
      have q2 := cell_below HB.out p2
      have q3 := cell_below HB.out p3
      have q4 := cell_below HB.out p4
      have q5 := cell_below HB.out p5
      obtain ⟨d, hd⟩ : ∃ d, dec x = d := ⟨_, rfl⟩
      have HDX := Sd.mk hd
      have HX := Sd.mk hx
      have HCX := Sd.mk (show Calls Try.prog 113 #[.agg #[.int .i64 x.view, .int .i64 x.prop, .int .i64 x.just.view, .string x.just.block, .slice r.sa r.sn r.sc, .slice r.a x.batch.length r.c], cap] wr fun e w' => e = .returned (.bool d) ∧ RowKit.Below wr.heap.size wr w' from by have := HCL.out r x wr hbw (List.mem_of_getElem? hx) HB.out; rwa [hd] at this)
      clear p0 p1 p2 p3 p4 p5 hx hr hd hbw
      cases d with
      | true =>
        have HE := Sd.mk (show bs.findIdx? dec = some i from List.findIdx?_eq_some_iff_getElem.2 ⟨(List.getElem?_eq_some_iff.1 HX.out).1, (by rw [(List.getElem?_eq_some_iff.1 HX.out).2]; exact HDX.out), fun j hj => (by have hjl : j < bs.length := Nat.lt_trans hj (List.getElem?_eq_some_iff.1 HX.out).1; have := HD.out j bs[j] hj (List.getElem?_eq_getElem hjl); simpa using this)⟩)
        go_wp2_with (first
          | (go_at_call 113; (with_reducible refine HCX.out.mono ?_); rintro e w2 ⟨rfl, hb⟩; have HB2 := Sd.mk (below_then HB.out hb); clear hb))
        go_ret
        rw [HE.out]
        exact ⟨rfl, HB2.out⟩
      | false =>
        have HD2 := Sd.mk (show ∀ (j : Nat) (y : Block), j < i + 1 → bs[j]? = some y → dec y = false from fun j y hj hy => by
          rcases Nat.lt_or_ge j i with e | e
          · exact HD.out j y e hy
          · rw [show j = i by omega, HX.out] at hy
            cases Option.some.inj hy
            exact HDX.out)
        go_wp2_with (first
          | (go_at_call 113; (with_reducible refine HCX.out.mono ?_); rintro e w2 ⟨rfl, hb⟩; have HB2 := Sd.mk (below_then HB.out hb); clear hb))
        go_roundg (gk - 1)
        case measure => omega
        case rel => exact ⟨i + 1, by omega, by go_num, HD2, HB2⟩
    · have hii : decide (i < m) = false := decide_eq_false (by omega)
      have hii2 : decide ((i : Int) < (m : Int)) = false := decide_eq_false (by omega)
      have HE := Sd.mk (show bs.findIdx? dec = none from List.findIdx?_eq_none_iff.2 (fun x hx => by
        obtain ⟨j, hj⟩ := List.getElem?_of_mem hx
        exact HD.out j x (by have := (List.getElem?_eq_some_iff.1 hj).1; rw [← HM.out] at this; omega) hj))
      go_wp2
      go_ret
      rw [HE.out]
      exact ⟨rfl, HB.out⟩

theorem any_find {α : Type} (l : List α) (p : α → Bool) : l.any p = (l.findIdx? p).isSome := by
  cases h : l.findIdx? p with
  | none =>
    rw [List.findIdx?_eq_none_iff] at h
    simpa [List.any_eq_false] using h
  | some k =>
    obtain ⟨h1, h2, -⟩ := List.findIdx?_eq_some_iff_getElem.1 h
    exact List.any_eq_true.2 ⟨l[k], List.getElem_mem h1, h2⟩
-- <L1
set_option maxHeartbeats 8000000 in
set_option maxRecDepth 100000 in
theorem orphan1_any (w0 W : World) (hb0 : RowKit.Below w0.heap.size w0 W) (r : Bk) (x : Block) (hw : Bw w0 r x) (gh : Nat) (h : ByteArray) (hc : W.heap[gh]? = some (.cells #[.string h] 9 (0, 0))) :
    Calls Try.prog 113 #[.agg #[.int .i64 x.view, .int .i64 x.prop, .int .i64 x.just.view, .string x.just.block, .slice r.sa r.sn r.sc, .slice r.a x.batch.length r.c], .pointer (some ⟨gh, 0, none⟩)] W fun e w' => e = .returned (.bool (decide (digB x = h))) ∧ RowKit.Below W.heap.size W w' := by
  have mixed : Try.prog.follows .mixedOrders = true := by kernel_rfl
  have b0 := below_one W (.cells #[.int .i64 x.view, .int .i64 x.prop, .int .i64 x.just.view, .string x.just.block, .slice r.sa r.sn r.sc, .slice r.a x.batch.length r.c] 42)
  have HB := Sd.mk b0
  have X0 := Sd.mk (blk_new W (.cells #[.int .i64 x.view, .int .i64 x.prop, .int .i64 x.just.view, .string x.just.block, .slice r.sa r.sn r.sc, .slice r.a x.batch.length r.c] 42))
  have HH := Sd.mk (blk_keep hc b0)
  obtain ⟨d, hd⟩ : ∃ d, digB x = d := ⟨_, rfl⟩
  have HDG := Sd.mk (fun W1 (hb : RowKit.Below (w0.heap.size) w0 W1) => Blk.dig_any W1 x r.sa r.sn r.sc r.a x.batch.length r.c (hw.wk.sl.below hb) rfl d hd (by have := hw.sz; omega))
  have HB0 := Sd.mk (below_then hb0 b0)
  rw [hd, ← Rp.str_beq]
  clear hb0 hw hc b0 hd
  go_enter Try.func113, Try.ntmps113
  go_upto_region 1 with (fail)
  generalize hBx : W.heap.size = Bx at X0 ⊢
  generalize W.alloc _ = W1 at HB X0 HH HB0 ⊢
  have c0 := fun d os => cell_regrown (blk_at X0.out 0 _ rfl) d os
  have c1 := fun d os => cell_regrown (blk_at X0.out 1 _ rfl) d os
  have c2 := fun d os => cell_regrown (blk_at X0.out 2 _ rfl) d os
  have c3 := fun d os => cell_regrown (blk_at X0.out 3 _ rfl) d os
  have c4 := fun d os => cell_regrown (blk_at X0.out 4 _ rfl) d os
  have c5 := fun d os => cell_regrown (blk_at X0.out 5 _ rfl) d os
  have e0 := fun d os => cell_regrown (blk_at HH.out 0 _ rfl) d os
  refine wp_region_quiet_below (by assumption) (by kernel_rfl) ?_
  repeat (go_big_quiet_step ((first | (go_at_call 26; with_reducible refine Calls.regrown_of (HDG.out _ (below_then HB0.out (below_regrown _ _ _)))))))
  refine wpQuiet_nil ?_
  rintro W9 ⟨⟨nq, osq⟩, rfl⟩
  have HB9 := Sd.mk (below_then HB.out (below_regrown W1 nq osq))
  go_wp2
  go_ret
  exact ⟨rfl, by have h := HB9.out; first | exact h | rwa [hBx] at h⟩
set_option maxHeartbeats 8000000 in
set_option maxRecDepth 100000 in
theorem contains_any (w0 w : World) (A : Option Addr) (c : Nat) (rs : List Bk) (bs : List Block) (h : Sl bkK w A c rs) (ha : All2 (Bw w0) rs bs) (m : Nat) (hm : m = bs.length) (hw : RowKit.Below w0.heap.size w0 w) (gh : Nat) (s : ByteArray) (hc : w.heap[gh]? = some (.cells #[.string s] 9 (0, 0))) (r : Bool) (hr : bs.any (fun b => decide (digB b = s)) = r) :
    Calls Try.prog 112 #[.slice A m c, .func (.func 113) #[] #[.pointer (some ⟨gh, 0, none⟩)]] w fun e w' => e = .returned (.bool r) ∧ RowKit.Below w.heap.size w w' := by
  have HI := Sd.mk (idx_orphan w0 w A c rs bs h ha m hm (.pointer (some ⟨gh, 0, none⟩)) (fun b => decide (digB b = s)) (fun r x W hx _ hb => orphan1_any w0 W (below_then hw hb) r x hx gh s (blk_keep hc hb)))
  rw [any_find] at hr
  have HR := Sd.mk hr
  clear h ha hm hw hc hr
  go_enter Try.func112, Try.ntmps112
  cases hf : bs.findIdx? (fun b => decide (digB b = s)) with
  | none =>
    rw [hf] at HI HR
    rw [show ixI none = -1 from rfl] at HI
    obtain rfl : false = r := HR.out
    clear hf HR
    go_wp2_with (first
      | (go_at_call 115; (with_reducible refine HI.out.mono ?_); rintro e w1 ⟨rfl, hb⟩; have HB := Sd.mk hb; clear hb))
    go_ret
    exact ⟨rfl, HB.out⟩
  | some k =>
    rw [hf] at HI HR
    rw [show ixI (some k) = (k : Int) from rfl] at HI
    obtain rfl : true = r := HR.out
    have hk : decide ((0 : Int) ≤ (k : Int)) = true := decide_eq_true (by omega)
    clear hf HR
    go_wp2_with (first
      | (go_at_call 115; (with_reducible refine HI.out.mono ?_); rintro e w1 ⟨rfl, hb⟩; have HB := Sd.mk hb; clear hb))
    go_ret
    exact ⟨rfl, HB.out⟩
set_option maxHeartbeats 8000000 in
set_option maxRecDepth 100000 in
theorem orphan_any {w0 W : World} {g : Nat} {f : Fo} (hf : Fw w0 g f W) (h : ByteArray) (r : Bool) (hr : f.hasO h = r) :
    Calls Try.prog 74 #[.pointer (some ⟨g, 0, none⟩), .string h] W fun e w' => e = .returned (.bool r) ∧ RowKit.Below W.heap.size W w' := by
  have b0 := below_one W (.cells #[.string h] 9)
  have X0 := Sd.mk (blk_new W (.cells #[.string h] 9))
  have HF := Sd.mk (hf.below b0)
  have HB := Sd.mk b0
  have HR := Sd.mk hr
  clear hf hr b0
  go_enter Try.func74, Try.ntmps74
  go_upto_region 1 with (fail)
  generalize hBx : W.heap.size = Bx at X0 ⊢
  generalize W.alloc _ = W1 at HB X0 HF ⊢
  obtain ⟨m, ov, prs, rs, h1, h2, h3, h4, h5, h6, h7⟩ := HF.out.ex
  obtain ⟨A, c, rfl, hs⟩ := Kee.own_bk h5
  have c3 := blk_at h1 3 _ rfl
  have HC := Sd.mk (contains_any w0 W1 A c rs f.orph hs h7 _ rfl HF.out.bel Bx h X0.out r HR.out)
  rw [h7.len] at c3
  clear h1 h2 h3 h4 h5 h6 h7 hs
  go_wp2_with (first
    | (go_at_call 112; (with_reducible refine HC.out.mono ?_); rintro e w1 ⟨rfl, hb⟩; have HB2 := Sd.mk (below_then HB.out hb); clear hb))
  go_ret
  exact ⟨rfl, by have h := HB2.out; first | exact h | rwa [hBx] at h⟩
-- L1>
end Go.Proofs.Ytnomgkmeomlccaa.Fst
set_option linter.unusedVariables false
set_option linter.unusedSimpArgs false

namespace Go.Proofs.Ytnomgkmeomlccaa.Fst
open Go.RowKit Go.Sort Rd Api Own Mv App Num Dig
open Blk (Block Rq rqN fR digB coreB)
open Smp (Sm)
open Kee (Bk fB bkK Wk)

theorem len_nodes {w0 W : World} {g m : Nat} {f : Fo} {ov : Value} (h : Fw w0 g f W) (hg : W.heap[g]? = some (.cells #[.string f.root, .int .i64 f.height, .map (some m), ov] 117 (0, 0))) : ∀ W1, RowKit.Below W.heap.size W W1 → ∃ es ck, W1.heap[m]? = some (.map es ck) ∧ es.size = f.nodes.length := by
  intro W1 hb
  obtain ⟨m', ov', prs, rs, h1, h2, h3, h4, h5, h6, h7⟩ := h.ex
  rw [h1] at hg
  simp at hg
  obtain ⟨rfl, -⟩ := hg
  obtain ⟨es, ck, e1, e2⟩ := (h2.below hb).size
  exact ⟨es, ck, e1, by rw [e2]; exact h4.len⟩
-- <L1
set_option maxHeartbeats 16000000 in
set_option maxRecDepth 100000 in
/-- the walk, whatever the look-up says -/
theorem stands_walk (W : World) (g m : Nat) (c0v c1v ov : Value) (hg : W.heap[g]? = some (.cells #[c0v, c1v, .map (some m), ov] 117 (0, 0))) (x : Block) (r : Bk) (n0 n1 n2 n10 : Int) (n3 : ByteArray) (n4 n7 : Option Addr) (n5 n6 n8 n9 : Nat) (ok : Bool)
    (hlk : ∀ W1, RowKit.Below W.heap.size W W1 → (Instr.lookup 115 (.map (some m)) (.string x.just.block) true).run Try.prog W1 = .ok (.tuple #[.agg #[.int .i64 n0, .int .i64 n1, .int .i64 n2, .string n3, .slice n4 n5 n6, .slice n7 n8 n9, .int .i64 n10], .bool ok]) W1)
    (sz : Nat) (hsz : ∀ W1, RowKit.Below W.heap.size W W1 → ∃ es ck, W1.heap[m]? = some (.map es ck) ∧ es.size = sz) (res : Int)
    (hres : res = if ok && (decide (x.view ≤ n0) || decide (x.view ≤ x.just.view) || decide (x.just.view ≠ n0)) then 5 else if 400 ≤ sz then 7 else 0) :
    Calls Try.prog 114 #[.pointer (some ⟨g, 0, none⟩), .agg #[.int .i64 x.view, .int .i64 x.prop, .int .i64 x.just.view, .string x.just.block, .slice r.sa r.sn r.sc, .slice r.a x.batch.length r.c]] W fun e w' => e = .returned (.int .i64 res) ∧ RowKit.Below W.heap.size W w' := by
  have mixed : Try.prog.follows .mixedOrders = true := by kernel_rfl
  have b0 := below_one W (.cells #[.int .i64 x.view, .int .i64 x.prop, .int .i64 x.just.view, .string x.just.block, .slice r.sa r.sn r.sc, .slice r.a x.batch.length r.c] 42)
  have E0 := Sd.mk (blk_new W (.cells #[.int .i64 x.view, .int .i64 x.prop, .int .i64 x.just.view, .string x.just.block, .slice r.sa r.sn r.sc, .slice r.a x.batch.length r.c] 42))
  have HB0 := Sd.mk b0
  have HG := Sd.mk hg
  have HL := Sd.mk hlk
  have HZ := Sd.mk hsz
  have HRS := Sd.mk hres
  clear b0 hg hlk hsz hres
  go_enter Try.func114, Try.ntmps114
  go_upto_region 1 with (fail)
  generalize hg3 : W.heap.size = g3 at E0 ⊢
  generalize W.alloc _ = W1 at E0 HB0 ⊢
  have HB1 := Sd.mk (below_drew' HB0.out)
  have E1 := Sd.mk (blk_keep E0.out (below_drew' (w := W1) (Below.refl W1.heap.size W1)))
  clear HB0 E0
  have hge : W.heap.size ≤ W1.drew.heap.size := HB1.out.size
  have HCE := Sd.mk (fun W2 (hb : RowKit.Below W1.drew.heap.size W1.drew W2) => show (fun W : World => W.cell? ⟨g, 2, none⟩ = some (.map (some m)) ∧ W.cell? ⟨g3, 0, none⟩ = some (.int .i64 x.view) ∧ W.cell? ⟨g3, 1, none⟩ = some (.int .i64 x.prop) ∧ W.cell? ⟨g3, 2, none⟩ = some (.int .i64 x.just.view) ∧ W.cell? ⟨g3, 3, none⟩ = some (.string x.just.block) ∧ W.cell? ⟨g3, 4, none⟩ = some (.slice r.sa r.sn r.sc) ∧ W.cell? ⟨g3, 5, none⟩ = some (.slice r.a x.batch.length r.c) ∧ (Instr.lookup 115 (.map (some m)) (.string x.just.block) true).run Try.prog W = .ok (.tuple #[.agg #[.int .i64 n0, .int .i64 n1, .int .i64 n2, .string n3, .slice n4 n5 n6, .slice n7 n8 n9, .int .i64 n10], .bool ok]) W) W2 from ⟨blk_at (blk_keep HG.out (below_then HB1.out hb)) 2 _ rfl, blk_at (blk_keep E1.out hb) 0 _ rfl, blk_at (blk_keep E1.out hb) 1 _ rfl, blk_at (blk_keep E1.out hb) 2 _ rfl, blk_at (blk_keep E1.out hb) 3 _ rfl, blk_at (blk_keep E1.out hb) 4 _ rfl, blk_at (blk_keep E1.out hb) 5 _ rfl, HL.out W2 (below_then HB1.out hb)⟩)
  have S0 := HCE.out _ (Below.refl _ _)
  refine Peel.region_peel (n := 12) (S := (fun W : World => W.cell? ⟨g, 2, none⟩ = some (.map (some m)) ∧ W.cell? ⟨g3, 0, none⟩ = some (.int .i64 x.view) ∧ W.cell? ⟨g3, 1, none⟩ = some (.int .i64 x.prop) ∧ W.cell? ⟨g3, 2, none⟩ = some (.int .i64 x.just.view) ∧ W.cell? ⟨g3, 3, none⟩ = some (.string x.just.block) ∧ W.cell? ⟨g3, 4, none⟩ = some (.slice r.sa r.sn r.sc) ∧ W.cell? ⟨g3, 5, none⟩ = some (.slice r.a x.batch.length r.c) ∧ (Instr.lookup 115 (.map (some m)) (.string x.just.block) true).run Try.prog W = .ok (.tuple #[.agg #[.int .i64 n0, .int .i64 n1, .int .i64 n2, .string n3, .slice n4 n5 n6, .slice n7 n8 n9, .int .i64 n10], .bool ok]) W)) (by kernel_rfl) (by kernel_rfl) S0 (fun hHeld => ?_)
  simp only [List.take_succ_cons, List.take_zero]
  generalize W1.drew = W2 at HB1 E1 HCE S0 hHeld hge ⊢
  clear S0 HL
  (refine Peel.take 0 (v := ?_) rfl rfl (by kernel_rfl) (by kernel_rfl) (by kernel_rfl) (fun _ _ _ h => h) (by assumption) ?_ ?_; rotate_left; (focus (intro w hSw; (try dsimp only at hSw); obtain ⟨s0, s1, s2, s3, s4, s5, s6, s7⟩ := hSw; (try simp only [List.getElem_toArray, List.getElem_cons_succ, List.getElem_cons_zero]); go_simp; try (with_reducible rfl))); try simp only [List.getElem_toArray, List.getElem_cons_succ, List.getElem_cons_zero, Act.put, List.setIfInBounds_toArray, List.set_cons_zero, List.set_cons_succ])
  (refine Peel.take 1 (v := ?_) rfl rfl (by kernel_rfl) (by kernel_rfl) (by kernel_rfl) (fun _ _ _ h => h) (by assumption) ?_ ?_; rotate_left; (focus (intro w hSw; (try dsimp only at hSw); obtain ⟨s0, s1, s2, s3, s4, s5, s6, s7⟩ := hSw; (try simp only [List.getElem_toArray, List.getElem_cons_succ, List.getElem_cons_zero]); go_simp; try (with_reducible rfl))); try simp only [List.getElem_toArray, List.getElem_cons_succ, List.getElem_cons_zero, Act.put, List.setIfInBounds_toArray, List.set_cons_zero, List.set_cons_succ])
  (refine Peel.take 2 (v := ?_) rfl rfl (by kernel_rfl) (by kernel_rfl) (by kernel_rfl) (fun _ _ _ h => h) (by assumption) ?_ ?_; rotate_left; (focus (intro w hSw; (try dsimp only at hSw); obtain ⟨s0, s1, s2, s3, s4, s5, s6, s7⟩ := hSw; (try simp only [List.getElem_toArray, List.getElem_cons_succ, List.getElem_cons_zero]); go_simp; try (with_reducible rfl))); try simp only [List.getElem_toArray, List.getElem_cons_succ, List.getElem_cons_zero, Act.put, List.setIfInBounds_toArray, List.set_cons_zero, List.set_cons_succ])
  (refine Peel.take 3 (v := ?_) rfl rfl (by kernel_rfl) (by kernel_rfl) (by kernel_rfl) (fun _ _ _ h => h) (by assumption) ?_ ?_; rotate_left; (focus (intro w hSw; (try dsimp only at hSw); obtain ⟨s0, s1, s2, s3, s4, s5, s6, s7⟩ := hSw; (try simp only [List.getElem_toArray, List.getElem_cons_succ, List.getElem_cons_zero]); go_simp; try (with_reducible rfl))); try simp only [List.getElem_toArray, List.getElem_cons_succ, List.getElem_cons_zero, Act.put, List.setIfInBounds_toArray, List.set_cons_zero, List.set_cons_succ])
  (refine Peel.take 4 (v := ?_) rfl rfl (by kernel_rfl) (by kernel_rfl) (by kernel_rfl) (fun _ _ _ h => h) (by assumption) ?_ ?_; rotate_left; (focus (intro w hSw; (try dsimp only at hSw); obtain ⟨s0, s1, s2, s3, s4, s5, s6, s7⟩ := hSw; (try simp only [List.getElem_toArray, List.getElem_cons_succ, List.getElem_cons_zero]); go_simp; try (with_reducible rfl))); try simp only [List.getElem_toArray, List.getElem_cons_succ, List.getElem_cons_zero, Act.put, List.setIfInBounds_toArray, List.set_cons_zero, List.set_cons_succ])
  refine wpAnyH_ready (rs := [5, 10]) (by kernel_rfl) (by simp) ?_
  refine AllReadyH.cons rfl (fun K hK => ?_) (AllReadyH.cons rfl (fun K hK => ?_) AllReadyH.nil)
  · go_simp
    go_at_call 28
    refine (Blk.parent_any _ _ _ _ _ _ _).mono ?_
    rintro e w5 ⟨rfl, hb5⟩
    have s5 := HCE.out _ hb5
    have HB5 := Sd.mk hb5
    clear hb5
    (refine hK.out _ _ s5 (fun hHeld => ?_); (clear hK K; try simp only [List.getElem_toArray, List.getElem_cons_succ, List.getElem_cons_zero, Act.put, List.setIfInBounds_toArray, List.set_cons_zero, List.set_cons_succ]))
    (refine Peel.take 6 (v := ?_) rfl rfl (by kernel_rfl) (by kernel_rfl) (by kernel_rfl) (fun _ _ _ h => h) (by assumption) ?_ ?_; rotate_left; (focus (intro w hSw; (try dsimp only at hSw); obtain ⟨s0, s1, s2, s3, s4, s5, s6, s7⟩ := hSw; (try simp only [List.getElem_toArray, List.getElem_cons_succ, List.getElem_cons_zero]); go_simp; try (with_reducible rfl))); try simp only [List.getElem_toArray, List.getElem_cons_succ, List.getElem_cons_zero, Act.put, List.setIfInBounds_toArray, List.set_cons_zero, List.set_cons_succ])
    (refine Peel.take 7 (v := ?_) rfl rfl (by kernel_rfl) (by kernel_rfl) (by kernel_rfl) (fun _ _ _ h => h) (by assumption) ?_ ?_; rotate_left; (focus (intro w hSw; (try dsimp only at hSw); obtain ⟨s0, s1, s2, s3, s4, s5, s6, s7⟩ := hSw; (try simp only [List.getElem_toArray, List.getElem_cons_succ, List.getElem_cons_zero]); go_simp; try (with_reducible rfl))); try simp only [List.getElem_toArray, List.getElem_cons_succ, List.getElem_cons_zero, Act.put, List.setIfInBounds_toArray, List.set_cons_zero, List.set_cons_succ])
    (refine Peel.take 8 (v := ?_) rfl rfl (by kernel_rfl) (by kernel_rfl) (by kernel_rfl) (fun _ _ _ h => h) (by assumption) ?_ ?_; rotate_left; (focus (intro w hSw; (try dsimp only at hSw); obtain ⟨s0, s1, s2, s3, s4, s5, s6, s7⟩ := hSw; (try simp only [List.getElem_toArray, List.getElem_cons_succ, List.getElem_cons_zero]); go_simp; try (with_reducible rfl))); try simp only [List.getElem_toArray, List.getElem_cons_succ, List.getElem_cons_zero, Act.put, List.setIfInBounds_toArray, List.set_cons_zero, List.set_cons_succ])
    (refine Peel.take 9 (v := ?_) rfl rfl (by kernel_rfl) (by kernel_rfl) (by kernel_rfl) (fun _ _ _ h => h) (by assumption) ?_ ?_; rotate_left; (focus (intro w hSw; (try dsimp only at hSw); obtain ⟨s0, s1, s2, s3, s4, s5, s6, s7⟩ := hSw; (try simp only [List.getElem_toArray, List.getElem_cons_succ, List.getElem_cons_zero]); go_simp; try (with_reducible rfl))); try simp only [List.getElem_toArray, List.getElem_cons_succ, List.getElem_cons_zero, Act.put, List.setIfInBounds_toArray, List.set_cons_zero, List.set_cons_succ])
    (refine wpAnyH_ready (rs := [10]) (by kernel_rfl) (by simp) ?_; refine AllReadyH.cons rfl (fun K hK => ?_) AllReadyH.nil)
    go_simp
    have b6 := below_then HB5.out (below_one w5 (.cells #[.int .i64 0, .int .i64 0, .int .i64 0, .string ⟨#[]⟩, .slice none 0 0, .slice none 0 0, .int .i64 0] 120))
    have s6 := HCE.out _ b6
    (refine hK.out _ _ s6 (fun hHeld => ?_); (clear hK K; try simp only [List.getElem_toArray, List.getElem_cons_succ, List.getElem_cons_zero, Act.put, List.setIfInBounds_toArray, List.set_cons_zero, List.set_cons_succ]))
    (refine wpAnyH_ready (rs := [11]) (by kernel_rfl) (by simp) ?_; refine AllReadyH.cons rfl (fun K hK => ?_) AllReadyH.nil)
    go_simp
    have b7 := below_then HB5.out (below_one w5 (.cells #[.int .i64 n0, .int .i64 n1, .int .i64 n2, .string n3, .slice n4 n5 n6, .slice n7 n8 n9, .int .i64 n10] 120))
    have s7 := HCE.out _ b7
    (refine hK.out _ _ s7 (fun hHeld => ?_); (clear hK K; try simp only [List.getElem_toArray, List.getElem_cons_succ, List.getElem_cons_zero, Act.put, List.setIfInBounds_toArray, List.set_cons_zero, List.set_cons_succ]))
    have E7 := Sd.mk (blk_new w5 (.cells #[.int .i64 n0, .int .i64 n1, .int .i64 n2, .string n3, .slice n4 n5 n6, .slice n7 n8 n9, .int .i64 n10] 120))
    have HB7 := Sd.mk b7
    clear s5 s6 s7 b6 b7 HB5
    (refine wpAnyH_done (by kernel_rfl) ?_ _; simp only [Peel.Qn, List.drop_succ_cons, List.drop_zero]; clear hHeld)
    clear hHeld
    generalize w5.heap.size = g5 at E7 ⊢
    generalize w5.alloc _ = W9 at E7 HB7 ⊢
    (have HBF := Sd.mk (below_then HB1.out HB7.out); obtain ⟨es, ck, hm, hes⟩ := HZ.out _ HBF.out; have hlen : ∀ ty, (Builtin.len_ #[115] ty #[.map (some m)]).run Try.prog W9 = .ok (goInt es.size) W9 := (fun ty => run_len_map W9 115 ty m es ck (by rw [Try.underlying115]; kernel_rfl) hm); rw [hes] at hlen; clear hm hes HCE HZ; have a0 := blk_at (blk_keep E1.out HB7.out) 0 _ rfl; have a2 := blk_at (blk_keep E1.out HB7.out) 2 _ rfl; have q2 := blk_at (blk_keep HG.out HBF.out) 2 _ rfl; have d0 := blk_at E7.out 0 _ rfl; cases ok with | false => (have HRR := HRS; simp only [Bool.false_and, Bool.false_eq_true, if_false] at HRR; clear HRS; (rcases Decidable.em (400 ≤ sz) with h4 | h4; (focus (have k5 : decide ((400 : Int) ≤ (sz : Int)) = true := decide_eq_true (by omega); rw [if_pos h4] at HRR; (clear HG E1 HB1 HB7 E7; go_wp2; go_ret; rw [HRR.out]; exact ⟨rfl, by have h := HBF.out; first | exact h | rwa [hg3] at h⟩))); (focus (have k5 : decide ((400 : Int) ≤ (sz : Int)) = false := decide_eq_false (by omega); rw [if_neg h4] at HRR; (clear HG E1 HB1 HB7 E7; go_wp2; go_ret; rw [HRR.out]; exact ⟨rfl, by have h := HBF.out; first | exact h | rwa [hg3] at h⟩))))) | true => (rcases Decidable.em (x.view ≤ n0) with h1 | h1; (focus (have HRR := HRS; have ka : decide (x.view ≤ n0) = true := decide_eq_true h1; simp only [Bool.true_and, ka, Bool.true_or, if_true] at HRR; clear HRS; (clear HG E1 HB1 HB7 E7; go_wp2; go_ret; rw [HRR.out]; exact ⟨rfl, by have h := HBF.out; first | exact h | rwa [hg3] at h⟩))); (focus (rcases Decidable.em (x.view ≤ x.just.view) with h2 | h2; (focus (have HRR := HRS; have kb : decide (x.view ≤ x.just.view) = true := decide_eq_true h2; simp only [Bool.true_and, kb, Bool.true_or, Bool.or_true, if_true] at HRR; clear HRS; (clear HG E1 HB1 HB7 E7; go_wp2; go_ret; rw [HRR.out]; exact ⟨rfl, by have h := HBF.out; first | exact h | rwa [hg3] at h⟩))); (focus (have ka : decide (x.view ≤ n0) = false := decide_eq_false h1; have kb : decide (x.view ≤ x.just.view) = false := decide_eq_false h2; rcases Decidable.em (x.just.view = n0) with h3 | h3; (focus (have HRR := HRS; have k3 : (x.just.view == n0) = true := beq_iff_eq.2 h3; have k3b : (x.just.view != n0) = false := (by rw [bne, k3]; rfl); have k4 : decide (x.just.view ≠ n0) = false := decide_eq_false (fun e => e h3); simp only [Bool.true_and, ka, kb, k4, Bool.false_or, Bool.false_eq_true, if_false] at HRR; clear HRS; (rcases Decidable.em (400 ≤ sz) with h4 | h4; (focus (have k5 : decide ((400 : Int) ≤ (sz : Int)) = true := decide_eq_true (by omega); rw [if_pos h4] at HRR; (clear HG E1 HB1 HB7 E7; go_wp2; go_ret; rw [HRR.out]; exact ⟨rfl, by have h := HBF.out; first | exact h | rwa [hg3] at h⟩))); (focus (have k5 : decide ((400 : Int) ≤ (sz : Int)) = false := decide_eq_false (by omega); rw [if_neg h4] at HRR; (clear HG E1 HB1 HB7 E7; go_wp2; go_ret; rw [HRR.out]; exact ⟨rfl, by have h := HBF.out; first | exact h | rwa [hg3] at h⟩)))))); (focus (have HRR := HRS; have k3 : (x.just.view == n0) = false := beq_eq_false_iff_ne.2 h3; have k3b : (x.just.view != n0) = true := (by rw [bne, k3]; rfl); have k4 : decide (x.just.view ≠ n0) = true := decide_eq_true h3; simp only [Bool.true_and, k4, Bool.or_true, if_true] at HRR; clear HRS; (clear HG E1 HB1 HB7 E7; go_wp2; go_ret; rw [HRR.out]; exact ⟨rfl, by have h := HBF.out; first | exact h | rwa [hg3] at h⟩)))))))))
  · go_simp
    have b6 := below_one W2 (.cells #[.int .i64 0, .int .i64 0, .int .i64 0, .string ⟨#[]⟩, .slice none 0 0, .slice none 0 0, .int .i64 0] 120)
    have s6 := HCE.out _ b6
    (refine hK.out _ _ s6 (fun hHeld => ?_); (clear hK K; try simp only [List.getElem_toArray, List.getElem_cons_succ, List.getElem_cons_zero, Act.put, List.setIfInBounds_toArray, List.set_cons_zero, List.set_cons_succ]))
    have HB6 := Sd.mk b6
    have E6 := Sd.mk (blk_new W2 (.cells #[.int .i64 0, .int .i64 0, .int .i64 0, .string ⟨#[]⟩, .slice none 0 0, .slice none 0 0, .int .i64 0] 120))
    clear b6 s6
    generalize hg5 : W2.heap.size = g5 at E6 ⊢
    generalize W2.alloc _ = W6 at HB6 E6 hHeld ⊢
    (refine wpAnyH_ready (rs := [5]) (by kernel_rfl) (by simp) ?_; refine AllReadyH.cons rfl (fun K hK => ?_) AllReadyH.nil)
    go_simp
    go_at_call 28
    refine (Blk.parent_any _ _ _ _ _ _ _).mono ?_
    rintro e w5 ⟨rfl, hb5⟩
    have HB5 := Sd.mk (below_then HB6.out hb5)
    have E5 := Sd.mk (blk_keep E6.out hb5)
    have s5 := HCE.out _ HB5.out
    clear hb5 E6 HB6
    (refine hK.out _ _ s5 (fun hHeld => ?_); (clear hK K; try simp only [List.getElem_toArray, List.getElem_cons_succ, List.getElem_cons_zero, Act.put, List.setIfInBounds_toArray, List.set_cons_zero, List.set_cons_succ]))
    (refine Peel.take 6 (v := ?_) rfl rfl (by kernel_rfl) (by kernel_rfl) (by kernel_rfl) (fun _ _ _ h => h) (by assumption) ?_ ?_; rotate_left; (focus (intro w hSw; (try dsimp only at hSw); obtain ⟨s0, s1, s2, s3, s4, s5, s6, s7⟩ := hSw; (try simp only [List.getElem_toArray, List.getElem_cons_succ, List.getElem_cons_zero]); go_simp; try (with_reducible rfl))); try simp only [List.getElem_toArray, List.getElem_cons_succ, List.getElem_cons_zero, Act.put, List.setIfInBounds_toArray, List.set_cons_zero, List.set_cons_succ])
    (refine Peel.take 7 (v := ?_) rfl rfl (by kernel_rfl) (by kernel_rfl) (by kernel_rfl) (fun _ _ _ h => h) (by assumption) ?_ ?_; rotate_left; (focus (intro w hSw; (try dsimp only at hSw); obtain ⟨s0, s1, s2, s3, s4, s5, s6, s7⟩ := hSw; (try simp only [List.getElem_toArray, List.getElem_cons_succ, List.getElem_cons_zero]); go_simp; try (with_reducible rfl))); try simp only [List.getElem_toArray, List.getElem_cons_succ, List.getElem_cons_zero, Act.put, List.setIfInBounds_toArray, List.set_cons_zero, List.set_cons_succ])
    (refine Peel.take 8 (v := ?_) rfl rfl (by kernel_rfl) (by kernel_rfl) (by kernel_rfl) (fun _ _ _ h => h) (by assumption) ?_ ?_; rotate_left; (focus (intro w hSw; (try dsimp only at hSw); obtain ⟨s0, s1, s2, s3, s4, s5, s6, s7⟩ := hSw; (try simp only [List.getElem_toArray, List.getElem_cons_succ, List.getElem_cons_zero]); go_simp; try (with_reducible rfl))); try simp only [List.getElem_toArray, List.getElem_cons_succ, List.getElem_cons_zero, Act.put, List.setIfInBounds_toArray, List.set_cons_zero, List.set_cons_succ])
    (refine Peel.take 9 (v := ?_) rfl rfl (by kernel_rfl) (by kernel_rfl) (by kernel_rfl) (fun _ _ _ h => h) (by assumption) ?_ ?_; rotate_left; (focus (intro w hSw; (try dsimp only at hSw); obtain ⟨s0, s1, s2, s3, s4, s5, s6, s7⟩ := hSw; (try simp only [List.getElem_toArray, List.getElem_cons_succ, List.getElem_cons_zero]); go_simp; try (with_reducible rfl))); try simp only [List.getElem_toArray, List.getElem_cons_succ, List.getElem_cons_zero, Act.put, List.setIfInBounds_toArray, List.set_cons_zero, List.set_cons_succ])
    (refine wpAnyH_ready (rs := [11]) (by kernel_rfl) (by simp) ?_; refine AllReadyH.cons rfl (fun K hK => ?_) AllReadyH.nil)
    have e0 := blk_at E5.out 0 _ rfl
    have e1 := blk_at E5.out 1 _ rfl
    have e2 := blk_at E5.out 2 _ rfl
    have e3 := blk_at E5.out 3 _ rfl
    have e4 := blk_at E5.out 4 _ rfl
    have e5 := blk_at E5.out 5 _ rfl
    have e6 := blk_at E5.out 6 _ rfl
    have f0 := blk_frz E5.out 0
    have f1 := blk_frz E5.out 1
    have f2 := blk_frz E5.out 2
    have f3 := blk_frz E5.out 3
    have f4 := blk_frz E5.out 4
    have f5 := blk_frz E5.out 5
    have f6 := blk_frz E5.out 6
    go_simp
    clear e0 e1 e2 e3 e4 e5 e6 f0 f1 f2 f3 f4 f5 f6
    have X9 := (blk_set3 (blk_set3 (blk_set3 (blk_set3 (blk_set3 (blk_set3 (blk_set3 E5.out 0 (.int .i64 n0)) 1 (.int .i64 n1)) 2 (.int .i64 n2)) 3 (.string n3)) 4 (.slice n4 n5 n6)) 5 (.slice n7 n8 n9)) 6 (.int .i64 n10))
    have HB9 := (((((((HB5.out.setCell (p := ⟨g5, 0, none⟩) (Nat.le_of_eq hg5) (.int .i64 n0)).setCell (p := ⟨g5, 1, none⟩) (Nat.le_of_eq hg5) (.int .i64 n1)).setCell (p := ⟨g5, 2, none⟩) (Nat.le_of_eq hg5) (.int .i64 n2)).setCell (p := ⟨g5, 3, none⟩) (Nat.le_of_eq hg5) (.string n3)).setCell (p := ⟨g5, 4, none⟩) (Nat.le_of_eq hg5) (.slice n4 n5 n6)).setCell (p := ⟨g5, 5, none⟩) (Nat.le_of_eq hg5) (.slice n7 n8 n9)).setCell (p := ⟨g5, 6, none⟩) (Nat.le_of_eq hg5) (.int .i64 n10))
    have s7 := HCE.out _ HB9
    (refine hK.out _ _ s7 (fun hHeld => ?_); (clear hK K; try simp only [List.getElem_toArray, List.getElem_cons_succ, List.getElem_cons_zero, Act.put, List.setIfInBounds_toArray, List.set_cons_zero, List.set_cons_succ]))
    have HB7 := Sd.mk HB9
    have E7 := Sd.mk X9
    clear s5 s7 X9 HB9 HB5 E5
    (refine wpAnyH_done (by kernel_rfl) ?_ _; simp only [Peel.Qn, List.drop_succ_cons, List.drop_zero]; clear hHeld)
    generalize ((((((World.setCell _ _ _).setCell _ _).setCell _ _).setCell _ _).setCell _ _).setCell _ _).setCell _ _ = W9 at E7 HB7 ⊢
    (have HBF := Sd.mk (below_then HB1.out HB7.out); obtain ⟨es, ck, hm, hes⟩ := HZ.out _ HBF.out; have hlen : ∀ ty, (Builtin.len_ #[115] ty #[.map (some m)]).run Try.prog W9 = .ok (goInt es.size) W9 := (fun ty => run_len_map W9 115 ty m es ck (by rw [Try.underlying115]; kernel_rfl) hm); rw [hes] at hlen; clear hm hes HCE HZ; have a0 := blk_at (blk_keep E1.out HB7.out) 0 _ rfl; have a2 := blk_at (blk_keep E1.out HB7.out) 2 _ rfl; have q2 := blk_at (blk_keep HG.out HBF.out) 2 _ rfl; have d0 := blk_at E7.out 0 _ rfl; cases ok with | false => (have HRR := HRS; simp only [Bool.false_and, Bool.false_eq_true, if_false] at HRR; clear HRS; (rcases Decidable.em (400 ≤ sz) with h4 | h4; (focus (have k5 : decide ((400 : Int) ≤ (sz : Int)) = true := decide_eq_true (by omega); rw [if_pos h4] at HRR; (clear HG E1 HB1 HB7 E7; go_wp2; go_ret; rw [HRR.out]; exact ⟨rfl, by have h := HBF.out; first | exact h | rwa [hg3] at h⟩))); (focus (have k5 : decide ((400 : Int) ≤ (sz : Int)) = false := decide_eq_false (by omega); rw [if_neg h4] at HRR; (clear HG E1 HB1 HB7 E7; go_wp2; go_ret; rw [HRR.out]; exact ⟨rfl, by have h := HBF.out; first | exact h | rwa [hg3] at h⟩))))) | true => (rcases Decidable.em (x.view ≤ n0) with h1 | h1; (focus (have HRR := HRS; have ka : decide (x.view ≤ n0) = true := decide_eq_true h1; simp only [Bool.true_and, ka, Bool.true_or, if_true] at HRR; clear HRS; (clear HG E1 HB1 HB7 E7; go_wp2; go_ret; rw [HRR.out]; exact ⟨rfl, by have h := HBF.out; first | exact h | rwa [hg3] at h⟩))); (focus (rcases Decidable.em (x.view ≤ x.just.view) with h2 | h2; (focus (have HRR := HRS; have kb : decide (x.view ≤ x.just.view) = true := decide_eq_true h2; simp only [Bool.true_and, kb, Bool.true_or, Bool.or_true, if_true] at HRR; clear HRS; (clear HG E1 HB1 HB7 E7; go_wp2; go_ret; rw [HRR.out]; exact ⟨rfl, by have h := HBF.out; first | exact h | rwa [hg3] at h⟩))); (focus (have ka : decide (x.view ≤ n0) = false := decide_eq_false h1; have kb : decide (x.view ≤ x.just.view) = false := decide_eq_false h2; rcases Decidable.em (x.just.view = n0) with h3 | h3; (focus (have HRR := HRS; have k3 : (x.just.view == n0) = true := beq_iff_eq.2 h3; have k3b : (x.just.view != n0) = false := (by rw [bne, k3]; rfl); have k4 : decide (x.just.view ≠ n0) = false := decide_eq_false (fun e => e h3); simp only [Bool.true_and, ka, kb, k4, Bool.false_or, Bool.false_eq_true, if_false] at HRR; clear HRS; (rcases Decidable.em (400 ≤ sz) with h4 | h4; (focus (have k5 : decide ((400 : Int) ≤ (sz : Int)) = true := decide_eq_true (by omega); rw [if_pos h4] at HRR; (clear HG E1 HB1 HB7 E7; go_wp2; go_ret; rw [HRR.out]; exact ⟨rfl, by have h := HBF.out; first | exact h | rwa [hg3] at h⟩))); (focus (have k5 : decide ((400 : Int) ≤ (sz : Int)) = false := decide_eq_false (by omega); rw [if_neg h4] at HRR; (clear HG E1 HB1 HB7 E7; go_wp2; go_ret; rw [HRR.out]; exact ⟨rfl, by have h := HBF.out; first | exact h | rwa [hg3] at h⟩)))))); (focus (have HRR := HRS; have k3 : (x.just.view == n0) = false := beq_eq_false_iff_ne.2 h3; have k3b : (x.just.view != n0) = true := (by rw [bne, k3]; rfl); have k4 : decide (x.just.view ≠ n0) = true := decide_eq_true h3; simp only [Bool.true_and, k4, Bool.or_true, if_true] at HRR; clear HRS; (clear HG E1 HB1 HB7 E7; go_wp2; go_ret; rw [HRR.out]; exact ⟨rfl, by have h := HBF.out; first | exact h | rwa [hg3] at h⟩)))))))))
-- L1>
theorem stands_any {w0 W : World} {g : Nat} {f : Fo} (hf : Fw w0 g f W) (x : Block) (r : Bk) (hx : x.just.block.size ≤ maxLen) :
    Calls Try.prog 114 #[.pointer (some ⟨g, 0, none⟩), .agg #[.int .i64 x.view, .int .i64 x.prop, .int .i64 x.just.view, .string x.just.block, .slice r.sa r.sn r.sc, .slice r.a x.batch.length r.c]] W fun e w' => e = .returned (.int .i64 (f.code x)) ∧ RowKit.Below W.heap.size W w' := by
  obtain ⟨m, ov, hg, hl⟩ := lk hf x.just.block hx
  have hlen := len_nodes hf hg
  rcases hl with ⟨hn, hl⟩ | ⟨y, q, hn, hq, hl⟩
  · refine stands_walk W g m _ _ ov hg x r 0 0 0 0 ⟨#[]⟩ none none 0 0 0 0 false hl _ hlen _ ?_
    unfold Fo.code bad
    rw [hn]
    rfl
  · refine stands_walk W g m _ _ ov hg x r y.b.view y.b.prop y.b.just.view y.ht y.b.just.block q.sa q.a q.sn q.sc y.b.batch.length q.c true hl _ hlen _ ?_
    unfold Fo.code bad
    rw [hn]
    simp only [Bool.true_and]
end Go.Proofs.Ytnomgkmeomlccaa.Fst

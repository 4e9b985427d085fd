/- A block that is right, and whose certificate holds, is well: walked. A certificate of the reference's signatures: plain; the reference's RightRequest: walked. -/
import Derived.Test.YtnomgkmeomlccaaRwb
import Derived.Test.YtnomgkmeomlccaaMkOh
import Derived.Test.YtnomgkmeomlccaaCrtE
import Derived.Test.YtnomgkmeomlccaaCrtF
set_option linter.unusedVariables false
set_option linter.unusedSimpArgs false

namespace Go.Proofs.Ytnomgkmeomlccaa.Blk
open Go.RowKit Go.Sort Rd Api Own Mv App Num Dig

set_option maxHeartbeats 4000000 in
set_option maxRecDepth 100000 in
theorem nodes_any (w : World) (n : Int) : Calls Try.prog 72 #[.int .i64 n] w fun e w' => e = .returned (.bool (decide (1 ≤ n ∧ n ≤ 7))) ∧ Below w.heap.size w w' := by
  by_cases h1 : 1 ≤ n
  · have hd : decide (1 ≤ n) = true := decide_eq_true h1
    have hn : decide (1 ≤ n ∧ n ≤ 7) = decide (n ≤ 7) := decide_eq_decide.2 ⟨fun h => h.2, fun h => ⟨h1, h⟩⟩
    rw [hn]
    clear hn h1
    go_enter Try.func72, Try.ntmps72
    go_wp2
    go_ret
    exact ⟨rfl, Below.refl _ _⟩
  · have hd : decide (1 ≤ n) = false := decide_eq_false h1
    have hn : decide (1 ≤ n ∧ n ≤ 7) = false := decide_eq_false (fun h => h1 h.1)
    rw [hn]
    clear hn h1
    go_enter Try.func72, Try.ntmps72
    go_wp2
    go_ret
    exact ⟨rfl, Below.refl _ _⟩
theorem firsts_all {l : List Rq} (h : ¬ Dup l) : firsts l = l := by
  have hs : ∀ j, seen l j = false := fun j => by
    cases e : seen l j with
    | false => rfl
    | true =>
      unfold seen at e
      cases hx : l[j]? with
      | none => rw [hx] at e; cases e
      | some x =>
        rw [hx] at e
        have e := of_decide_eq_true e
        obtain ⟨z, hz, hzk⟩ := List.mem_map.1 e
        obtain ⟨k, hk⟩ := List.getElem?_of_mem hz
        rw [List.getElem?_take] at hk
        split at hk
        · rename_i hkj
          exact absurd ⟨j, k, x, z, hkj, hx, hk, hzk.symm⟩ h
        · cases hk
  unfold firsts
  rw [Del.kp_none (fun i _ => hs i)]
  exact List.take_of_length_le (Nat.le_refl _)
/-- the block's cells -/
def Yc (Bx : Nat) (y : Block) (A : Option Addr) (n1 c : Nat) (B : Option Addr) (m d : Nat) (W : World) : Prop := W.heap[Bx]? = some (.cells #[.int .i64 y.view, .int .i64 y.prop, .int .i64 y.just.view, .string y.just.block, .slice A n1 c, .slice B m d] 42 (0, 0))
theorem Yc.below {Bx : Nat} {y : Block} {A : Option Addr} {n1 c : Nat} {B : Option Addr} {m d : Nat} {W W1 : World} (h : Yc Bx y A n1 c B m d W) (hb : RowKit.Below W.heap.size W W1) : Yc Bx y A n1 c B m d W1 := blk_keep h hb
theorem Yc.at {Bx : Nat} {y : Block} {A : Option Addr} {n1 c : Nat} {B : Option Addr} {m d : Nat} {W : World} (h : Yc Bx y A n1 c B m d W) : W.cell? ⟨Bx, 0, none⟩ = some (.int .i64 y.view) ∧ W.cell? ⟨Bx, 1, none⟩ = some (.int .i64 y.prop) ∧ W.cell? ⟨Bx, 2, none⟩ = some (.int .i64 y.just.view) ∧ W.cell? ⟨Bx, 3, none⟩ = some (.string y.just.block) ∧ W.cell? ⟨Bx, 4, none⟩ = some (.slice A n1 c) ∧ W.cell? ⟨Bx, 5, none⟩ = some (.slice B m d) :=
  ⟨blk_at h 0 _ rfl, blk_at h 1 _ rfl, blk_at h 2 _ rfl, blk_at h 3 _ rfl, blk_at h 4 _ rfl, blk_at h 5 _ rfl⟩
set_option maxHeartbeats 8000000 in
set_option maxRecDepth 100000 in
theorem well_ok (w : World) (seed : ByteArray) (hsd : seed.size ≤ 35184372088832) (tn n : Nat) (hn1 : 1 ≤ n) (hn7 : n ≤ 7) (htn : tn < n) (y : Block) (hr : RightBlock y) (hdup : ¬ Dup y.batch) (hld : lead y.view n = y.prop) (p : Sg.Sig → Bool) (hp : Crt.Tells seed (tn : Nat) (n : Nat) y.just p) (hh : Crt.HoldsC p (n : Nat) y.just) (A : Option Addr) (n1 c : Nat) (B : Option Addr) (m d : Nat) (hg : Sl Rp.sgK w A c y.just.sigs) (hn : n1 = y.just.sigs.length) (hs : Sl rqN w B d y.batch) (hm : m = y.batch.length) (hnil : B = none → d = 0) :
    Calls Try.prog 33 #[.string seed, .int .i64 (tn : Nat), .int .i64 (n : Nat), .agg #[.int .i64 y.view, .int .i64 y.prop, .int .i64 y.just.view, .string y.just.block, .slice A n1 c, .slice B m d]] w fun e w' => e = .returned (.int .i64 0) ∧ RowKit.Below w.heap.size w w' := by
  have mixed : Try.prog.follows .mixedOrders = true := by kernel_rfl
  have hb0 := below_one w (.cells #[.int .i64 y.view, .int .i64 y.prop, .int .i64 y.just.view, .string y.just.block, .slice A n1 c, .slice B m d] 42)
  have HB := Sd.mk hb0
  have X0 := Sd.mk (show Yc w.heap.size y A n1 c B m d (w.alloc (.cells #[.int .i64 y.view, .int .i64 y.prop, .int .i64 y.just.view, .string y.just.block, .slice A n1 c, .slice B m d] 42)) from blk_new w (.cells #[.int .i64 y.view, .int .i64 y.prop, .int .i64 y.just.view, .string y.just.block, .slice A n1 c, .slice B m d] 42))
  have HRT := Sd.mk (fun W (hb : RowKit.Below w.heap.size w W) => right_ok W y hr A n1 c B m d (hg.below hb) hn (hs.below hb) hm)
  have HON := Sd.mk (fun W (hb : RowKit.Below w.heap.size w W) => once_any W B d y.batch (hs.below hb) hnil (by have := hr.n; omega) (fun x hx => by have := hr.all x hx; exact ⟨⟨by have := this.c.1; omega, by have := this.c.2; omega⟩, ⟨by have := this.s.1; omega, by have := this.s.2; omega⟩⟩) m hm)
  have HF := Sd.mk (show (firsts y.batch).length = m by rw [firsts_all hdup, hm])
  have HLD := Sd.mk (fun W => leader_any W y.view ⟨by have := hr.v.1; omega, by have := hr.v.2; omega⟩ n hn1 hn7 y.prop hld)
  have HCH := Sd.mk (fun W (hb : RowKit.Below w.heap.size w W) => show Calls Try.prog 73 #[.string seed, .int .i64 (tn : Nat), .int .i64 (n : Nat), .agg #[.int .i64 y.just.view, .string y.just.block, .slice A n1 c]] W fun e w' => e = .returned (.bool true) ∧ RowKit.Below W.heap.size W w' from
    Crt.certholds_any W seed hsd (tn : Nat) (n : Nat) y.just A c (hg.below hb) n1 hn (by have := blkB_right hr; unfold blkB at this; rw [Rp.app_size, Rp.app_size] at this; omega) p hp true ⟨fun _ => hh, fun _ => rfl⟩)
  have d1 : decide (1 ≤ (n : Int) ∧ (n : Int) ≤ 7) = true := decide_eq_true (by omega)
  have HND := Sd.mk (fun W => (by have := nodes_any W (n : Int); rwa [d1] at this : Calls Try.prog 72 #[.int .i64 (n : Int)] W fun e w' => e = .returned (.bool true) ∧ Below W.heap.size W w'))
  have e1 : decide ((tn : Int) < 0) = false := decide_eq_false (by omega)
  have e2 : decide ((n : Int) ≤ (tn : Int)) = false := decide_eq_false (by omega)
  have e3 : decide (n ≤ tn) = false := decide_eq_false (by omega)
  clear hr hdup hld hp hh hg hn hs hm hnil hb0 d1
  go_enter Try.func33, Try.ntmps33
  go_upto_region 1 with (fail)
  generalize hBx : w.heap.size = Bx at X0 ⊢
  generalize w.alloc _ = W1 at HB X0 ⊢
  have d2 := below_drew' (w := W1) (Below.refl W1.heap.size W1)
  have X1 := Sd.mk (X0.out.below d2)
  have HB1 := Sd.mk (below_then HB.out d2)
  have S0 := X1.out.at
  refine wp_region_held_drew (S := fun W => W.cell? ⟨Bx, 0, none⟩ = some (.int .i64 y.view) ∧ W.cell? ⟨Bx, 1, none⟩ = some (.int .i64 y.prop) ∧ W.cell? ⟨Bx, 2, none⟩ = some (.int .i64 y.just.view) ∧ W.cell? ⟨Bx, 3, none⟩ = some (.string y.just.block) ∧ W.cell? ⟨Bx, 4, none⟩ = some (.slice A n1 c) ∧ W.cell? ⟨Bx, 5, none⟩ = some (.slice B m d)) (by kernel_rfl) S0 (fun hHeld => ?_)
  simp only [List.size_toArray, List.length_cons, List.length_nil]
  clear d2 S0 X0 HB
  generalize W1.drew = W2 at X1 HB1 hHeld ⊢
  (refine wpAnyH_take (i := 0) (v := ?_) rfl (by kernel_rfl) (by kernel_rfl) (by kernel_rfl) (fun _ _ _ h => h) (.inl ⟨by rfl, ?_⟩) (by assumption) ?_; rotate_left; (focus (intro w hSw; obtain ⟨s0, s1, s2, s3, s4, s5⟩ := hSw; (try dsimp only at s0 s1 s2 s3 s4 s5); (try simp only [List.getElem_toArray, List.getElem_cons_succ, List.getElem_cons_zero]); go_simp; try (with_reducible rfl))); try simp only [List.getElem_toArray, List.getElem_cons_succ, List.getElem_cons_zero, Act.put, List.setIfInBounds_toArray, List.set_cons_zero, List.set_cons_succ])
  (refine wpAnyH_ready (rs := [1]) (by kernel_rfl) (by simp) ?_; refine AllReadyH.cons rfl (fun K hK => ?_) AllReadyH.nil)
  go_simp
  go_at_call 71
  with_reducible refine (HRT.out _ HB1.out).mono ?_
  rintro e w3 ⟨rfl, hb⟩
  have X3 := Sd.mk (X1.out.below hb)
  have HB3 := Sd.mk (below_then HB1.out hb)
  have S3 := X3.out.at
  (refine hK.out _ _ S3 (fun hHeld => ?_); (clear hK K; try simp only [List.getElem_toArray, List.getElem_cons_succ, List.getElem_cons_zero, Act.put, List.setIfInBounds_toArray, List.set_cons_zero, List.set_cons_succ]))
  (refine wpAnyH_take (i := 2) (v := ?_) rfl (by kernel_rfl) (by kernel_rfl) (by kernel_rfl) (fun _ _ _ h => h) (.inl ⟨by rfl, ?_⟩) (by assumption) ?_; rotate_left; (focus (intro w hSw; obtain ⟨s0, s1, s2, s3, s4, s5⟩ := hSw; (try dsimp only at s0 s1 s2 s3 s4 s5); (try simp only [List.getElem_toArray, List.getElem_cons_succ, List.getElem_cons_zero]); go_simp; try (with_reducible rfl))); try simp only [List.getElem_toArray, List.getElem_cons_succ, List.getElem_cons_zero, Act.put, List.setIfInBounds_toArray, List.set_cons_zero, List.set_cons_succ])
  (refine wpAnyH_take (i := 3) (v := ?_) rfl (by kernel_rfl) (by kernel_rfl) (by kernel_rfl) (fun _ _ _ h => h) (.inl ⟨by rfl, ?_⟩) (by assumption) ?_; rotate_left; (focus (intro w hSw; obtain ⟨s0, s1, s2, s3, s4, s5⟩ := hSw; (try dsimp only at s0 s1 s2 s3 s4 s5); (try simp only [List.getElem_toArray, List.getElem_cons_succ, List.getElem_cons_zero]); go_simp; try (with_reducible rfl))); try simp only [List.getElem_toArray, List.getElem_cons_succ, List.getElem_cons_zero, Act.put, List.setIfInBounds_toArray, List.set_cons_zero, List.set_cons_succ])
  (refine wpAnyH_take (i := 4) (v := ?_) rfl (by kernel_rfl) (by kernel_rfl) (by kernel_rfl) (fun _ _ _ h => h) (.inl ⟨by rfl, ?_⟩) (by assumption) ?_; rotate_left; (focus (intro w hSw; obtain ⟨s0, s1, s2, s3, s4, s5⟩ := hSw; (try dsimp only at s0 s1 s2 s3 s4 s5); (try simp only [List.getElem_toArray, List.getElem_cons_succ, List.getElem_cons_zero]); go_simp; try (with_reducible rfl))); try simp only [List.getElem_toArray, List.getElem_cons_succ, List.getElem_cons_zero, Act.put, List.setIfInBounds_toArray, List.set_cons_zero, List.set_cons_succ])
  (refine wpAnyH_take (i := 5) (v := ?_) rfl (by kernel_rfl) (by kernel_rfl) (by kernel_rfl) (fun _ _ _ h => h) (.inl ⟨by rfl, ?_⟩) (by assumption) ?_; rotate_left; (focus (intro w hSw; obtain ⟨s0, s1, s2, s3, s4, s5⟩ := hSw; (try dsimp only at s0 s1 s2 s3 s4 s5); (try simp only [List.getElem_toArray, List.getElem_cons_succ, List.getElem_cons_zero]); go_simp; try (with_reducible rfl))); try simp only [List.getElem_toArray, List.getElem_cons_succ, List.getElem_cons_zero, Act.put, List.setIfInBounds_toArray, List.set_cons_zero, List.set_cons_succ])
  (refine wpAnyH_take (i := 8) (v := ?_) rfl (by kernel_rfl) (by kernel_rfl) (by kernel_rfl) (fun _ _ _ h => h) (.inl ⟨by rfl, ?_⟩) (by assumption) ?_; rotate_left; (focus (intro w hSw; obtain ⟨s0, s1, s2, s3, s4, s5⟩ := hSw; (try dsimp only at s0 s1 s2 s3 s4 s5); (try simp only [List.getElem_toArray, List.getElem_cons_succ, List.getElem_cons_zero]); go_simp; try (with_reducible rfl))); try simp only [List.getElem_toArray, List.getElem_cons_succ, List.getElem_cons_zero, Act.put, List.setIfInBounds_toArray, List.set_cons_zero, List.set_cons_succ])
  (refine wpAnyH_take (i := 9) (v := ?_) rfl (by kernel_rfl) (by kernel_rfl) (by kernel_rfl) (fun _ _ _ h => h) (.inl ⟨by rfl, ?_⟩) (by assumption) ?_; rotate_left; (focus (intro w hSw; obtain ⟨s0, s1, s2, s3, s4, s5⟩ := hSw; (try dsimp only at s0 s1 s2 s3 s4 s5); (try simp only [List.getElem_toArray, List.getElem_cons_succ, List.getElem_cons_zero]); go_simp; try (with_reducible rfl))); try simp only [List.getElem_toArray, List.getElem_cons_succ, List.getElem_cons_zero, Act.put, List.setIfInBounds_toArray, List.set_cons_zero, List.set_cons_succ])
  (refine wpAnyH_take (i := 10) (v := ?_) rfl (by kernel_rfl) (by kernel_rfl) (by kernel_rfl) (fun _ _ _ h => h) (.inl ⟨by rfl, ?_⟩) (by assumption) ?_; rotate_left; (focus (intro w hSw; obtain ⟨s0, s1, s2, s3, s4, s5⟩ := hSw; (try dsimp only at s0 s1 s2 s3 s4 s5); (try simp only [List.getElem_toArray, List.getElem_cons_succ, List.getElem_cons_zero]); go_simp; try (with_reducible rfl))); try simp only [List.getElem_toArray, List.getElem_cons_succ, List.getElem_cons_zero, Act.put, List.setIfInBounds_toArray, List.set_cons_zero, List.set_cons_succ])
  (refine wpAnyH_ready (rs := [6]) (by kernel_rfl) (by simp) ?_; refine AllReadyH.cons rfl (fun K hK => ?_) AllReadyH.nil)
  go_simp
  go_at_call 60
  refine (HON.out _ HB3.out).mono ?_
  rintro e w4 ⟨v, rfl, ho⟩
  obtain ⟨B2, d2, rfl, -⟩ := own_rq ho.own
  rw [HF.out]
  have X4 := Sd.mk (X3.out.below ho.bel)
  have HB4 := Sd.mk (below_then HB3.out ho.bel)
  have S4 := X4.out.at
  clear ho
  (refine hK.out _ _ S4 (fun hHeld => ?_); (clear hK K; try simp only [List.getElem_toArray, List.getElem_cons_succ, List.getElem_cons_zero, Act.put, List.setIfInBounds_toArray, List.set_cons_zero, List.set_cons_succ]))
  (refine wpAnyH_take (i := 7) (v := ?_) rfl (by kernel_rfl) (by kernel_rfl) (by kernel_rfl) (fun _ _ _ h => h) (.inl ⟨by rfl, ?_⟩) (by assumption) ?_; rotate_left; (focus (intro w hSw; obtain ⟨s0, s1, s2, s3, s4, s5⟩ := hSw; (try dsimp only at s0 s1 s2 s3 s4 s5); (try simp only [List.getElem_toArray, List.getElem_cons_succ, List.getElem_cons_zero]); go_simp; try (with_reducible rfl))); try simp only [List.getElem_toArray, List.getElem_cons_succ, List.getElem_cons_zero, Act.put, List.setIfInBounds_toArray, List.set_cons_zero, List.set_cons_succ])
  (refine wpAnyH_take (i := 11) (v := ?_) rfl (by kernel_rfl) (by kernel_rfl) (by kernel_rfl) (fun _ _ _ h => h) (.inl ⟨by rfl, ?_⟩) (by assumption) ?_; rotate_left; (focus (intro w hSw; obtain ⟨s0, s1, s2, s3, s4, s5⟩ := hSw; (try dsimp only at s0 s1 s2 s3 s4 s5); (try simp only [List.getElem_toArray, List.getElem_cons_succ, List.getElem_cons_zero]); go_simp; try (with_reducible rfl))); try simp only [List.getElem_toArray, List.getElem_cons_succ, List.getElem_cons_zero, Act.put, List.setIfInBounds_toArray, List.set_cons_zero, List.set_cons_succ])
  (refine wpAnyH_take (i := 12) (v := ?_) rfl (by kernel_rfl) (by kernel_rfl) (by kernel_rfl) (fun _ _ _ h => h) (.inl ⟨by rfl, ?_⟩) (by assumption) ?_; rotate_left; (focus (intro w hSw; obtain ⟨s0, s1, s2, s3, s4, s5⟩ := hSw; (try dsimp only at s0 s1 s2 s3 s4 s5); (try simp only [List.getElem_toArray, List.getElem_cons_succ, List.getElem_cons_zero]); go_simp; try (with_reducible rfl))); try simp only [List.getElem_toArray, List.getElem_cons_succ, List.getElem_cons_zero, Act.put, List.setIfInBounds_toArray, List.set_cons_zero, List.set_cons_succ])
  (refine wpAnyH_take (i := 13) (v := ?_) rfl (by kernel_rfl) (by kernel_rfl) (by kernel_rfl) (fun _ _ _ h => h) (.inl ⟨by rfl, ?_⟩) (by assumption) ?_; rotate_left; (focus (intro w hSw; obtain ⟨s0, s1, s2, s3, s4, s5⟩ := hSw; (try dsimp only at s0 s1 s2 s3 s4 s5); (try simp only [List.getElem_toArray, List.getElem_cons_succ, List.getElem_cons_zero]); go_simp; try (with_reducible rfl))); try simp only [List.getElem_toArray, List.getElem_cons_succ, List.getElem_cons_zero, Act.put, List.setIfInBounds_toArray, List.set_cons_zero, List.set_cons_succ])
  refine wpAnyH_done (by kernel_rfl) ?_ _
  clear hHeld S3 S4 HRT HON HF HB1 HB3 X1 X3
  go_upto_region 5 with (first
    | (go_at_call 72; (with_reducible refine (HND.out _).mono ?_); rintro e w5 ⟨rfl, hb⟩; have X5 := Sd.mk (X4.out.below hb); have HB5 := Sd.mk (below_then HB4.out hb); clear hb))
  obtain ⟨u0, u1, u2, u3, u4, u5⟩ := X5.out.at
  have c0 := fun d os => cell_regrown u0 d os
  have c1 := fun d os => cell_regrown u1 d os
  clear u0 u1 u2 u3 u4 u5
  refine wp_region_quiet_below (by assumption) (by kernel_rfl) ?_
  repeat (go_big_quiet_step ((go_at_call 61; refine Calls.regrown_of ((HLD.out _).mono (fun e w' hq => ⟨hq.1, by rw [hq.2]; exact Below.refl _ _⟩)))))
  refine wpQuiet_nil ?_
  rintro W9 ⟨⟨nq, osq⟩, rfl⟩
  have X9 := Sd.mk (X5.out.below (below_regrown w5 nq osq))
  have HB9 := Sd.mk (below_then HB5.out (below_regrown w5 nq osq))
  obtain ⟨u0, u1, u2, u3, u4, u5⟩ := X9.out.at
  clear c0 c1 X5 HB5 X4 HB4
  go_wp2_with (first
    | (go_at_call 73; (with_reducible refine (HCH.out _ HB9.out).mono ?_); rintro e w6 ⟨rfl, hb⟩; have HB6 := Sd.mk (below_then HB9.out hb); clear hb))
  go_ret
  exact ⟨rfl, HB6.out⟩
end Go.Proofs.Ytnomgkmeomlccaa.Blk
set_option linter.unusedVariables false
set_option linter.unusedSimpArgs false
namespace Go.Proofs.Ytnomgkmeomlccaa.Crt
open Go.RowKit Go.Sort Rd Api Own Mv App Num Dig Mac Rp

def rgK : Rk Rg where
  sz := 2
  K := fun _ x cs => cs = fG x
  len := fun h => by rw [h]; rfl
  keep := fun _ h => h
theorem rg_at {W : World} {A : Option Addr} {l : List Rg} (h : Row rgK W A l) {i : Nat} {x : Rg} (hx : l[i]? = some x) : ∃ b o, A = some ⟨b, o, none⟩ ∧ W.cell? ⟨b, o + i * 2, none⟩ = some (.int .i64 x.f) ∧ W.cell? ⟨b, o + i * 2 + 1, none⟩ = some (.slice x.a x.n x.c) := by
  obtain ⟨b, o, cs, hA, rfl, hc⟩ := h i x hx
  exact ⟨b, o, hA, hc 0 _ rfl, hc 1 _ rfl⟩
theorem own_rg {W : World} {B : Nat} {v : Value} {l : List Rg} (h : OwnR fG 2 W B 51 v l) : ∃ A c, v = .slice A l.length c ∧ Sl rgK W A c l := OwnR.reads (d := rgK) (f := fG) (n := 2) (fun _ _ => rfl) (fun _ => rfl) rfl h
def sgs (seed tx : ByteArray) (n : Nat) (r : List Rg) : List Sg.Sig := r.map fun x => ⟨x.f, rtags seed x.f tx n⟩
theorem sgs_of {W : World} {A : Option Addr} {c : Nat} {r : List Rg} (h : Sl rgK W A c r) {seed tx : ByteArray} {n : Nat} (ht : ∀ x ∈ r, x.n = n ∧ OwnR fT 1 W 0 9 (.slice x.a x.n x.c) (rtags seed x.f tx n)) : Sl sgK W A c (sgs seed tx n r) := by
  refine ⟨by unfold sgs; rw [List.length_map]; exact h.le, h.cap, fun i y hy => ?_⟩
  unfold sgs at hy
  rw [List.getElem?_map] at hy
  obtain ⟨x, hx, rfl⟩ := Option.map_eq_some_iff.1 hy
  obtain ⟨b, o, hA, p0, p1⟩ := rg_at h.row hx
  obtain ⟨hn, ho⟩ := ht x (List.mem_of_getElem? hx)
  obtain ⟨A2, c2, e2, s2⟩ := OwnR.reads (d := strK0) (f := fT) (n := 1) (fun _ _ => rfl) (fun _ => rfl) rfl ho
  simp only [Value.slice.injEq, rtags_len] at e2
  obtain ⟨e3, e4, e5⟩ := e2
  refine ⟨b, o, [.int .i64 x.f, .slice x.a (rtags seed x.f tx n).length x.c], hA, ⟨[.int .i64 x.f], [.slice x.a (rtags seed x.f tx n).length x.c], rfl, rfl, [.slice x.a (rtags seed x.f tx n).length x.c], [], rfl, ⟨x.a, x.c, rfl, ?_, ?_, ?_⟩, rfl⟩, fun j v hv => ?_⟩
  · rw [e5]; exact s2.le
  · rw [e5]; unfold maxLen; exact s2.cap
  · intro j t htj
    obtain ⟨b2, o2, cs, hA2, hK, hc⟩ := s2.row j t htj
    exact ⟨b2, o2, cs, by rw [e3]; exact hA2, ⟨hK, by have := rtags_16 seed x.f tx n t (List.mem_of_getElem? htj); unfold maxLen; omega⟩, hc⟩
  · match j, hv with
    | 0, hv => simp only [List.getElem?_cons_zero, Option.some.injEq] at hv; subst hv; exact p0
    | 1, hv => simp only [List.getElem?_cons_succ, List.getElem?_cons_zero, Option.some.injEq] at hv; subst hv; rw [rtags_len, ← hn]; exact p1
    | j + 2, hv => simp at hv
theorem sgs_rises (seed tx : ByteArray) (n : Nat) : ∀ (r : List Rg) (k : Int), r.Pairwise (fun x y => x.f < y.f) → (∀ x ∈ r, k < x.f) → Rises k (sgs seed tx n r)
  | [], _, _, _ => trivial
  | x :: r, k, h, hk => by
    obtain ⟨h1, h2⟩ := List.pairwise_cons.1 h
    exact ⟨hk x (by simp), sgs_rises seed tx n r x.f h2 h1⟩
theorem sgs_right {seed tx : ByteArray} {n : Nat} (hn : n ≤ 7) {r : List Rg} (hl : r.length ≤ n) (hp : r.Pairwise (fun x y => x.f < y.f)) (hr : ∀ x ∈ r, 0 ≤ x.f ∧ x.f < (n : Int)) {v : Int} (hv : 0 ≤ v ∧ v ≤ 1000000) {b : ByteArray} (hb : b.size = 32) : RightCert ⟨v, b, sgs seed tx n r⟩ := by
  refine ⟨hv, hb, by show (sgs seed tx n r).length ≤ 7; unfold sgs; rw [List.length_map]; omega, sgs_rises seed tx n r (-1) hp (fun x hx => by have := hr x hx; omega), fun s hs => ?_⟩
  obtain ⟨x, hx, rfl⟩ := List.mem_map.1 hs
  have := hr x hx
  exact ⟨this.1, by show x.f < 7; omega, by show (rtags seed x.f tx n).length ≤ 7; rw [rtags_len]; exact hn, rtags_16 seed x.f tx n⟩
theorem endF_in {i : Int} (h0 : 0 ≤ i) (h1 : i ≤ 20) : endF i = i := by unfold endF; rw [if_neg (by omega)]
theorem all16_of {l : List ByteArray} (h : ∀ t ∈ l, t.size = 16) : all16 l := fun j hj => h _ (List.getElem_mem hj)
theorem sgs_hold {seed : ByteArray} {n : Nat} (hn1 : 1 ≤ n) (hn : n ≤ 7) {r : List Rg} (hr : ∀ x ∈ r, 0 ≤ x.f ∧ x.f < (n : Int)) {v : Int} {b : ByteArray} {t : Nat} (ht : t < n) {p : Sg.Sig → Bool} (hp : Tells seed (t : Nat) (n : Nat) ⟨v, b, sgs seed (vtxt v b) n r⟩ p) : (goodF p (sgs seed (vtxt v b) n r)).length = r.length := by
  unfold goodF
  rw [List.length_map, List.filter_eq_self.2, sgs, List.length_map]
  intro s hs
  obtain ⟨x, hx, rfl⟩ := List.mem_map.1 hs
  have hx0 := hr x hx
  rw [hp]
  refine ⟨by omega, by omega, hx0, by show ((rtags seed x.f (vtxt v b) n).length : Int) = n; rw [rtags_len], all16_of (rtags_16 _ _ _ _), ?_⟩
  show (rtags seed x.f (vtxt v b) n)[((t : Nat) : Int).toNat]? = some (mtag seed (endF x.f) (endF (t : Nat)) (vtxt v b))
  rw [Int.toNat_natCast, rtags_at _ _ _ ht, endF_in (by omega) (by omega), endF_in (by omega) (by omega)]
end Go.Proofs.Ytnomgkmeomlccaa.Crt
namespace Go.Proofs.Ytnomgkmeomlccaa.Blk
open Go.RowKit Go.Sort Rd Api Own Mv App Num Dig

set_option maxHeartbeats 8000000 in
set_option maxRecDepth 100000 in
theorem rightrq_any (w : World) (x : Rq) : Calls Try.prog 31 #[.agg #[.int .i64 x.c, .int .i64 x.s, .string x.b]] w (Sg.Tells (RightRq x) w) := by
  have HB := Sd.mk (below_one w (.cells #[.int .i64 x.c, .int .i64 x.s, .string x.b] 47))
  have X0 := Sd.mk (blk_new w (.cells #[.int .i64 x.c, .int .i64 x.s, .string x.b] 47))
  obtain ⟨b1, h1⟩ : ∃ b, decide (0 ≤ x.c) = b := ⟨_, rfl⟩
  obtain ⟨b2, h2⟩ : ∃ b, decide (x.c < 4) = b := ⟨_, rfl⟩
  obtain ⟨b3, h3⟩ : ∃ b, decide (1 ≤ x.s) = b := ⟨_, rfl⟩
  obtain ⟨b4, h4⟩ : ∃ b, decide (x.s ≤ 2147483647) = b := ⟨_, rfl⟩
  obtain ⟨b5, h5⟩ : ∃ b, decide ((x.b.size : Int) ≤ 40) = b := ⟨_, rfl⟩
  have HQ := Sd.mk (show (b1 && b2 && b3 && b4 && b5) = true → RightRq x from fun h => by
    simp only [Bool.and_eq_true] at h
    obtain ⟨⟨⟨⟨k1, k2⟩, k3⟩, k4⟩, k5⟩ := h
    rw [k1] at h1; rw [k2] at h2; rw [k3] at h3; rw [k4] at h4; rw [k5] at h5
    have := of_decide_eq_true h1
    have := of_decide_eq_true h2
    have := of_decide_eq_true h3
    have := of_decide_eq_true h4
    have := of_decide_eq_true h5
    exact ⟨⟨by omega, by omega⟩, ⟨by omega, by omega⟩, by omega⟩)
  go_enter Try.func31, Try.ntmps31
  go_upto_region 1 with (fail)
  generalize hBx : w.heap.size = Bx at X0 ⊢
  generalize w.alloc _ = W1 at HB X0 ⊢
  have c0 := blk_at X0.out 0 _ rfl
  have c1 := blk_at X0.out 1 _ rfl
  have c2 := blk_at X0.out 2 _ rfl
  cases b1 <;> cases b2 <;> cases b3 <;> cases b4 <;> cases b5
  all_goals
    go_wp2
    go_ret
    exact ⟨_, rfl, fun h => HQ.out h, by have h := HB.out; first | exact h | rwa [hBx] at h⟩
end Go.Proofs.Ytnomgkmeomlccaa.Blk

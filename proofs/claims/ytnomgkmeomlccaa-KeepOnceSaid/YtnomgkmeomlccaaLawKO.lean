/- KeepOnce: walked. -/
import Derived.Test.YtnomgkmeomlccaaKeI
import Derived.Test.YtnomgkmeomlccaaKeH
import Derived.Test.YtnomgkmeomlccaaKeJ
import Derived.Test.YtnomgkmeomlccaaArr
set_option linter.unusedVariables false
set_option linter.unusedSimpArgs false

namespace Go.Proofs.Ytnomgkmeomlccaa.Kee
open Go.RowKit Go.Sort Rd Api Own Mv App Num Dig
open Blk (Block Rq rqN fR rq_at rkey Ro own_rq digB coreB)

theorem opens_tls : Opens Try.prog 22 (Rk.slice (Rk.arr (Rk.int .u8) 3)) := opens_slice Try.underlying22 (Arr.opens_arr Try.underlying24 (opens_int Try.underlying5) (by kernel_rfl) (by kernel_rfl)) (by kernel_rfl) (by decide)
theorem u8_of {a : Int} (h : (Lit.int .u8 a).wf = true) : ∃ n : Nat, a = (n : Int) ∧ n < 256 := by
  have h2 : 0 ≤ a ∧ a ≤ 255 := by simpa [Lit.wf, IntKind.min, IntKind.max, IntKind.bits, IntKind.signed] using h
  exact ⟨a.toNat, by omega, by omega⟩
theorem tl_of {w : World} {A : Option Addr} {c : Nat} {l : List (List Int)} (h1 : l.length ≤ c) (h2 : c ≤ maxLen) (h3 : Row (Rk.arr (Rk.int .u8) 3) w A l) : ∃ l' : List Tl, l'.length = l.length ∧ Sl tlN w A c l' ∧ All8 l' := by
  have key : ∀ (j : Nat) (x : List Int), l[j]? = some x → ∃ (p : Tl) (b o : Nat), x = [p.1, p.2.1, p.2.2] ∧ (∃ a k c, T8 p a k c) ∧ A = some ⟨b, o, none⟩ ∧ ∀ (i : Nat) (v : Value), (fT p)[i]? = some v → w.cell? ⟨b, o + j * 3 + i, none⟩ = some v := by
    intro j x hx
    obtain ⟨b, o, cs, hA, hK, hc⟩ := h3 j x hx
    obtain ⟨a, r, c0, c1, rfl, rfl, ⟨rfl, wa⟩, k, r2, c2, c3, rfl, rfl, ⟨rfl, wk⟩, c, r3, c4, c5, rfl, rfl, ⟨rfl, wc⟩, rfl, rfl⟩ := hK
    obtain ⟨a', ha, ha2⟩ := u8_of wa
    obtain ⟨k', hk, hk2⟩ := u8_of wk
    obtain ⟨c', hc', hc2⟩ := u8_of wc
    exact ⟨(a, k, c), b, o, rfl, ⟨a', k', c', ha, hk, hc', ha2, hk2, hc2⟩, hA, fun i v hv => hc i v hv⟩
  refine ⟨l.map (fun x => (x.getD 0 0, x.getD 1 0, x.getD 2 0)), by simp, ⟨by simpa using h1, h2, fun j p hp => ?_⟩, fun p hp => ?_⟩
  · rw [List.getElem?_map] at hp
    obtain ⟨x, hx, rfl⟩ := Option.map_eq_some_iff.1 hp
    obtain ⟨p, b, o, rfl, -, hA, hc⟩ := key j x hx
    exact ⟨b, o, fT p, hA, rfl, hc⟩
  · obtain ⟨x, hx, rfl⟩ := List.mem_map.1 hp
    obtain ⟨j, hj⟩ := List.getElem?_of_mem hx
    obtain ⟨p, b, o, rfl, h8, -⟩ := key j x hj
    exact h8
/-- each on the last one -/
def strt (l : List Tl) : List Tl := l.mapIdx (fun j p => (p.1, (j : Int), p.2.2))
theorem strt_len (l : List Tl) : (strt l).length = l.length := by simp [strt]
theorem strt_at {l : List Tl} {i : Nat} {p : Tl} (h : l[i]? = some p) : (strt l)[i]? = some (p.1, (i : Int), p.2.2) := by simp [strt, h]
theorem strt_take {l : List Tl} {i : Nat} {p : Tl} (h : l[i]? = some p) : (strt l).take (i + 1) = (strt l).take i ++ [(p.1, (i : Int), p.2.2)] := by rw [List.take_add_one, strt_at h]; rfl
theorem strt_8 {l : List Tl} (h : All8 l) (hl : l.length ≤ 20) : All8 (strt l) := by
  intro p hp
  obtain ⟨i, hi⟩ := List.getElem?_of_mem hp
  have hlt := (List.getElem?_eq_some_iff.1 hi).1
  rw [strt_len] at hlt
  have h2 := strt_at (List.getElem?_eq_getElem hlt)
  rw [hi] at h2
  cases Option.some.inj h2
  obtain ⟨a, k, c, h8⟩ := h l[i] (List.getElem_mem hlt)
  exact ⟨a, i, c, h8.e1, rfl, h8.e3, h8.a, by omega, h8.c⟩
theorem tp_take {l : List Tl} {i : Nat} (h : i ≤ l.length) : tp (chn l) i = tp (chn (l.take i)) i := by
  cases i with
  | zero => rfl
  | succ k =>
    have hk : l[k]? = some l[k] := List.getElem?_eq_getElem (by omega)
    have h1 := chn_at l k _ hk
    have h2 := chn_at (l.take (k + 1)) k l[k] (by rw [List.getElem?_take_of_lt (by omega)]; exact hk)
    rw [List.take_take, Nat.min_eq_left (by omega)] at h2
    rw [tp_succ h1, tp_succ h2]
theorem strt_link (l : List Tl) : Link (chn (strt l)) := by
  intro i b hb
  have hlt := (List.getElem?_eq_some_iff.1 hb).1
  rw [chn_len, strt_len] at hlt
  have h1 := strt_at (List.getElem?_eq_getElem hlt)
  have h2 := chn_at _ i _ h1
  rw [hb] at h2
  rw [Option.some.inj h2, tp_take (by rw [strt_len]; omega)]
  have hl : (chn ((strt l).take i)).length = i := by rw [chn_len, List.length_take, strt_len]; omega
  have hp : plc i (l[i].1, (i : Int), l[i].2.2) = i := by
    show (((i : Int)) % ((i : Int) + 1)).toNat = i
    rw [Int.emod_eq_of_lt (by omega) (by omega)]
    omega
  unfold nx
  rw [hl, hp]
  rfl
/-- a row of what is told, of the call's own -/
structure Ow (w : World) (v : Value) (l : List Tl) (W : World) : Prop where
  own : OwnR fT 3 W 0 24 v l
  new : ∀ k, v.ownBlock = some k → w.heap.size ≤ k
  bel : RowKit.Below w.heap.size w W
theorem Ow.below {w W W1 : World} {v : Value} {l : List Tl} (h : Ow w v l W) (hb : RowKit.Below W.heap.size W W1) : Ow w v l W1 := ⟨h.own.below hb, h.new, below_then h.bel hb⟩
theorem Ow.push {w W W1 : World} {v v1 : Value} {l : List Tl} {x : Tl} (h : Ow w v l W) (ho : OwnR fT 3 W1 0 24 v1 (l ++ [x])) (hg : W.grownBy W1 v.ownBlock) (hn : v1.ownBlock = v.ownBlock ∨ v1.ownBlock = some (W.heap.size + 1)) : Ow w v1 (l ++ [x]) W1 := by
  refine ⟨ho, fun j hj => ?_, below_grown h.bel hg h.bel.size h.new⟩
  rcases hn with e | e
  · exact h.new j (e ▸ hj)
  · rw [hj] at e
    cases Option.some.inj e
    have := h.bel.size
    omega
theorem ro_sl {w W : World} {A : Option Addr} {n c : Nat} {l : List Rq} (h : Ro w (.slice A n c) l W) : Sl rqN W A c l := by
  obtain ⟨A2, c2, e, hs⟩ := own_rq h.own
  simp only [Value.slice.injEq] at e
  obtain ⟨rfl, -, rfl⟩ := e
  exact hs
-- <L1
set_option maxHeartbeats 16000000 in
set_option maxRecDepth 100000 in
theorem ko_law (w : World) (A : Option Addr) (c : Nat) (l : List Tl) (h : Sl tlN w A c l) (h8 : All8 l) (n : Nat) (hn : n = l.length) :
    Calls Try.prog 3 #[.slice A n c] w fun e w' => e = .returned (.bool true) ∧ RowKit.Below w.heap.size w w' := by
  have mixed : Try.prog.follows .mixedOrders = true := by kernel_rfl
  have HS := Sd.mk h
  have HN := Sd.mk hn
  have H8 := Sd.mk h8
  have nc := Nat.le_trans h.le h.cap
  rw [← hn] at nc
  clear h hn h8
  by_cases hle : n ≤ 20
  · have d20 : decide ((20 : Int) < (n : Int)) = false := decide_eq_false (by omega)
    have d20b : decide (20 < n) = false := decide_eq_false (by omega)
    go_enter Try.func3, Try.ntmps3
    go_upto_region 3 with (first
      | (go_at_call 11; (with_reducible refine (awake_any _).mono ?_); rintro e w1 ⟨rfl, hb⟩; have HB1 := Sd.mk hb; clear hb))
    clear d20 d20b
    go_wp2
    go_loopg [3, 4] n (fun gk v3 v4 wr => ∃ i, i + gk = n ∧ v4 = .int .i64 (i : Nat) ∧ Sd (Ow w v3 ((strt l).take i) wr))
    case atStart => exact ⟨0, by omega, rfl, ⟨OwnR.nil _ _ _ _ _, fun k hk => (by simp [Value.ownBlock] at hk), HB1.out⟩⟩
    case round =>
      clear HB1
      obtain ⟨i, hi, rfl, HO⟩ := hrel
      by_cases hlt : i < n
      · have hii : (i : Int) < n := by omega
        obtain ⟨x, hx⟩ : ∃ x, l[i]? = some x := ⟨l[i]'(by rw [← HN.out]; exact hlt), List.getElem?_eq_getElem _⟩
        obtain ⟨a, k0, c0, H0⟩ := H8.out x (List.mem_of_getElem? hx)
        obtain ⟨b1, o1, rfl, p0, -, p2⟩ := tl_at HS.out.row hx
        rw [H0.e1] at p0
        rw [H0.e3] at p2
        have HTK := Sd.mk (show (strt l).take (i + 1) = (strt l).take i ++ [((a : Int), (i : Int), (c0 : Int))] by rw [strt_take hx, H0.e1, H0.e3])
        have HTL := Sd.mk (show ((strt l).take i).length = i by rw [List.length_take, strt_len, ← HN.out]; omega)
        obtain ⟨out, hout⟩ : ∃ out, (strt l).take i = out := ⟨_, rfl⟩
        rw [hout] at HTK HTL HO
        have HO5 := Sd.mk (HO.out.below (below_drew' (Below.refl _ _)))
        have S0 : wr.drew.cell? ⟨b1, o1 + i * 3, none⟩ = some (.int .u8 (a : Nat)) ∧ wr.drew.cell? ⟨b1, o1 + i * 3 + 2, none⟩ = some (.int .u8 (c0 : Nat)) := ⟨cell_below HO5.out.bel p0, cell_below HO5.out.bel p2⟩
        obtain ⟨A3, c3, rfl⟩ := OwnR.slice HO5.out.own
        rw [HTL.out] at HO5 ⊢
        have HPQ := Sd.mk (And.intro p0 p2)
        clear hx p0 p2 HO hout H0
        have hw0 : IntKind.u8.wrap ((i : Nat) : Int) = ((i : Nat) : Int) := by rw [show IntKind.u8.wrap ((i : Nat) : Int) = ((i : Nat) : Int) % 256 by simp [IntKind.wrap, IntKind.bits, IntKind.signed]]; omega
        go_upto_region 7 with (fail)
        refine Peel.region_peel (n := 16) (S := fun W => W.cell? ⟨b1, o1 + i * 3, none⟩ = some (.int .u8 (a : Nat)) ∧ W.cell? ⟨b1, o1 + i * 3 + 2, none⟩ = some (.int .u8 (c0 : Nat))) (by kernel_rfl) (by kernel_rfl) S0 (fun hHeld => ?_)
        simp only [List.take_succ_cons, List.take_zero]
        generalize wr.drew = W5 at HO5 S0 hHeld ⊢
        (refine Peel.take 0 (v := ?_) rfl rfl (by kernel_rfl) (by kernel_rfl) (by kernel_rfl) (fun _ _ _ h => h) (by assumption) ?_ ?_; rotate_left; (focus (intro w hSw; (try dsimp only at hSw); obtain ⟨s0, s1⟩ := hSw; (try simp only [List.getElem_toArray, List.getElem_cons_succ, List.getElem_cons_zero]); go_simp; try (with_reducible rfl))); try simp only [List.getElem_toArray, List.getElem_cons_succ, List.getElem_cons_zero, Act.put, List.setIfInBounds_toArray, List.set_cons_zero, List.set_cons_succ])
        (refine Peel.take 1 (v := ?_) rfl rfl (by kernel_rfl) (by kernel_rfl) (by kernel_rfl) (fun _ _ _ h => h) (by assumption) ?_ ?_; rotate_left; (focus (intro w hSw; (try dsimp only at hSw); obtain ⟨s0, s1⟩ := hSw; (try simp only [List.getElem_toArray, List.getElem_cons_succ, List.getElem_cons_zero]); go_simp; try (with_reducible rfl))); try simp only [List.getElem_toArray, List.getElem_cons_succ, List.getElem_cons_zero, Act.put, List.setIfInBounds_toArray, List.set_cons_zero, List.set_cons_succ])
        (refine Peel.take 2 (v := ?_) rfl rfl (by kernel_rfl) (by kernel_rfl) (by kernel_rfl) (fun _ _ _ h => h) (by assumption) ?_ ?_; rotate_left; (focus (intro w hSw; (try dsimp only at hSw); obtain ⟨s0, s1⟩ := hSw; (try simp only [List.getElem_toArray, List.getElem_cons_succ, List.getElem_cons_zero]); go_simp; try (with_reducible rfl))); try simp only [List.getElem_toArray, List.getElem_cons_succ, List.getElem_cons_zero, Act.put, List.setIfInBounds_toArray, List.set_cons_zero, List.set_cons_succ])
        (refine Peel.take 3 (v := ?_) rfl rfl (by kernel_rfl) (by kernel_rfl) (by kernel_rfl) (fun _ _ _ h => h) (by assumption) ?_ ?_; rotate_left; (focus (intro w hSw; (try dsimp only at hSw); obtain ⟨s0, s1⟩ := hSw; (try simp only [List.getElem_toArray, List.getElem_cons_succ, List.getElem_cons_zero]); go_simp; try (with_reducible rfl))); try simp only [List.getElem_toArray, List.getElem_cons_succ, List.getElem_cons_zero, Act.put, List.setIfInBounds_toArray, List.set_cons_zero, List.set_cons_succ])
        (refine Peel.take 4 (v := ?_) rfl rfl (by kernel_rfl) (by kernel_rfl) (by kernel_rfl) (fun _ _ _ h => h) (by assumption) ?_ ?_; rotate_left; (focus (intro w hSw; (try dsimp only at hSw); obtain ⟨s0, s1⟩ := hSw; (try simp only [List.getElem_toArray, List.getElem_cons_succ, List.getElem_cons_zero]); go_simp; try (with_reducible rfl))); try simp only [List.getElem_toArray, List.getElem_cons_succ, List.getElem_cons_zero, Act.put, List.setIfInBounds_toArray, List.set_cons_zero, List.set_cons_succ])
        (refine Peel.take 5 (v := ?_) rfl rfl (by kernel_rfl) (by kernel_rfl) (by kernel_rfl) (fun _ _ _ h => h) (by assumption) ?_ ?_; rotate_left; (focus (intro w hSw; (try dsimp only at hSw); obtain ⟨s0, s1⟩ := hSw; (try simp only [List.getElem_toArray, List.getElem_cons_succ, List.getElem_cons_zero]); go_simp; try (with_reducible rfl))); try simp only [List.getElem_toArray, List.getElem_cons_succ, List.getElem_cons_zero, Act.put, List.setIfInBounds_toArray, List.set_cons_zero, List.set_cons_succ])
        (refine Peel.take 6 (v := ?_) rfl rfl (by kernel_rfl) (by kernel_rfl) (by kernel_rfl) (fun _ _ _ h => h) (by assumption) ?_ ?_; rotate_left; (focus (intro w hSw; (try dsimp only at hSw); obtain ⟨s0, s1⟩ := hSw; (try simp only [List.getElem_toArray, List.getElem_cons_succ, List.getElem_cons_zero]); go_simp; try (with_reducible rfl))); try simp only [List.getElem_toArray, List.getElem_cons_succ, List.getElem_cons_zero, Act.put, List.setIfInBounds_toArray, List.set_cons_zero, List.set_cons_succ])
        (refine Peel.take 7 (v := ?_) rfl rfl (by kernel_rfl) (by kernel_rfl) (by kernel_rfl) (fun _ _ _ h => h) (by assumption) ?_ ?_; rotate_left; (focus (intro w hSw; (try dsimp only at hSw); obtain ⟨s0, s1⟩ := hSw; (try simp only [List.getElem_toArray, List.getElem_cons_succ, List.getElem_cons_zero]); go_simp; try (with_reducible rfl))); try simp only [List.getElem_toArray, List.getElem_cons_succ, List.getElem_cons_zero, Act.put, List.setIfInBounds_toArray, List.set_cons_zero, List.set_cons_succ])
        (refine Peel.take 8 (v := ?_) rfl rfl (by kernel_rfl) (by kernel_rfl) (by kernel_rfl) (fun _ _ _ h => h) (by assumption) ?_ ?_; rotate_left; (focus (intro w hSw; (try dsimp only at hSw); obtain ⟨s0, s1⟩ := hSw; (try simp only [List.getElem_toArray, List.getElem_cons_succ, List.getElem_cons_zero]); go_simp; try (with_reducible rfl))); try simp only [List.getElem_toArray, List.getElem_cons_succ, List.getElem_cons_zero, Act.put, List.setIfInBounds_toArray, List.set_cons_zero, List.set_cons_succ])
        (refine Peel.take 9 (v := ?_) rfl rfl (by kernel_rfl) (by kernel_rfl) (by kernel_rfl) (fun _ _ _ h => h) (by assumption) ?_ ?_; rotate_left; (focus (intro w hSw; (try dsimp only at hSw); obtain ⟨s0, s1⟩ := hSw; (try simp only [List.getElem_toArray, List.getElem_cons_succ, List.getElem_cons_zero]); go_simp; try (with_reducible rfl))); try simp only [List.getElem_toArray, List.getElem_cons_succ, List.getElem_cons_zero, Act.put, List.setIfInBounds_toArray, List.set_cons_zero, List.set_cons_succ])
        (refine Peel.take 10 (v := ?_) rfl rfl (by kernel_rfl) (by kernel_rfl) (by kernel_rfl) (fun _ _ _ h => h) (by assumption) ?_ ?_; rotate_left; (focus (intro w hSw; (try dsimp only at hSw); obtain ⟨s0, s1⟩ := hSw; (try simp only [List.getElem_toArray, List.getElem_cons_succ, List.getElem_cons_zero]); go_simp; try (with_reducible rfl))); try simp only [List.getElem_toArray, List.getElem_cons_succ, List.getElem_cons_zero, Act.put, List.setIfInBounds_toArray, List.set_cons_zero, List.set_cons_succ])
        (refine Peel.take 11 (v := ?_) rfl rfl (by kernel_rfl) (by kernel_rfl) (by kernel_rfl) (fun _ _ _ h => h) (by assumption) ?_ ?_; rotate_left; (focus (intro w hSw; (try dsimp only at hSw); obtain ⟨s0, s1⟩ := hSw; (try simp only [List.getElem_toArray, List.getElem_cons_succ, List.getElem_cons_zero]); go_simp; try (with_reducible rfl))); try simp only [List.getElem_toArray, List.getElem_cons_succ, List.getElem_cons_zero, Act.put, List.setIfInBounds_toArray, List.set_cons_zero, List.set_cons_succ])
        (refine Peel.take 12 (v := ?_) rfl rfl (by kernel_rfl) (by kernel_rfl) (by kernel_rfl) (fun _ _ _ h => h) (by assumption) ?_ ?_; rotate_left; (focus (intro w hSw; (try dsimp only at hSw); obtain ⟨s0, s1⟩ := hSw; (try simp only [List.getElem_toArray, List.getElem_cons_succ, List.getElem_cons_zero]); go_simp; try (with_reducible rfl))); try simp only [List.getElem_toArray, List.getElem_cons_succ, List.getElem_cons_zero, Act.put, List.setIfInBounds_toArray, List.set_cons_zero, List.set_cons_succ])
        (refine Peel.take 13 (v := ?_) rfl rfl (by kernel_rfl) (by kernel_rfl) (by kernel_rfl) (fun _ _ _ h => h) (by assumption) ?_ ?_; rotate_left; (focus (intro w hSw; (try dsimp only at hSw); obtain ⟨s0, s1⟩ := hSw; (try simp only [List.getElem_toArray, List.getElem_cons_succ, List.getElem_cons_zero]); go_simp; try (with_reducible rfl))); try simp only [List.getElem_toArray, List.getElem_cons_succ, List.getElem_cons_zero, Act.put, List.setIfInBounds_toArray, List.set_cons_zero, List.set_cons_succ])
        try simp only [hw0]
        (refine wpAnyH_ready (rs := [14]) (by kernel_rfl) (by simp) ?_; refine AllReadyH.cons rfl (fun K hK => ?_) AllReadyH.nil)
        go_simp
        have b5 := below_one W5 (.cells #[.int .u8 (a : Nat), .int .u8 (i : Nat), .int .u8 (c0 : Nat)] 24)
        have s5 : (W5.alloc (.cells #[.int .u8 (a : Nat), .int .u8 (i : Nat), .int .u8 (c0 : Nat)] 24)).cell? ⟨b1, o1 + i * 3, none⟩ = some (.int .u8 (a : Nat)) ∧ (W5.alloc (.cells #[.int .u8 (a : Nat), .int .u8 (i : Nat), .int .u8 (c0 : Nat)] 24)).cell? ⟨b1, o1 + i * 3 + 2, none⟩ = some (.int .u8 (c0 : Nat)) := ⟨cell_below b5 S0.1, cell_below b5 S0.2⟩
        (refine hK.out _ _ s5 (fun hHeld => ?_); (clear hK K; try simp only [List.getElem_toArray, List.getElem_cons_succ, List.getElem_cons_zero, Act.put, List.setIfInBounds_toArray, List.set_cons_zero, List.set_cons_succ]))
        (refine wpAnyH_ready (rs := [15]) (by kernel_rfl) (by simp) ?_; refine AllReadyH.cons rfl (fun K hK => ?_) AllReadyH.nil)
        refine step_append_at (f := fT) (n := 3) (fun _ => rfl) fT_one rfl (.tmp 21) (.tmp 35) 22 24 (.agg #[.int .u8 0, .int .u8 0, .int .u8 0]) 3 rfl Try.underlying22 info_tl rfl (by decide) (.slice A3 i c3) out ((a : Int), (i : Int), (c0 : Int)) rfl rfl HO5.out.own (by rw [HTL.out]; omega) (by rw [HTL.out]; omega) ?_
        intro v9 w9 hown hg hob
        have HO9 := Sd.mk (HO5.out.push hown hg hob)
        have s9 : w9.cell? ⟨b1, o1 + i * 3, none⟩ = some (.int .u8 (a : Nat)) ∧ w9.cell? ⟨b1, o1 + i * 3 + 2, none⟩ = some (.int .u8 (c0 : Nat)) := ⟨cell_below HO9.out.bel HPQ.out.1, cell_below HO9.out.bel HPQ.out.2⟩
        (refine hK.out _ _ s9 (fun hHeld => ?_); (clear hK K; try simp only [List.getElem_toArray, List.getElem_cons_succ, List.getElem_cons_zero, Act.put, List.setIfInBounds_toArray, List.set_cons_zero, List.set_cons_succ]))
        clear S0 s5 s9 b5 hown hg hob
        (refine wpAnyH_done (by kernel_rfl) ?_ _; simp only [Peel.Qn, List.drop_succ_cons, List.drop_zero]; clear hHeld)
        go_wp2
        go_roundg (gk - 1)
        case measure => omega
        case rel => exact ⟨i + 1, by omega, by go_num, ⟨by rw [HTK.out]; exact HO9.out⟩⟩
      · have hii : decide (i < n) = false := decide_eq_false (by omega)
        have hii2 : decide ((i : Int) < (n : Int)) = false := decide_eq_false (by omega)
        have HO2 := Sd.mk (show Ow w u3 (strt l) wr by have h := HO.out; rwa [List.take_of_length_le (by rw [strt_len, ← HN.out]; omega)] at h)
        have HLN := Sd.mk (show (strt l).length = n by rw [strt_len, ← HN.out])
        have H8S := Sd.mk (strt_8 H8.out (by rw [← HN.out]; exact hle))
        have HLK := Sd.mk (strt_link l)
        clear HO HS H8
        obtain ⟨A3, c3, e3, hs3⟩ := OwnR.reads (d := tlN) (f := fT) (n := 3) (fun _ _ => rfl) (fun _ => rfl) rfl HO2.out.own
        subst e3
        have HCHN := Sd.mk (fun W (hb : RowKit.Below wr.heap.size wr W) => chain_any W A3 c3 (strt l) (hs3.below hb) H8S.out n HLN.out.symm (by omega))
        rw [HLN.out] at HO2 ⊢
        obtain ⟨sl, hsl⟩ : ∃ s, strt l = s := ⟨_, rfl⟩
        rw [hsl] at HO2 HCHN HLN HLK
        clear hs3 hsl
        go_upto_region 9 with (first
          | (go_at_call 12; (with_reducible refine (HCHN.out _ (Below.refl _ _)).mono ?_); rintro e w8 ⟨u, rfl, hch⟩; have HCH := Sd.mk hch; clear hch))
        have HB8 := Sd.mk (below_then HO2.out.bel HCH.out.bel)
        obtain ⟨rs, hrs, hrl, hri⟩ := HCH.out.ex
        obtain ⟨A4, c4, e4, hs4⟩ := own_bk hrs
        subst e4
        have hcl : (chn sl).length = n := by rw [chn_len]; exact HLN.out
        rw [hrl, hcl]
        have HRL := Sd.mk hrl
        have HRI := Sd.mk (fun (j : Nat) (r : Bk) (x : Block) (e : rs[j]? = some r) (f : (chn sl)[j]? = some x) => (hri j r x e f).wk)
        have HS4 := Sd.mk hs4
        have HCL := Sd.mk hcl
        have n4 := Nat.le_trans hs4.le hs4.cap
        rw [hrl, hcl] at n4
        clear hrs hrl hri hs4 hcl HCH HO2 HCHN
        go_upto_region 10 with (first
          | (go_at_call 13; (with_reducible refine (new_any _).mono ?_); rintro e w9 ⟨g, b, rfl, hg, hm, hbm, hgm, hb⟩; have HQ9 := Sd.mk (show Q w8 g b (.slice none 0 0) (.slice none 0 0) [] [] w9 from ⟨hb, hg, ⟨[], Smp.sm_empty hm⟩, OwnR.nil _ _ _ _ _, OwnR.nil _ _ _ _ _, fun k hk => (by simp [Value.ownBlock] at hk), fun k hk => (by simp [Value.ownBlock] at hk), hgm, hbm⟩); clear hg hm hbm hgm hb))
        have HPUT := Sd.mk (put_any w8 w9 g b HQ9.out A4 c4 rs (chn sl) HS4.out n HCL.out.symm HRL.out HRI.out (fun x hx => chn_size hx) HLK.out (by omega))
        have HRN := Sd.mk (show rs.length = n from HRL.out.trans HCL.out)
        have HRS := Sd.mk (show rs.length = sl.length from HRN.out.trans HLN.out.symm)
        have HQN := Sd.mk (show (rqs sl).length = n by rw [rqs_len]; exact HLN.out)
        clear HQ9 HLK
        go_upto_region 12 with (first
          | (go_at_call 14; (with_reducible refine HPUT.out.mono ?_); rintro e w10 ⟨rfl, ub, ud, ds, hq⟩; obtain ⟨A5, c5, e5⟩ := OwnR.slice hq.ob; subst e5; rw [HRN.out] at hq; have HQ10 := Sd.mk hq; clear hq)
          | (go_at_call 15; (with_reducible refine (len_any _ g n A5 c5 ud _ HQ10.out.hg).mono ?_); rintro e w11 ⟨rfl, rfl⟩))
        clear HPUT
        go_wp2_with (first
          | (go_at_call 17; (first | (with_reducible refine (reqs_any w8 _ g b _ _ rs ds sl HQ14.out n HLN.out.symm HRS.out HRI.out (by omega)).mono ?_; rintro e w15 ⟨v3, rfl, hro⟩; obtain ⟨A8, c8, e8⟩ := OwnR.slice hro.own; subst e8; rw [HQN.out] at hro ⊢; have HQ15 := Sd.mk (HQ14.out.below hro.bel); clear hro) | (with_reducible refine (reqs_any w8 _ g b _ _ rs ds sl HQ10.out n HLN.out.symm HRS.out HRI.out (by omega)).mono ?_; rintro e w12 ⟨v1, rfl, hro⟩; obtain ⟨A6, c6, e6⟩ := OwnR.slice hro.own; subst e6; rw [HQN.out] at hro ⊢; have HR12 := Sd.mk hro; have HQ12 := Sd.mk (HQ10.out.below hro.bel); clear hro)))
          | (go_at_call 18; (with_reducible refine (refreqs_any w8 _ HQ12.out.bel A4 c4 rs sl HS4.out n HLN.out.symm HRS.out HRI.out (by omega)).mono ?_); rintro e w13 ⟨v2, rfl, hro⟩; obtain ⟨A7, c7, e7⟩ := OwnR.slice hro.own; subst e7; rw [HQN.out] at hro ⊢; have HR13 := Sd.mk hro; have HR13a := Sd.mk (HR12.out.below hro.bel); have HQ13 := Sd.mk (HQ12.out.below hro.bel); clear hro)
          | (go_at_call 16; (with_reducible refine (same_any _ A6 A7 c6 c7 (rqs sl) (ro_sl HR13a.out) (ro_sl HR13.out) n HQN.out.symm).mono ?_); rintro e w14 ⟨rfl, hb⟩; have HQ14 := Sd.mk (HQ13.out.below hb); clear hb))
        go_ret
        exact ⟨rfl, below_then HB8.out HQ15.out.bel⟩
  · have d20 : decide ((20 : Int) < (n : Int)) = true := decide_eq_true (by omega)
    have d20b : decide (20 < n) = true := decide_eq_true (by omega)
    clear hle
    go_enter Try.func3, Try.ntmps3
    go_wp2_with (first
      | (go_at_call 11; (with_reducible refine (awake_any _).mono ?_); rintro e w1 ⟨rfl, hb⟩; (first | (have HB2 := Sd.mk (below_then HB1.out hb)) | (have HB1 := Sd.mk hb)); clear hb))
    go_ret
    exact ⟨rfl, HB2.out⟩
-- L1>
theorem ko_row (w : World) (A : Option Addr) (c : Nat) (l : List (List Int)) (h1 : l.length ≤ c) (h2 : c ≤ maxLen) (h3 : Row (Rk.arr (Rk.int .u8) 3) w A l) :
    Calls Try.prog 3 #[.slice A l.length c] w fun e w' => e = .returned (.bool true) ∧ RowKit.Below w.heap.size w w' := by
  obtain ⟨l', hl, hs, h8⟩ := tl_of h1 h2 h3
  exact ko_law w A c l' hs h8 _ hl.symm
end Go.Proofs.Ytnomgkmeomlccaa.Kee

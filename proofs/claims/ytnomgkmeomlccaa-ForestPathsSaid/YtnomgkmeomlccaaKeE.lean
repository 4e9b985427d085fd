/- comitiaref07.Chain: walked. -/
import Derived.Test.YtnomgkmeomlccaaKeC
set_option linter.unusedVariables false
set_option linter.unusedSimpArgs false

namespace Go.Proofs.Ytnomgkmeomlccaa.Kee
open Go.RowKit Go.Sort Rd Api Own Mv App Num Dig
open Blk (Block Rq rqN fR)

/-- what is told, as it lies -/
def fT (x : Tl) : List Value := [.int .u8 x.1, .int .u8 x.2.1, .int .u8 x.2.2]
theorem fT_one : ∀ x : Tl, ∀ u ∈ fT x, u.oneCell' = true := fun _ _ hu => by simp [fT] at hu; rcases hu with rfl | rfl | rfl <;> rfl
def tlN : Rk Tl where
  sz := 3
  K := fun _ x cs => cs = fT x
  len := fun h => by rw [h]; rfl
  keep := fun _ h => h
theorem tl_at {W : World} {A : Option Addr} {l : List Tl} (h : Row tlN W A l) {i : Nat} {x : Tl} (hx : l[i]? = some x) : ∃ b o, A = some ⟨b, o, none⟩ ∧ W.cell? ⟨b, o + i * 3, none⟩ = some (.int .u8 x.1) ∧ W.cell? ⟨b, o + i * 3 + 1, none⟩ = some (.int .u8 x.2.1) ∧ W.cell? ⟨b, o + i * 3 + 2, none⟩ = some (.int .u8 x.2.2) := by
  obtain ⟨b, o, cs, hA, rfl, hc⟩ := h i x hx
  exact ⟨b, o, hA, hc 0 _ rfl, hc 1 _ rfl, hc 2 _ rfl⟩
theorem info_tl : ((Try.prog).info? 24).map (fun i => (i.zero, i.size, i.bytes)) = some (some (.agg #[.int .u8 0, .int .u8 0, .int .u8 0]), 3, 3) := by kernel_rfl
/-- three bytes -/
structure T8 (p : Tl) (a k c : Nat) : Prop where
  e1 : p.1 = (a : Int)
  e2 : p.2.1 = (k : Int)
  e3 : p.2.2 = (c : Int)
  a : a < 256
  k : k < 256
  c : c < 256
def All8 (l : List Tl) : Prop := ∀ p ∈ l, ∃ a k c, T8 p a k c
theorem own_one {W : World} {q : Nat} {x : Rq} (h : W.heap[q]? = some (.cells (fR x).toArray 47 (0, 0))) : OwnR fR 3 W 0 47 (.slice (some ⟨q, 0, none⟩) 1 1) [x] :=
  ⟨rfl, .inr ⟨q, 1, _, rfl, Nat.zero_le _, h, Nat.le_refl _, by unfold maxLen; omega, rfl, rfl⟩⟩
theorem is_turned {W W1 : World} {u : Value} {rs : List Bk} {bs : List Block} {g : Nat} {cs : Array Value} (h : OwnR fB 6 W 0 42 u rs ∧ rs.length = bs.length ∧ ∀ (j : Nat) (r : Bk) (b : Block), rs[j]? = some r → bs[j]? = some b → Is W r b) (E : W.heap[g]? = some (.cells cs 39 (0, 0))) (hg : W.grownBy W1 (some g)) :
    OwnR fB 6 W1 0 42 u rs ∧ rs.length = bs.length ∧ ∀ (j : Nat) (r : Bk) (b : Block), rs[j]? = some r → bs[j]? = some b → Is W1 r b :=
  ⟨OwnR.grown h.1 hg (.inr (h.1.blk E (by decide))), h.2.1, fun j r b e f => (fun k => ⟨k.v, k.p, k.jv, k.jb, k.n, OwnR.grown k.own hg (.inr (k.own.blk E (by decide)))⟩) (h.2.2 j r b e f)⟩
theorem ch_turned {w W W1 : World} {u : Value} {rs : List Bk} {bs : List Block} {g : Nat} {cs : Array Value} (hc : Ch w u bs W) (h : OwnR fB 6 W 0 42 u rs ∧ rs.length = bs.length ∧ ∀ (j : Nat) (r : Bk) (b : Block), rs[j]? = some r → bs[j]? = some b → Is W r b) (E : W.heap[g]? = some (.cells cs 39 (0, 0))) (hg : W.grownBy W1 (some g)) (hge : w.heap.size ≤ g) : Ch w u bs W1 :=
  ⟨below_grown hc.bel hg hc.bel.size (fun k e => (Option.some.inj e) ▸ hge), ⟨rs, is_turned h E hg⟩, hc.new⟩
theorem grown_set (W : World) (k j : Nat) (u : Value) : W.grownBy (W.setCell ⟨k, j, none⟩ u) (some k) := ⟨rfl, rfl, rfl, by simp [World.setCell], fun i hi hr => heap_set _ _ j u i (fun e => hr (by rw [e]))⟩
/-- the new block, as it lies -/
theorem isnew {W W9 : World} {u : Value} {rs : List Bk} {jv : Int} {jb : ByteArray} {a1 c1 i q : Nat} {x : Tl} (hg : W.grownBy W9 u.ownBlock) (ho : OwnR fB 6 W 0 42 u rs) (hy : W.heap[q]? = some (.cells #[.int .i64 (c1 : Nat), .int .i64 (1 + (i : Nat)), .string ⟨#[]⟩] 47 (0, 0))) (h1 : x.1 % 4 = (a1 : Int)) (h3 : x.2.2 % 4 = (c1 : Int)) :
    Is W ⟨jv + 1 + (a1 : Nat), 0, jv, jb, none, 0, 0, some ⟨q, 0, none⟩, 1, 1⟩ (nxt (jv, jb) i x) := by
  refine ⟨?_, rfl, rfl, rfl, rfl, ?_⟩
  · show jv + 1 + (a1 : Int) = jv + 1 + x.1 % 4
    rw [h1]
  · have := own_one (x := ⟨(c1 : Int), 1 + (i : Int), Rp.ET⟩) hy
    show OwnR fR 3 W 0 47 _ [⟨x.2.2 % 4, 1 + (i : Int), Rp.ET⟩]
    rw [h3]
    exact this
-- <L1
set_option maxHeartbeats 16000000 in
set_option maxRecDepth 100000 in
theorem chain_any (w : World) (A : Option Addr) (c : Nat) (l : List Tl) (h : Sl tlN w A c l) (h8 : All8 l) (n : Nat) (hn : n = l.length) (hlen : n ≤ 40) :
    Calls Try.prog 12 #[.slice A n c] w fun e w' => ∃ u, e = .returned u ∧ Ch w u (chn l) w' := by
  have mixed : Try.prog.follows .mixedOrders = true := by kernel_rfl
  have HS := Sd.mk h
  have HN := Sd.mk hn
  have H8 := Sd.mk h8
  obtain ⟨fb, hfb⟩ : ∃ d, Crt.FB = d := ⟨_, rfl⟩
  have HFB := Sd.mk hfb
  have nc := Nat.le_trans h.le h.cap
  rw [← hn] at nc
  clear h hn h8 hfb
  go_enter Try.func12, Try.ntmps12
  go_wp2
  go_loopg [3, 4] n (fun gk v3 v4 wr => ∃ i, i + gk = n ∧ v4 = .int .i64 (i : Nat) ∧ Sd (Ch w v3 (chn (l.take i)) wr))
  case atStart => exact ⟨0, by omega, rfl, ⟨ch_nil (Below.refl _ _)⟩⟩
  case round =>
    obtain ⟨i, hi, rfl, HC⟩ := hrel
    by_cases hlt : i < n
    · have hii : (i : Int) < n := by omega
      have h40 : (i : Int) < 40 := by omega
      have h40b : i < 40 := by omega
      obtain ⟨x, hx⟩ : ∃ x, l[i]? = some x := ⟨l[i]'(by rw [← HN.out]; exact hlt), List.getElem?_eq_getElem _⟩
      obtain ⟨a, kk, c0, H0⟩ := H8.out x (List.mem_of_getElem? hx)
      have HNX := Sd.mk (chn_take hx)
      have HCL := Sd.mk (show (chn (l.take i)).length = i by rw [chn_len, List.length_take, ← HN.out]; omega)
      have HVW := Sd.mk (fun k (hk : k ≤ i) => (by have := tp_view (l.take i) k (by rw [List.length_take, ← HN.out]; omega); rw [List.length_take, ← HN.out] at this; exact ⟨this.1, by have := this.2; omega⟩ : 0 ≤ (tp (chn (l.take i)) k).1 ∧ (tp (chn (l.take i)) k).1 ≤ 160))
      have HSZ := Sd.mk (fun b (hb : b ∈ chn (l.take i)) => chn_size hb)
      obtain ⟨b1, o1, rfl, p0, p1, p2⟩ := tl_at HS.out.row hx
      rw [H0.e1] at p0
      rw [H0.e2] at p1
      rw [H0.e3] at p2
      obtain ⟨bs, hbs⟩ : ∃ bs, chn (l.take i) = bs := ⟨_, rfl⟩
      rw [hbs] at HNX HCL HC HVW HSZ
      obtain ⟨k, hk⟩ : ∃ k, plc i x = k := ⟨_, rfl⟩
      have hki : k ≤ i := by rw [← hk]; exact plc_le _ _
      have hrem : ((kk : Int)).tmod ((i : Int) + 1) = (k : Int) := by
        rw [Int.tmod_eq_emod_of_nonneg (by omega), ← hk]
        unfold plc
        rw [H0.e2]
        have := Int.emod_nonneg (kk : Int) (b := (i : Int) + 1) (by omega)
        omega
      have hkk := H0.k
      obtain ⟨a1, ha1⟩ : ∃ a1, a % 4 = a1 := ⟨_, rfl⟩
      obtain ⟨c1, hc1⟩ : ∃ c1, c0 % 4 = c1 := ⟨_, rfl⟩
      have hra : ((a : Int)).tmod 4 = (a1 : Int) := by rw [Int.tmod_eq_emod_of_nonneg (by omega)]; omega
      have hrc : ((c0 : Int)).tmod 4 = (c1 : Int) := by rw [Int.tmod_eq_emod_of_nonneg (by omega)]; omega
      have ha4 : a1 < 4 := by omega
      have hc4 : c1 < 4 := by omega
      have HB3 := Sd.mk (show nx bs x = nxt (tp bs k) i x by unfold nx; rw [HCL.out, hk])
      have HX1 := Sd.mk (show x.1 % 4 = (a1 : Int) by rw [H0.e1]; omega)
      have HX3 := Sd.mk (show x.2.2 % 4 = (c1 : Int) by rw [H0.e3]; omega)
      have HPQ := Sd.mk (And.intro p0 (And.intro p1 p2))
      obtain ⟨rs, ho, hl, hir⟩ := HC.out.ex
      obtain ⟨A3, c3, rfl, hsl⟩ := own_bk ho
      have hrl : rs.length = i := hl.trans HCL.out
      rw [hrl] at ho HC ⊢
      have HR := Sd.mk (And.intro ho (And.intro hl hir))
      have hc3 := hsl.le
      have hc3m := hsl.cap
      rw [hrl] at hc3
      have HSR := Sd.mk hsl.row
      have q1 := cell_below HC.out.bel p1
      clear ho hl hir hsl hx p0 p1 p2 hbs hk H0 ha1 hc1
      cases k with
      | zero =>
        go_upto_region 9 with (first
          | (go_at_call 30; (with_reducible refine (Crt.reffirst_any _ fb HFB.out).mono ?_); rintro e w1 ⟨rfl, hb⟩; have HB1 := Sd.mk hb; clear hb))
        have HNE := Sd.mk (show nx bs x = nxt (0, fb) i x by rw [HB3.out, tp_zero, HFB.out])
        have b6 := below_then HB1.out (below_one w1 (.cells #[.int .i64 0, .string fb, .slice none 0 0] 39))
        have E8 := Sd.mk (blk_new w1 (.cells #[.int .i64 0, .string fb, .slice none 0 0] 39))
        have HC8 := Sd.mk (HC.out.below b6)
        have HR8 := Sd.mk (And.intro (HR.out.1.below b6) (And.intro HR.out.2.1 (fun j r b e f => (HR.out.2.2 j r b e f).below b6)))
        clear HC HR b6 HB1 HB3 HFB
        generalize w1.heap.size = g6 at E8 ⊢
        generalize w1.alloc _ = W8 at E8 HC8 HR8 ⊢
        obtain ⟨jv, hjv⟩ : ∃ z : Int, 0 = z := ⟨_, rfl⟩
        rw [hjv] at HNE E8
        have hj0 : 0 ≤ jv := by omega
        have hj1 : jv ≤ 160 := by omega
        clear hjv
        obtain ⟨jb, rfl⟩ : ∃ z, z = fb := ⟨_, rfl⟩
        (have E9 := Sd.mk (blk_keep E8.out (below_drew' (w := W8) (Below.refl W8.heap.size W8))); have HCE := Sd.mk (fun W (hb : RowKit.Below W8.drew.heap.size W8.drew W) => show W.cell? ⟨b1, o1 + i * 3, none⟩ = some (.int .u8 (a : Nat)) ∧ W.cell? ⟨b1, o1 + i * 3 + 2, none⟩ = some (.int .u8 (c0 : Nat)) ∧ W.cell? ⟨g6, 0, none⟩ = some (.int .i64 jv) ∧ W.cell? ⟨g6, 1, none⟩ = some (.string jb) ∧ W.cell? ⟨g6, 2, none⟩ = some (.slice none 0 0) from ⟨cell_below (below_then (below_drew' HC8.out.bel) hb) HPQ.out.1, cell_below (below_then (below_drew' HC8.out.bel) hb) HPQ.out.2.2, blk_at (blk_keep E9.out hb) 0 _ rfl, blk_at (blk_keep E9.out hb) 1 _ rfl, blk_at (blk_keep E9.out hb) 2 _ rfl⟩); have S0 := HCE.out _ (Below.refl _ _); refine Peel.region_peel (n := 25) (S := fun W => W.cell? ⟨b1, o1 + i * 3, none⟩ = some (.int .u8 (a : Nat)) ∧ W.cell? ⟨b1, o1 + i * 3 + 2, none⟩ = some (.int .u8 (c0 : Nat)) ∧ W.cell? ⟨g6, 0, none⟩ = some (.int .i64 jv) ∧ W.cell? ⟨g6, 1, none⟩ = some (.string jb) ∧ W.cell? ⟨g6, 2, none⟩ = some (.slice none 0 0)) (by kernel_rfl) (by kernel_rfl) S0 (fun hHeld => ?_); simp only [List.take_succ_cons, List.take_zero]; clear S0; have HC9 := Sd.mk (HC8.out.below (W1 := W8.drew) (below_drew' (Below.refl _ _))); have HR9 := Sd.mk (And.intro (HR8.out.1.below (W1 := W8.drew) (below_drew' (Below.refl _ _))) (And.intro HR8.out.2.1 (fun j r b e f => (HR8.out.2.2 j r b e f).below (W1 := W8.drew) (below_drew' (Below.refl _ _))))); clear HC8 HR8 E8 E9; generalize W8.drew = W9 at HC9 HR9 HCE hHeld ⊢)
        (refine Peel.take 0 (v := ?_) rfl rfl (by kernel_rfl) (by kernel_rfl) (by kernel_rfl) (fun _ _ _ h => h) (by assumption) ?_ ?_; rotate_left; (focus (intro w hSw; (try dsimp only at hSw); obtain ⟨s0, s1, s2, s3, s4⟩ := hSw; (try simp only [List.getElem_toArray, List.getElem_cons_succ, List.getElem_cons_zero]); go_simp; try (with_reducible rfl))); try simp only [List.getElem_toArray, List.getElem_cons_succ, List.getElem_cons_zero, Act.put, List.setIfInBounds_toArray, List.set_cons_zero, List.set_cons_succ])
        (refine Peel.take 1 (v := ?_) rfl rfl (by kernel_rfl) (by kernel_rfl) (by kernel_rfl) (fun _ _ _ h => h) (by assumption) ?_ ?_; rotate_left; (focus (intro w hSw; (try dsimp only at hSw); obtain ⟨s0, s1, s2, s3, s4⟩ := hSw; (try simp only [List.getElem_toArray, List.getElem_cons_succ, List.getElem_cons_zero]); go_simp; try (with_reducible rfl))); try simp only [List.getElem_toArray, List.getElem_cons_succ, List.getElem_cons_zero, Act.put, List.setIfInBounds_toArray, List.set_cons_zero, List.set_cons_succ])
        (refine Peel.take 2 (v := ?_) rfl rfl (by kernel_rfl) (by kernel_rfl) (by kernel_rfl) (fun _ _ _ h => h) (by assumption) ?_ ?_; rotate_left; (focus (intro w hSw; (try dsimp only at hSw); obtain ⟨s0, s1, s2, s3, s4⟩ := hSw; (try simp only [List.getElem_toArray, List.getElem_cons_succ, List.getElem_cons_zero]); go_simp; try (with_reducible rfl))); try simp only [List.getElem_toArray, List.getElem_cons_succ, List.getElem_cons_zero, Act.put, List.setIfInBounds_toArray, List.set_cons_zero, List.set_cons_succ])
        (refine Peel.take 3 (v := ?_) rfl rfl (by kernel_rfl) (by kernel_rfl) (by kernel_rfl) (fun _ _ _ h => h) (by assumption) ?_ ?_; rotate_left; (focus (intro w hSw; (try dsimp only at hSw); obtain ⟨s0, s1, s2, s3, s4⟩ := hSw; (try simp only [List.getElem_toArray, List.getElem_cons_succ, List.getElem_cons_zero]); go_simp; try (with_reducible rfl))); try simp only [List.getElem_toArray, List.getElem_cons_succ, List.getElem_cons_zero, Act.put, List.setIfInBounds_toArray, List.set_cons_zero, List.set_cons_succ])
        (refine Peel.take 4 (v := ?_) rfl rfl (by kernel_rfl) (by kernel_rfl) (by kernel_rfl) (fun _ _ _ h => h) (by assumption) ?_ ?_; rotate_left; (focus (intro w hSw; (try dsimp only at hSw); obtain ⟨s0, s1, s2, s3, s4⟩ := hSw; (try simp only [List.getElem_toArray, List.getElem_cons_succ, List.getElem_cons_zero]); go_simp; try (with_reducible rfl))); try simp only [List.getElem_toArray, List.getElem_cons_succ, List.getElem_cons_zero, Act.put, List.setIfInBounds_toArray, List.set_cons_zero, List.set_cons_succ])
        (refine Peel.take 5 (v := ?_) rfl rfl (by kernel_rfl) (by kernel_rfl) (by kernel_rfl) (fun _ _ _ h => h) (by assumption) ?_ ?_; rotate_left; (focus (intro w hSw; (try dsimp only at hSw); obtain ⟨s0, s1, s2, s3, s4⟩ := hSw; (try simp only [List.getElem_toArray, List.getElem_cons_succ, List.getElem_cons_zero]); go_simp; try (with_reducible rfl))); try simp only [List.getElem_toArray, List.getElem_cons_succ, List.getElem_cons_zero, Act.put, List.setIfInBounds_toArray, List.set_cons_zero, List.set_cons_succ])
        (refine Peel.take 6 (v := ?_) rfl rfl (by kernel_rfl) (by kernel_rfl) (by kernel_rfl) (fun _ _ _ h => h) (by assumption) ?_ ?_; rotate_left; (focus (intro w hSw; (try dsimp only at hSw); obtain ⟨s0, s1, s2, s3, s4⟩ := hSw; (try simp only [List.getElem_toArray, List.getElem_cons_succ, List.getElem_cons_zero]); go_simp; try (with_reducible rfl))); try simp only [List.getElem_toArray, List.getElem_cons_succ, List.getElem_cons_zero, Act.put, List.setIfInBounds_toArray, List.set_cons_zero, List.set_cons_succ])
        (refine Peel.take 7 (v := ?_) rfl rfl (by kernel_rfl) (by kernel_rfl) (by kernel_rfl) (fun _ _ _ h => h) (by assumption) ?_ ?_; rotate_left; (focus (intro w hSw; (try dsimp only at hSw); obtain ⟨s0, s1, s2, s3, s4⟩ := hSw; (try simp only [List.getElem_toArray, List.getElem_cons_succ, List.getElem_cons_zero]); go_simp; try (with_reducible rfl))); try simp only [List.getElem_toArray, List.getElem_cons_succ, List.getElem_cons_zero, Act.put, List.setIfInBounds_toArray, List.set_cons_zero, List.set_cons_succ])
        (refine Peel.take 8 (v := ?_) rfl rfl (by kernel_rfl) (by kernel_rfl) (by kernel_rfl) (fun _ _ _ h => h) (by assumption) ?_ ?_; rotate_left; (focus (intro w hSw; (try dsimp only at hSw); obtain ⟨s0, s1, s2, s3, s4⟩ := hSw; (try simp only [List.getElem_toArray, List.getElem_cons_succ, List.getElem_cons_zero]); go_simp; try (with_reducible rfl))); try simp only [List.getElem_toArray, List.getElem_cons_succ, List.getElem_cons_zero, Act.put, List.setIfInBounds_toArray, List.set_cons_zero, List.set_cons_succ])
        (refine Peel.take 9 (v := ?_) rfl rfl (by kernel_rfl) (by kernel_rfl) (by kernel_rfl) (fun _ _ _ h => h) (by assumption) ?_ ?_; rotate_left; (focus (intro w hSw; (try dsimp only at hSw); obtain ⟨s0, s1, s2, s3, s4⟩ := hSw; (try simp only [List.getElem_toArray, List.getElem_cons_succ, List.getElem_cons_zero]); go_simp; try (with_reducible rfl))); try simp only [List.getElem_toArray, List.getElem_cons_succ, List.getElem_cons_zero, Act.put, List.setIfInBounds_toArray, List.set_cons_zero, List.set_cons_succ])
        (refine Peel.take 10 (v := ?_) rfl rfl (by kernel_rfl) (by kernel_rfl) (by kernel_rfl) (fun _ _ _ h => h) (by assumption) ?_ ?_; rotate_left; (focus (intro w hSw; (try dsimp only at hSw); obtain ⟨s0, s1, s2, s3, s4⟩ := hSw; (try simp only [List.getElem_toArray, List.getElem_cons_succ, List.getElem_cons_zero]); go_simp; try (with_reducible rfl))); try simp only [List.getElem_toArray, List.getElem_cons_succ, List.getElem_cons_zero, Act.put, List.setIfInBounds_toArray, List.set_cons_zero, List.set_cons_succ])
        (refine Peel.take 11 (v := ?_) rfl rfl (by kernel_rfl) (by kernel_rfl) (by kernel_rfl) (fun _ _ _ h => h) (by assumption) ?_ ?_; rotate_left; (focus (intro w hSw; (try dsimp only at hSw); obtain ⟨s0, s1, s2, s3, s4⟩ := hSw; (try simp only [List.getElem_toArray, List.getElem_cons_succ, List.getElem_cons_zero]); go_simp; try (with_reducible rfl))); try simp only [List.getElem_toArray, List.getElem_cons_succ, List.getElem_cons_zero, Act.put, List.setIfInBounds_toArray, List.set_cons_zero, List.set_cons_succ])
        (refine Peel.take 12 (v := ?_) rfl rfl (by kernel_rfl) (by kernel_rfl) (by kernel_rfl) (fun _ _ _ h => h) (by assumption) ?_ ?_; rotate_left; (focus (intro w hSw; (try dsimp only at hSw); obtain ⟨s0, s1, s2, s3, s4⟩ := hSw; (try simp only [List.getElem_toArray, List.getElem_cons_succ, List.getElem_cons_zero]); go_simp; try (with_reducible rfl))); try simp only [List.getElem_toArray, List.getElem_cons_succ, List.getElem_cons_zero, Act.put, List.setIfInBounds_toArray, List.set_cons_zero, List.set_cons_succ])
        (refine Peel.take 13 (v := ?_) rfl rfl (by kernel_rfl) (by kernel_rfl) (by kernel_rfl) (fun _ _ _ h => h) (by assumption) ?_ ?_; rotate_left; (focus (intro w hSw; (try dsimp only at hSw); obtain ⟨s0, s1, s2, s3, s4⟩ := hSw; (try simp only [List.getElem_toArray, List.getElem_cons_succ, List.getElem_cons_zero]); go_simp; try (with_reducible rfl))); try simp only [List.getElem_toArray, List.getElem_cons_succ, List.getElem_cons_zero, Act.put, List.setIfInBounds_toArray, List.set_cons_zero, List.set_cons_succ])
        (refine Peel.take 14 (v := ?_) rfl rfl (by kernel_rfl) (by kernel_rfl) (by kernel_rfl) (fun _ _ _ h => h) (by assumption) ?_ ?_; rotate_left; (focus (intro w hSw; (try dsimp only at hSw); obtain ⟨s0, s1, s2, s3, s4⟩ := hSw; (try simp only [List.getElem_toArray, List.getElem_cons_succ, List.getElem_cons_zero]); go_simp; try (with_reducible rfl))); try simp only [List.getElem_toArray, List.getElem_cons_succ, List.getElem_cons_zero, Act.put, List.setIfInBounds_toArray, List.set_cons_zero, List.set_cons_succ])
        (refine Peel.take 15 (v := ?_) rfl rfl (by kernel_rfl) (by kernel_rfl) (by kernel_rfl) (fun _ _ _ h => h) (by assumption) ?_ ?_; rotate_left; (focus (intro w hSw; (try dsimp only at hSw); obtain ⟨s0, s1, s2, s3, s4⟩ := hSw; (try simp only [List.getElem_toArray, List.getElem_cons_succ, List.getElem_cons_zero]); go_simp; try (with_reducible rfl))); try simp only [List.getElem_toArray, List.getElem_cons_succ, List.getElem_cons_zero, Act.put, List.setIfInBounds_toArray, List.set_cons_zero, List.set_cons_succ])
        (refine Peel.take 16 (v := ?_) rfl rfl (by kernel_rfl) (by kernel_rfl) (by kernel_rfl) (fun _ _ _ h => h) (by assumption) ?_ ?_; rotate_left; (focus (intro w hSw; (try dsimp only at hSw); obtain ⟨s0, s1, s2, s3, s4⟩ := hSw; (try simp only [List.getElem_toArray, List.getElem_cons_succ, List.getElem_cons_zero]); go_simp; try (with_reducible rfl))); try simp only [List.getElem_toArray, List.getElem_cons_succ, List.getElem_cons_zero, Act.put, List.setIfInBounds_toArray, List.set_cons_zero, List.set_cons_succ])
        (refine Peel.take 17 (v := ?_) rfl rfl (by kernel_rfl) (by kernel_rfl) (by kernel_rfl) (fun _ _ _ h => h) (by assumption) ?_ ?_; rotate_left; (focus (intro w hSw; (try dsimp only at hSw); obtain ⟨s0, s1, s2, s3, s4⟩ := hSw; (try simp only [List.getElem_toArray, List.getElem_cons_succ, List.getElem_cons_zero]); go_simp; try (with_reducible rfl))); try simp only [List.getElem_toArray, List.getElem_cons_succ, List.getElem_cons_zero, Act.put, List.setIfInBounds_toArray, List.set_cons_zero, List.set_cons_succ])
        (refine Peel.take 18 (v := ?_) rfl rfl (by kernel_rfl) (by kernel_rfl) (by kernel_rfl) (fun _ _ _ h => h) (by assumption) ?_ ?_; rotate_left; (focus (intro w hSw; (try dsimp only at hSw); obtain ⟨s0, s1, s2, s3, s4⟩ := hSw; (try simp only [List.getElem_toArray, List.getElem_cons_succ, List.getElem_cons_zero]); go_simp; try (with_reducible rfl))); try simp only [List.getElem_toArray, List.getElem_cons_succ, List.getElem_cons_zero, Act.put, List.setIfInBounds_toArray, List.set_cons_zero, List.set_cons_succ])
        (refine Peel.take 19 (v := ?_) rfl rfl (by kernel_rfl) (by kernel_rfl) (by kernel_rfl) (fun _ _ _ h => h) (by assumption) ?_ ?_; rotate_left; (focus (intro w hSw; (try dsimp only at hSw); obtain ⟨s0, s1, s2, s3, s4⟩ := hSw; (try simp only [List.getElem_toArray, List.getElem_cons_succ, List.getElem_cons_zero]); go_simp; try (with_reducible rfl))); try simp only [List.getElem_toArray, List.getElem_cons_succ, List.getElem_cons_zero, Act.put, List.setIfInBounds_toArray, List.set_cons_zero, List.set_cons_succ])
        (refine Peel.take 20 (v := ?_) rfl rfl (by kernel_rfl) (by kernel_rfl) (by kernel_rfl) (fun _ _ _ h => h) (by assumption) ?_ ?_; rotate_left; (focus (intro w hSw; (try dsimp only at hSw); obtain ⟨s0, s1, s2, s3, s4⟩ := hSw; (try simp only [List.getElem_toArray, List.getElem_cons_succ, List.getElem_cons_zero]); go_simp; try (with_reducible rfl))); try simp only [List.getElem_toArray, List.getElem_cons_succ, List.getElem_cons_zero, Act.put, List.setIfInBounds_toArray, List.set_cons_zero, List.set_cons_succ])
        (refine Peel.take 21 (v := ?_) rfl rfl (by kernel_rfl) (by kernel_rfl) (by kernel_rfl) (fun _ _ _ h => h) (by assumption) ?_ ?_; rotate_left; (focus (intro w hSw; (try dsimp only at hSw); obtain ⟨s0, s1, s2, s3, s4⟩ := hSw; (try simp only [List.getElem_toArray, List.getElem_cons_succ, List.getElem_cons_zero]); go_simp; try (with_reducible rfl))); try simp only [List.getElem_toArray, List.getElem_cons_succ, List.getElem_cons_zero, Act.put, List.setIfInBounds_toArray, List.set_cons_zero, List.set_cons_succ])
        have hw1 : IntKind.i64.wrap ((c1 : Nat) : Int) = ((c1 : Nat) : Int) := Rp.wraps_i64 _ (by omega) (by omega)
        have hw2 : IntKind.i64.wrap (1 + ((i : Nat) : Int)) = 1 + ((i : Nat) : Int) := Rp.wraps_i64 _ (by omega) (by omega)
        have hw3 : IntKind.i64.wrap ((a1 : Nat) : Int) = ((a1 : Nat) : Int) := Rp.wraps_i64 _ (by omega) (by omega)
        have hw4 : IntKind.i64.wrap (jv + 1) = jv + 1 := Rp.wraps_i64 _ (by omega) (by omega)
        have hw5 : IntKind.i64.wrap (jv + 1 + ((a1 : Nat) : Int)) = jv + 1 + ((a1 : Nat) : Int) := Rp.wraps_i64 _ (by omega) (by omega)
        simp only [hw1, hw2, hw3, hw4, hw5]
        clear hw1 hw2 hw3 hw4 hw5
        refine wpAnyH_ready (rs := [22, 24]) (by kernel_rfl) (by simp) ?_
        refine AllReadyH.cons rfl (fun K hK => ?_) (AllReadyH.cons rfl (fun K hK => ?_) AllReadyH.nil)
        · go_simp
          have hb1 := below_one W9 (.cells #[.int .i64 (c1 : Nat), .int .i64 (1 + (i : Nat)), .string ⟨#[]⟩] 47)
          have s6 := HCE.out _ hb1
          (refine hK.out _ _ s6 (fun hHeld => ?_); (clear hK K; try simp only [List.getElem_toArray, List.getElem_cons_succ, List.getElem_cons_zero, Act.put, List.setIfInBounds_toArray, List.set_cons_zero, List.set_cons_succ]))
          clear s6
          (refine Peel.take 23 (v := ?_) rfl rfl (by kernel_rfl) (by kernel_rfl) (by kernel_rfl) (fun _ _ _ h => h) (by assumption) ?_ ?_; rotate_left; (focus (intro w hSw; (try dsimp only at hSw); obtain ⟨s0, s1, s2, s3, s4⟩ := hSw; (try simp only [List.getElem_toArray, List.getElem_cons_succ, List.getElem_cons_zero]); go_simp; try (with_reducible rfl))); try simp only [List.getElem_toArray, List.getElem_cons_succ, List.getElem_cons_zero, Act.put, List.setIfInBounds_toArray, List.set_cons_zero, List.set_cons_succ])
          (refine wpAnyH_ready (rs := [24]) (by kernel_rfl) (by simp) ?_; refine AllReadyH.cons rfl (fun K hK => ?_) AllReadyH.nil)
          go_simp
          have hb2 := below_then hb1 (below_one _ (.cells #[.int .i64 0, .int .i64 0, .int .i64 0, .string ⟨#[]⟩, .slice none 0 0, .slice none 0 0] 42))
          have s6 := HCE.out _ hb2
          (refine hK.out _ _ s6 (fun hHeld => ?_); (clear hK K; try simp only [List.getElem_toArray, List.getElem_cons_succ, List.getElem_cons_zero, Act.put, List.setIfInBounds_toArray, List.set_cons_zero, List.set_cons_succ]))
          clear s6
          clear hb1 hb2
          (refine wpAnyH_done (by kernel_rfl) ?_ _; simp only [Peel.Qn, List.drop_succ_cons, List.drop_zero]; clear hHeld)
          go_upto_region 10 with (fail)
          have hb2 := below_then (below_one W9 (.cells #[.int .i64 (c1 : Nat), .int .i64 (1 + (i : Nat)), .string ⟨#[]⟩] 47)) (below_one _ (.cells #[.int .i64 (jv + 1 + (a1 : Nat)), .int .i64 0, .int .i64 jv, .string jb, .slice none 0 0, .slice (some ⟨W9.heap.size, 0, none⟩) 1 1] 42))
          have X12 := Sd.mk (blk_new1 W9 (.cells #[.int .i64 (c1 : Nat), .int .i64 (1 + (i : Nat)), .string ⟨#[]⟩] 47) (.cells #[.int .i64 (jv + 1 + (a1 : Nat)), .int .i64 0, .int .i64 jv, .string jb, .slice none 0 0, .slice (some ⟨W9.heap.size, 0, none⟩) 1 1] 42))
          have Y12 := Sd.mk (blk_keep (blk_new W9 (.cells #[.int .i64 (c1 : Nat), .int .i64 (1 + (i : Nat)), .string ⟨#[]⟩] 47)) (below_one _ (.cells #[.int .i64 (jv + 1 + (a1 : Nat)), .int .i64 0, .int .i64 jv, .string jb, .slice none 0 0, .slice (some ⟨W9.heap.size, 0, none⟩) 1 1] 42)))
          (have HC12 := Sd.mk (HC9.out.below hb2); have HR12 := Sd.mk (And.intro (HR9.out.1.below hb2) (And.intro HR9.out.2.1 (fun j r b e f => (HR9.out.2.2 j r b e f).below hb2))); clear HC9 HR9 HCE hb2; generalize (W9.alloc _).alloc _ = W12 at X12 Y12 HC12 HR12 ⊢; generalize W9.heap.size + 1 = b7 at X12 Y12 ⊢; generalize W9.heap.size = q at X12 Y12 ⊢; have d0 := blk_at X12.out 0 _ rfl; have d1 := blk_at X12.out 1 _ rfl; have d2 := blk_at X12.out 2 _ rfl; have d3 := blk_at X12.out 3 _ rfl; have d4 := blk_at X12.out 4 _ rfl; have d5 := blk_at X12.out 5 _ rfl; go_wp2_with (first | (at_builtin; go_loud (refine append_at (f := fB) (n := 6) (fun _ => rfl) fB_one rfl (.tmp 68) (.tmp 70) 25 42 (.agg #[.int .i64 0, .int .i64 0, .int .i64 0, .string ByteArray.empty, .slice none 0 0, .slice none 0 0]) 88 rfl Try.underlying25 info_blk rfl (by decide) (.slice A3 i c3) rs ⟨jv + 1 + (a1 : Nat), 0, jv, jb, none, 0, 0, some ⟨q, 0, none⟩, 1, 1⟩ rfl rfl HR12.out.1 (by rw [hrl]; omega) (by rw [hrl]; omega) ?_; intro v9 w9 hown hg hob; have HO9 := Sd.mk (And.intro hown (And.intro hg hob)); clear hown hg hob))); have HIS := Sd.mk (isnew (jv := jv) (jb := jb) HO9.out.2.1 HR12.out.1 Y12.out HX1.out HX3.out); have HCN := Sd.mk (HC12.out.more HR12.out.1 HR12.out.2.1 HR12.out.2.2 HIS.out HO9.out.1 HO9.out.2.1 (HO9.out.2.2.imp_right (fun e => ⟨_, e, (by have := HC12.out.bel.size; omega)⟩))); go_roundg (gk - 1); (case measure => omega); (case rel => exact ⟨i + 1, by omega, by go_num, ⟨by rw [HNX.out, HNE.out]; exact HCN.out⟩⟩))
        · go_simp
          have hb1 := below_one W9 (.cells #[.int .i64 0, .int .i64 0, .int .i64 0, .string ⟨#[]⟩, .slice none 0 0, .slice none 0 0] 42)
          have s6 := HCE.out _ hb1
          (refine hK.out _ _ s6 (fun hHeld => ?_); (clear hK K; try simp only [List.getElem_toArray, List.getElem_cons_succ, List.getElem_cons_zero, Act.put, List.setIfInBounds_toArray, List.set_cons_zero, List.set_cons_succ]))
          clear s6
          (refine wpAnyH_ready (rs := [22]) (by kernel_rfl) (by simp) ?_; refine AllReadyH.cons rfl (fun K hK => ?_) AllReadyH.nil)
          go_simp
          have hb2 := below_then hb1 (below_one _ (.cells #[.int .i64 (c1 : Nat), .int .i64 (1 + (i : Nat)), .string ⟨#[]⟩] 47))
          have s6 := HCE.out _ hb2
          (refine hK.out _ _ s6 (fun hHeld => ?_); (clear hK K; try simp only [List.getElem_toArray, List.getElem_cons_succ, List.getElem_cons_zero, Act.put, List.setIfInBounds_toArray, List.set_cons_zero, List.set_cons_succ]))
          clear s6
          (refine Peel.take 23 (v := ?_) rfl rfl (by kernel_rfl) (by kernel_rfl) (by kernel_rfl) (fun _ _ _ h => h) (by assumption) ?_ ?_; rotate_left; (focus (intro w hSw; (try dsimp only at hSw); obtain ⟨s0, s1, s2, s3, s4⟩ := hSw; (try simp only [List.getElem_toArray, List.getElem_cons_succ, List.getElem_cons_zero]); go_simp; try (with_reducible rfl))); try simp only [List.getElem_toArray, List.getElem_cons_succ, List.getElem_cons_zero, Act.put, List.setIfInBounds_toArray, List.set_cons_zero, List.set_cons_succ])
          clear hb1 hb2
          (refine wpAnyH_done (by kernel_rfl) ?_ _; simp only [Peel.Qn, List.drop_succ_cons, List.drop_zero]; clear hHeld)
          go_upto_region 10 with (fail)
          have hb2 := below_then (below_one W9 (.cells #[.int .i64 (jv + 1 + (a1 : Nat)), .int .i64 0, .int .i64 jv, .string jb, .slice none 0 0, .slice (some ⟨W9.heap.size + 1, 0, none⟩) 1 1] 42)) (below_one _ (.cells #[.int .i64 (c1 : Nat), .int .i64 (1 + (i : Nat)), .string ⟨#[]⟩] 47))
          have X12 := Sd.mk (blk_keep (blk_new W9 (.cells #[.int .i64 (jv + 1 + (a1 : Nat)), .int .i64 0, .int .i64 jv, .string jb, .slice none 0 0, .slice (some ⟨W9.heap.size + 1, 0, none⟩) 1 1] 42)) (below_one _ (.cells #[.int .i64 (c1 : Nat), .int .i64 (1 + (i : Nat)), .string ⟨#[]⟩] 47)))
          have Y12 := Sd.mk (blk_new1 W9 (.cells #[.int .i64 (jv + 1 + (a1 : Nat)), .int .i64 0, .int .i64 jv, .string jb, .slice none 0 0, .slice (some ⟨W9.heap.size + 1, 0, none⟩) 1 1] 42) (.cells #[.int .i64 (c1 : Nat), .int .i64 (1 + (i : Nat)), .string ⟨#[]⟩] 47))
          (have HC12 := Sd.mk (HC9.out.below hb2); have HR12 := Sd.mk (And.intro (HR9.out.1.below hb2) (And.intro HR9.out.2.1 (fun j r b e f => (HR9.out.2.2 j r b e f).below hb2))); clear HC9 HR9 HCE hb2; generalize (W9.alloc _).alloc _ = W12 at X12 Y12 HC12 HR12 ⊢; generalize W9.heap.size + 1 = q at X12 Y12 ⊢; generalize W9.heap.size = b7 at X12 Y12 ⊢; have d0 := blk_at X12.out 0 _ rfl; have d1 := blk_at X12.out 1 _ rfl; have d2 := blk_at X12.out 2 _ rfl; have d3 := blk_at X12.out 3 _ rfl; have d4 := blk_at X12.out 4 _ rfl; have d5 := blk_at X12.out 5 _ rfl; go_wp2_with (first | (at_builtin; go_loud (refine append_at (f := fB) (n := 6) (fun _ => rfl) fB_one rfl (.tmp 68) (.tmp 70) 25 42 (.agg #[.int .i64 0, .int .i64 0, .int .i64 0, .string ByteArray.empty, .slice none 0 0, .slice none 0 0]) 88 rfl Try.underlying25 info_blk rfl (by decide) (.slice A3 i c3) rs ⟨jv + 1 + (a1 : Nat), 0, jv, jb, none, 0, 0, some ⟨q, 0, none⟩, 1, 1⟩ rfl rfl HR12.out.1 (by rw [hrl]; omega) (by rw [hrl]; omega) ?_; intro v9 w9 hown hg hob; have HO9 := Sd.mk (And.intro hown (And.intro hg hob)); clear hown hg hob))); have HIS := Sd.mk (isnew (jv := jv) (jb := jb) HO9.out.2.1 HR12.out.1 Y12.out HX1.out HX3.out); have HCN := Sd.mk (HC12.out.more HR12.out.1 HR12.out.2.1 HR12.out.2.2 HIS.out HO9.out.1 HO9.out.2.1 (HO9.out.2.2.imp_right (fun e => ⟨_, e, (by have := HC12.out.bel.size; omega)⟩))); go_roundg (gk - 1); (case measure => omega); (case rel => exact ⟨i + 1, by omega, by go_num, ⟨by rw [HNX.out, HNE.out]; exact HCN.out⟩⟩))
      | succ k =>
        obtain ⟨p, hp⟩ : ∃ p, bs[k]? = some p := ⟨_, List.getElem?_eq_getElem (show k < bs.length by rw [HCL.out]; omega)⟩
        obtain ⟨r, hr⟩ : ∃ r, rs[k]? = some r := ⟨_, List.getElem?_eq_getElem (show k < rs.length by rw [hrl]; omega)⟩
        obtain ⟨jb, hjb⟩ : ∃ d, Blk.digB p = d := ⟨_, rfl⟩
        have HNE := Sd.mk (show nx bs x = nxt (p.view, jb) i x by rw [HB3.out, tp_succ hp, hjb])
        have HVP := Sd.mk (show 0 ≤ p.view ∧ p.view ≤ 160 by have := HVW.out (k + 1) hki; rwa [tp_succ hp] at this)
        have HDG := Sd.mk (fun W (hb : RowKit.Below wr.heap.size wr W) => Blk.rdig_any W p r.sa r.sn r.sc r.a r.n r.c ((HR.out.2.2 k r p hr hp).wk.sl.below hb) (HR.out.2.2 k r p hr hp).n jb hjb (by have := HSZ.out p (List.mem_of_getElem? hp); omega))
        obtain ⟨g3, o3, rfl, e0, e1, e2, e3, e4, e5⟩ := bk_at HSR.out hr
        have HW := HR.out.2.2 k r p hr hp
        rw [HW.v] at e0
        rw [HW.p] at e1
        rw [HW.jv] at e2
        rw [HW.jb] at e3
        have HE := Sd.mk (And.intro e0 (And.intro e1 (And.intro e2 (And.intro e3 (And.intro e4 e5)))))
        clear e0 e1 e2 e3 e4 e5 HW hp hr hjb
        have hk1 : ((k : Int) + 1) - 1 = (k : Int) := by omega
        have hkw : IntKind.i64.wrap (k : Int) = (k : Int) := Rp.wraps_i64 _ (by omega) (by omega)
        have hkl : k < i := by omega
        have hkl2 : (k : Int) < i := by omega
        go_upto_region 8 with (first
          | (go_at_call 30; (with_reducible refine (Crt.reffirst_any _ fb HFB.out).mono ?_); rintro e w1 ⟨rfl, hb⟩; have HB1 := Sd.mk hb; clear hb))
        have b6 := below_then HB1.out (below_one w1 (.cells #[.int .i64 0, .string fb, .slice none 0 0] 39))
        have E6 := Sd.mk (blk_new w1 (.cells #[.int .i64 0, .string fb, .slice none 0 0] 39))
        have HB6 := Sd.mk b6
        have HGE := Sd.mk (show w.heap.size ≤ w1.heap.size from Nat.le_trans HC.out.bel.size HB1.out.size)
        clear b6 HB1 HB3
        generalize w1.heap.size = g6 at E6 HGE ⊢
        generalize w1.alloc _ = W6 at E6 HB6 ⊢
        have HB7 := Sd.mk (below_drew' HB6.out)
        have E7 := Sd.mk (blk_keep E6.out (below_drew' (w := W6) (Below.refl W6.heap.size W6)))
        clear E6 HB6
        have S0 : W6.drew.cell? ⟨g3, o3 + k * 6, none⟩ = some (.int .i64 p.view) ∧ W6.drew.cell? ⟨g3, o3 + k * 6 + 1, none⟩ = some (.int .i64 p.prop) ∧ W6.drew.cell? ⟨g3, o3 + k * 6 + 2, none⟩ = some (.int .i64 p.just.view) ∧ W6.drew.cell? ⟨g3, o3 + k * 6 + 3, none⟩ = some (.string p.just.block) ∧ W6.drew.cell? ⟨g3, o3 + k * 6 + 4, none⟩ = some (.slice r.sa r.sn r.sc) ∧ W6.drew.cell? ⟨g3, o3 + k * 6 + 5, none⟩ = some (.slice r.a r.n r.c) := ⟨cell_below HB7.out HE.out.1, cell_below HB7.out HE.out.2.1, cell_below HB7.out HE.out.2.2.1, cell_below HB7.out HE.out.2.2.2.1, cell_below HB7.out HE.out.2.2.2.2.1, cell_below HB7.out HE.out.2.2.2.2.2⟩
        refine Peel.region_peel (n := 13) (S := fun W => W.cell? ⟨g3, o3 + k * 6, none⟩ = some (.int .i64 p.view) ∧ W.cell? ⟨g3, o3 + k * 6 + 1, none⟩ = some (.int .i64 p.prop) ∧ W.cell? ⟨g3, o3 + k * 6 + 2, none⟩ = some (.int .i64 p.just.view) ∧ W.cell? ⟨g3, o3 + k * 6 + 3, none⟩ = some (.string p.just.block) ∧ W.cell? ⟨g3, o3 + k * 6 + 4, none⟩ = some (.slice r.sa r.sn r.sc) ∧ W.cell? ⟨g3, o3 + k * 6 + 5, none⟩ = some (.slice r.a r.n r.c)) (by kernel_rfl) (by kernel_rfl) S0 (fun hHeld => ?_)
        simp only [List.take_succ_cons, List.take_zero]
        generalize W6.drew = W7 at HB7 E7 S0 hHeld ⊢
        (refine Peel.take 0 (v := ?_) rfl rfl (by kernel_rfl) (by kernel_rfl) (by kernel_rfl) (fun _ _ _ h => h) (by assumption) ?_ ?_; rotate_left; (focus (intro w hSw; (try dsimp only at hSw); obtain ⟨s0, s1, s2, s3, s4, s5⟩ := hSw; (try simp only [List.getElem_toArray, List.getElem_cons_succ, List.getElem_cons_zero]); go_simp; try (with_reducible rfl))); try simp only [List.getElem_toArray, List.getElem_cons_succ, List.getElem_cons_zero, Act.put, List.setIfInBounds_toArray, List.set_cons_zero, List.set_cons_succ])
        (refine Peel.take 1 (v := ?_) rfl rfl (by kernel_rfl) (by kernel_rfl) (by kernel_rfl) (fun _ _ _ h => h) (by assumption) ?_ ?_; rotate_left; (focus (intro w hSw; (try dsimp only at hSw); obtain ⟨s0, s1, s2, s3, s4, s5⟩ := hSw; (try simp only [List.getElem_toArray, List.getElem_cons_succ, List.getElem_cons_zero]); go_simp; try (with_reducible rfl))); try simp only [List.getElem_toArray, List.getElem_cons_succ, List.getElem_cons_zero, Act.put, List.setIfInBounds_toArray, List.set_cons_zero, List.set_cons_succ])
        (refine Peel.take 2 (v := ?_) rfl rfl (by kernel_rfl) (by kernel_rfl) (by kernel_rfl) (fun _ _ _ h => h) (by assumption) ?_ ?_; rotate_left; (focus (intro w hSw; (try dsimp only at hSw); obtain ⟨s0, s1, s2, s3, s4, s5⟩ := hSw; (try simp only [List.getElem_toArray, List.getElem_cons_succ, List.getElem_cons_zero]); go_simp; try (with_reducible rfl))); try simp only [List.getElem_toArray, List.getElem_cons_succ, List.getElem_cons_zero, Act.put, List.setIfInBounds_toArray, List.set_cons_zero, List.set_cons_succ])
        (refine Peel.take 3 (v := ?_) rfl rfl (by kernel_rfl) (by kernel_rfl) (by kernel_rfl) (fun _ _ _ h => h) (by assumption) ?_ ?_; rotate_left; (focus (intro w hSw; (try dsimp only at hSw); obtain ⟨s0, s1, s2, s3, s4, s5⟩ := hSw; (try simp only [List.getElem_toArray, List.getElem_cons_succ, List.getElem_cons_zero]); go_simp; try (with_reducible rfl))); try simp only [List.getElem_toArray, List.getElem_cons_succ, List.getElem_cons_zero, Act.put, List.setIfInBounds_toArray, List.set_cons_zero, List.set_cons_succ])
        (refine Peel.take 4 (v := ?_) rfl rfl (by kernel_rfl) (by kernel_rfl) (by kernel_rfl) (fun _ _ _ h => h) (by assumption) ?_ ?_; rotate_left; (focus (intro w hSw; (try dsimp only at hSw); obtain ⟨s0, s1, s2, s3, s4, s5⟩ := hSw; (try simp only [List.getElem_toArray, List.getElem_cons_succ, List.getElem_cons_zero]); go_simp; try (with_reducible rfl))); try simp only [List.getElem_toArray, List.getElem_cons_succ, List.getElem_cons_zero, Act.put, List.setIfInBounds_toArray, List.set_cons_zero, List.set_cons_succ])
        (refine Peel.take 5 (v := ?_) rfl rfl (by kernel_rfl) (by kernel_rfl) (by kernel_rfl) (fun _ _ _ h => h) (by assumption) ?_ ?_; rotate_left; (focus (intro w hSw; (try dsimp only at hSw); obtain ⟨s0, s1, s2, s3, s4, s5⟩ := hSw; (try simp only [List.getElem_toArray, List.getElem_cons_succ, List.getElem_cons_zero]); go_simp; try (with_reducible rfl))); try simp only [List.getElem_toArray, List.getElem_cons_succ, List.getElem_cons_zero, Act.put, List.setIfInBounds_toArray, List.set_cons_zero, List.set_cons_succ])
        (refine Peel.take 6 (v := ?_) rfl rfl (by kernel_rfl) (by kernel_rfl) (by kernel_rfl) (fun _ _ _ h => h) (by assumption) ?_ ?_; rotate_left; (focus (intro w hSw; (try dsimp only at hSw); obtain ⟨s0, s1, s2, s3, s4, s5⟩ := hSw; (try simp only [List.getElem_toArray, List.getElem_cons_succ, List.getElem_cons_zero]); go_simp; try (with_reducible rfl))); try simp only [List.getElem_toArray, List.getElem_cons_succ, List.getElem_cons_zero, Act.put, List.setIfInBounds_toArray, List.set_cons_zero, List.set_cons_succ])
        (refine Peel.take 7 (v := ?_) rfl rfl (by kernel_rfl) (by kernel_rfl) (by kernel_rfl) (fun _ _ _ h => h) (by assumption) ?_ ?_; rotate_left; (focus (intro w hSw; (try dsimp only at hSw); obtain ⟨s0, s1, s2, s3, s4, s5⟩ := hSw; (try simp only [List.getElem_toArray, List.getElem_cons_succ, List.getElem_cons_zero]); go_simp; try (with_reducible rfl))); try simp only [List.getElem_toArray, List.getElem_cons_succ, List.getElem_cons_zero, Act.put, List.setIfInBounds_toArray, List.set_cons_zero, List.set_cons_succ])
        (refine Peel.take 8 (v := ?_) rfl rfl (by kernel_rfl) (by kernel_rfl) (by kernel_rfl) (fun _ _ _ h => h) (by assumption) ?_ ?_; rotate_left; (focus (intro w hSw; (try dsimp only at hSw); obtain ⟨s0, s1, s2, s3, s4, s5⟩ := hSw; (try simp only [List.getElem_toArray, List.getElem_cons_succ, List.getElem_cons_zero]); go_simp; try (with_reducible rfl))); try simp only [List.getElem_toArray, List.getElem_cons_succ, List.getElem_cons_zero, Act.put, List.setIfInBounds_toArray, List.set_cons_zero, List.set_cons_succ])
        (refine Peel.take 9 (v := ?_) rfl rfl (by kernel_rfl) (by kernel_rfl) (by kernel_rfl) (fun _ _ _ h => h) (by assumption) ?_ ?_; rotate_left; (focus (intro w hSw; (try dsimp only at hSw); obtain ⟨s0, s1, s2, s3, s4, s5⟩ := hSw; (try simp only [List.getElem_toArray, List.getElem_cons_succ, List.getElem_cons_zero]); go_simp; try (with_reducible rfl))); try simp only [List.getElem_toArray, List.getElem_cons_succ, List.getElem_cons_zero, Act.put, List.setIfInBounds_toArray, List.set_cons_zero, List.set_cons_succ])
        (refine Peel.take 10 (v := ?_) rfl rfl (by kernel_rfl) (by kernel_rfl) (by kernel_rfl) (fun _ _ _ h => h) (by assumption) ?_ ?_; rotate_left; (focus (intro w hSw; (try dsimp only at hSw); obtain ⟨s0, s1, s2, s3, s4, s5⟩ := hSw; (try simp only [List.getElem_toArray, List.getElem_cons_succ, List.getElem_cons_zero]); go_simp; try (with_reducible rfl))); try simp only [List.getElem_toArray, List.getElem_cons_succ, List.getElem_cons_zero, Act.put, List.setIfInBounds_toArray, List.set_cons_zero, List.set_cons_succ])
        (refine wpAnyH_ready (rs := [11]) (by kernel_rfl) (by simp) ?_; refine AllReadyH.cons rfl (fun K hK => ?_) AllReadyH.nil)
        go_simp
        go_at_call 27
        refine (HDG.out _ HB7.out).mono ?_
        rintro e w8 ⟨rfl, hb8⟩
        have HB8 := Sd.mk (below_then HB7.out hb8)
        have E8 := Sd.mk (blk_keep E7.out hb8)
        have s7 : w8.cell? ⟨g3, o3 + k * 6, none⟩ = some (.int .i64 p.view) ∧ w8.cell? ⟨g3, o3 + k * 6 + 1, none⟩ = some (.int .i64 p.prop) ∧ w8.cell? ⟨g3, o3 + k * 6 + 2, none⟩ = some (.int .i64 p.just.view) ∧ w8.cell? ⟨g3, o3 + k * 6 + 3, none⟩ = some (.string p.just.block) ∧ w8.cell? ⟨g3, o3 + k * 6 + 4, none⟩ = some (.slice r.sa r.sn r.sc) ∧ w8.cell? ⟨g3, o3 + k * 6 + 5, none⟩ = some (.slice r.a r.n r.c) := ⟨cell_below hb8 S0.1, cell_below hb8 S0.2.1, cell_below hb8 S0.2.2.1, cell_below hb8 S0.2.2.2.1, cell_below hb8 S0.2.2.2.2.1, cell_below hb8 S0.2.2.2.2.2⟩
        (refine hK.out _ _ s7 (fun hHeld => ?_); (clear hK K; try simp only [List.getElem_toArray, List.getElem_cons_succ, List.getElem_cons_zero, Act.put, List.setIfInBounds_toArray, List.set_cons_zero, List.set_cons_succ]))
        (refine Peel.take 12 (v := ?_) rfl rfl (by kernel_rfl) (by kernel_rfl) (by kernel_rfl) (fun _ _ _ h => h) (by assumption) ?_ ?_; rotate_left; (focus (intro w hSw; (try dsimp only at hSw); obtain ⟨s0, s1, s2, s3, s4, s5⟩ := hSw; (try simp only [List.getElem_toArray, List.getElem_cons_succ, List.getElem_cons_zero]); go_simp; try (with_reducible rfl))); try simp only [List.getElem_toArray, List.getElem_cons_succ, List.getElem_cons_zero, Act.put, List.setIfInBounds_toArray, List.set_cons_zero, List.set_cons_succ])
        clear S0 s7 hb8 HB7 E7
        (refine wpAnyH_done (by kernel_rfl) ?_ _; simp only [Peel.Qn, List.drop_succ_cons, List.drop_zero]; clear hHeld)
        have d0 := blk_at E8.out 0 _ rfl
        have d1 := blk_at E8.out 1 _ rfl
        have d2 := blk_at E8.out 2 _ rfl
        have f0 := blk_frz E8.out 0
        have f1 := blk_frz E8.out 1
        have f2 := blk_frz E8.out 2
        have HGR := Sd.mk (Rp.grown_then (grown_set w8 g6 0 (.int .i64 p.view)) (Rp.grown_then (grown_set _ g6 1 (.string jb)) (grown_set _ g6 2 (.slice none 0 0))))
        have HX9 := Sd.mk (blk_set3 (blk_set3 (blk_set3 E8.out 0 (.int .i64 p.view)) 1 (.string jb)) 2 (.slice none 0 0))
        go_upto_region 9 with (fail)
        have HC8b := Sd.mk (HC.out.below HB8.out)
        have HR8b := Sd.mk (And.intro (HR.out.1.below HB8.out) (And.intro HR.out.2.1 (fun j r b e f => (HR.out.2.2 j r b e f).below HB8.out)))
        have HC8 := Sd.mk (ch_turned HC8b.out HR8b.out E8.out HGR.out HGE.out)
        have HR8 := Sd.mk (is_turned HR8b.out E8.out HGR.out)
        have HX8 := Sd.mk (show ((((w8.setCell ⟨g6, 0, none⟩ (.int .i64 p.view)).setCell ⟨g6, 1, none⟩ (.string jb)).setCell ⟨g6, 2, none⟩ (.slice none 0 0))).heap[g6]? = some (.cells #[.int .i64 p.view, .string jb, .slice none 0 0] 39 (0, 0)) from HX9.out)
        clear d0 d1 d2 f0 f1 f2 HX9 HGR E8 HB8 HC8b HR8b HC HR HE
        obtain ⟨jv, hjv⟩ : ∃ jv, p.view = jv := ⟨_, rfl⟩
        rw [hjv] at HNE HX8 HVP
        simp only [hjv] at HC8 HR8 ⊢
        generalize ((World.setCell _ _ _).setCell _ _).setCell _ _ = W8 at HX8 HC8 HR8 ⊢
        have E8 := HX8
        have hj0 := HVP.out.1
        have hj1 := HVP.out.2
        clear HX8 HVP hjv
        (have E9 := Sd.mk (blk_keep E8.out (below_drew' (w := W8) (Below.refl W8.heap.size W8))); have HCE := Sd.mk (fun W (hb : RowKit.Below W8.drew.heap.size W8.drew W) => show W.cell? ⟨b1, o1 + i * 3, none⟩ = some (.int .u8 (a : Nat)) ∧ W.cell? ⟨b1, o1 + i * 3 + 2, none⟩ = some (.int .u8 (c0 : Nat)) ∧ W.cell? ⟨g6, 0, none⟩ = some (.int .i64 jv) ∧ W.cell? ⟨g6, 1, none⟩ = some (.string jb) ∧ W.cell? ⟨g6, 2, none⟩ = some (.slice none 0 0) from ⟨cell_below (below_then (below_drew' HC8.out.bel) hb) HPQ.out.1, cell_below (below_then (below_drew' HC8.out.bel) hb) HPQ.out.2.2, blk_at (blk_keep E9.out hb) 0 _ rfl, blk_at (blk_keep E9.out hb) 1 _ rfl, blk_at (blk_keep E9.out hb) 2 _ rfl⟩); have S0 := HCE.out _ (Below.refl _ _); refine Peel.region_peel (n := 25) (S := fun W => W.cell? ⟨b1, o1 + i * 3, none⟩ = some (.int .u8 (a : Nat)) ∧ W.cell? ⟨b1, o1 + i * 3 + 2, none⟩ = some (.int .u8 (c0 : Nat)) ∧ W.cell? ⟨g6, 0, none⟩ = some (.int .i64 jv) ∧ W.cell? ⟨g6, 1, none⟩ = some (.string jb) ∧ W.cell? ⟨g6, 2, none⟩ = some (.slice none 0 0)) (by kernel_rfl) (by kernel_rfl) S0 (fun hHeld => ?_); simp only [List.take_succ_cons, List.take_zero]; clear S0; have HC9 := Sd.mk (HC8.out.below (W1 := W8.drew) (below_drew' (Below.refl _ _))); have HR9 := Sd.mk (And.intro (HR8.out.1.below (W1 := W8.drew) (below_drew' (Below.refl _ _))) (And.intro HR8.out.2.1 (fun j r b e f => (HR8.out.2.2 j r b e f).below (W1 := W8.drew) (below_drew' (Below.refl _ _))))); clear HC8 HR8 E8 E9; generalize W8.drew = W9 at HC9 HR9 HCE hHeld ⊢)
        (refine Peel.take 0 (v := ?_) rfl rfl (by kernel_rfl) (by kernel_rfl) (by kernel_rfl) (fun _ _ _ h => h) (by assumption) ?_ ?_; rotate_left; (focus (intro w hSw; (try dsimp only at hSw); obtain ⟨s0, s1, s2, s3, s4⟩ := hSw; (try simp only [List.getElem_toArray, List.getElem_cons_succ, List.getElem_cons_zero]); go_simp; try (with_reducible rfl))); try simp only [List.getElem_toArray, List.getElem_cons_succ, List.getElem_cons_zero, Act.put, List.setIfInBounds_toArray, List.set_cons_zero, List.set_cons_succ])
        (refine Peel.take 1 (v := ?_) rfl rfl (by kernel_rfl) (by kernel_rfl) (by kernel_rfl) (fun _ _ _ h => h) (by assumption) ?_ ?_; rotate_left; (focus (intro w hSw; (try dsimp only at hSw); obtain ⟨s0, s1, s2, s3, s4⟩ := hSw; (try simp only [List.getElem_toArray, List.getElem_cons_succ, List.getElem_cons_zero]); go_simp; try (with_reducible rfl))); try simp only [List.getElem_toArray, List.getElem_cons_succ, List.getElem_cons_zero, Act.put, List.setIfInBounds_toArray, List.set_cons_zero, List.set_cons_succ])
        (refine Peel.take 2 (v := ?_) rfl rfl (by kernel_rfl) (by kernel_rfl) (by kernel_rfl) (fun _ _ _ h => h) (by assumption) ?_ ?_; rotate_left; (focus (intro w hSw; (try dsimp only at hSw); obtain ⟨s0, s1, s2, s3, s4⟩ := hSw; (try simp only [List.getElem_toArray, List.getElem_cons_succ, List.getElem_cons_zero]); go_simp; try (with_reducible rfl))); try simp only [List.getElem_toArray, List.getElem_cons_succ, List.getElem_cons_zero, Act.put, List.setIfInBounds_toArray, List.set_cons_zero, List.set_cons_succ])
        (refine Peel.take 3 (v := ?_) rfl rfl (by kernel_rfl) (by kernel_rfl) (by kernel_rfl) (fun _ _ _ h => h) (by assumption) ?_ ?_; rotate_left; (focus (intro w hSw; (try dsimp only at hSw); obtain ⟨s0, s1, s2, s3, s4⟩ := hSw; (try simp only [List.getElem_toArray, List.getElem_cons_succ, List.getElem_cons_zero]); go_simp; try (with_reducible rfl))); try simp only [List.getElem_toArray, List.getElem_cons_succ, List.getElem_cons_zero, Act.put, List.setIfInBounds_toArray, List.set_cons_zero, List.set_cons_succ])
        (refine Peel.take 4 (v := ?_) rfl rfl (by kernel_rfl) (by kernel_rfl) (by kernel_rfl) (fun _ _ _ h => h) (by assumption) ?_ ?_; rotate_left; (focus (intro w hSw; (try dsimp only at hSw); obtain ⟨s0, s1, s2, s3, s4⟩ := hSw; (try simp only [List.getElem_toArray, List.getElem_cons_succ, List.getElem_cons_zero]); go_simp; try (with_reducible rfl))); try simp only [List.getElem_toArray, List.getElem_cons_succ, List.getElem_cons_zero, Act.put, List.setIfInBounds_toArray, List.set_cons_zero, List.set_cons_succ])
        (refine Peel.take 5 (v := ?_) rfl rfl (by kernel_rfl) (by kernel_rfl) (by kernel_rfl) (fun _ _ _ h => h) (by assumption) ?_ ?_; rotate_left; (focus (intro w hSw; (try dsimp only at hSw); obtain ⟨s0, s1, s2, s3, s4⟩ := hSw; (try simp only [List.getElem_toArray, List.getElem_cons_succ, List.getElem_cons_zero]); go_simp; try (with_reducible rfl))); try simp only [List.getElem_toArray, List.getElem_cons_succ, List.getElem_cons_zero, Act.put, List.setIfInBounds_toArray, List.set_cons_zero, List.set_cons_succ])
        (refine Peel.take 6 (v := ?_) rfl rfl (by kernel_rfl) (by kernel_rfl) (by kernel_rfl) (fun _ _ _ h => h) (by assumption) ?_ ?_; rotate_left; (focus (intro w hSw; (try dsimp only at hSw); obtain ⟨s0, s1, s2, s3, s4⟩ := hSw; (try simp only [List.getElem_toArray, List.getElem_cons_succ, List.getElem_cons_zero]); go_simp; try (with_reducible rfl))); try simp only [List.getElem_toArray, List.getElem_cons_succ, List.getElem_cons_zero, Act.put, List.setIfInBounds_toArray, List.set_cons_zero, List.set_cons_succ])
        (refine Peel.take 7 (v := ?_) rfl rfl (by kernel_rfl) (by kernel_rfl) (by kernel_rfl) (fun _ _ _ h => h) (by assumption) ?_ ?_; rotate_left; (focus (intro w hSw; (try dsimp only at hSw); obtain ⟨s0, s1, s2, s3, s4⟩ := hSw; (try simp only [List.getElem_toArray, List.getElem_cons_succ, List.getElem_cons_zero]); go_simp; try (with_reducible rfl))); try simp only [List.getElem_toArray, List.getElem_cons_succ, List.getElem_cons_zero, Act.put, List.setIfInBounds_toArray, List.set_cons_zero, List.set_cons_succ])
        (refine Peel.take 8 (v := ?_) rfl rfl (by kernel_rfl) (by kernel_rfl) (by kernel_rfl) (fun _ _ _ h => h) (by assumption) ?_ ?_; rotate_left; (focus (intro w hSw; (try dsimp only at hSw); obtain ⟨s0, s1, s2, s3, s4⟩ := hSw; (try simp only [List.getElem_toArray, List.getElem_cons_succ, List.getElem_cons_zero]); go_simp; try (with_reducible rfl))); try simp only [List.getElem_toArray, List.getElem_cons_succ, List.getElem_cons_zero, Act.put, List.setIfInBounds_toArray, List.set_cons_zero, List.set_cons_succ])
        (refine Peel.take 9 (v := ?_) rfl rfl (by kernel_rfl) (by kernel_rfl) (by kernel_rfl) (fun _ _ _ h => h) (by assumption) ?_ ?_; rotate_left; (focus (intro w hSw; (try dsimp only at hSw); obtain ⟨s0, s1, s2, s3, s4⟩ := hSw; (try simp only [List.getElem_toArray, List.getElem_cons_succ, List.getElem_cons_zero]); go_simp; try (with_reducible rfl))); try simp only [List.getElem_toArray, List.getElem_cons_succ, List.getElem_cons_zero, Act.put, List.setIfInBounds_toArray, List.set_cons_zero, List.set_cons_succ])
        (refine Peel.take 10 (v := ?_) rfl rfl (by kernel_rfl) (by kernel_rfl) (by kernel_rfl) (fun _ _ _ h => h) (by assumption) ?_ ?_; rotate_left; (focus (intro w hSw; (try dsimp only at hSw); obtain ⟨s0, s1, s2, s3, s4⟩ := hSw; (try simp only [List.getElem_toArray, List.getElem_cons_succ, List.getElem_cons_zero]); go_simp; try (with_reducible rfl))); try simp only [List.getElem_toArray, List.getElem_cons_succ, List.getElem_cons_zero, Act.put, List.setIfInBounds_toArray, List.set_cons_zero, List.set_cons_succ])
        (refine Peel.take 11 (v := ?_) rfl rfl (by kernel_rfl) (by kernel_rfl) (by kernel_rfl) (fun _ _ _ h => h) (by assumption) ?_ ?_; rotate_left; (focus (intro w hSw; (try dsimp only at hSw); obtain ⟨s0, s1, s2, s3, s4⟩ := hSw; (try simp only [List.getElem_toArray, List.getElem_cons_succ, List.getElem_cons_zero]); go_simp; try (with_reducible rfl))); try simp only [List.getElem_toArray, List.getElem_cons_succ, List.getElem_cons_zero, Act.put, List.setIfInBounds_toArray, List.set_cons_zero, List.set_cons_succ])
        (refine Peel.take 12 (v := ?_) rfl rfl (by kernel_rfl) (by kernel_rfl) (by kernel_rfl) (fun _ _ _ h => h) (by assumption) ?_ ?_; rotate_left; (focus (intro w hSw; (try dsimp only at hSw); obtain ⟨s0, s1, s2, s3, s4⟩ := hSw; (try simp only [List.getElem_toArray, List.getElem_cons_succ, List.getElem_cons_zero]); go_simp; try (with_reducible rfl))); try simp only [List.getElem_toArray, List.getElem_cons_succ, List.getElem_cons_zero, Act.put, List.setIfInBounds_toArray, List.set_cons_zero, List.set_cons_succ])
        (refine Peel.take 13 (v := ?_) rfl rfl (by kernel_rfl) (by kernel_rfl) (by kernel_rfl) (fun _ _ _ h => h) (by assumption) ?_ ?_; rotate_left; (focus (intro w hSw; (try dsimp only at hSw); obtain ⟨s0, s1, s2, s3, s4⟩ := hSw; (try simp only [List.getElem_toArray, List.getElem_cons_succ, List.getElem_cons_zero]); go_simp; try (with_reducible rfl))); try simp only [List.getElem_toArray, List.getElem_cons_succ, List.getElem_cons_zero, Act.put, List.setIfInBounds_toArray, List.set_cons_zero, List.set_cons_succ])
        (refine Peel.take 14 (v := ?_) rfl rfl (by kernel_rfl) (by kernel_rfl) (by kernel_rfl) (fun _ _ _ h => h) (by assumption) ?_ ?_; rotate_left; (focus (intro w hSw; (try dsimp only at hSw); obtain ⟨s0, s1, s2, s3, s4⟩ := hSw; (try simp only [List.getElem_toArray, List.getElem_cons_succ, List.getElem_cons_zero]); go_simp; try (with_reducible rfl))); try simp only [List.getElem_toArray, List.getElem_cons_succ, List.getElem_cons_zero, Act.put, List.setIfInBounds_toArray, List.set_cons_zero, List.set_cons_succ])
        (refine Peel.take 15 (v := ?_) rfl rfl (by kernel_rfl) (by kernel_rfl) (by kernel_rfl) (fun _ _ _ h => h) (by assumption) ?_ ?_; rotate_left; (focus (intro w hSw; (try dsimp only at hSw); obtain ⟨s0, s1, s2, s3, s4⟩ := hSw; (try simp only [List.getElem_toArray, List.getElem_cons_succ, List.getElem_cons_zero]); go_simp; try (with_reducible rfl))); try simp only [List.getElem_toArray, List.getElem_cons_succ, List.getElem_cons_zero, Act.put, List.setIfInBounds_toArray, List.set_cons_zero, List.set_cons_succ])
        (refine Peel.take 16 (v := ?_) rfl rfl (by kernel_rfl) (by kernel_rfl) (by kernel_rfl) (fun _ _ _ h => h) (by assumption) ?_ ?_; rotate_left; (focus (intro w hSw; (try dsimp only at hSw); obtain ⟨s0, s1, s2, s3, s4⟩ := hSw; (try simp only [List.getElem_toArray, List.getElem_cons_succ, List.getElem_cons_zero]); go_simp; try (with_reducible rfl))); try simp only [List.getElem_toArray, List.getElem_cons_succ, List.getElem_cons_zero, Act.put, List.setIfInBounds_toArray, List.set_cons_zero, List.set_cons_succ])
        (refine Peel.take 17 (v := ?_) rfl rfl (by kernel_rfl) (by kernel_rfl) (by kernel_rfl) (fun _ _ _ h => h) (by assumption) ?_ ?_; rotate_left; (focus (intro w hSw; (try dsimp only at hSw); obtain ⟨s0, s1, s2, s3, s4⟩ := hSw; (try simp only [List.getElem_toArray, List.getElem_cons_succ, List.getElem_cons_zero]); go_simp; try (with_reducible rfl))); try simp only [List.getElem_toArray, List.getElem_cons_succ, List.getElem_cons_zero, Act.put, List.setIfInBounds_toArray, List.set_cons_zero, List.set_cons_succ])
        (refine Peel.take 18 (v := ?_) rfl rfl (by kernel_rfl) (by kernel_rfl) (by kernel_rfl) (fun _ _ _ h => h) (by assumption) ?_ ?_; rotate_left; (focus (intro w hSw; (try dsimp only at hSw); obtain ⟨s0, s1, s2, s3, s4⟩ := hSw; (try simp only [List.getElem_toArray, List.getElem_cons_succ, List.getElem_cons_zero]); go_simp; try (with_reducible rfl))); try simp only [List.getElem_toArray, List.getElem_cons_succ, List.getElem_cons_zero, Act.put, List.setIfInBounds_toArray, List.set_cons_zero, List.set_cons_succ])
        (refine Peel.take 19 (v := ?_) rfl rfl (by kernel_rfl) (by kernel_rfl) (by kernel_rfl) (fun _ _ _ h => h) (by assumption) ?_ ?_; rotate_left; (focus (intro w hSw; (try dsimp only at hSw); obtain ⟨s0, s1, s2, s3, s4⟩ := hSw; (try simp only [List.getElem_toArray, List.getElem_cons_succ, List.getElem_cons_zero]); go_simp; try (with_reducible rfl))); try simp only [List.getElem_toArray, List.getElem_cons_succ, List.getElem_cons_zero, Act.put, List.setIfInBounds_toArray, List.set_cons_zero, List.set_cons_succ])
        (refine Peel.take 20 (v := ?_) rfl rfl (by kernel_rfl) (by kernel_rfl) (by kernel_rfl) (fun _ _ _ h => h) (by assumption) ?_ ?_; rotate_left; (focus (intro w hSw; (try dsimp only at hSw); obtain ⟨s0, s1, s2, s3, s4⟩ := hSw; (try simp only [List.getElem_toArray, List.getElem_cons_succ, List.getElem_cons_zero]); go_simp; try (with_reducible rfl))); try simp only [List.getElem_toArray, List.getElem_cons_succ, List.getElem_cons_zero, Act.put, List.setIfInBounds_toArray, List.set_cons_zero, List.set_cons_succ])
        (refine Peel.take 21 (v := ?_) rfl rfl (by kernel_rfl) (by kernel_rfl) (by kernel_rfl) (fun _ _ _ h => h) (by assumption) ?_ ?_; rotate_left; (focus (intro w hSw; (try dsimp only at hSw); obtain ⟨s0, s1, s2, s3, s4⟩ := hSw; (try simp only [List.getElem_toArray, List.getElem_cons_succ, List.getElem_cons_zero]); go_simp; try (with_reducible rfl))); try simp only [List.getElem_toArray, List.getElem_cons_succ, List.getElem_cons_zero, Act.put, List.setIfInBounds_toArray, List.set_cons_zero, List.set_cons_succ])
        have hw1 : IntKind.i64.wrap ((c1 : Nat) : Int) = ((c1 : Nat) : Int) := Rp.wraps_i64 _ (by omega) (by omega)
        have hw2 : IntKind.i64.wrap (1 + ((i : Nat) : Int)) = 1 + ((i : Nat) : Int) := Rp.wraps_i64 _ (by omega) (by omega)
        have hw3 : IntKind.i64.wrap ((a1 : Nat) : Int) = ((a1 : Nat) : Int) := Rp.wraps_i64 _ (by omega) (by omega)
        have hw4 : IntKind.i64.wrap (jv + 1) = jv + 1 := Rp.wraps_i64 _ (by omega) (by omega)
        have hw5 : IntKind.i64.wrap (jv + 1 + ((a1 : Nat) : Int)) = jv + 1 + ((a1 : Nat) : Int) := Rp.wraps_i64 _ (by omega) (by omega)
        simp only [hw1, hw2, hw3, hw4, hw5]
        clear hw1 hw2 hw3 hw4 hw5
        refine wpAnyH_ready (rs := [22, 24]) (by kernel_rfl) (by simp) ?_
        refine AllReadyH.cons rfl (fun K hK => ?_) (AllReadyH.cons rfl (fun K hK => ?_) AllReadyH.nil)
        · go_simp
          have hb1 := below_one W9 (.cells #[.int .i64 (c1 : Nat), .int .i64 (1 + (i : Nat)), .string ⟨#[]⟩] 47)
          have s6 := HCE.out _ hb1
          (refine hK.out _ _ s6 (fun hHeld => ?_); (clear hK K; try simp only [List.getElem_toArray, List.getElem_cons_succ, List.getElem_cons_zero, Act.put, List.setIfInBounds_toArray, List.set_cons_zero, List.set_cons_succ]))
          clear s6
          (refine Peel.take 23 (v := ?_) rfl rfl (by kernel_rfl) (by kernel_rfl) (by kernel_rfl) (fun _ _ _ h => h) (by assumption) ?_ ?_; rotate_left; (focus (intro w hSw; (try dsimp only at hSw); obtain ⟨s0, s1, s2, s3, s4⟩ := hSw; (try simp only [List.getElem_toArray, List.getElem_cons_succ, List.getElem_cons_zero]); go_simp; try (with_reducible rfl))); try simp only [List.getElem_toArray, List.getElem_cons_succ, List.getElem_cons_zero, Act.put, List.setIfInBounds_toArray, List.set_cons_zero, List.set_cons_succ])
          (refine wpAnyH_ready (rs := [24]) (by kernel_rfl) (by simp) ?_; refine AllReadyH.cons rfl (fun K hK => ?_) AllReadyH.nil)
          go_simp
          have hb2 := below_then hb1 (below_one _ (.cells #[.int .i64 0, .int .i64 0, .int .i64 0, .string ⟨#[]⟩, .slice none 0 0, .slice none 0 0] 42))
          have s6 := HCE.out _ hb2
          (refine hK.out _ _ s6 (fun hHeld => ?_); (clear hK K; try simp only [List.getElem_toArray, List.getElem_cons_succ, List.getElem_cons_zero, Act.put, List.setIfInBounds_toArray, List.set_cons_zero, List.set_cons_succ]))
          clear s6
          clear hb1 hb2
          (refine wpAnyH_done (by kernel_rfl) ?_ _; simp only [Peel.Qn, List.drop_succ_cons, List.drop_zero]; clear hHeld)
          go_upto_region 10 with (fail)
          have hb2 := below_then (below_one W9 (.cells #[.int .i64 (c1 : Nat), .int .i64 (1 + (i : Nat)), .string ⟨#[]⟩] 47)) (below_one _ (.cells #[.int .i64 (jv + 1 + (a1 : Nat)), .int .i64 0, .int .i64 jv, .string jb, .slice none 0 0, .slice (some ⟨W9.heap.size, 0, none⟩) 1 1] 42))
          have X12 := Sd.mk (blk_new1 W9 (.cells #[.int .i64 (c1 : Nat), .int .i64 (1 + (i : Nat)), .string ⟨#[]⟩] 47) (.cells #[.int .i64 (jv + 1 + (a1 : Nat)), .int .i64 0, .int .i64 jv, .string jb, .slice none 0 0, .slice (some ⟨W9.heap.size, 0, none⟩) 1 1] 42))
          have Y12 := Sd.mk (blk_keep (blk_new W9 (.cells #[.int .i64 (c1 : Nat), .int .i64 (1 + (i : Nat)), .string ⟨#[]⟩] 47)) (below_one _ (.cells #[.int .i64 (jv + 1 + (a1 : Nat)), .int .i64 0, .int .i64 jv, .string jb, .slice none 0 0, .slice (some ⟨W9.heap.size, 0, none⟩) 1 1] 42)))
          (have HC12 := Sd.mk (HC9.out.below hb2); have HR12 := Sd.mk (And.intro (HR9.out.1.below hb2) (And.intro HR9.out.2.1 (fun j r b e f => (HR9.out.2.2 j r b e f).below hb2))); clear HC9 HR9 HCE hb2; generalize (W9.alloc _).alloc _ = W12 at X12 Y12 HC12 HR12 ⊢; generalize W9.heap.size + 1 = b7 at X12 Y12 ⊢; generalize W9.heap.size = q at X12 Y12 ⊢; have d0 := blk_at X12.out 0 _ rfl; have d1 := blk_at X12.out 1 _ rfl; have d2 := blk_at X12.out 2 _ rfl; have d3 := blk_at X12.out 3 _ rfl; have d4 := blk_at X12.out 4 _ rfl; have d5 := blk_at X12.out 5 _ rfl; go_wp2_with (first | (at_builtin; go_loud (refine append_at (f := fB) (n := 6) (fun _ => rfl) fB_one rfl (.tmp 68) (.tmp 70) 25 42 (.agg #[.int .i64 0, .int .i64 0, .int .i64 0, .string ByteArray.empty, .slice none 0 0, .slice none 0 0]) 88 rfl Try.underlying25 info_blk rfl (by decide) (.slice (some ⟨g3, o3, none⟩) i c3) rs ⟨jv + 1 + (a1 : Nat), 0, jv, jb, none, 0, 0, some ⟨q, 0, none⟩, 1, 1⟩ rfl rfl HR12.out.1 (by rw [hrl]; omega) (by rw [hrl]; omega) ?_; intro v9 w9 hown hg hob; have HO9 := Sd.mk (And.intro hown (And.intro hg hob)); clear hown hg hob))); have HIS := Sd.mk (isnew (jv := jv) (jb := jb) HO9.out.2.1 HR12.out.1 Y12.out HX1.out HX3.out); have HCN := Sd.mk (HC12.out.more HR12.out.1 HR12.out.2.1 HR12.out.2.2 HIS.out HO9.out.1 HO9.out.2.1 (HO9.out.2.2.imp_right (fun e => ⟨_, e, (by have := HC12.out.bel.size; omega)⟩))); go_roundg (gk - 1); (case measure => omega); (case rel => exact ⟨i + 1, by omega, by go_num, ⟨by rw [HNX.out, HNE.out]; exact HCN.out⟩⟩))
        · go_simp
          have hb1 := below_one W9 (.cells #[.int .i64 0, .int .i64 0, .int .i64 0, .string ⟨#[]⟩, .slice none 0 0, .slice none 0 0] 42)
          have s6 := HCE.out _ hb1
          (refine hK.out _ _ s6 (fun hHeld => ?_); (clear hK K; try simp only [List.getElem_toArray, List.getElem_cons_succ, List.getElem_cons_zero, Act.put, List.setIfInBounds_toArray, List.set_cons_zero, List.set_cons_succ]))
          clear s6
          (refine wpAnyH_ready (rs := [22]) (by kernel_rfl) (by simp) ?_; refine AllReadyH.cons rfl (fun K hK => ?_) AllReadyH.nil)
          go_simp
          have hb2 := below_then hb1 (below_one _ (.cells #[.int .i64 (c1 : Nat), .int .i64 (1 + (i : Nat)), .string ⟨#[]⟩] 47))
          have s6 := HCE.out _ hb2
          (refine hK.out _ _ s6 (fun hHeld => ?_); (clear hK K; try simp only [List.getElem_toArray, List.getElem_cons_succ, List.getElem_cons_zero, Act.put, List.setIfInBounds_toArray, List.set_cons_zero, List.set_cons_succ]))
          clear s6
          (refine Peel.take 23 (v := ?_) rfl rfl (by kernel_rfl) (by kernel_rfl) (by kernel_rfl) (fun _ _ _ h => h) (by assumption) ?_ ?_; rotate_left; (focus (intro w hSw; (try dsimp only at hSw); obtain ⟨s0, s1, s2, s3, s4⟩ := hSw; (try simp only [List.getElem_toArray, List.getElem_cons_succ, List.getElem_cons_zero]); go_simp; try (with_reducible rfl))); try simp only [List.getElem_toArray, List.getElem_cons_succ, List.getElem_cons_zero, Act.put, List.setIfInBounds_toArray, List.set_cons_zero, List.set_cons_succ])
          clear hb1 hb2
          (refine wpAnyH_done (by kernel_rfl) ?_ _; simp only [Peel.Qn, List.drop_succ_cons, List.drop_zero]; clear hHeld)
          go_upto_region 10 with (fail)
          have hb2 := below_then (below_one W9 (.cells #[.int .i64 (jv + 1 + (a1 : Nat)), .int .i64 0, .int .i64 jv, .string jb, .slice none 0 0, .slice (some ⟨W9.heap.size + 1, 0, none⟩) 1 1] 42)) (below_one _ (.cells #[.int .i64 (c1 : Nat), .int .i64 (1 + (i : Nat)), .string ⟨#[]⟩] 47))
          have X12 := Sd.mk (blk_keep (blk_new W9 (.cells #[.int .i64 (jv + 1 + (a1 : Nat)), .int .i64 0, .int .i64 jv, .string jb, .slice none 0 0, .slice (some ⟨W9.heap.size + 1, 0, none⟩) 1 1] 42)) (below_one _ (.cells #[.int .i64 (c1 : Nat), .int .i64 (1 + (i : Nat)), .string ⟨#[]⟩] 47)))
          have Y12 := Sd.mk (blk_new1 W9 (.cells #[.int .i64 (jv + 1 + (a1 : Nat)), .int .i64 0, .int .i64 jv, .string jb, .slice none 0 0, .slice (some ⟨W9.heap.size + 1, 0, none⟩) 1 1] 42) (.cells #[.int .i64 (c1 : Nat), .int .i64 (1 + (i : Nat)), .string ⟨#[]⟩] 47))
          (have HC12 := Sd.mk (HC9.out.below hb2); have HR12 := Sd.mk (And.intro (HR9.out.1.below hb2) (And.intro HR9.out.2.1 (fun j r b e f => (HR9.out.2.2 j r b e f).below hb2))); clear HC9 HR9 HCE hb2; generalize (W9.alloc _).alloc _ = W12 at X12 Y12 HC12 HR12 ⊢; generalize W9.heap.size + 1 = q at X12 Y12 ⊢; generalize W9.heap.size = b7 at X12 Y12 ⊢; have d0 := blk_at X12.out 0 _ rfl; have d1 := blk_at X12.out 1 _ rfl; have d2 := blk_at X12.out 2 _ rfl; have d3 := blk_at X12.out 3 _ rfl; have d4 := blk_at X12.out 4 _ rfl; have d5 := blk_at X12.out 5 _ rfl; go_wp2_with (first | (at_builtin; go_loud (refine append_at (f := fB) (n := 6) (fun _ => rfl) fB_one rfl (.tmp 68) (.tmp 70) 25 42 (.agg #[.int .i64 0, .int .i64 0, .int .i64 0, .string ByteArray.empty, .slice none 0 0, .slice none 0 0]) 88 rfl Try.underlying25 info_blk rfl (by decide) (.slice (some ⟨g3, o3, none⟩) i c3) rs ⟨jv + 1 + (a1 : Nat), 0, jv, jb, none, 0, 0, some ⟨q, 0, none⟩, 1, 1⟩ rfl rfl HR12.out.1 (by rw [hrl]; omega) (by rw [hrl]; omega) ?_; intro v9 w9 hown hg hob; have HO9 := Sd.mk (And.intro hown (And.intro hg hob)); clear hown hg hob))); have HIS := Sd.mk (isnew (jv := jv) (jb := jb) HO9.out.2.1 HR12.out.1 Y12.out HX1.out HX3.out); have HCN := Sd.mk (HC12.out.more HR12.out.1 HR12.out.2.1 HR12.out.2.2 HIS.out HO9.out.1 HO9.out.2.1 (HO9.out.2.2.imp_right (fun e => ⟨_, e, (by have := HC12.out.bel.size; omega)⟩))); go_roundg (gk - 1); (case measure => omega); (case rel => exact ⟨i + 1, by omega, by go_num, ⟨by rw [HNX.out, HNE.out]; exact HCN.out⟩⟩))
    · have hii : decide (i < n) = false := decide_eq_false (by omega)
      have hii2 : decide ((i : Int) < (n : Int)) = false := decide_eq_false (by omega)
      have HE := Sd.mk (show chn (l.take i) = chn l by rw [List.take_of_length_le (by rw [← HN.out]; omega)])
      rw [HE.out] at HC
      go_wp2
      go_ret
      exact ⟨_, rfl, HC.out⟩
-- L1>
end Go.Proofs.Ytnomgkmeomlccaa.Kee

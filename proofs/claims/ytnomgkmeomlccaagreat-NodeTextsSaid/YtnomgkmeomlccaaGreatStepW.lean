/- The program's step, walked. -/
import Derived.Test.YtnomgkmeomlccaaGreatStep
import Derived.Deep.WholeRow
set_option linter.unusedVariables false
set_option linter.unusedSimpArgs false
namespace Go.Proofs.YtnomgkmeomlccaaGreat.Step
open Go.RowKit Rd Api Own Mv Word Vec Mix Tab

/-- the step's own rows -/
structure Stp (w : World) (H M V : Nat → Nat) (W : World) : Prop where
  h : VB .u32 8 160 w.heap.size H W
  r : ∃ U, VB .u32 8 160 (w.heap.size + 1) U W
  m : VB .u32 16 205 (w.heap.size + 1 + 1) M W
  v : VB .u32 16 205 (w.heap.size + 1 + 1 + 1) V W
  bel : Below w.heap.size w W
theorem VB.below {k : IntKind} {n : Nat} {t : TypeId} {g : Nat} {V : Nat → Nat} {W W1 : World} (h : VB k n t g V W) (hb : Below W.heap.size W W1) : VB k n t g V W1 := blk_keep h hb
theorem Stp.below {w : World} {H M V : Nat → Nat} {W W1 : World} (h : Stp w H M V W) (hb : Below W.heap.size W W1) : Stp w H M V W1 :=
  ⟨VB.below h.h hb, h.r.imp fun _ r => VB.below r hb, VB.below h.m hb, VB.below h.v hb, below_then h.bel hb⟩
theorem Stp.drew {w : World} {H M V : Nat → Nat} {W : World} (h : Stp w H M V W) : Stp w H M V W.drew := ⟨h.h, h.r, h.m, h.v, below_drew' h.bel⟩
theorem Stp.drewN {w : World} {H M V : Nat → Nat} {W : World} (h : Stp w H M V W) (n : Nat) : Stp w H M V (W.drewN n) := ⟨h.h, h.r, h.m, h.v, below_drewN h.bel n⟩
theorem Stp.setM {w : World} {H M V : Nat → Nat} {W : World} (h : Stp w H M V W) {i : Nat} (hi : i < 16) (x : Nat) : Stp w H (upd M i x) V (W.setCell ⟨w.heap.size + 1 + 1, i, none⟩ (.int .u32 x)) :=
  ⟨h.h.other (by omega) _ _, h.r.imp fun _ r => r.other (by omega) _ _, h.m.set hi x, h.v.other (by omega) _ _, h.bel.setCell (by simp only; omega) _⟩
theorem Stp.setV {w : World} {H M V : Nat → Nat} {W : World} (h : Stp w H M V W) {i : Nat} (hi : i < 16) (x : Nat) : Stp w H M (upd V i x) (W.setCell ⟨w.heap.size + 1 + 1 + 1, i, none⟩ (.int .u32 x)) :=
  ⟨h.h.other (by omega) _ _, h.r.imp fun _ r => r.other (by omega) _ _, h.m.other (by omega) _ _, h.v.set hi x, h.bel.setCell (by simp only; omega) _⟩
theorem Stp.setH {w : World} {H M V : Nat → Nat} {W : World} (h : Stp w H M V W) {i : Nat} (hi : i < 8) (x : Nat) : Stp w (upd H i x) M V (W.setCell ⟨w.heap.size, i, none⟩ (.int .u32 x)) :=
  ⟨h.h.set hi x, h.r.imp fun _ r => r.other (by omega) _ _, h.m.other (by omega) _ _, h.v.other (by omega) _ _, h.bel.setCell (by simp only; omega) _⟩
theorem Stp.mix {w : World} {H M V V1 : Nat → Nat} {W W1 : World} (h : Stp w H M V W) (ho : Only (w.heap.size + 1 + 1 + 1) W W1) (hv : VB .u32 16 205 (w.heap.size + 1 + 1 + 1) V1 W1) : Stp w H M V1 W1 :=
  ⟨(ho.oth _ (blk_lt' h.h) (by omega)).trans h.h, h.r.imp fun _ r => (ho.oth _ (blk_lt' r) (by omega)).trans r, (ho.oth _ (blk_lt' h.m) (by omega)).trans h.m, hv, ho.bel h.bel (by omega) h.bel.size⟩

theorem vec_ext (k : IntKind) {n : Nat} {V U : Nat → Nat} (h : ∀ i, i < n → V i = U i) : vec k n V = vec k n U := by
  unfold vec
  congr 1
  exact List.map_congr_left fun i hi => by rw [h i (List.mem_range.1 hi)]
theorem Stp.toM {w : World} {H M M1 V : Nat → Nat} {W : World} (h : Stp w H M V W) (e : ∀ i, i < 16 → M i = M1 i) : Stp w H M1 V W := ⟨h.h, h.r, by unfold VB; rw [← vec_ext .u32 e]; exact h.m, h.v, h.bel⟩
theorem Stp.toV {w : World} {H M V V1 : Nat → Nat} {W : World} (h : Stp w H M V W) (e : ∀ i, i < 16 → V i = V1 i) : Stp w H M V1 W := ⟨h.h, h.r, h.m, by unfold VB; rw [← vec_ext .u32 e]; exact h.v, h.bel⟩
theorem Stp.toH {w : World} {H H1 M V : Nat → Nat} {W : World} (h : Stp w H M V W) (e : ∀ i, i < 8 → H i = H1 i) : Stp w H1 M V W := ⟨by unfold VB; rw [← vec_ext .u32 e]; exact h.h, h.r, h.m, h.v, h.bel⟩
theorem Stp.lt {w : World} {H M V : Nat → Nat} {W : World} (h : Stp w H M V W) : w.heap.size + 1 + 1 + 1 < W.heap.size := blk_lt' h.v

theorem ones_xor (a : Nat) (ha : a < 4294967296) : 4294967295 ^^^ a = 4294967295 - a := by
  have h1 : (BitVec.allOnes 32 ^^^ BitVec.ofNat 32 a).toNat = 4294967295 ^^^ a := by
    rw [BitVec.toNat_xor, BitVec.toNat_allOnes, BitVec.toNat_ofNat, Nat.mod_eq_of_lt ha]
  have h2 : (~~~(BitVec.ofNat 32 a)).toNat = 4294967295 - a := by
    rw [BitVec.toNat_not, BitVec.toNat_ofNat, Nat.mod_eq_of_lt ha]
  rw [← h1, ← h2, BitVec.allOnes_xor]
theorem not32 (a : Nat) (ha : a < 4294967296) : bits .xor .u32 IntKind.u32.max (a : Int) = ((4294967295 - a : Nat) : Int) := by
  have := xor32 4294967295 a (by decide) ha
  rw [ones_xor a ha] at this
  exact this
theorem vec_extract (k : IntKind) {n m o : Nat} (V : Nat → Nat) (h : o + m ≤ n) : (vec k n V).extract o (o + m) = vec k m (fun i => V (o + i)) := by
  apply Array.ext_getElem?
  intro j
  rw [Array.getElem?_extract]
  by_cases hj : j < m
  · rw [vec_at k _ hj, if_pos (by rw [vec_size]; omega), vec_at k V (by omega)]
  · rw [if_neg (by rw [vec_size]; omega), Array.getElem?_eq_none (by rw [vec_size]; omega)]

theorem index_vec {P : Program} {t e f : TypeId} {n m : Nat} (hu : P.underlying t = some (.array n e)) (he : P.underlying e = some (.array m f)) (hi : (P.info? e).map (·.size) = some m) (k : IntKind) {N : Nat} (hN : N = n * m) (V : Nat → Nat) {r : Nat} (hr : r < n) (W : World) :
    (Instr.index t (.agg (vec k N V)) (.int .i64 (r : Nat))).run P W = .ok (.agg (vec k m (fun i => V (r * m + i)))) W := by
  subst hN
  have hb : r * m + m ≤ n * m := by rw [← Nat.succ_mul]; exact Nat.mul_le_mul_right m hr
  cases hq : P.info? e with
  | none => rw [hq] at hi; cases hi
  | some d =>
    have hs : d.size = m := by rw [hq] at hi; simpa using hi
    have hri : (r : Int) < n := by omega
    simp [Instr.index, part, asIntOf, isAgg, run_underlying hu, run_underlying he, sizeOf, typeInfo, hq, hs, hr]
    exact vec_extract k V hb

theorem stp_start (w : World) (H : Nat → Nat) : Stp w H (fun _ => 0) (fun _ => 0) ((((w.alloc (.cells (vec .u32 8 H) 160)).alloc (.cells #[.int .u32 0, .int .u32 0, .int .u32 0, .int .u32 0, .int .u32 0, .int .u32 0, .int .u32 0, .int .u32 0] 160)).alloc (.cells #[.int .u32 0, .int .u32 0, .int .u32 0, .int .u32 0, .int .u32 0, .int .u32 0, .int .u32 0, .int .u32 0, .int .u32 0, .int .u32 0, .int .u32 0, .int .u32 0, .int .u32 0, .int .u32 0, .int .u32 0, .int .u32 0] 205)).alloc (.cells #[.int .u32 0, .int .u32 0, .int .u32 0, .int .u32 0, .int .u32 0, .int .u32 0, .int .u32 0, .int .u32 0, .int .u32 0, .int .u32 0, .int .u32 0, .int .u32 0, .int .u32 0, .int .u32 0, .int .u32 0, .int .u32 0] 205)) := by
  have e8 : #[.int .u32 0, .int .u32 0, .int .u32 0, .int .u32 0, .int .u32 0, .int .u32 0, .int .u32 0, .int .u32 0] = vec .u32 8 fun _ => 0 := by kernel_rfl
  have e16 : #[.int .u32 0, .int .u32 0, .int .u32 0, .int .u32 0, .int .u32 0, .int .u32 0, .int .u32 0, .int .u32 0, .int .u32 0, .int .u32 0, .int .u32 0, .int .u32 0, .int .u32 0, .int .u32 0, .int .u32 0, .int .u32 0] = vec .u32 16 fun _ => 0 := by kernel_rfl
  rw [e8, e16]
  have b1 := below_one w (.cells (vec .u32 8 H) 160)
  have b2 := below_one (w.alloc (.cells (vec .u32 8 H) 160)) (.cells (vec .u32 8 fun _ => 0) 160)
  have b3 := below_one ((w.alloc (.cells (vec .u32 8 H) 160)).alloc (.cells (vec .u32 8 fun _ => 0) 160)) (.cells (vec .u32 16 fun _ => 0) 205)
  have b4 := below_one (((w.alloc (.cells (vec .u32 8 H) 160)).alloc (.cells (vec .u32 8 fun _ => 0) 160)).alloc (.cells (vec .u32 16 fun _ => 0) 205)) (.cells (vec .u32 16 fun _ => 0) 205)
  refine ⟨blk_keep (blk_keep (blk_keep (blk_new _ _) b2) b3) b4, ⟨_, blk_keep (blk_keep (blk_new1 _ _ _) b3) b4⟩, blk_keep (blk_new2 _ _ _ _) b4, ?_, below_then (below_then (below_then b1 b2) b3) b4⟩
  have := blk_new (((w.alloc (.cells (vec .u32 8 H) 160)).alloc (.cells (vec .u32 8 fun _ => 0) 160)).alloc (.cells (vec .u32 16 fun _ => 0) 205)) (.cells (vec .u32 16 fun _ => 0) 205)
  have e : ((((w.alloc (.cells (vec .u32 8 H) 160)).alloc (.cells (vec .u32 8 fun _ => 0) 160)).alloc (.cells (vec .u32 16 fun _ => 0) 205))).heap.size = w.heap.size + 1 + 1 + 1 := by simp
  rw [e] at this
  exact this

def byt (b : ByteArray) (i : Nat) : Nat := (b.data.toList.getD i 0).toNat
theorem byt_lt (b : ByteArray) (i : Nat) : byt b i < 256 := (b.data.toList.getD i 0).toNat_lt
theorem byt_at {b : ByteArray} {i : Nat} (h : i < b.size) : ∃ c : UInt8, b[i]'h = c ∧ byt b i = c.toNat := by
  refine ⟨b[i], rfl, ?_⟩
  unfold byt
  have h' : i < b.data.toList.length := by simpa using h
  rw [List.getD_eq_getElem?_getD, List.getElem?_eq_getElem h']
  rfl
theorem or_up (i x y : Nat) (hi : i ≤ 32) (hx : x < 2 ^ i) (hx2 : x < 4294967296) (hy : 2 ^ i * y < 4294967296) : bits .or .u32 (x : Int) ((2 ^ i * y : Nat) : Int) = ((x + 2 ^ i * y : Nat) : Int) := by
  rw [(bits_nat .u32 32 (by decide) wraps_u32 x (2 ^ i * y) hx2 hy).2, Nat.or_comm, ← Nat.two_pow_add_eq_or_of_lt hx, Nat.add_comm]
theorem or3 (c0 c1 c2 c3 : Nat) (h0 : c0 < 256) (h1 : c1 < 256) (h2 : c2 < 256) (h3 : c3 < 256) :
    bits .or .u32 (c0 : Int) (IntKind.u32.wrap ((c1 : Int) * 256)) = (c0 + c1 * 256 : Nat) ∧ bits .or .u32 ((c0 + c1 * 256 : Nat) : Int) (IntKind.u32.wrap ((c2 : Int) * 65536)) = (c0 + c1 * 256 + c2 * 65536 : Nat) ∧
    bits .or .u32 ((c0 + c1 * 256 + c2 * 65536 : Nat) : Int) (IntKind.u32.wrap ((c3 : Int) * 16777216)) = (c0 + c1 * 256 + c2 * 65536 + c3 * 16777216 : Nat) := by
  refine ⟨?_, ?_, ?_⟩
  · rw [IntKind.wrap_u32, show (c1 : Int) * 256 % 4294967296 = ((2 ^ 8 * c1 : Nat) : Int) by omega, or_up 8 _ _ (by decide) (by omega) (by omega) (by omega)]; omega
  · rw [IntKind.wrap_u32, show (c2 : Int) * 65536 % 4294967296 = ((2 ^ 16 * c2 : Nat) : Int) by omega, or_up 16 _ _ (by decide) (by omega) (by omega) (by omega)]; omega
  · rw [IntKind.wrap_u32, show (c3 : Int) * 16777216 % 4294967296 = ((2 ^ 24 * c3 : Nat) : Int) by omega, or_up 24 _ _ (by decide) (by omega) (by omega) (by omega)]; omega

set_option maxHeartbeats 8000000 in
set_option maxRecDepth 100000 in
theorem step_any (w : World) (H : Nat → Nat) (b : ByteArray) (size : Nat) (last : Bool) (hH : Wd H) (hb : b.size = 64) (hs : size < 18446744073709551616) :
    Calls Tryz.prog 93 #[.agg (vec .u32 8 H), .string b, .int .u64 size, .bool last] w fun e w' => e = .returned (.agg (vec .u32 8 (blockF H (byt b) size last))) ∧ Below w.heap.size w w' := by
  have X := Sd.mk (stp_start w H)
  go_enter Tryz.func93, Tryz.ntmps93
  go_wp2
  generalize World.alloc _ _ = W at X ⊢
  go_loopg [19] 16 (fun gk v19 wr => ∃ k, k + gk = 16 ∧ v19 = .int .i64 (k : Nat) ∧ Sd (∃ M, (∀ i, i < k → M i = mw (byt b) i) ∧ Stp w H M (fun _ => 0) wr))
  case atStart => exact ⟨0, rfl, rfl, ⟨⟨_, fun i hi => by omega, X.out⟩⟩⟩
  case round =>
    clear X
    obtain ⟨k, hk, rfl, HM⟩ := hrel
    by_cases hlt : k < 16
    -- <L1
    · obtain ⟨c0, q0, r0⟩ := byt_at (b := b) (i := 4 * k) (by omega)
      obtain ⟨c1, q1, r1⟩ := byt_at (b := b) (i := 4 * k + 1) (by omega)
      obtain ⟨c2, q2, r2⟩ := byt_at (b := b) (i := 4 * k + 2) (by omega)
      obtain ⟨c3, q3, r3⟩ := byt_at (b := b) (i := 4 * k + 3) (by omega)
      have l0 := c0.toNat_lt; have l1 := c1.toNat_lt; have l2 := c2.toNat_lt; have l3 := c3.toNat_lt
      have hm : mw (byt b) k = c0.toNat + c1.toNat * 256 + c2.toNat * 65536 + c3.toNat * 16777216 := by unfold mw; rw [r0, r1, r2, r3]
      have HQ := Sd.mk (Eq.refl (mw (byt b) k))
      obtain ⟨o1, o2, o3⟩ := or3 c0.toNat c1.toNat c2.toNat c3.toNat l0 l1 l2 l3
      rw [← hm] at o3
      generalize c0.toNat + c1.toNat * 256 + c2.toNat * 65536 = s2 at o2 o3
      generalize c0.toNat + c1.toNat * 256 = s1 at o1 o2
      clear r0 r1 r2 r3 hm HQ
      obtain ⟨mk, hmk⟩ : ∃ z, z = mw (byt b) k := ⟨_, rfl⟩
      rw [← hmk] at o3
      have HQ := Sd.mk hmk
      clear hmk
      obtain ⟨p0, e0⟩ : ∃ p, p = 4 * k := ⟨_, rfl⟩
      obtain ⟨p1, e1⟩ : ∃ p, p = 4 * k + 1 := ⟨_, rfl⟩
      obtain ⟨p2, e2⟩ : ∃ p, p = 4 * k + 2 := ⟨_, rfl⟩
      obtain ⟨p3, e3⟩ : ∃ p, p = 4 * k + 3 := ⟨_, rfl⟩
      have d0 : p0 < b.size := by omega
      have d1 : p1 < b.size := by omega
      have d2 : p2 < b.size := by omega
      have d3 : p3 < b.size := by omega
      have g0 : b[p0]'d0 = c0 := by subst e0; exact q0
      have g1 : b[p1]'d1 = c1 := by subst e1; exact q1
      have g2 : b[p2]'d2 = c2 := by subst e2; exact q2
      have g3 : b[p3]'d3 = c3 := by subst e3; exact q3
      clear q0 q1 q2 q3
      have n0 : (p0 : Int) < 64 := by omega
      have n1 : (p1 : Int) < 64 := by omega
      have n2 : (p2 : Int) < 64 := by omega
      have n3 : (p3 : Int) < 64 := by omega
      have w0 : IntKind.i64.wrap (4 * (k : Int)) = (p0 : Int) := by rw [IntKind.wrap_i64]; omega
      have w1 : IntKind.i64.wrap ((p0 : Int) + 1) = (p1 : Int) := by rw [IntKind.wrap_i64]; omega
      have w2 : IntKind.i64.wrap ((p0 : Int) + 2) = (p2 : Int) := by rw [IntKind.wrap_i64]; omega
      have w3 : IntKind.i64.wrap ((p0 : Int) + 3) = (p3 : Int) := by rw [IntKind.wrap_i64]; omega
      have v0 : IntKind.u32.wrap (c0.toNat : Int) = c0.toNat := by rw [IntKind.wrap_u32]; omega
      have v1 : IntKind.u32.wrap (c1.toNat : Int) = c1.toNat := by rw [IntKind.wrap_u32]; omega
      have v2 : IntKind.u32.wrap (c2.toNat : Int) = c2.toNat := by rw [IntKind.wrap_u32]; omega
      have v3 : IntKind.u32.wrap (c3.toNat : Int) = c3.toNat := by rw [IntKind.wrap_u32]; omega
      have hk16 : (k : Int) < 16 := by omega
      clear e0 e1 e2 e3 l0 l1 l2 l3
      go_wp2
      go_still_tail 30, (by kernel_rfl)
      change wpList _ _ _ _ _ wr.drew
      have HM2 := Sd.mk (show ∃ M, (∀ i, i < k → M i = mw (byt b) i) ∧ Stp w H M (fun _ => 0) wr.drew from HM.out.imp fun M h => ⟨h.1, h.2.drew⟩)
      clear HM
      generalize wr.drew = w2 at HM2 ⊢
      obtain ⟨M, hM, hS⟩ := HM2.out
      have SM := Sd.mk hM
      have SS := Sd.mk hS
      clear hM hS HM2
      have ca := SS.out.m.cell (i := k) hlt rfl
      have fa := SS.out.m.frz k
      go_wp2
      clear ca fa
      have HS := Sd.mk (SS.out.setM hlt mk)
      go_roundg (gk - 1)
      case measure => omega
      case rel =>
        exact ⟨k + 1, by omega, by go_num, ⟨⟨_, fun i hi => by
          by_cases h : i = k
          · subst h; rw [upd_same, HQ.out]
          · rw [upd_ne h, SM.out i (by omega)], HS.out⟩⟩⟩
    -- L1>
    · have hk16 : decide ((k : Int) < 16) = false := decide_eq_false (by omega)
      obtain rfl : k = 16 := by omega
      have HX := Sd.mk (show Stp w H (mw (byt b)) (fun _ => 0) wr from by obtain ⟨M, h1, h2⟩ := HM.out; exact h2.toM h1)
      clear HM hk hlt
      go_wp2_with (first
        | (go_at_call 91; (with_reducible refine (begin_any _).mono ?_); rintro e w5 ⟨rfl, hb5⟩
           have hst := run_storeCells_new (P := Tryz.prog) w5 160 #[.int .u32 0, .int .u32 0, .int .u32 0, .int .u32 0, .int .u32 0, .int .u32 0, .int .u32 0, .int .u32 0] (vec .u32 8 iv) (by rw [vec_size]; kernel_rfl) (by rw [vec_size]; rfl) (vec_one _ _ _)
           have hsz := vec_size .u32 8 iv
           have HX2 := Sd.mk ((HX.out.below hb5).below (below_one w5 (.cells (vec .u32 8 iv) 160)))
           have HI := Sd.mk (show VB .u32 8 160 w5.heap.size iv (w5.alloc (.cells (vec .u32 8 iv) 160)) from blk_new _ _)
           have Hg := (HX.out.below hb5).lt
           clear HX hb5))
      clear hst hsz
      generalize w5.alloc _ = W6 at HX2 HI ⊢
      generalize w5.heap.size = gi at HI Hg ⊢
      clear w5 wr
      go_loopg [55] 8 (fun gk v55 wr => ∃ k, k + gk = 8 ∧ v55 = .int .i64 (k : Nat) ∧ Sd (VB .u32 8 160 gi iv wr ∧ ∃ V, (∀ i, i < k → V i = H i ∧ V (8 + i) = iv i) ∧ Stp w H (mw (byt b)) V wr))
      case atStart => exact ⟨0, rfl, rfl, ⟨HI.out, _, fun i hi => by omega, HX2.out⟩⟩
      case round =>
        clear HX2 HI
        obtain ⟨k, hk, rfl, HM⟩ := hrel
        by_cases hlt : k < 8
        -- <L2
        · obtain ⟨hI, V, hV, hS⟩ := HM.out
          have HI := Sd.mk hI
          have SV := Sd.mk hV
          have SS := Sd.mk hS
          clear hI hV hS HM
          obtain ⟨k8, hk8⟩ : ∃ z, z = 8 + k := ⟨_, rfl⟩
          have hk8i : (k : Int) < 8 := by omega
          have hk16i : (k : Int) < 16 := by omega
          have hk8j : (k8 : Int) < 16 := by omega
          have hw8 : IntKind.i64.wrap (8 + (k : Int)) = (k8 : Int) := by rw [IntKind.wrap_i64]; omega
          have cH := SS.out.h.cell (i := k) hlt rfl
          have cI := HI.out.cell (i := k) hlt rfl
          have ca := SS.out.v.cell (i := k) (by omega) rfl
          have cb := SS.out.v.cell (i := k8) (by omega) rfl
          have fa := SS.out.v.frz k
          have fb := SS.out.v.frz k8
          have hne : k8 ≠ k := by omega
          have hne' : k ≠ k8 := by omega
          have hg1 : gi ≠ w.heap.size + 1 + 1 + 1 := by omega
          have Hk := Sd.mk hk8
          clear hk8
          go_wp2
          go_region
          clear cH cI ca cb fa fb
          have HS := Sd.mk ((SS.out.setV (i := k) (by omega) (H k)).setV (i := k8) (by omega) (iv k)).drew
          have HJ := Sd.mk ((HI.out.other hg1 k (.int .u32 (H k))).other hg1 k8 (.int .u32 (iv k))).drew
          go_wp2
          go_roundg (gk - 1)
          case measure => omega
          case rel =>
            have hk8 := Hk.out
            exact ⟨k + 1, by omega, by go_num, ⟨HJ.out, _, fun i hi => by
              by_cases h : i = k
              · subst h; rw [Hk.out, upd_same, upd_ne (by omega), upd_same]; exact ⟨rfl, rfl⟩
              · rw [upd_ne (by omega), upd_ne h, upd_ne (by omega), upd_ne (by omega)]; exact SV.out i (by omega), HS.out⟩⟩
        -- L2>
        · have hk8 : decide ((k : Int) < 8) = false := decide_eq_false (by omega)
          obtain rfl : k = 8 := by omega
          have HX := Sd.mk (show Stp w H (mw (byt b)) (two H) wr from by
            obtain ⟨-, V, h1, h2⟩ := HM.out
            refine h2.toV fun i hi => ?_
            unfold two
            by_cases h : i < 8
            · rw [if_pos h]; exact (h1 i h).1
            · rw [if_neg h, ← (h1 (i - 8) (by omega)).2]; congr 1; omega)
          clear HM hk hlt
          obtain ⟨a12, h12⟩ : ∃ z, z = two H 12 := ⟨_, rfl⟩
          obtain ⟨a13, h13⟩ : ∃ z, z = two H 13 := ⟨_, rfl⟩
          have l12 : a12 < 4294967296 := by rw [h12]; exact hH.two _
          have l13 : a13 < 4294967296 := by rw [h13]; exact hH.two _
          obtain ⟨s0, hs0⟩ : ∃ z, z = size % 4294967296 := ⟨_, rfl⟩
          obtain ⟨s1, hs1⟩ : ∃ z, z = size / 4294967296 := ⟨_, rfl⟩
          have ls0 : s0 < 4294967296 := by omega
          have ls1 : s1 < 4294967296 := by omega
          have k0 : IntKind.u32.wrap (size : Int) = (s0 : Int) := by rw [IntKind.wrap_u32]; omega
          have k1 : IntKind.u32.wrap ((size : Int) / 4294967296) = (s1 : Int) := by rw [IntKind.wrap_u32]; omega
          have x0 := xor32 a12 s0 l12 ls0
          have x1 := xor32 a13 s1 l13 ls1
          have m0 := xor_lt l12 ls0
          have m1 := xor_lt l13 ls1
          have c12 := HX.out.v.cell (i := 12) (by decide) h12.symm
          have f12 := HX.out.v.frz 12
          have H12 := Sd.mk h12
          have H13 := Sd.mk h13
          have HS0 := Sd.mk hs0
          have HS1 := Sd.mk hs1
          clear h12 h13 hs0 hs1
          go_upto_region 14 with (fail)
          clear c12 f12
          have HX1 := Sd.mk (HX.out.setV (i := 12) (by decide) (a12 ^^^ s0))
          clear HX
          generalize wr.setCell _ _ = w7 at HX1 ⊢
          have c13 := HX1.out.v.cell (i := 13) (by decide) ((upd_ne (by decide)).trans H13.out.symm)
          have f13 := HX1.out.v.frz 13
          go_upto_region 15 with (fail)
          clear c13 f13
          have HX2 := Sd.mk (HX1.out.setV (i := 13) (by decide) (a13 ^^^ s1))
          clear HX1
          generalize w7.setCell _ _ = w8 at HX2 ⊢
          have HX := Sd.mk (show Stp w H (mw (byt b)) (upd (upd (two H) 12 (two H 12 ^^^ size % 4294967296)) 13 (upd (two H) 12 (two H 12 ^^^ size % 4294967296) 13 ^^^ size / 4294967296)) w8 from by
            rw [upd_ne (j := 13) (by decide), ← H12.out, ← H13.out, ← HS0.out, ← HS1.out]; exact HX2.out)
          clear HX2 H12 H13 HS0 HS1 k0 k1 x0 x1 m0 m1
          go_upto_if 83 with (fail)
          go_cut [] from 84 (fun wx => Sd (Stp w H (mw (byt b)) (init H size last) wx))
          case first =>
            cases last with
            | false =>
              go_wp2
              go_meet
              exact ⟨HX.out⟩
            | true =>
              obtain ⟨a14, h14⟩ : ∃ z, z = two H 14 := ⟨_, rfl⟩
              have l14 : a14 < 4294967296 := by rw [h14]; exact hH.two _
              have c14 := HX.out.v.cell (i := 14) (by decide) ((upd_ne (by decide)).trans ((upd_ne (by decide)).trans h14.symm))
              have f14 := HX.out.v.frz 14
              have k14 := not32 a14 l14
              have H14 := Sd.mk h14
              clear h14
              go_wp2
              go_meet
              refine ⟨?_⟩
              have := HX.out.setV (i := 14) (by decide) (4294967295 - a14)
              unfold init
              dsimp only
              rw [if_pos rfl, show upd (upd (two H) 12 (two H 12 ^^^ size % 4294967296)) 13 (upd (two H) 12 (two H 12 ^^^ size % 4294967296) 13 ^^^ size / 4294967296) 14 = a14 from (upd_ne (by decide)).trans ((upd_ne (by decide)).trans H14.out.symm)]
              exact this
          case rest =>
            have HX9 := hcut
            have L0 := Sd.mk (hH.init hs last)
            clear hcut HX
            generalize hV0 : init H size last = V0 at HX9 L0
            have HV0 := Sd.mk hV0.symm
            clear hV0
            go_wp2_with (first
              | (go_at_call 120; (with_reducible refine (table_any _).mono ?_); rintro e w9 ⟨rfl, hb9⟩; have HX := Sd.mk (HX9.out.below hb9); clear HX9 hb9))
            go_loopg [89] 10 (fun gk v89 wr => ∃ r, r + gk = 10 ∧ v89 = .int .i64 (r : Nat) ∧ Sd (Stp w H (mw (byt b)) (rounds (mw (byt b)) r V0) wr))
            case atStart => exact ⟨0, rfl, rfl, HX⟩
            case round =>
              clear HX
              obtain ⟨r, hr, rfl, HX⟩ := hrel
              have gko : ∃ z, z = gk - 1 := ⟨_, rfl⟩
              obtain ⟨go, hgo⟩ := gko
              by_cases hlt : r < 10
              -- <L3
              · have hri : (r : Int) < 10 := by omega
                have hx1 := index_vec (P := Tryz.prog) Tryz.underlying207 Tryz.underlying206 (by kernel_rfl) .i64 (N := 160) rfl rowsF hlt
                rw [show (fun i => rowsF (r * 16 + i)) = tab r from funext fun i => by unfold tab rowsF; rw [Nat.mul_comm]] at hx1
                have hst := run_storeCells_new (P := Tryz.prog) wr 206 #[.int .i64 0, .int .i64 0, .int .i64 0, .int .i64 0, .int .i64 0, .int .i64 0, .int .i64 0, .int .i64 0, .int .i64 0, .int .i64 0, .int .i64 0, .int .i64 0, .int .i64 0, .int .i64 0, .int .i64 0, .int .i64 0] (vec .i64 16 (tab r)) (by rw [vec_size]; kernel_rfl) (by rw [vec_size]; rfl) (vec_one _ _ _)
                have hsz := vec_size .i64 16 (tab r)
                have HT := Sd.mk (show VB .i64 16 206 wr.heap.size (tab r) (wr.alloc (.cells (vec .i64 16 (tab r)) 206)) from blk_new _ _)
                have HX2 := Sd.mk (HX.out.below (below_one wr (.cells (vec .i64 16 (tab r)) 206)))
                have Hg2 := HX.out.lt
                clear HX
                go_wp2_with (first
                  | (go_at_call 121; (with_reducible refine (mixes_any _).mono ?_); rintro e w11 ⟨rfl, hb11⟩
                     have HT3 := Sd.mk (VB.below HT.out hb11)
                     have HX3 := Sd.mk (HX2.out.below hb11)
                     clear HT HX2 hb11))
                clear hst hsz hx1
                generalize wr.heap.size = gt at HT3 Hg2 ⊢
                clear wr
                go_loopg [93] 8 (fun gk v93 wr => ∃ i, i + gk = 8 ∧ v93 = .int .i64 (i : Nat) ∧ Sd (VB .i64 16 206 gt (tab r) wr ∧ Stp w H (mw (byt b)) (inner (mw (byt b)) r i (rounds (mw (byt b)) r V0)) wr))
                case atStart => exact ⟨0, rfl, rfl, ⟨HT3.out, HX3.out⟩⟩
                case round =>
                  clear HT3 HX3
                  obtain ⟨i, hi, rfl, HQ⟩ := hrel
                  by_cases hlt8 : i < 8
                  -- <L4
                  · obtain ⟨hT, hX⟩ := HQ.out
                    have hii : (i : Int) < 8 := by omega
                    obtain ⟨a, hA⟩ : ∃ z, z = at4 i 0 := ⟨_, rfl⟩
                    obtain ⟨a1, hA1⟩ : ∃ z, z = at4 i 1 := ⟨_, rfl⟩
                    obtain ⟨a2, hA2⟩ : ∃ z, z = at4 i 2 := ⟨_, rfl⟩
                    obtain ⟨a3, hA3⟩ : ∃ z, z = at4 i 3 := ⟨_, rfl⟩
                    have h4 := at4_ok i hlt8
                    rw [← hA, ← hA1, ← hA2, ← hA3] at h4
                    have H4 := Sd.mk h4
                    have hx2 := index_vec (P := Tryz.prog) Tryz.underlying210 Tryz.underlying209 (by kernel_rfl) .i64 (N := 32) rfl atsF hlt8
                    rw [show (fun j => atsF (i * 4 + j)) = at4 i from funext fun j => by unfold at4 atsF; rw [Nat.mul_comm]] at hx2
                    have hst := run_storeCells_new (P := Tryz.prog) wr 209 #[.int .i64 0, .int .i64 0, .int .i64 0, .int .i64 0] (vec .i64 4 (at4 i)) (by rw [vec_size]; kernel_rfl) (by rw [vec_size]; rfl) (vec_one _ _ _)
                    have hsz := vec_size .i64 4 (at4 i)
                    have HA := Sd.mk (show VB .i64 4 209 wr.heap.size (at4 i) (wr.alloc (.cells (vec .i64 4 (at4 i)) 209)) from blk_new _ _)
                    have HT := Sd.mk (VB.below hT (below_one wr (.cells (vec .i64 4 (at4 i)) 209)))
                    have HX := Sd.mk (hX.below (below_one wr (.cells (vec .i64 4 (at4 i)) 209)))
                    clear HQ hT hX
                    obtain ⟨i2, hi2⟩ : ∃ z, z = 2 * i := ⟨_, rfl⟩
                    obtain ⟨i3, hi3⟩ : ∃ z, z = 2 * i + 1 := ⟨_, rfl⟩
                    have wi2 : IntKind.i64.wrap (2 * (i : Int)) = (i2 : Int) := by rw [IntKind.wrap_i64]; omega
                    have wi3 : IntKind.i64.wrap ((i2 : Int) + 1) = (i3 : Int) := by rw [IntKind.wrap_i64]; omega
                    have bi2 : (i2 : Int) < 16 := by omega
                    have bi3 : (i3 : Int) < 16 := by omega
                    obtain ⟨j2, hj2⟩ : ∃ z, z = tab r i2 := ⟨_, rfl⟩
                    obtain ⟨j3, hj3⟩ : ∃ z, z = tab r i3 := ⟨_, rfl⟩
                    have lj2 : j2 < 16 := by rw [hj2]; exact tab_lt r i2 hlt (by omega)
                    have lj3 : j3 < 16 := by rw [hj3]; exact tab_lt r i3 hlt (by omega)
                    have bj2 : (j2 : Int) < 16 := by omega
                    have bj3 : (j3 : Int) < 16 := by omega
                    obtain ⟨x2, hx2'⟩ : ∃ z, z = mw (byt b) j2 := ⟨_, rfl⟩
                    obtain ⟨x3, hx3'⟩ : ∃ z, z = mw (byt b) j3 := ⟨_, rfl⟩
                    have lx2 : x2 < 4294967296 := by rw [hx2']; exact Wd.mw (byt_lt b) _
                    have lx3 : x3 < 4294967296 := by rw [hx3']; exact Wd.mw (byt_lt b) _
                    have HE := Sd.mk (show stp (mw (byt b)) r (inner (mw (byt b)) r i (rounds (mw (byt b)) r V0)) i = mixV (inner (mw (byt b)) r i (rounds (mw (byt b)) r V0)) a a1 a2 a3 x2 x3 from by
                      unfold stp; rw [← hA, ← hA1, ← hA2, ← hA3, ← hi3, ← hi2, ← hj2, ← hj3, ← hx2', ← hx3'])
                    go_wp2
                    clear hx2 hst hsz
                    generalize wr.alloc _ = w12 at HA HT HX ⊢
                    generalize wr.heap.size = ga at HA ⊢
                    have q0 := HA.out.cell (i := 0) (by decide) hA.symm
                    have q1 := HA.out.cell (i := 1) (by decide) hA1.symm
                    have q2 := HA.out.cell (i := 2) (by decide) hA2.symm
                    have q3 := HA.out.cell (i := 3) (by decide) hA3.symm
                    have t2 := HT.out.cell (i := i2) (by omega) hj2.symm
                    have t3 := HT.out.cell (i := i3) (by omega) hj3.symm
                    have y2 := HX.out.m.cell lj2 hx2'.symm
                    have y3 := HX.out.m.cell lj3 hx3'.symm
                    clear hA hA1 hA2 hA3 hi2 hi3 hj2 hj3 hx2' hx3' h4 HA
                    go_still_tail 14, (by kernel_rfl)
                    change wpList _ _ _ _ _ w12.drew
                    have HT2 := Sd.mk (show VB .i64 16 206 gt (tab r) w12.drew from HT.out)
                    have HX2 := Sd.mk HX.out.drew
                    clear HT HX q0 q1 q2 q3 t2 t3 y2 y3
                    generalize w12.drew = w13 at HT2 HX2 ⊢
                    have LV := Sd.mk ((L0.out.rounds (M := mw (byt b)) r).inner (M := mw (byt b)) r i)
                    go_wp2_with (first
                      | (go_at_call 122; (refine (mix_any _ _ _ a a1 a2 a3 x2 x3 HX2.out.v (fun j => LV.out j) lx2 lx3 H4.out).mono ?_); rintro e w14 ⟨rfl, hv, ho⟩
                         have HT5 := Sd.mk (show VB .i64 16 206 gt (tab r) w14 from (ho.oth gt (blk_lt' HT2.out) (by omega)).trans HT2.out)
                         have HX5 := Sd.mk (HX2.out.mix ho hv)
                         clear HT2 HX2 ho hv))
                    go_roundg (gk - 1)
                    case measure => omega
                    case rel =>
                      refine ⟨i + 1, by omega, by go_num, ⟨HT5.out, ?_⟩⟩
                      have := HX5.out
                      rw [← HE.out] at this
                      exact this
                  -- L4>
                  · have hii : decide ((i : Int) < 8) = false := decide_eq_false (by omega)
                    obtain rfl : i = 8 := by omega
                    have HX := Sd.mk HQ.out.2
                    clear HQ
                    go_wp2
                    go_roundg go
                    case measure => omega
                    case rel => exact ⟨r + 1, by omega, by go_num, HX⟩
              -- L3>
              · have hri : decide ((r : Int) < 10) = false := decide_eq_false (by omega)
                obtain rfl : r = 10 := by omega
                have LR := Sd.mk (L0.out.rounds (M := mw (byt b)) 10)
                clear hr hlt L0
                generalize hR : rounds (mw (byt b)) 10 V0 = VR at HX LR
                have HR := Sd.mk hR
                clear hR
                go_wp2
                go_loopg [114] 8 (fun gk v114 wr => ∃ k, k + gk = 8 ∧ v114 = .int .i64 (k : Nat) ∧ Sd (∃ H1, (∀ i, i < k → H1 i = ending H VR i) ∧ (∀ i, k ≤ i → H1 i = H i) ∧ Stp w H1 (mw (byt b)) VR wr))
                case atStart => exact ⟨0, rfl, rfl, ⟨H, fun i hi => by omega, fun i _ => rfl, HX.out⟩⟩
                case round =>
                  clear HX
                  obtain ⟨k, hk, rfl, HM⟩ := hrel
                  by_cases hlt : k < 8
                  -- <L5
                  · obtain ⟨H1, h1, h2, h3⟩ := HM.out
                    have S1 := Sd.mk h1
                    have S2 := Sd.mk h2
                    have HX := Sd.mk h3
                    obtain ⟨y0, hy0⟩ : ∃ z, z = H k := ⟨_, rfl⟩
                    obtain ⟨y1, hy1⟩ : ∃ z, z = VR k := ⟨_, rfl⟩
                    obtain ⟨k8, hk8⟩ : ∃ z, z = 8 + k := ⟨_, rfl⟩
                    obtain ⟨y2, hy2⟩ : ∃ z, z = VR k8 := ⟨_, rfl⟩
                    have l0 : y0 < 4294967296 := by rw [hy0]; exact hH _
                    have l1 : y1 < 4294967296 := by rw [hy1]; exact LR.out _
                    have l2 : y2 < 4294967296 := by rw [hy2]; exact LR.out _
                    have z1 := xor32 y1 y2 l1 l2
                    have z2 := xor32 y0 (y1 ^^^ y2) l0 (xor_lt l1 l2)
                    have z3 : y0 ^^^ (y1 ^^^ y2) = ending H VR k := by unfold ending; rw [hy0, hy1, hy2, hk8]
                    have Z3 := Sd.mk z3
                    obtain ⟨y3, hy3⟩ : ∃ z, z = y0 ^^^ (y1 ^^^ y2) := ⟨_, rfl⟩
                    obtain ⟨y4, hy4⟩ : ∃ z, z = y1 ^^^ y2 := ⟨_, rfl⟩
                    rw [← hy4] at z1
                    rw [← hy3, ← hy4] at z2
                    have Y3 := Sd.mk hy3
                    have hki : (k : Int) < 8 := by omega
                    have hkj : (k : Int) < 16 := by omega
                    have hk8i : (k8 : Int) < 16 := by omega
                    have hw8 : IntKind.i64.wrap (8 + (k : Int)) = (k8 : Int) := by rw [IntKind.wrap_i64]; omega
                    have c0 := HX.out.h.cell (i := k) hlt ((S2.out k (Nat.le_refl _)).trans hy0.symm)
                    have c1 := HX.out.v.cell (i := k) (by omega) hy1.symm
                    have c2 := HX.out.v.cell (i := k8) (by omega) hy2.symm
                    have Hc := Sd.mk (hy0.symm)
                    clear h1 h2 h3 HM hy0 hy1 hy2 hk8 hy3 hy4 z3
                    go_wp2
                    go_still_tail 12, (by kernel_rfl)
                    change wpList _ _ _ _ _ wr.drew
                    have HX2 := Sd.mk HX.out.drew
                    clear HX c0 c1 c2
                    generalize wr.drew = w15 at HX2 ⊢
                    have c0 := HX2.out.h.cell (i := k) hlt ((S2.out k (Nat.le_refl _)).trans Hc.out)
                    have f0 := HX2.out.h.frz k
                    go_wp2
                    clear c0 f0
                    have HX3 := Sd.mk (HX2.out.setH (i := k) hlt y3)
                    go_roundg (gk - 1)
                    case measure => omega
                    case rel =>
                      exact ⟨k + 1, by omega, by go_num, ⟨_, fun i hi => by
                        by_cases h : i = k
                        · subst h; rw [upd_same, Y3.out, Z3.out]
                        · rw [upd_ne h]; exact S1.out i (by omega), fun i hi => by rw [upd_ne (by omega)]; exact S2.out i (by omega), HX3.out⟩⟩
                  -- L5>
                  · have hki : decide ((k : Int) < 8) = false := decide_eq_false (by omega)
                    obtain rfl : k = 8 := by omega
                    have HX := Sd.mk (show Stp w (ending H VR) (mw (byt b)) VR wr from by obtain ⟨H1, h1, -, h3⟩ := HM.out; exact h3.toH h1)
                    clear HM
                    obtain ⟨U, hU⟩ := HX.out.r
                    have Q := Sd.mk hU
                    clear hU
                    go_upto_region 31 with (fail)
                    apply wp_region_lit
                    refine wpList_load_row rfl 160 _ rfl w.heap.size (by kernel_rfl) _ _ _ _ HX.out.h Tryz.underlying160 rfl (by rw [vec_size]; kernel_rfl) ?_
                    refine wpList_plain rfl fun _ hK => wp_store_row 160 _ _ rfl (w.heap.size + 1) (vec .u32 8 (ending H VR)) (by kernel_rfl) (by kernel_rfl) _ _ Q.out (by rw [vec_size]; kernel_rfl) (by rw [vec_size, vec_size]) (vec_one _ _ _) (hK _ _ ?_)
                    go_wp2
                    refine bodyPost_ret (results_cell_row Tryz.results93 _ _ (w.heap.size + 1) 160 _ (0, 0) _ (by kernel_rfl) (Q.out.row (ending H VR)) Tryz.underlying160 rfl (by rw [vec_size]; kernel_rfl)) rfl ?_
                    refine ⟨?_, row_below HX.out.bel (by omega) _⟩
                    rw [← HR.out]
                    rw [HV0.out]
                    rfl
end Go.Proofs.YtnomgkmeomlccaaGreat.Step

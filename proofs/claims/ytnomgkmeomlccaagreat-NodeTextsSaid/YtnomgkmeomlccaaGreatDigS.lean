/- The digest under way: summed up. -/
import Derived.Test.YtnomgkmeomlccaaGreatDigW
import Derived.Test.YtnomgkmeomlccaaGreatNum
import Derived.Test.YtnomgkmeomlccaaGreatRefB
import Derived.Deep.RegionHeld3
set_option linter.unusedVariables false
set_option linter.unusedSimpArgs false
namespace Go.Proofs.YtnomgkmeomlccaaGreat.Dig
open Go.RowKit Rd Api Own Mv Word Vec Mix Tab Step

theorem step_both (w : World) (H X : Nat → Nat) (b : ByteArray) (size : Nat) (last : Bool) (hH : Wd H) (hb : b.size = 64) (hs : size < 18446744073709551616) (hX : X = blockF H (byt b) size last) {c : ByteArray} (hc : b = c) :
    Calls Tryz.prog 93 #[.agg #[.int .u32 (H 0), .int .u32 (H 1), .int .u32 (H 2), .int .u32 (H 3), .int .u32 (H 4), .int .u32 (H 5), .int .u32 (H 6), .int .u32 (H 7)], .string c, .int .u64 size, .bool last] w fun e w' => e = .returned (.agg (vec .u32 8 X)) ∧ Below w.heap.size w w' := by
  subst hc; subst hX; exact step_any w H b size last hH hb hs

def SB (w : World) (g : Nat) (H : Nat → Nat) (r : ByteArray) (z : Nat) (W : World) : Prop := DB g H r z W ∧ Below w.heap.size w W
theorem mv_sb (w : World) (g : Nat) (H : Nat → Nat) (r : ByteArray) (z : Nat) : Mv (SB w g H r z) := mv_and (mv_blk _ _) (mv_bel w)
theorem SB.all {w : World} {g : Nat} {H : Nat → Nat} {r : ByteArray} {z : Nat} {W : World} (h : SB w g H r z W) : W.cell? ⟨g, 0, none⟩ = some (.int .u32 (H 0)) ∧ W.cell? ⟨g, 1, none⟩ = some (.int .u32 (H 1)) ∧ W.cell? ⟨g, 2, none⟩ = some (.int .u32 (H 2)) ∧ W.cell? ⟨g, 3, none⟩ = some (.int .u32 (H 3)) ∧ W.cell? ⟨g, 4, none⟩ = some (.int .u32 (H 4)) ∧ W.cell? ⟨g, 5, none⟩ = some (.int .u32 (H 5)) ∧ W.cell? ⟨g, 6, none⟩ = some (.int .u32 (H 6)) ∧ W.cell? ⟨g, 7, none⟩ = some (.int .u32 (H 7)) ∧ W.cell? ⟨g, 8, none⟩ = some (.string r) ∧ W.cell? ⟨g, 9, none⟩ = some (.int .u64 z) ∧ Sd (SB w g H r z W) :=
  ⟨h.1.at 0 (by decide), h.1.at 1 (by decide), h.1.at 2 (by decide), h.1.at 3 (by decide), h.1.at 4 (by decide), h.1.at 5 (by decide), h.1.at 6 (by decide), h.1.at 7 (by decide), h.1.c8, h.1.c9, ⟨h⟩⟩

theorem zz8_vec : #[.int .u32 0, .int .u32 0, .int .u32 0, .int .u32 0, .int .u32 0, .int .u32 0, .int .u32 0, .int .u32 0] = vec .u32 8 fun _ => 0 := by kernel_rfl
theorem store_zero (P : Program) {W : World} {g : Nat} (h : W.heap[g]? = some (.cells #[.int .u32 0, .int .u32 0, .int .u32 0, .int .u32 0, .int .u32 0, .int .u32 0, .int .u32 0, .int .u32 0] 160 (0, 0))) (X : Nat → Nat) : (storeCells ⟨g, 0, none⟩ (vec .u32 8 X).toList 0).run P W = .ok () (W.setRow g (vec .u32 8 X)) :=
  RefB.store_cells_vec (U := fun _ => 0) (by unfold VB; rw [← zz8_vec]; exact h) X
theorem SB.row {w : World} {g : Nat} {H : Nat → Nat} {r : ByteArray} {z : Nat} {W : World} (h : SB w g H r z W) {g2 : Nat} (hne : g ≠ g2) (hle : w.heap.size ≤ g2) (cs : Array Value) : SB w g H r z (W.setRow g2 cs) :=
  ⟨(row_heap W g2 cs g hne).trans h.1, row_below h.2 hle cs⟩

theorem isB_new {B : Nat} {w : World} (h : B ≤ w.heap.size) : Lib.IsBuilder 168 5 B w.heap.size (Lib.byteCells []) (w.alloc (.cells #[.pointer none, .slice none 0 0] 168)) :=
  Or.inl ⟨h, .slice none 0 0, blk_new w _, World.ownsRow_nil _ _ _ _, by simp [Value.ownBlock]⟩
theorem isB_alloc {B b : Nat} {bs : List Value} {w : World} (h : Lib.IsBuilder 168 5 B b bs w) (o : Obj) : Lib.IsBuilder 168 5 B b bs (w.alloc o) := by
  have k : ∀ p, Lib.BuilderAt 168 5 B b p bs w → Lib.BuilderAt 168 5 B b p bs (w.alloc o) := fun p ⟨hB, v, hb, hown, hne⟩ =>
    ⟨hB, v, blk_keep hb (below_one w o), hown.alloc o, hne⟩
  exact h.elim (fun x => .inl (k _ x)) (fun x => .inr (k _ x))

theorem index_cell {P : Program} {t e : TypeId} {n : Nat} {k : IntKind} (hu : P.underlying t = some (.array n e)) (he : P.underlying e = some (.int k)) (hi : (P.info? e).map (·.size) = some 1) (V : Nat → Nat) {r : Nat} (hr : r < n) (W : World) :
    (Instr.index t (.agg (vec k n V)) (.int .i64 (r : Nat))).run P W = .ok (.int k (V r)) W := by
  cases hq : P.info? e with
  | none => rw [hq] at hi; cases hi
  | some d =>
    have hs : d.size = 1 := by rw [hq] at hi; simpa using hi
    simp [Instr.index, part, asIntOf, isAgg, run_underlying hu, run_underlying he, sizeOf, typeInfo, hq, hs, hr, vec_at k V hr]

set_option maxHeartbeats 4000000 in
set_option maxRecDepth 100000 in
theorem sum_any (w : World) (g k : Nat) (S : ByteArray) (hD : Dg g k S w) (hk : k ≤ 64) (hsb : S.size ≤ 4611686018427387904) :
    Calls Tryz.prog 62 #[.pointer (some ⟨g, 0, none⟩)] w fun e w' => e = .returned (.string (dig k S)) ∧ Below w.heap.size w w' := by
  have HD0 := blk_lt' hD
  have hR0 := rest_le S
  have hRs := rest_size S
  have hqn := qn_le S.size
  obtain ⟨R, hR⟩ : ∃ z, z = rest S := ⟨_, rfl⟩
  obtain ⟨q, hq⟩ : ∃ z, z = qn S.size := ⟨_, rfl⟩
  obtain ⟨H, hH⟩ : ∃ z, z = hs k (byt S) q := ⟨_, rfl⟩
  obtain ⟨n, hn⟩ : ∃ z, z = S.size := ⟨_, rfl⟩
  obtain ⟨z, hz⟩ : ∃ z, z = 64 * q := ⟨_, rfl⟩
  obtain ⟨l, hl⟩ : ∃ z, z = R.size := ⟨_, rfl⟩
  rw [← hR, ← hl] at hR0 hRs
  rw [← hq] at hqn hRs
  have HD := Sd.mk (show SB w g H R z w from ⟨by unfold Dg at hD; rw [← hq, ← hR, ← hH, ← hz] at hD; exact hD, Below.refl _ _⟩)
  have WdH := Sd.mk (show Wd H from by rw [hH]; exact Wd.hs hk (by omega))
  have hls : (R.size : Int) = (l : Int) := by omega
  have w0 : IntKind.u64.wrap (l : Int) = (l : Int) := keep_u64 (by omega) (by omega)
  have w1 : IntKind.u64.wrap ((z : Int) + (l : Int)) = (n : Int) := by rw [keep_u64 (by omega) (by omega)]; omega
  obtain ⟨c, hc⟩ : ∃ z, z = 64 - l := ⟨_, rfl⟩
  have w2 : IntKind.i64.wrap (64 - (l : Int)) = (c : Int) := by rw [IntKind.wrap_i64]; omega
  have lc : c ≤ 64 := by omega
  have nlt : n < 18446744073709551616 := by omega
  have hcat : ¬9223372036854775807 < R.size + (zeros c).size := by rw [zeros_size]; omega
  have hcat2 : ¬9223372036854775807 < (l : Int) + ((zeros c).size : Int) := by rw [zeros_size]; omega
  obtain ⟨X, hX⟩ : ∃ X, X = blockF H (byt (R ++ zeros c)) n true := ⟨_, rfl⟩
  have bs : (R ++ zeros c).size = 64 := by rw [app_size, zeros_size]; omega
  have HX := Sd.mk hX
  have HE := Sd.mk (show X = fin k (byt S) S.size from by
    unfold fin
    rw [hX, hH, hq, hn, hR]
    congr 1
    unfold rest
    exact byt_last (by unfold qn; omega))
  have WdX := Sd.mk (show Wd X from by rw [hX]; exact WdH.out.block _ nlt _)
  clear hR hq hH hn hz hl hc hX hD hRs
  obtain ⟨d0, d1, d2, d3, d4, d5, d6, d7, d8, d9, hS⟩ := SB.all HD.out
  go_enter Tryz.func62, Tryz.ntmps62
  go_upto_region 1 with (fail)
  go_quiet (fail)
  go_upto_region 2 with (fail)
  have HD1 := Sd.mk ((mv_sb w g H R z).drewN HD.out nq)
  clear d0 d1 d2 d3 d4 d5 d6 d7 d8 d9 hS HD
  generalize w.drewN nq = W1 at HD1 ⊢
  have hgw : g < w.heap.size := HD0
  have hW1 : w.heap.size ≤ W1.heap.size := HD1.out.2.size
  go_cut [4] from 19 to 36 (fun v4 wx => ∃ g4, v4 = .pointer (some ⟨g4, 0, none⟩) ∧ Sd (VB .u32 8 160 g4 X wx) ∧ Sd (SB w g H R z wx))
  case first =>
    go_region_held3 (fun W => W.cell? ⟨g, 0, none⟩ = some (.int .u32 (H 0)) ∧ W.cell? ⟨g, 1, none⟩ = some (.int .u32 (H 1)) ∧ W.cell? ⟨g, 2, none⟩ = some (.int .u32 (H 2)) ∧ W.cell? ⟨g, 3, none⟩ = some (.int .u32 (H 3)) ∧ W.cell? ⟨g, 4, none⟩ = some (.int .u32 (H 4)) ∧ W.cell? ⟨g, 5, none⟩ = some (.int .u32 (H 5)) ∧ W.cell? ⟨g, 6, none⟩ = some (.int .u32 (H 6)) ∧ W.cell? ⟨g, 7, none⟩ = some (.int .u32 (H 7)) ∧ W.cell? ⟨g, 8, none⟩ = some (.string R) ∧ W.cell? ⟨g, 9, none⟩ = some (.int .u64 z) ∧ Sd (SB w g H R z W)) (first | exact SB.all ((mv_sb _ _ _ _ _).drew HD1.out) | exact SB.all hk | exact SB.all ((mv_sb _ _ _ _ _).alloc hk _) | exact SB.all ((mv_sb _ _ _ _ _).alloc ((mv_sb _ _ _ _ _).drew HD1.out) _) | exact SB.all (SB.row hk (by omega) (by omega) _) | (trace_state; fail)) (first | (go_at_call 92; (with_reducible refine (zero_any _ c lc).mono ?_); rintro e w4 ⟨rfl, hb4⟩; have q4 : W1.heap.size ≤ w4.heap.size := (by have := hb4.size; (try simp at this); omega); have hk := (mv_sb _ _ _ _ _).below (‹_ ∧ _ ∧ _ ∧ _ ∧ _ ∧ _ ∧ _ ∧ _ ∧ _ ∧ _ ∧ Sd (SB _ _ _ _ _ _)›).2.2.2.2.2.2.2.2.2.2.out hb4) | (go_at_call 93; (refine (step_both _ H X _ n true WdH.out bs nlt HX.out rfl).mono ?_); rintro e w5 ⟨rfl, hb5⟩; have q5 : w4.heap.size ≤ w5.heap.size := (by have := hb5.size; (try simp at this); omega); have hst := run_storeCells_new (P := Tryz.prog) w5 160 #[.int .u32 0, .int .u32 0, .int .u32 0, .int .u32 0, .int .u32 0, .int .u32 0, .int .u32 0, .int .u32 0] (vec .u32 8 X) (by rw [vec_size]; kernel_rfl) (by rw [vec_size]; rfl) (vec_one _ _ _); have hsz := vec_size .u32 8 X; (try have hz2b := (hb5.block _ (by simp)).trans (blk_new w4 (.cells #[.int .u32 0, .int .u32 0, .int .u32 0, .int .u32 0, .int .u32 0, .int .u32 0, .int .u32 0, .int .u32 0] 160)); have hz2 := store_zero (Tryz.prog) (g := w4.heap.size) hz2b X); (try have hz3b := (hb5.block _ (by have := hb4.size; (try simp at this); omega)).trans ((hb4.block _ (by simp)).trans (blk_new W1 (.cells #[.int .u32 0, .int .u32 0, .int .u32 0, .int .u32 0, .int .u32 0, .int .u32 0, .int .u32 0, .int .u32 0] 160))); have hz3 := store_zero (Tryz.prog) (g := W1.heap.size) hz3b X); have hk := (mv_sb _ _ _ _ _).below (‹_ ∧ _ ∧ _ ∧ _ ∧ _ ∧ _ ∧ _ ∧ _ ∧ _ ∧ _ ∧ Sd (SB _ _ _ _ _ _)›).2.2.2.2.2.2.2.2.2.2.out hb5) | fail)
    · go_wp2
      go_meet
      exact ⟨_, rfl, ⟨blk_new w5 _⟩, ⟨(mv_sb _ _ _ _ _).alloc hk _⟩⟩
    · go_wp2
      go_meet
      exact ⟨_, rfl, ⟨setRow_heap w5 _ _ _ _ _ hz2b⟩, ⟨SB.row hk (by omega) (by omega) _⟩⟩
    · go_wp2
      go_meet
      exact ⟨_, rfl, ⟨setRow_heap w5 _ _ _ _ _ hz3b⟩, ⟨SB.row hk (by omega) (by omega) _⟩⟩
  case rest =>
    clear HD1
    obtain ⟨g4, rfl, HV, HB⟩ := hcut
    go_upto_region 4 with (fail)
    have HV2 := Sd.mk (blk_keep HV.out (below_one wc (.cells #[.pointer none, .slice none 0 0] 168)))
    have HB2 := Sd.mk (below_then HB.out.2 (below_one wc (.cells #[.pointer none, .slice none 0 0] 168)))
    have HI := Sd.mk (isB_new HB.out.2.size)
    clear HV HB
    generalize wc.alloc _ = W2 at HV2 HB2 HI ⊢
    generalize wc.heap.size = gb at HI ⊢
    apply wp_region_lit
    refine wpList_load_row rfl 160 _ rfl g4 (by kernel_rfl) _ _ _ _ HV2.out Tryz.underlying160 rfl (by rw [vec_size]; kernel_rfl) ?_
    clear HV2
    go_wp2
    go_loopg [38] 8 (fun gk v38 wr => ∃ i, i + gk = 8 ∧ v38 = .int .i64 (i : Nat) ∧ Sd (Lib.IsBuilder 168 5 w.heap.size gb (Lib.byteCells (outs X i)) wr) ∧ Sd (Below w.heap.size w wr))
    case atStart => exact ⟨0, rfl, rfl, HI, HB2⟩
    case round =>
      clear HI HB2
      obtain ⟨i, hi, rfl, HI, HB⟩ := hrel
      by_cases hlt : i < 8
      · have hii : (i : Int) < 8 := by omega
        obtain ⟨x, hx⟩ : ∃ z, z = X i := ⟨_, rfl⟩
        have lx : x < 4294967296 := by rw [hx]; exact WdX.out i
        have hix := fun W => index_cell (P := Tryz.prog) Tryz.underlying160 Tryz.underlying159 (by kernel_rfl) X hlt W
        rw [← hx] at hix
        obtain ⟨x1, hx1⟩ : ∃ z, z = x / 256 := ⟨_, rfl⟩
        obtain ⟨x2, hx2⟩ : ∃ z, z = x / 65536 := ⟨_, rfl⟩
        obtain ⟨x3, hx3⟩ : ∃ z, z = x / 16777216 := ⟨_, rfl⟩
        obtain ⟨a0, ha0⟩ : ∃ z, z = x % 256 := ⟨_, rfl⟩
        obtain ⟨a1, ha1⟩ : ∃ z, z = x1 % 256 := ⟨_, rfl⟩
        obtain ⟨a2, ha2⟩ : ∃ z, z = x2 % 256 := ⟨_, rfl⟩
        obtain ⟨a3, ha3⟩ : ∃ z, z = x3 % 256 := ⟨_, rfl⟩
        have y1 : (x : Int) / 256 = (x1 : Int) := by omega
        have y2 : (x : Int) / 65536 = (x2 : Int) := by omega
        have y3 : (x : Int) / 16777216 = (x3 : Int) := by omega
        have v0 : IntKind.u8.wrap (x : Int) = (a0 : Int) := by rw [IntKind.wrap_u8]; omega
        have v1 : IntKind.u8.wrap (x1 : Int) = (a1 : Int) := by rw [IntKind.wrap_u8]; omega
        have v2 : IntKind.u8.wrap (x2 : Int) = (a2 : Int) := by rw [IntKind.wrap_u8]; omega
        have v3 : IntKind.u8.wrap (x3 : Int) = (a3 : Int) := by rw [IntKind.wrap_u8]; omega
        have hk := Num.conv4 (P := Tryz.prog) Tryz.underlying85 Tryz.underlying5 Tryz.underlying9 wr a0 a1 a2 a3
        obtain ⟨s, hs⟩ : ∃ s, s = strOfNums [(a0 : Int), a1, a2, a3] := ⟨_, rfl⟩
        rw [← hs] at hk
        have HS := Sd.mk (show Lib.strCells s = Lib.byteCells (b4 (X i)) from by
          rw [Lib.strCells_eq, hs, ← hx]
          congr 1
          unfold b4
          rw [ha0, ha1, ha2, ha3, hx1, hx2, hx3]
          rfl)
        have hs4 : s.size = 4 := by rw [hs]; rfl
        have hlen : (Lib.byteCells (outs X i)).length + s.size ≤ 140737488355328 := by rw [Lib.byteCells_length, outs_length, hs4]; omega
        clear hx hx1 hx2 hx3 ha0 ha1 ha2 ha3 hs
        go_wp2_with (first
          | (go_at_call 94; (with_reducible refine (Shlf.write_any w.heap.size gb _ s _ (isB_alloc HI.out _) hlen (by have := HB.out.size; simp; omega)).mono ?_); rintro e w6 ⟨rfl, hI, hb⟩))
        go_roundg (gk - 1)
        case measure => omega
        case rel =>
          refine ⟨i + 1, by omega, by go_num, ⟨.inr ?_⟩, ⟨(HB.out.alloc HB.out.size _).trans hb⟩⟩
          rw [HS.out] at hI
          unfold outs Lib.byteCells
          rw [List.map_append]
          exact hI
      · have hii : decide ((i : Int) < 8) = false := decide_eq_false (by omega)
        obtain rfl : i = 8 := by omega
        have hne : outs X 8 ≠ [] := fun h => by
          have := outs_length X 8
          rw [h] at this
          cases this
        go_wp2_with (first
          | (go_at_call 95; (with_reducible refine (Shlf.text_any w.heap.size gb (outs X 8) _ HI.out hne).mono ?_); rintro e w6 ⟨rfl, hb⟩))
        go_ret
        refine ⟨?_, HB.out.trans hb⟩
        unfold dig
        rw [← HE.out]
        rfl
end Go.Proofs.YtnomgkmeomlccaaGreat.Dig

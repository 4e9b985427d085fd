/- append of one element, as one step of a region that draws; texts and requests as bytes: walked. -/
import Derived.Test.YtnomgkmeomlccaaGreatSumC
import Derived.Test.YtnomgkmeomlccaaGreatNum
import Derived.Deep.RegionLaw
import Derived.Deep.RegionHeld3
set_option linter.unusedVariables false
set_option linter.unusedSimpArgs false
namespace Go.Proofs.YtnomgkmeomlccaaGreat.Wtx
open Go.RowKit Rd Api Own Mv Num Dig

/-- append(v, y), as one step of a region that draws -/
theorem step_append_one {P : Program} {ops : Array Oper} {o : Oper} {a : Act} {K : Act → World → Prop} {Q : Exit → Act → World → Prop} {E : Prop} {α : Type} {f : α → List Value} {n : Nat} (hn : ∀ x, (f x).length = n) (h1 : ∀ x, ∀ u ∈ f x, u.oneCell' = true) {w0 W : World} (base : Nat) (hgd : o.guard = none) (s x : Operand) (t e : TypeId) (z : Value) (bytes : Nat)
    (ho : o.op = .call { callee := .builtin .append, args := #[s, x], argTypes := #[t, t] })
    (ht : P.underlying t = some (.slice e)) (hinfo : (P.info? e).map (fun i => (i.zero, i.size, i.bytes)) = some (some z, n, bytes)) (hz : z.cells.size = n) (hn0 : 0 < n)
    (v : Value) (xs : List α) (y : α) (hs : a.eval s = v) (hx : a.eval x = .slice (some ⟨W.heap.size, 0, none⟩) 1 1)
    (HO : OwnR f n W base e v xs) (HB : Below base w0 W) (hbase : base ≤ W.heap.size) (hl : (xs.length + 1) * bytes ≤ 140737488355328) (hl2 : xs.length + 1 ≤ 9223372036854775807)
    (h : ∀ v1 w1, OwnR f n w1 base e v1 (xs ++ [y]) → Below base w0 w1 → W.grownBy w1 v.ownBlock → K (a.put o.dst v1) w1) :
    if Region.wanted o (yielded ops a.tmps) = true then Oper.wp P o a (W.alloc (.cells (f y).toArray e)) K Q else E := by
  have hw : Region.wanted o (yielded ops a.tmps) = true := by simp [Region.wanted, hgd]
  rw [if_pos hw]
  obtain ⟨i0, hi, hzz⟩ := Option.map_eq_some_iff.1 hinfo
  simp only [Prod.mk.injEq] at hzz
  obtain ⟨hz0, hz1, hz2⟩ := hzz
  have HO2 := OwnR.below HO (below_one W (.cells (f y).toArray e))
  obtain ⟨v', w', hr, hown, hg, -, -⟩ := run_append_own_at (P := P) (W.alloc (.cells (f y).toArray e)) base t o.type e i0 z n bytes ht hi hz0 hz1 hz2 hz hn0 v xs.length (flat f xs) HO2 ⟨W.heap.size, 0, none⟩ 1 1 (f y) (by rw [hn]; omega)
    (fun j u hu => by rw [add_flat, Nat.zero_add]; exact blk_at (blk_new W _) j u (by simpa using hu)) (h1 y) (by unfold maxLen; omega) hl (by simp; omega)
  unfold Oper.wp execOp
  simp only [ho, resolve, invoke, builtin, Sem.run_bind, Sem.run_pure, Result.andThen_ok, List.map_toArray, List.map_cons, List.map_nil, hs, hx, hr]
  refine h v' w' (by unfold OwnR; rw [flat_append]; simpa using hown) (below_grown (below_then' HB hbase (below_one W _)) hg (by simp; omega) (fun k hk => (OwnR.ge HO hk).1)) ?_
  exact ⟨hg.os, hg.tape, hg.output, by have := hg.size; simp at this; omega, fun k hk hr => (hg.block k (by simp; omega) hr).trans ((below_one W _).block k hk)⟩

def fS (x : ByteArray) : List Value := [.string x]
theorem info_str : ((Tryz.prog).info? 9).map (fun i => (i.zero, i.size, i.bytes)) = some (some (.string ByteArray.empty), 1, 16) := by kernel_rfl

theorem number_eq (w : World) (n : Int) (x : ByteArray) (hx : num4 n = x) : Calls Tryz.prog 15 #[.int .i64 n] w fun e w' => e = .returned (.string x) ∧ Below w.heap.size w w' := by
  subst hx; exact number_any w n
theorem ref_number_eq (w : World) (n : Int) (x : ByteArray) (hx : num4 n = x) : Calls Tryz.prog 18 #[.int .i64 n] w fun e w' => e = .returned (.string x) ∧ Below w.heap.size w w' := by
  subst hx; exact ref_number_any w n
def text (s : ByteArray) : ByteArray := num4 s.size ++ s
theorem text_size (s : ByteArray) : (text s).size = 4 + s.size := by unfold text; rw [app_size, num4_size]
set_option maxHeartbeats 4000000 in
set_option maxRecDepth 100000 in
theorem text_any (w : World) (s : ByteArray) (hs : s.size ≤ 70368744177664) (x : ByteArray) (hx : text s = x) : Calls Tryz.prog 39 #[.string s] w fun e w' => e = .returned (.string x) ∧ Below w.heap.size w w' := by
  subst hx
  obtain ⟨n, hn⟩ : ∃ n, num4 s.size = n := ⟨_, rfl⟩
  have hn4 : n.size = 4 := by rw [← hn]; exact num4_size _
  have hcat : ¬9223372036854775807 < n.size + s.size := by omega
  have HN := Sd.mk hn
  clear hn hn4
  go_enter Tryz.func39, Tryz.ntmps39
  go_wp2_with (first
    | (go_at_call 15; (with_reducible refine (number_any _ _).mono ?_); rintro e w1 ⟨rfl, hb1⟩; rw [HN.out]))
  go_ret
  exact ⟨by unfold text; rw [HN.out]; rfl, hb1⟩
set_option maxHeartbeats 4000000 in
set_option maxRecDepth 100000 in
theorem ref_text_any (w : World) (s : ByteArray) (hs : s.size ≤ 70368744177664) (x : ByteArray) (hx : text s = x) : Calls Tryz.prog 42 #[.string s] w fun e w' => e = .returned (.string x) ∧ Below w.heap.size w w' := by
  subst hx
  obtain ⟨n, hn⟩ : ∃ n, num4 s.size = n := ⟨_, rfl⟩
  have hn4 : n.size = 4 := by rw [← hn]; exact num4_size _
  have hcat : ¬9223372036854775807 < n.size + s.size := by omega
  have HN := Sd.mk hn
  clear hn hn4
  go_enter Tryz.func42, Tryz.ntmps42
  go_wp2_with (first
    | (go_at_call 18; (with_reducible refine (ref_number_any _ _).mono ?_); rintro e w1 ⟨rfl, hb1⟩; rw [HN.out]))
  go_ret
  exact ⟨by unfold text; rw [HN.out]; rfl, hb1⟩

/-- a request's bytes -/
def reqb (c s : Int) (b : ByteArray) : ByteArray := (num4 c ++ num4 s) ++ text b
theorem reqb_size (c s : Int) (b : ByteArray) : (reqb c s b).size = 12 + b.size := by unfold reqb; rw [app_size, app_size, num4_size, num4_size, text_size]; omega
set_option maxHeartbeats 4000000 in
set_option maxRecDepth 100000 in
theorem req_any (w : World) (c s : Int) (b : ByteArray) (hs : b.size ≤ 35184372088832) (x : ByteArray) (hx : reqb c s b = x) : Calls Tryz.prog 16 #[.agg #[.int .i64 c, .int .i64 s, .string b]] w fun e w' => e = .returned (.string x) ∧ Below w.heap.size w w' := by
  obtain ⟨n, hn⟩ : ∃ n, num4 c = n := ⟨_, rfl⟩
  obtain ⟨m, hm⟩ : ∃ m, num4 s = m := ⟨_, rfl⟩
  obtain ⟨t, ht⟩ : ∃ t, text b = t := ⟨_, rfl⟩
  have hn4 : n.size = 4 := by rw [← hn]; exact num4_size _
  have hm4 : m.size = 4 := by rw [← hm]; exact num4_size _
  have ht4 : t.size = 4 + b.size := by rw [← ht]; exact text_size _
  have hcat : ¬9223372036854775807 < n.size + m.size := by omega
  have hcat2 : ¬9223372036854775807 < (n ++ m).size + t.size := by rw [app_size]; omega
  have hcat3 : ¬9223372036854775807 < n.size + m.size + t.size := by omega
  have HX := Sd.mk hx
  have HN := Sd.mk hn
  have HM := Sd.mk hm
  have HT := Sd.mk ht
  have HA := Sd.mk (fun (W : World) (hb : Below (w.alloc (.cells #[.int .i64 c, .int .i64 s, .string b] 32)).heap.size (w.alloc (.cells #[.int .i64 c, .int .i64 s, .string b] 32)) W) => (⟨blk_at (blk_keep (blk_new w _) hb) 0 _ rfl, blk_at (blk_keep (blk_new w _) hb) 1 _ rfl, blk_at (blk_keep (blk_new w _) hb) 2 _ rfl, ⟨hb⟩⟩ : W.cell? ⟨w.heap.size, 0, none⟩ = some (.int .i64 c) ∧ W.cell? ⟨w.heap.size, 1, none⟩ = some (.int .i64 s) ∧ W.cell? ⟨w.heap.size, 2, none⟩ = some (.string b) ∧ Sd (Below (w.alloc (.cells #[.int .i64 c, .int .i64 s, .string b] 32)).heap.size (w.alloc (.cells #[.int .i64 c, .int .i64 s, .string b] 32)) W)))
  have HW := Sd.mk (below_one w (.cells #[.int .i64 c, .int .i64 s, .string b] 32))
  clear hx hn hm ht hn4 hm4 ht4
  go_enter Tryz.func16, Tryz.ntmps16
  go_upto_region 1 with (fail)
  generalize hW : w.alloc _ = W at HA HW ⊢
  go_region_held3 (fun W1 => W1.cell? ⟨w.heap.size, 0, none⟩ = some (.int .i64 c) ∧ W1.cell? ⟨w.heap.size, 1, none⟩ = some (.int .i64 s) ∧ W1.cell? ⟨w.heap.size, 2, none⟩ = some (.string b) ∧ Sd (Below W.heap.size W W1)) (first | exact HA.out _ (below_drew' (Below.refl _ _)) | exact HA.out _ hk | fail) (first | (go_at_call 15; (with_reducible refine (number_eq _ c n HN.out).mono ?_); rintro e w5 ⟨rfl, hb5⟩; have hk := below_then (‹_ ∧ _ ∧ _ ∧ Sd (Below _ _ _)›).2.2.2.out hb5) | (go_at_call 15; (with_reducible refine (number_eq _ s m HM.out).mono ?_); rintro e w5 ⟨rfl, hb5⟩; have hk := below_then (‹_ ∧ _ ∧ _ ∧ Sd (Below _ _ _)›).2.2.2.out hb5) | (go_at_call 39; (with_reducible refine (text_any _ b (by omega) t HT.out).mono ?_); rintro e w5 ⟨rfl, hb5⟩; have hk := below_then (‹_ ∧ _ ∧ _ ∧ Sd (Below _ _ _)›).2.2.2.out hb5) | fail)
  all_goals
    go_wp2
    go_ret
    refine ⟨?_, below_then HW.out hk⟩
    rw [← HX.out]
    unfold reqb
    rw [HN.out, HM.out, HT.out]
    rfl

set_option maxHeartbeats 4000000 in
set_option maxRecDepth 100000 in
theorem ref_req_any (w : World) (c s : Int) (b : ByteArray) (hs : b.size ≤ 35184372088832) (x : ByteArray) (hx : reqb c s b = x) : Calls Tryz.prog 19 #[.agg #[.int .i64 c, .int .i64 s, .string b]] w fun e w' => e = .returned (.string x) ∧ Below w.heap.size w w' := by
  obtain ⟨n, hn⟩ : ∃ n, num4 c = n := ⟨_, rfl⟩
  obtain ⟨m, hm⟩ : ∃ m, num4 s = m := ⟨_, rfl⟩
  obtain ⟨t, ht⟩ : ∃ t, text b = t := ⟨_, rfl⟩
  have hn4 : n.size = 4 := by rw [← hn]; exact num4_size _
  have hm4 : m.size = 4 := by rw [← hm]; exact num4_size _
  have ht4 : t.size = 4 + b.size := by rw [← ht]; exact text_size _
  have hcat : ¬9223372036854775807 < n.size + m.size := by omega
  have hcat2 : ¬9223372036854775807 < (n ++ m).size + t.size := by rw [app_size]; omega
  have hcat3 : ¬9223372036854775807 < n.size + m.size + t.size := by omega
  have HX := Sd.mk hx
  have HN := Sd.mk hn
  have HM := Sd.mk hm
  have HT := Sd.mk ht
  have HA := Sd.mk (fun (W : World) (hb : Below (w.alloc (.cells #[.int .i64 c, .int .i64 s, .string b] 32)).heap.size (w.alloc (.cells #[.int .i64 c, .int .i64 s, .string b] 32)) W) => (⟨blk_at (blk_keep (blk_new w _) hb) 0 _ rfl, blk_at (blk_keep (blk_new w _) hb) 1 _ rfl, blk_at (blk_keep (blk_new w _) hb) 2 _ rfl, ⟨hb⟩⟩ : W.cell? ⟨w.heap.size, 0, none⟩ = some (.int .i64 c) ∧ W.cell? ⟨w.heap.size, 1, none⟩ = some (.int .i64 s) ∧ W.cell? ⟨w.heap.size, 2, none⟩ = some (.string b) ∧ Sd (Below (w.alloc (.cells #[.int .i64 c, .int .i64 s, .string b] 32)).heap.size (w.alloc (.cells #[.int .i64 c, .int .i64 s, .string b] 32)) W)))
  have HW := Sd.mk (below_one w (.cells #[.int .i64 c, .int .i64 s, .string b] 32))
  clear hx hn hm ht hn4 hm4 ht4
  go_enter Tryz.func19, Tryz.ntmps19
  go_upto_region 1 with (fail)
  generalize hW : w.alloc _ = W at HA HW ⊢
  go_region_held3 (fun W1 => W1.cell? ⟨w.heap.size, 0, none⟩ = some (.int .i64 c) ∧ W1.cell? ⟨w.heap.size, 1, none⟩ = some (.int .i64 s) ∧ W1.cell? ⟨w.heap.size, 2, none⟩ = some (.string b) ∧ Sd (Below W.heap.size W W1)) (first | exact HA.out _ (below_drew' (Below.refl _ _)) | exact HA.out _ hk | fail) (first | (go_at_call 18; (with_reducible refine (ref_number_eq _ c n HN.out).mono ?_); rintro e w5 ⟨rfl, hb5⟩; have hk := below_then (‹_ ∧ _ ∧ _ ∧ Sd (Below _ _ _)›).2.2.2.out hb5) | (go_at_call 18; (with_reducible refine (ref_number_eq _ s m HM.out).mono ?_); rintro e w5 ⟨rfl, hb5⟩; have hk := below_then (‹_ ∧ _ ∧ _ ∧ Sd (Below _ _ _)›).2.2.2.out hb5) | (go_at_call 42; (with_reducible refine (ref_text_any _ b (by omega) t HT.out).mono ?_); rintro e w5 ⟨rfl, hb5⟩; have hk := below_then (‹_ ∧ _ ∧ _ ∧ Sd (Below _ _ _)›).2.2.2.out hb5) | fail)
  all_goals
    go_wp2
    go_ret
    refine ⟨?_, below_then HW.out hk⟩
    rw [← HX.out]
    unfold reqb
    rw [HN.out, HM.out, HT.out]
    rfl

end Go.Proofs.YtnomgkmeomlccaaGreat.Wtx

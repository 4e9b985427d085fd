/- What slices.DeleteFunc lets stay, plain; the row amid the deleting: elements of k cells. -/
import Derived.Test.YtnomgkmeomlccaaMv
import Derived.Lib.LazyBuf
import Derived.Lib.SliceRun
set_option linter.unusedVariables false
set_option linter.unusedSimpArgs false
namespace Go.Proofs.Ytnomgkmeomlccaa.Del
open Go.RowKit Rd Api Own Mv

/-- those of the first j that stay -/
def kp {α : Type} (dec : Nat → Bool) (ss : List α) : Nat → List α
  | 0 => []
  | j + 1 => if dec j = true then kp dec ss j else kp dec ss j ++ (ss[j]?).toList
theorem kp_yes {α : Type} {dec : Nat → Bool} {ss : List α} {j : Nat} (h : dec j = true) : kp dec ss (j + 1) = kp dec ss j := if_pos h
theorem kp_no {α : Type} {dec : Nat → Bool} {ss : List α} {j : Nat} {x : α} (h : dec j = false) (hx : ss[j]? = some x) : kp dec ss (j + 1) = kp dec ss j ++ [x] := by
  simp only [kp]; rw [if_neg (by rw [h]; simp), hx]; rfl
theorem kp_le {α : Type} (dec : Nat → Bool) (ss : List α) : ∀ j, (kp dec ss j).length ≤ j
  | 0 => Nat.le_refl _
  | j + 1 => by
    have := kp_le dec ss j
    simp only [kp]
    split
    · omega
    · cases ss[j]? <;> simp <;> omega
theorem kp_none {α : Type} {dec : Nat → Bool} {ss : List α} : ∀ {j : Nat}, (∀ i, i < j → dec i = false) → kp dec ss j = ss.take j
  | 0, _ => rfl
  | j + 1, h => by
    simp only [kp]
    rw [if_neg (by rw [h j (by omega)]; simp), kp_none (fun i hi => h i (by omega)), List.take_add_one]
theorem kp_lt {α : Type} {dec : Nat → Bool} {ss : List α} : ∀ {j : Nat}, j ≤ ss.length → ∀ i, i < j → dec i = true → (kp dec ss j).length < j
  | 0, _, i, hi, _ => by omega
  | j + 1, hj, i, hi, hd => by
    have h1 := kp_le dec ss j
    simp only [kp]
    split
    · omega
    · rename_i hn
      have hij : i ≠ j := fun e => hn (by rw [← e]; exact hd)
      have h2 := kp_lt (dec := dec) (ss := ss) (j := j) (by omega) i (by omega) hd
      cases ss[j]? <;> simp <;> omega
/-- where it hangs on the element alone -/
theorem kp_filter {α : Type} {dec : Nat → Bool} {ss : List α} {p : α → Bool} (hp : ∀ i x, ss[i]? = some x → dec i = p x) : ∀ j, j ≤ ss.length → kp dec ss j = (ss.take j).filter (fun x => !p x)
  | 0, _ => rfl
  | j + 1, hj => by
    obtain ⟨x, hx⟩ : ∃ x, ss[j]? = some x := ⟨ss[j], List.getElem?_eq_getElem (by omega)⟩
    rw [List.take_add_one, List.filter_append, ← kp_filter hp j (by omega), hx]
    simp only [kp, hx, hp j x hx]
    cases e : p x <;> simp [e]
theorem blk_setCells {g : Nat} {e : TypeId} {sz : Nat} : ∀ (vs : List Value) (o : Nat) (w : World), (∃ cur, w.heap[g]? = some (.cells cur e (0, 0)) ∧ cur.size = sz) → ∃ cur, (w.setCells g o vs).heap[g]? = some (.cells cur e (0, 0)) ∧ cur.size = sz
  | [], _, _, h => h
  | v :: r, o, w, ⟨cur, h, hs⟩ => blk_setCells r (o + 1) _ ⟨_, blk_set3 h o v, by simp [hs]⟩
/-- amid the deleting: the row g, of elements of k cells -/
structure Dl {α : Type} (f : α → List Value) (k : Nat) (W0 : World) (B0 g : Nat) (e : TypeId) (sz : Nat) (dec : Nat → Bool) (ss : List α) (j : Nat) (wr : World) : Prop where
  blk : ∃ cur, wr.heap[g]? = some (.cells cur e (0, 0)) ∧ cur.size = sz
  fit : ss.length * k ≤ sz
  low : ∀ t x, (kp dec ss j)[t]? = some x → ∀ i v, (f x)[i]? = some v → wr.cell? ⟨g, t * k + i, none⟩ = some v
  high : ∀ t x, j ≤ t → ss[t]? = some x → ∀ i v, (f x)[i]? = some v → wr.cell? ⟨g, t * k + i, none⟩ = some v
  bel : RowKit.Below B0 W0 wr
  ge : B0 ≤ g
section
variable {α : Type} {f : α → List Value} {k : Nat} {W0 : World} {B0 g : Nat} {e : TypeId} {sz : Nat} {dec : Nat → Bool} {ss : List α} {j : Nat} {wr : World}
theorem Dl.lt (h : Dl f k W0 B0 g e sz dec ss j wr) : g < wr.heap.size := by obtain ⟨cur, h1, -⟩ := h.blk; exact blk_lt' h1
theorem Dl.ty (h : Dl f k W0 B0 g e sz dec ss j wr) : ∃ cur, wr.heap[g]? = some (.cells cur e (0, 0)) := by obtain ⟨cur, h1, -⟩ := h.blk; exact ⟨cur, h1⟩
theorem Dl.mid (h : Dl f k W0 B0 g e sz dec ss j wr) (t : Nat) (ht : t < sz) : (wr.cell? ⟨g, t, none⟩).isSome = true := by
  obtain ⟨cur, h1, h2⟩ := h.blk
  rw [blk_at h1 t _ (Array.getElem?_eq_getElem (by omega))]; rfl
theorem Dl.frz (h : Dl f k W0 B0 g e sz dec ss j wr) (t : Nat) : wr.frozen? ⟨g, t, none⟩ = false := by
  obtain ⟨cur, h1, h2⟩ := h.blk
  exact blk_frz h1 t
theorem Dl.keepB (h : Dl f k W0 B0 g e sz dec ss j wr) {w1 : World} (hg : w1.heap[g]? = wr.heap[g]?) (hb : RowKit.Below B0 W0 w1) : Dl f k W0 B0 g e sz dec ss j w1 := by
  have hc : ∀ t, w1.cell? ⟨g, t, none⟩ = wr.cell? ⟨g, t, none⟩ := fun t => by unfold World.cell?; rw [hg]
  exact ⟨by rw [hg]; exact h.blk, h.fit, fun t x hx i v hv => (hc _).trans (h.low t x hx i v hv), fun t x ht hx i v hv => (hc _).trans (h.high t x ht hx i v hv), hb, h.ge⟩
theorem Dl.grown (h : Dl f k W0 B0 g e sz dec ss j wr) {w1 : World} {row : Option Nat} (hg : wr.grownBy w1 row) (hr : row ≠ some g) (hB : ∀ i, row = some i → B0 ≤ i) : Dl f k W0 B0 g e sz dec ss j w1 :=
  h.keepB (hg.block g h.lt (fun e => hr e.symm)) (below_grown h.bel hg (Nat.le_trans h.ge (Nat.le_of_lt h.lt)) hB)
theorem Dl.skip (h : Dl f k W0 B0 g e sz dec ss j wr) (hn : dec j = true) : Dl f k W0 B0 g e sz dec ss (j + 1) wr :=
  { h with low := fun t y hy => h.low t y (by rw [kp_yes hn] at hy; exact hy), high := fun t y ht hy => h.high t y (by omega) hy }
/-- ahead of the first that goes -/
theorem Dl.upto (h : Dl f k W0 B0 g e sz dec ss 0 wr) (hn : ∀ i, i < j → dec i = false) : Dl f k W0 B0 g e sz dec ss j wr :=
  { h with low := fun t y hy => h.high t y (Nat.zero_le _) (by rw [kp_none hn, List.getElem?_take] at hy; split at hy; exact hy; cases hy), high := fun t y ht hy => h.high t y (by omega) hy }
/-- an element that stays is written where it belongs -/
theorem Dl.keep (h : Dl f k W0 B0 g e sz dec ss j wr) (hk : ∀ x, (f x).length = k) {x : α} (hx : ss[j]? = some x) (hn : dec j = false) {p : Nat} (hp : (kp dec ss j).length = p) (hpj : p ≤ j) :
    Dl f k W0 B0 g e sz dec ss (j + 1) (wr.setCells g (p * k) (f x)) := by
  have hj := (List.getElem?_eq_some_iff.1 hx).1
  have hpk : p * k + k ≤ ss.length * k := by
    have : (p + 1) * k ≤ ss.length * k := Nat.mul_le_mul_right _ (by omega)
    rwa [Nat.succ_mul] at this
  have hfit := h.fit
  have out : ∀ t, (t < p * k ∨ p * k + k ≤ t) → (wr.setCells g (p * k) (f x)).cell? ⟨g, t, none⟩ = wr.cell? ⟨g, t, none⟩ := fun t ht => World.cell?_setCells_out _ _ _ _ _ (fun _ _ => by rw [hk]; exact ht)
  have inn : ∀ i v, (f x)[i]? = some v → (wr.setCells g (p * k) (f x)).cell? ⟨g, p * k + i, none⟩ = some v := fun i v hv => by
    have hi := (List.getElem?_eq_some_iff.1 hv).1
    have := World.cell?_setCells_in g (f x) (p * k) wr (fun t ht => h.mid (p * k + t) (by rw [hk] at ht; omega)) i hi
    rw [this, ← hv, List.getElem?_eq_getElem hi]
  refine ⟨blk_setCells _ _ _ h.blk, h.fit, fun t y hy i v hv => ?_, fun t y ht hy i v hv => ?_, below_setCells h.ge _ _ _ h.bel, h.ge⟩
  · rw [kp_no hn hx, List.getElem?_append] at hy
    have hi := (List.getElem?_eq_some_iff.1 hv).1
    rw [hk] at hi
    split at hy
    · rename_i hlt
      have : (t + 1) * k ≤ p * k := Nat.mul_le_mul_right _ (by omega)
      rw [Nat.succ_mul] at this
      rw [out _ (.inl (by omega))]; exact h.low t y hy i v hv
    · rename_i hlt
      have ht : t = p := by
        rcases Nat.lt_or_ge (t - (kp dec ss j).length) 1 with e | e
        · omega
        · rw [List.getElem?_eq_none (by simpa using e)] at hy; cases hy
      subst ht
      rw [hp, Nat.sub_self] at hy
      cases hy
      exact inn i v hv
  · have : (p + 1) * k ≤ t * k := Nat.mul_le_mul_right _ (by omega)
    rw [Nat.succ_mul] at this
    rw [out _ (.inr (by omega))]; exact h.high t y (by omega) hy i v hv
/-- the row behind it: of p elements; what lies beyond is written over -/
theorem Dl.own {c : Nat} (h : Dl f k W0 B0 g e (c * k) dec ss j wr) (hk : ∀ x, (f x).length = k) {p : Nat} (hp : (kp dec ss j).length = p) (hpc : p ≤ c) (hc : c ≤ 9223372036854775807) (vs : List Value) : OwnR f k (wr.setCells g (p * k) vs) 0 e (.slice (some ⟨g, 0, none⟩) p c) (kp dec ss j) := by
  obtain ⟨cur, h1, h2⟩ := blk_setCells vs (p * k) wr h.blk
  have hfl := flat_length hk (kp dec ss j)
  refine ⟨hfl, .inr ⟨g, c, cur, by rw [hp], Nat.zero_le _, h1, by rw [hp]; exact hpc, by unfold maxLen; exact hc, h2, ?_⟩⟩
  apply List.ext_getElem?
  intro t
  rw [List.getElem?_take]
  have hpk : p * k ≤ c * k := Nat.mul_le_mul_right _ hpc
  split
  · rename_i ht
    rw [hp] at ht
    have hk0 : 0 < k := Nat.pos_of_ne_zero (fun e => by rw [e] at ht; simp at ht)
    have hq : t / k < (kp dec ss j).length := by rw [hp]; exact Nat.div_lt_of_lt_mul (by rwa [Nat.mul_comm] at ht)
    have hr : t % k < (f (kp dec ss j)[t / k]).length := by rw [hk]; exact Nat.mod_lt _ hk0
    have hg := flat_get hk (kp dec ss j) (t / k) _ (List.getElem?_eq_getElem hq) (t % k) _ (List.getElem?_eq_getElem hr)
    have hl := h.low (t / k) _ (List.getElem?_eq_getElem hq) (t % k) _ (List.getElem?_eq_getElem hr)
    have e1 : t / k * k + t % k = t := by rw [Nat.mul_comm]; exact Nat.div_add_mod t k
    rw [e1] at hg hl
    have h3 : (wr.setCells g (p * k) vs).cell? ⟨g, t, none⟩ = some _ := (World.cell?_setCells_out g vs (p * k) wr ⟨g, t, none⟩ (fun _ _ => .inl ht)).trans hl
    have h4 := blk_at h1 t cur[t] (Array.getElem?_eq_getElem (by omega))
    rw [h3] at h4
    rw [hg, Array.getElem?_toList, Array.getElem?_eq_getElem (by omega), Option.some.inj h4]
  · rename_i ht
    rw [List.getElem?_eq_none (by rw [hfl]; omega)]
end
theorem grown_setCells {w : World} {g : Nat} (hg : g < w.heap.size) (o : Nat) (vs : List Value) : w.grownBy (w.setCells g o vs) (some g) := by
  induction vs generalizing w o with
  | nil => exact ⟨rfl, rfl, rfl, Nat.le_refl _, fun _ _ _ => rfl⟩
  | cons v r ih =>
    have h1 := ih (w := w.setCell ⟨g, o, none⟩ v) (by simpa [World.setCell] using hg) (o + 1)
    exact ⟨h1.os, h1.tape, h1.output, by show w.heap.size ≤ ((w.setCell ⟨g, o, none⟩ v).setCells g (o + 1) r).heap.size; have := h1.size; rwa [show (w.setCell ⟨g, o, none⟩ v).heap.size = w.heap.size by simp [World.setCell]] at this, fun k hk hr => (h1.block k (by simpa [World.setCell] using hk) hr).trans (heap_set _ _ _ _ _ (fun e => hr (by rw [e])))⟩
/-- clear of a slice of elements of k cells -/
theorem run_clear_k {P : Program} (w : World) (t e : TypeId) (z : Value) (ht : P.underlying t = some (.slice e)) (hv : ∀ w, (zeroValue e).run P w = .ok z w) (k : Nat) (hz : z.cells.size = k) (h1 : ∀ v ∈ z.cells, v.oneCell' = true) (h0 : 0 < k) (b o n c : Nat) (hn : 0 < n)
    (hc : ∀ j, j < n * k → (w.cell? ⟨b, o + j, none⟩).isSome = true) (hf : ∀ j, j < n * k → w.frozen? ⟨b, o + j, none⟩ = false) :
    ∃ vs : List Value, vs.length = n * k ∧ ∀ ty, (Builtin.clear_ #[t] ty #[.slice (some ⟨b, o, none⟩) n c]).run P w = .ok (.tuple #[]) (w.setCells b o vs) := by
  have hl : (Builtin.zeroCells z.cells n).toList.length = n * k := by simp [Builtin.zeroCells, hz]
  have ho : ∀ v ∈ (Builtin.zeroCells z.cells n).toList, v.oneCell' = true := fun v hv' => by
    simp only [Builtin.zeroCells, Array.toList_map, List.mem_map] at hv'
    obtain ⟨i, _, rfl⟩ := hv'
    have hi : i % z.cells.size < z.cells.size := Nat.mod_lt _ (by omega)
    rw [getElem!_pos z.cells _ hi]
    exact h1 _ (Array.getElem_mem _)
  have hst := run_storeCells_cells (P := P) b o (Builtin.zeroCells z.cells n).toList 0 w (by rw [hl]; simpa using hc) (by rw [hl]; simpa using hf) ho
  refine ⟨_, hl, fun ty => ?_⟩
  simp only [Nat.add_zero] at hst
  obtain ⟨m, rfl⟩ : ∃ m, n = m + 1 := ⟨n - 1, by omega⟩
  simp [Builtin.clear_, run_underlying ht, hv, hst]
/-- a row of the call's own, ahead of the deleting -/
theorem dl_of {α : Type} {f : α → List Value} {k : Nat} (hk : ∀ x, (f x).length = k) {w W : World} {B0 : Nat} {e : TypeId} {A : Option Addr} {n c : Nat} {l : List α} (h : OwnR f k W 0 e (.slice A n c) l) (hB : ∀ i, (Value.slice A n c).ownBlock = some i → B0 ≤ i) (hb : RowKit.Below B0 w W) (dec : Nat → Bool) :
    (A = none ∧ n = 0 ∧ c = 0 ∧ l = []) ∨ ∃ g, A = some ⟨g, 0, none⟩ ∧ n = l.length ∧ n ≤ c ∧ c ≤ 9223372036854775807 ∧ Dl f k w B0 g e (c * k) dec l 0 W := by
  rcases h.2 with ⟨h1, hz⟩ | ⟨g, cap, cur, h1, -, hgb, r1, r2, r3, r4⟩
  · simp only [Value.slice.injEq] at h1
    exact .inl ⟨h1.1, h1.2.1, h1.2.2, List.eq_nil_of_length_eq_zero hz⟩
  · simp only [Value.slice.injEq] at h1
    obtain ⟨rfl, rfl, rfl⟩ := h1
    refine .inr ⟨g, rfl, rfl, r1, by unfold maxLen at r2; omega, ⟨cur, hgb, r3⟩, Nat.mul_le_mul_right _ r1, fun t x hx => by simp [kp] at hx, fun t x _ hx i v hv => ?_, hb, hB g rfl⟩
    have hg := flat_get hk l t x hx i v hv
    refine blk_at hgb _ v ?_
    rw [← r4, List.getElem?_take] at hg
    split at hg
    · simpa using hg
    · cases hg
end Go.Proofs.Ytnomgkmeomlccaa.Del

/- The insertion sort keeps the order of equals; each one's first: plain laws. Each node's first, plain: what there is of them. -/
import Derived.Sort.LotA
import Derived.Lib.Small
import Derived.Test.YtdmdfpbklflijaaBase
set_option linter.unusedVariables false
namespace Go.Proofs.Ytdmdfpbklflijaa.Mk
open Go.Sort

section
variable {α : Type} [Inhabited α] {lt : α → α → Bool}
theorem get_bang {d : Array α} {i : Nat} (h : i < d.size) : d.toList[i]? = some d[i]! := by
  rw [Array.getElem?_toList, Array.getElem?_eq_getElem h, getElem!_pos d i h]
theorem split_two (d : Array α) {j : Nat} (h : j + 1 < d.size) : d.toList = d.toList.take j ++ (d[j]! :: d[j + 1]! :: d.toList.drop (j + 2)) := by
  have h1 : d.toList.drop j = d[j]! :: d.toList.drop (j + 1) := by
    rw [List.drop_eq_getElem_cons (by simp; omega)]
    congr 1
    have := get_bang (d := d) (i := j) (by omega)
    rw [List.getElem?_eq_getElem (by simp; omega)] at this
    exact Option.some.inj this
  have h2 : d.toList.drop (j + 1) = d[j + 1]! :: d.toList.drop (j + 2) := by
    rw [List.drop_eq_getElem_cons (by simp; omega)]
    congr 1
    have := get_bang (d := d) (i := j + 1) (by omega)
    rw [List.getElem?_eq_getElem (by simp; omega)] at this
    exact Option.some.inj this
  conv => lhs; rw [← List.take_append_drop j d.toList, h1, h2]
theorem swp_size (d : Array α) (i j : Nat) : (swp d i j).size = d.size := by simp [swp]
theorem swp_get (d : Array α) {j t : Nat} (h : j + 1 < d.size) (ht : t < d.size) : (swp d (j + 1) j)[t]! = if t = j then d[j + 1]! else if t = j + 1 then d[j]! else d[t]! := by
  rw [getElem!_pos _ t (by rw [swp_size]; exact ht)]
  simp only [swp]
  rw [Array.getElem_setIfInBounds (by simpa using ht)]
  by_cases e : j = t
  · rw [if_pos e, if_pos e.symm]
  · rw [if_neg e, if_neg (fun h => e h.symm), Array.getElem_setIfInBounds (by simpa using ht)]
    by_cases e2 : j + 1 = t
    · rw [if_pos e2, if_pos e2.symm]
    · rw [if_neg e2, if_neg (fun h => e2 h.symm), getElem!_pos d t ht]
theorem swp_list (d : Array α) {j : Nat} (h : j + 1 < d.size) : (swp d (j + 1) j).toList = d.toList.take j ++ (d[j + 1]! :: d[j]! :: d.toList.drop (j + 2)) := by
  apply List.ext_getElem?
  intro t
  by_cases ht : t < d.size
  · rw [get_bang (by rw [swp_size]; exact ht), swp_get d h ht]
    by_cases e : t < j
    · rw [List.getElem?_append_left (by simp; omega), List.getElem?_take_of_lt e, get_bang (by omega), if_neg (by omega), if_neg (by omega)]
    · rw [List.getElem?_append_right (by simp; omega)]
      have hl : (d.toList.take j).length = j := by simp; omega
      rw [hl]
      by_cases e1 : t = j
      · subst e1; simp
      · by_cases e2 : t = j + 1
        · subst e2; simp
        · obtain ⟨u, rfl⟩ : ∃ u, t = j + 2 + u := ⟨t - (j + 2), by omega⟩
          rw [if_neg e1, if_neg e2, show j + 2 + u - j = u + 2 by omega]
          simp only [List.getElem?_cons_succ, List.getElem?_drop]
          rw [get_bang ht]
  · rw [List.getElem?_eq_none (by simp [swp_size]; omega), List.getElem?_eq_none (by simp; omega)]
theorem swp_filter (p : α → Bool) (d : Array α) {j : Nat} (h : j + 1 < d.size) (hn : ¬ (p d[j]! = true ∧ p d[j + 1]! = true)) : (swp d (j + 1) j).toList.filter p = d.toList.filter p := by
  rw [swp_list d h]
  conv => rhs; rw [split_two d h]
  rw [List.filter_append, List.filter_append]
  congr 1
  simp only [List.filter_cons]
  by_cases h1 : p d[j]! = true
  · have h2 : p d[j + 1]! = false := by
      cases e : p d[j + 1]! with
      | false => rfl
      | true => exact absurd ⟨h1, e⟩ hn
    simp [h1, h2]
  · by_cases h2 : p d[j + 1]! = true <;> simp [h1, h2]
theorem inner_size (a : Nat) : ∀ (j : Nat) (d : Array α), (insInner lt a j d).size = d.size
  | 0, d => rfl
  | j + 1, d => by
    unfold insInner
    split
    · rw [inner_size a j, swp_size]
    · rfl
theorem inner_filter (p : α → Bool) (hp : ∀ x y, p x = true → p y = true → lt x y = false) (a : Nat) : ∀ (j : Nat) (d : Array α), j < d.size → (insInner lt a j d).toList.filter p = d.toList.filter p
  | 0, d, _ => rfl
  | j + 1, d, hj => by
    unfold insInner
    split
    · rename_i h
      simp only [Bool.and_eq_true, decide_eq_true_eq] at h
      rw [inner_filter p hp a j _ (by rw [swp_size]; omega)]
      exact swp_filter p d hj (fun e => by rw [hp _ _ e.2 e.1] at h; exact absurd h.2 (by simp))
    · rfl
theorem outer_filter (p : α → Bool) (hp : ∀ x y, p x = true → p y = true → lt x y = false) (a b : Nat) : ∀ (k i : Nat) (d : Array α), b - i = k → b ≤ d.size → (insOuter lt a b i d).toList.filter p = d.toList.filter p
  | 0, i, d, hk, hb => by
    rw [insOuter, if_neg (by omega)]
  | k + 1, i, d, hk, hb => by
    rw [insOuter, if_pos (by omega), outer_filter p hp a b k (i + 1) _ (by omega) (by rw [inner_size]; exact hb), inner_filter p hp a i d (by omega)]
theorem sort_filter (p : α → Bool) (hp : ∀ x y, p x = true → p y = true → lt x y = false) (d : Array α) : (insertionSort lt d 0 d.size).toList.filter p = d.toList.filter p :=
  outer_filter p hp 0 d.size _ 1 d rfl (Nat.le_refl _)
end

/-- a signature, as it lies: the node, the row of its tags -/
structure Raw where
  f : Int
  a : Option Addr
  n : Nat
  c : Nat
instance : Inhabited Raw := ⟨⟨0, none, 0, 0⟩⟩
def fS (s : Raw) : List Value := [.int .i64 s.f, .slice s.a s.n s.c]
def cfS (x y : Raw) : Int := Go.Lib.compareInt x.f y.f
theorem cf_lt (x y : Raw) : decide (cfS x y < 0) = decide (x.f < y.f) := by
  unfold cfS Go.Lib.compareInt
  rw [decide_eq_decide]
  split
  · exact ⟨fun _ => ‹_›, fun _ => by omega⟩
  · split
    · exact ⟨fun h => by omega, fun h => by omega⟩
    · exact ⟨fun h => by omega, fun h => by omega⟩
/-- each node's first, by nodes -/
structure Made (l r : List Raw) : Prop where
  up : r.Pairwise (fun x y => x.f < y.f)
  one : ∀ k : Int, r.filter (fun x => x.f == k) = (l.filter (fun x => x.f == k)).take 1
/-- those that differ from the one ahead -/
def dif (l : List Raw) : List Raw := match l with
  | [] => []
  | x :: r => x :: go x.f r
where go (k : Int) : List Raw → List Raw
  | [] => []
  | x :: r => if x.f = k then go x.f r else x :: go x.f r
theorem go_le {k : Int} : ∀ {l : List Raw}, (∀ x ∈ l, k ≤ x.f) → l.Pairwise (fun x y => x.f ≤ y.f) → (∀ x ∈ dif.go k l, k < x.f) ∧ (dif.go k l).Pairwise (fun x y => x.f < y.f) ∧ ∀ j : Int, j ≠ k → (dif.go k l).filter (fun x => x.f == j) = (l.filter (fun x => x.f == j)).take 1
  | [], _, _ => ⟨fun x hx => by simp [dif.go] at hx, List.Pairwise.nil, fun j hj => rfl⟩
  | x :: r, hk, hp => by
    obtain ⟨hx, hr⟩ := List.pairwise_cons.1 hp
    have hkx := hk x (by simp)
    obtain ⟨h1, h2, h3⟩ := go_le (k := x.f) (l := r) hx hr
    by_cases e : x.f = k
    · simp only [dif.go, if_pos e]
      refine ⟨fun y hy => by have := h1 y hy; omega, h2, fun j hj => ?_⟩
      rw [h3 j (by omega)]
      rw [List.filter_cons, if_neg (by simp; omega)]
    · simp only [dif.go, if_neg e]
      refine ⟨fun y hy => ?_, List.pairwise_cons.2 ⟨h1, h2⟩, fun j hj => ?_⟩
      · rcases List.mem_cons.1 hy with rfl | h
        · omega
        · have := h1 y h; omega
      · rw [List.filter_cons, List.filter_cons]
        by_cases e2 : x.f = j
        · rw [if_pos (by simpa using e2), if_pos (by simpa using e2)]
          have : (dif.go x.f r).filter (fun x => x.f == j) = [] := List.filter_eq_nil_iff.2 (fun y hy => by have := h1 y hy; simp; omega)
          rw [this]; rfl
        · rw [if_neg (by simpa using e2), if_neg (by simpa using e2)]
          exact h3 j (fun h => e2 h.symm)
theorem dif_made {l s : List Raw} (hs : s.Pairwise (fun x y => x.f ≤ y.f)) (hf : ∀ k : Int, s.filter (fun x => x.f == k) = l.filter (fun x => x.f == k)) : Made l (dif s) := by
  cases s with
  | nil => exact ⟨List.Pairwise.nil, fun k => by rw [← hf k]; rfl⟩
  | cons x r =>
    obtain ⟨hx, hr⟩ := List.pairwise_cons.1 hs
    obtain ⟨h1, h2, h3⟩ := go_le (k := x.f) (l := r) hx hr
    refine ⟨List.pairwise_cons.2 ⟨h1, h2⟩, fun k => ?_⟩
    rw [← hf k]
    simp only [dif, List.filter_cons]
    by_cases e : x.f = k
    · rw [if_pos (by simpa using e), if_pos (by simpa using e)]
      have : (dif.go x.f r).filter (fun x => x.f == k) = [] := List.filter_eq_nil_iff.2 (fun y hy => by have := h1 y hy; simp; omega)
      rw [this]; rfl
    · rw [if_neg (by simpa using e), if_neg (by simpa using e)]
      exact h3 k (fun h => e h.symm)
theorem go_snoc (x : Raw) : ∀ (l : List Raw) (k : Int), dif.go k (l ++ [x]) = if x.f = ((l.getLast?.map (·.f)).getD k) then dif.go k l else dif.go k l ++ [x]
  | [], k => by
    simp only [List.nil_append, dif.go, List.getLast?_nil, Option.map_none, Option.getD_none]
    rfl
  | y :: r, k => by
    have h := go_snoc x r y.f
    have hl : (((y :: r).getLast?).map (·.f)).getD k = ((r.getLast?.map (·.f)).getD y.f) := by
      cases r with
      | nil => rfl
      | cons z t => rw [List.getLast?_cons_cons]; obtain ⟨u, hu⟩ : ∃ u, (z :: t).getLast? = some u := ⟨_, List.getLast?_eq_some_getLast (by simp)⟩; rw [hu]; rfl
    rw [hl]
    simp only [List.cons_append, dif.go]
    rw [h]
    by_cases e : y.f = k
    · rw [if_pos e, if_pos e]
    · rw [if_neg e, if_neg e]
      split <;> rfl
/-- one more: it stays where it differs from the one ahead -/
theorem dif_snoc {l : List Raw} {x y : Raw} : dif (l ++ [y] ++ [x]) = if x.f = y.f then dif (l ++ [y]) else dif (l ++ [y]) ++ [x] := by
  cases l with
  | nil =>
    simp only [List.nil_append, List.cons_append, dif, dif.go]
    by_cases e : x.f = y.f
    · rw [if_pos e, if_pos e]
    · rw [if_neg e, if_neg e]
  | cons z t =>
    simp only [List.cons_append, dif]
    rw [go_snoc]
    have : ((t ++ [y]).getLast?.map (·.f)).getD z.f = y.f := by simp
    rw [this]
    split <;> rfl
theorem dif_length : ∀ (l : List Raw), (dif l).length ≤ l.length := by
  have hgo : ∀ (l : List Raw) (k : Int), (dif.go k l).length ≤ l.length := by
    intro l
    induction l with
    | nil => intro k; exact Nat.le_refl _
    | cons x r ih => intro k; simp only [dif.go]; have := ih x.f; split <;> simp <;> omega
  intro l
  cases l with
  | nil => exact Nat.le_refl _
  | cons x r => simp only [dif, List.length_cons]; have := hgo r x.f; omega
/-- the sort's answer -/
theorem sort_up (d : Array Raw) : (insertionSort (fun x y => decide (cfS x y < 0)) d 0 d.size).toList.Pairwise (fun x y => x.f ≤ y.f) ∧ ∀ k : Int, (insertionSort (fun x y => decide (cfS x y < 0)) d 0 d.size).toList.filter (fun x => x.f == k) = d.toList.filter (fun x => x.f == k) := by
  have hS : SWO (fun x y => decide (cfS x y < 0)) := ⟨fun x => by rw [cf_lt]; simp, fun x y z h1 h2 => by rw [cf_lt] at *; simp at *; omega, fun x y z h1 h2 => by rw [cf_lt] at *; simp at *; omega⟩
  obtain ⟨h1, h2⟩ := insertionSort_holds hS d 0 d.size (Nat.zero_le _) (Nat.le_refl _)
  refine ⟨?_, fun k => sort_filter _ (fun x y hx hy => by rw [cf_lt]; simp at hx hy ⊢; omega) d⟩
  rw [List.pairwise_iff_getElem]
  intro i j hi hj hij
  have hsz := h1.1
  have : decide (cfS _ _ < 0) = false := h2 i j (Nat.zero_le _) hij (by rw [← hsz]; simpa using hj)
  rw [cf_lt, decide_eq_false_iff_not] at this
  rw [getElem!_pos _ j (by simpa using hj), getElem!_pos _ i (by simpa using hi)] at this
  simp only [Array.getElem_toList]
  omega
theorem sort_len (d : Array Raw) : (insertionSort (fun x y => decide (cfS x y < 0)) d 0 d.size).size = d.size := by
  have hS : SWO (fun x y => decide (cfS x y < 0)) := ⟨fun x => by rw [cf_lt]; simp, fun x y z h1 h2 => by rw [cf_lt] at *; simp at *; omega, fun x y z h1 h2 => by rw [cf_lt] at *; simp at *; omega⟩
  exact (insertionSort_holds hS d 0 d.size (Nat.zero_le _) (Nat.le_refl _)).1.1
end Go.Proofs.Ytdmdfpbklflijaa.Mk
set_option linter.unusedVariables false
set_option linter.unusedSimpArgs false
namespace Go.Proofs.Ytdmdfpbklflijaa.Mk

/-- each one's first -/
def fst (l : List Int) : List Int := l.foldl (fun acc x => if x ∈ acc then acc else acc ++ [x]) []
theorem fst_snoc (l : List Int) (x : Int) : fst (l ++ [x]) = if x ∈ fst l then fst l else fst l ++ [x] := by unfold fst; rw [List.foldl_append]; rfl
theorem fst_ok : ∀ (n : Nat) (l : List Int), l.length = n → (fst l).Nodup ∧ ∀ x, x ∈ fst l ↔ x ∈ l
  | 0, l, hl => by
    obtain rfl := List.eq_nil_of_length_eq_zero hl
    exact ⟨List.nodup_nil, fun x => Iff.rfl⟩
  | n + 1, l, hl => by
    obtain ⟨l', t, rfl⟩ : ∃ l' t, l = l' ++ [t] := ⟨l.dropLast, l.getLast (by intro e; rw [e] at hl; cases hl), (List.dropLast_concat_getLast _).symm⟩
    obtain ⟨h1, h2⟩ := fst_ok n l' (by simpa using hl)
    rw [fst_snoc]
    split
    · rename_i ht
      refine ⟨h1, fun x => ?_⟩
      rw [h2, List.mem_append, List.mem_singleton]
      exact ⟨.inl, fun h => h.elim id (fun e => by rw [e]; exact (h2 t).1 ht)⟩
    · rename_i ht
      refine ⟨?_, fun x => by rw [List.mem_append, List.mem_append, h2]⟩
      rw [List.nodup_append]
      exact ⟨h1, by simp, fun a ha b hb e => by rw [List.mem_singleton] at hb; subst hb; subst e; exact ht ha⟩
theorem Made.mem {l r : List Raw} (h : Made l r) (k : Int) : k ∈ r.map (·.f) ↔ k ∈ l.map (·.f) := by
  have key : ∀ s : List Raw, k ∈ s.map (·.f) ↔ s.filter (fun x => x.f == k) ≠ [] := fun s => by
    rw [List.mem_map, Ne, List.filter_eq_nil_iff]
    constructor
    · rintro ⟨x, hx, e⟩ h
      exact h x hx (by simpa using e)
    · intro h
      apply Classical.byContradiction
      intro hn
      exact h (fun x hx => by
        intro e
        exact hn ⟨x, hx, by simpa using e⟩)
  rw [key, key, h.one k]
  cases l.filter (fun x => x.f == k) <;> simp
theorem Made.nodup {l r : List Raw} (h : Made l r) : (r.map (·.f)).Nodup := by
  rw [List.nodup_iff_pairwise_ne, List.pairwise_map]
  exact h.up.imp (fun hlt e => by omega)
/-- there are as many as there are unlike nodes -/
theorem Made.len {l r : List Raw} (h : Made l r) : r.length = (fst (l.map (·.f))).length := by
  obtain ⟨h1, h2⟩ := fst_ok _ (l.map (·.f)) rfl
  have := ((List.perm_ext_iff_of_nodup h.nodup h1).2 (fun x => by rw [h2, h.mem])).length_eq
  rwa [List.length_map] at this
/-- a node's first is there -/
theorem Made.first {l r : List Raw} (h : Made l r) {i : Nat} {y : Raw} (hy : l[i]? = some y) (hn : y.f ∉ (l.take i).map (·.f)) : y ∈ r := by
  obtain ⟨hi, rfl⟩ := List.getElem?_eq_some_iff.1 hy
  have hl : l = l.take i ++ l[i] :: l.drop (i + 1) := by rw [← List.drop_eq_getElem_cons hi, List.take_append_drop]
  have h1 := h.one (l[i]).f
  have h2 : l.filter (fun x => x.f == (l[i]).f) = l[i] :: (l.drop (i + 1)).filter (fun x => x.f == (l[i]).f) := by
    have h3 : (l.take i).filter (fun x => x.f == (l[i]).f) = [] := List.filter_eq_nil_iff.2 (fun x hx e => hn (List.mem_map.2 ⟨x, hx, by simpa using e⟩))
    have h4 : l.filter (fun x => x.f == (l[i]).f) = (l.take i ++ l[i] :: l.drop (i + 1)).filter (fun x => x.f == (l[i]).f) := by rw [← hl]
    rw [h4, List.filter_append, h3, List.nil_append, List.filter_cons, if_pos (by simp)]
  rw [h2] at h1
  have : l[i] ∈ r.filter (fun x => x.f == (l[i]).f) := by rw [h1]; simp
  exact (List.mem_filter.1 this).1
theorem Made.sub {l r : List Raw} (h : Made l r) {x : Raw} (hx : x ∈ r) : x ∈ l := by
  have h1 : x ∈ r.filter (fun y => y.f == x.f) := List.mem_filter.2 ⟨hx, by simp⟩
  rw [h.one] at h1
  exact (List.mem_filter.1 (List.mem_of_mem_take h1)).1
end Go.Proofs.Ytdmdfpbklflijaa.Mk

/- The k-th greatest of numbers, and views that nodes told: plain laws. -/
set_option linter.unusedVariables false
namespace Go.Proofs.Ytnomgkmeomlccaa.Top

/-- how many are v, or above -/
def cnt (v : Int) (l : List Int) : Nat := l.countP (fun x => decide (v ≤ x))
theorem cnt_nil (v : Int) : cnt v [] = 0 := rfl
theorem cnt_cons (v x : Int) (l : List Int) : cnt v (x :: l) = cnt v l + if v ≤ x then 1 else 0 := by
  unfold cnt; rw [List.countP_cons]; simp
theorem cnt_app (v : Int) (l k : List Int) : cnt v (l ++ k) = cnt v l + cnt v k := List.countP_append
theorem cnt_le (v : Int) (l : List Int) : cnt v l ≤ l.length := List.countP_le_length
theorem cnt_perm {v : Int} {l k : List Int} (h : l.Perm k) : cnt v l = cnt v k := h.countP_eq _
theorem cnt_anti {u v : Int} (h : u ≤ v) : ∀ l : List Int, cnt v l ≤ cnt u l
  | [] => Nat.le_refl _
  | x :: l => by
    have := cnt_anti h l
    rw [cnt_cons, cnt_cons]
    split <;> split <;> omega
theorem cnt_all {v : Int} : ∀ {l : List Int}, (∀ x ∈ l, v ≤ x) → cnt v l = l.length
  | [], _ => rfl
  | x :: l, h => by
    have h1 := cnt_all (l := l) (fun y hy => h y (by simp [hy]))
    have h2 := h x (by simp)
    rw [cnt_cons, h1, if_pos h2]; rfl
theorem cnt_none {v : Int} : ∀ {l : List Int}, (∀ x ∈ l, x < v) → cnt v l = 0
  | [], _ => rfl
  | x :: l, h => by
    have h1 := cnt_none (l := l) (fun y hy => h y (by simp [hy]))
    have h2 := h x (by simp)
    rw [cnt_cons, h1, if_neg (by omega)]
theorem top_iff {s : List Int} (hs : s.Pairwise (· ≤ ·)) {k : Nat} (hk : 1 ≤ k) (hn : k ≤ s.length) (v : Int) : v ≤ s[s.length - k]'(by omega) ↔ k ≤ cnt v s := by
  have hp := List.pairwise_iff_getElem.1 hs
  constructor
  · intro h
    rw [← List.take_append_drop (s.length - k) s, cnt_app]
    have : cnt v (s.drop (s.length - k)) = (s.drop (s.length - k)).length := cnt_all (fun x hx => by
      obtain ⟨j, hj, rfl⟩ := List.getElem_of_mem hx
      rw [List.getElem_drop]
      rw [List.length_drop] at hj
      by_cases e : j = 0
      · subst e; exact h
      · have := hp (s.length - k) (s.length - k + j) (by omega) (by omega) (by omega)
        omega)
    rw [this, List.length_drop]
    omega
  · intro h
    apply Classical.byContradiction
    intro hlt
    rw [← List.take_append_drop (s.length - k + 1) s, cnt_app] at h
    have h0 : cnt v (s.take (s.length - k + 1)) = 0 := cnt_none (fun x hx => by
      obtain ⟨j, hj, rfl⟩ := List.getElem_of_mem hx
      rw [List.getElem_take]
      rw [List.length_take] at hj
      by_cases e : j = s.length - k
      · subst e; omega
      · have := hp j (s.length - k) (by omega) (by omega) (by omega)
        omega)
    have h1 := cnt_le v (s.drop (s.length - k + 1))
    rw [List.length_drop] at h1
    omega

/-- t is the k-th greatest of l -/
def IsTop (l : List Int) (k : Nat) (t : Int) : Prop := t ∈ l ∧ ∀ v, v ≤ t ↔ k ≤ cnt v l
theorem isTop_of {l s : List Int} (hp : s.Perm l) (hs : s.Pairwise (· ≤ ·)) {k : Nat} (hk : 1 ≤ k) (hn : k ≤ s.length) : IsTop l k (s[s.length - k]'(by omega)) :=
  ⟨hp.mem_iff.1 (List.getElem_mem _), fun v => by rw [top_iff hs hk hn v, cnt_perm hp]⟩
theorem IsTop.uniq {l : List Int} {k : Nat} {t u : Int} (h : IsTop l k t) (g : IsTop l k u) : t = u := by
  have h1 := (h.2 u).2 ((g.2 u).1 (Int.le_refl _))
  have h2 := (g.2 t).2 ((h.2 t).1 (Int.le_refl _))
  omega
/-- how many are above, and how many are like -/
theorem top_found {l : List Int} {k : Nat} {t : Int} (h : IsTop l k t) (x : Int) (hx : cnt (x + 1) l < k) (hy : k ≤ cnt x l) : x = t := by
  have h1 := (h.2 x).2 hy
  have h2 : ¬ x + 1 ≤ t := fun e => by have := (h.2 _).1 e; omega
  omega
theorem top_has {l : List Int} {k : Nat} {t : Int} (h : IsTop l k t) : cnt (t + 1) l < k ∧ k ≤ cnt t l := by
  refine ⟨?_, (h.2 t).1 (Int.le_refl _)⟩
  apply Classical.byContradiction
  intro e
  have := (h.2 (t + 1)).2 (by omega)
  omega
/-- pointwise at least -/
theorem cnt_mono (v : Int) : ∀ {l k : List Int}, l.length = k.length → (∀ (i : Nat) (x y : Int), l[i]? = some x → k[i]? = some y → x ≤ y) → cnt v l ≤ cnt v k
  | [], [], _, _ => Nat.le_refl _
  | [], _ :: _, h, _ => by simp at h
  | _ :: _, [], h, _ => by simp at h
  | x :: l, y :: k, h, hp => by
    have h1 := cnt_mono v (l := l) (k := k) (by simpa using h) (fun i a b ha hb => hp (i + 1) a b (by simpa using ha) (by simpa using hb))
    have h2 := hp 0 x y rfl rfl
    rw [cnt_cons, cnt_cons]
    split <;> split <;> omega
theorem top_mono {l l' : List Int} {k : Nat} {t t' : Int} (h : IsTop l k t) (h' : IsTop l' k t') (hl : l.length = l'.length) (hp : ∀ (i : Nat) (x y : Int), l[i]? = some x → l'[i]? = some y → x ≤ y) : t ≤ t' :=
  (h'.2 t).2 (Nat.le_trans ((h.2 t).1 (Int.le_refl _)) (cnt_mono t hl hp))

/-- how many are just v -/
def inn (v : Int) (l : List Int) : Nat := l.countP (fun x => x == v)
theorem inn_cons (v x : Int) (l : List Int) : inn v (x :: l) = inn v l + if x = v then 1 else 0 := by
  unfold inn; rw [List.countP_cons]; simp
theorem inn_cnt (v : Int) : ∀ l : List Int, cnt v l = cnt (v + 1) l + inn v l
  | [] => rfl
  | x :: l => by
    have := inn_cnt v l
    rw [cnt_cons, cnt_cons, inn_cons]
    by_cases h : x = v
    · subst h; rw [if_pos (Int.le_refl _), if_neg (by omega), if_pos rfl]; omega
    · rw [if_neg h]
      by_cases h1 : v ≤ x
      · rw [if_pos h1, if_pos (by omega)]; omega
      · rw [if_neg h1, if_neg (by omega)]; omega
theorem inn_two {a b : Int} (h : a ≠ b) : ∀ l : List Int, inn a l + inn b l ≤ l.length
  | [] => Nat.le_refl _
  | x :: l => by
    have := inn_two h l
    rw [inn_cons, inn_cons, List.length_cons]
    by_cases h1 : x = a
    · subst h1; rw [if_pos rfl, if_neg h]; omega
    · rw [if_neg h1]
      split <;> omega
theorem inn_snoc (v x : Int) (l : List Int) : inn v (l ++ [x]) = inn v l + if x = v then 1 else 0 := by
  unfold inn; rw [List.countP_append]; simp [List.countP_cons]
theorem cnt_snoc (v x : Int) (l : List Int) : cnt v (l ++ [x]) = cnt v l + if v ≤ x then 1 else 0 := by
  rw [cnt_app, cnt_cons]; simp [cnt_nil]

/-- what is told: a node, and a view -/
structure Tel where
  f : Int
  v : Int
/-- may it be put? -/
def Takes (vs : List Int) (o : Tel) : Prop := 0 ≤ o.f ∧ o.f < (vs.length : Int) ∧ o.v ≤ 1000000 ∧ ∃ x, vs[o.f.toNat]? = some x ∧ x < o.v
instance (vs : List Int) (o : Tel) : Decidable (Takes vs o) := by
  unfold Takes
  cases h : vs[o.f.toNat]? with
  | none => exact if h1 : False then (by cases h1) else isFalse (by simp)
  | some x => exact decidable_of_iff (0 ≤ o.f ∧ o.f < (vs.length : Int) ∧ o.v ≤ 1000000 ∧ x < o.v) (by simp)
def gput (vs : List Int) (o : Tel) : List Int := if Takes vs o then vs.set o.f.toNat o.v else vs
theorem gput_length (vs : List Int) (o : Tel) : (gput vs o).length = vs.length := by unfold gput; split <;> simp
theorem gput_mono (vs : List Int) (o : Tel) (i : Nat) (x y : Int) (hx : vs[i]? = some x) (hy : (gput vs o)[i]? = some y) : x ≤ y := by
  unfold gput at hy
  split at hy
  · rename_i h
    rw [List.getElem?_set] at hy
    split at hy
    · rename_i e
      obtain ⟨_, _, _, z, hz, hlt⟩ := h
      rw [e, hx] at hz
      cases hz
      split at hy
      · cases hy; omega
      · cases hy
    · rw [hx] at hy; cases hy; omega
  · rw [hx] at hy; cases hy; omega
def gputs (n : Nat) (l : List Tel) : List Int := l.foldl gput (List.replicate n 0)
theorem gputs_length (n : Nat) (l : List Tel) : (gputs n l).length = n := by
  unfold gputs
  suffices ∀ (l : List Tel) (vs : List Int), (l.foldl gput vs).length = vs.length by rw [this]; simp
  intro l
  induction l with
  | nil => intro vs; rfl
  | cons o l ih => intro vs; rw [List.foldl_cons, ih, gput_length]
theorem gputs_snoc (n : Nat) (l : List Tel) (o : Tel) : gputs n (l ++ [o]) = gput (gputs n l) o := by unfold gputs; rw [List.foldl_append]; rfl
/-- all are views -/
def Vws (vs : List Int) : Prop := ∀ x ∈ vs, 0 ≤ x ∧ x ≤ 1000000
theorem vws_gput {vs : List Int} (h : Vws vs) (o : Tel) : Vws (gput vs o) := by
  unfold gput
  split
  · rename_i ht
    obtain ⟨_, _, h3, z, hz, hlt⟩ := ht
    have := h z (List.mem_of_getElem? hz)
    intro x hx
    rcases List.mem_or_eq_of_mem_set hx with h1 | h1
    · exact h x h1
    · subst h1; exact ⟨by omega, h3⟩
  · exact h
theorem vws_zero (n : Nat) : Vws (List.replicate n 0) := fun x hx => by rw [List.mem_replicate] at hx; rw [hx.2]; omega
theorem vws_gputs (n : Nat) (l : List Tel) : Vws (gputs n l) := by
  unfold gputs
  suffices ∀ (l : List Tel) (vs : List Int), Vws vs → Vws (l.foldl gput vs) from this l _ (vws_zero n)
  intro l
  induction l with
  | nil => intro vs h; exact h
  | cons o l ih => intro vs h; exact ih _ (vws_gput h o)

/-- a node's greatest view, of what was told -/
def atF (l : List Tel) (n : Nat) (f : Int) : Int := l.foldl (fun v o => if o.f = f ∧ 0 ≤ f ∧ f < (n : Int) ∧ o.v ≤ 1000000 then max v o.v else v) 0
theorem atF_snoc (l : List Tel) (o : Tel) (n : Nat) (f : Int) : atF (l ++ [o]) n f = if o.f = f ∧ 0 ≤ f ∧ f < (n : Int) ∧ o.v ≤ 1000000 then max (atF l n f) o.v else atF l n f := by
  unfold atF; rw [List.foldl_append]; rfl
theorem atF_nonneg (l : List Tel) (n : Nat) (f : Int) : 0 ≤ atF l n f := by
  unfold atF
  suffices ∀ (l : List Tel) (v : Int), 0 ≤ v → 0 ≤ l.foldl (fun v o => if o.f = f ∧ 0 ≤ f ∧ f < (n : Int) ∧ o.v ≤ 1000000 then max v o.v else v) v from this l 0 (Int.le_refl _)
  intro l
  induction l with
  | nil => intro v h; exact h
  | cons o l ih => intro v h; exact ih _ (by dsimp only; split <;> omega)
theorem atF_out (l : List Tel) (n : Nat) (f : Int) (h : f < 0 ∨ (n : Int) ≤ f) : atF l n f = 0 := by
  unfold atF
  suffices ∀ (l : List Tel) (v : Int), l.foldl (fun v o => if o.f = f ∧ 0 ≤ f ∧ f < (n : Int) ∧ o.v ≤ 1000000 then max v o.v else v) v = v from this l 0
  intro l
  induction l with
  | nil => intro v; rfl
  | cons o l ih => intro v; rw [List.foldl_cons, if_neg (by omega)]; exact ih v
theorem snoc_ind {α : Type} {p : List α → Prop} (h0 : p []) (h1 : ∀ l x, p l → p (l ++ [x])) : ∀ l, p l := by
  intro l
  generalize hn : l.length = m
  induction m generalizing l with
  | zero => rw [List.eq_nil_of_length_eq_zero hn]; exact h0
  | succ m ih =>
    rcases List.eq_nil_or_concat l with rfl | ⟨k, x, rfl⟩
    · exact h0
    · rw [List.concat_eq_append] at hn ⊢; exact h1 k x (ih k (by simp at hn; omega))
/-- the views are what was told -/
theorem gputs_at (n : Nat) (l : List Tel) : ∀ j, j < n → (gputs n l)[j]? = some (atF l n (j : Int)) := by
  refine snoc_ind (p := fun l => ∀ j, j < n → (gputs n l)[j]? = some (atF l n (j : Int))) ?_ ?_ l
  · intro j hj; simp [gputs, atF, hj]
  · intro l o ih j hj
    rw [gputs_snoc, atF_snoc]
    have hl := gputs_length n l
    have hji := ih j hj
    have h0 := atF_nonneg l n (j : Int)
    unfold gput
    by_cases ht : Takes (gputs n l) o
    · rw [if_pos ht]
      obtain ⟨h1, h2, h3, z, hz, hlt⟩ := ht
      rw [List.getElem?_set]
      by_cases e : o.f.toNat = j
      · rw [if_pos e, if_pos (by omega), if_pos ⟨by omega, by omega, by omega, h3⟩]
        rw [e, hji] at hz
        cases hz
        rw [Int.max_eq_right (by omega)]
      · rw [if_neg e, hji, if_neg (by omega)]
    · rw [if_neg ht, hji]
      split
      · rename_i h
        obtain ⟨e, h1, h2, h3⟩ := h
        have : ¬ atF l n (j : Int) < o.v := fun hlt => ht ⟨by omega, by omega, h3, _, (by rw [e, Int.toNat_natCast]; exact hji), hlt⟩
        rw [Int.max_eq_left (by omega)]
      · rfl
/-- what is there of a node -/
def atV (vs : List Int) (f : Int) : Int := if 0 ≤ f ∧ f < (vs.length : Int) then vs.getD f.toNat 0 else 0
theorem atV_gputs (n : Nat) (l : List Tel) (f : Int) : atV (gputs n l) f = atF l n f := by
  unfold atV
  rw [gputs_length]
  split
  · rename_i h
    obtain ⟨j, rfl⟩ : ∃ j : Nat, f = (j : Int) := ⟨f.toNat, by omega⟩
    rw [Int.toNat_natCast, List.getD_eq_getElem?_getD, gputs_at n l j (by omega)]
    rfl
  · rw [atF_out _ _ _ (by omega)]
/-- whether it is put, by what was told -/
theorem takes_iff (n : Nat) (l : List Tel) (o : Tel) : Takes (gputs n l) o ↔ atF l n o.f < atF (l ++ [o]) n o.f := by
  rw [atF_snoc]
  have h0 := atF_nonneg l n o.f
  constructor
  · rintro ⟨h1, h2, h3, z, hz, hlt⟩
    rw [gputs_length] at h2
    obtain ⟨j, hj⟩ : ∃ j : Nat, o.f = (j : Int) := ⟨o.f.toNat, by omega⟩
    rw [hj, Int.toNat_natCast, gputs_at n l j (by omega)] at hz
    cases hz
    rw [if_pos ⟨rfl, h1, h2, h3⟩, hj]
    omega
  · intro h
    split at h
    · rename_i h1
      obtain ⟨_, h1, h2, h3⟩ := h1
      obtain ⟨j, hj⟩ : ∃ j : Nat, o.f = (j : Int) := ⟨o.f.toNat, by omega⟩
      refine ⟨h1, by rw [gputs_length]; exact h2, h3, atF l n (j : Int), by rw [hj, Int.toNat_natCast]; exact gputs_at n l j (by omega), ?_⟩
      rw [hj] at h
      omega
    · omega
theorem gputs_map (n : Nat) (l : List Tel) : gputs n l = (List.range n).map (fun j : Nat => atF l n (j : Int)) := by
  apply List.ext_getElem?
  intro j
  by_cases h : j < n
  · rw [gputs_at n l j h]; simp [h]
  · rw [List.getElem?_eq_none (by rw [gputs_length]; omega), List.getElem?_eq_none (by simp; omega)]
/-- .. of the first j -/
theorem cnt_range (v : Int) (f : Nat → Int) (j : Nat) : cnt v ((List.range (j + 1)).map f) = cnt v ((List.range j).map f) + if v ≤ f j then 1 else 0 := by
  rw [List.range_succ, List.map_append]; exact cnt_snoc _ _ _
theorem inn_range (v : Int) (f : Nat → Int) (j : Nat) : inn v ((List.range (j + 1)).map f) = inn v ((List.range j).map f) + if f j = v then 1 else 0 := by
  rw [List.range_succ, List.map_append]; exact inn_snoc _ _ _
/-- the greatest so far that k are at, or above -/
def best (vs : List Int) (k : Nat) : Nat → Int
  | 0 => 0
  | i + 1 => if k ≤ cnt (vs.getD i 0) vs then max (best vs k i) (vs.getD i 0) else best vs k i
theorem best_top {vs : List Int} {k : Nat} {t : Int} (h : IsTop vs k t) (hv : Vws vs) : best vs k vs.length = t := by
  have ht0 := (hv t h.1).1
  have hle : ∀ i, i ≤ vs.length → 0 ≤ best vs k i ∧ best vs k i ≤ t := by
    intro i
    induction i with
    | zero => intro _; exact ⟨Int.le_refl _, ht0⟩
    | succ i ih =>
      intro hi
      have := ih (by omega)
      unfold best
      split
      · rename_i hc
        have := (h.2 _).2 hc
        omega
      · exact this
  have hge : ∀ i, i ≤ vs.length → ∀ j, j < i → vs.getD j 0 = t → t ≤ best vs k i := by
    intro i
    induction i with
    | zero => intro _ j hj; omega
    | succ i ih =>
      intro hi j hj e
      unfold best
      by_cases hji : j = i
      · subst hji
        rw [e, if_pos ((h.2 t).1 (Int.le_refl _))]
        omega
      · have := ih (by omega) j (by omega) e
        split <;> omega
  obtain ⟨j, hj, hjt⟩ := List.getElem_of_mem h.1
  have h1 := hge vs.length (Nat.le_refl _) j hj (by rw [List.getD_eq_getElem?_getD, List.getElem?_eq_getElem hj, hjt]; rfl)
  have h2 := hle vs.length (Nat.le_refl _)
  omega
end Go.Proofs.Ytnomgkmeomlccaa.Top

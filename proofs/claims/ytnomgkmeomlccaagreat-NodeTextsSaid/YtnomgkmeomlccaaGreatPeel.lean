/- A region that draws its order, and whose last operation waits for all others: that one apart. -/
import Derived.StillTail
import Derived.Deep.RegionHeld3
set_option linter.unusedVariables false
set_option linter.unusedSimpArgs false
namespace Go.Proofs.YtnomgkmeomlccaaGreat.Peel
open Go

def okB (l : List Oper) (n : Nat) : Bool :=
  decide (l.length = n + 1) && l.all (fun o => o.guard.isNone) &&
  (List.range (n + 1)).all (fun j => match l[j]? with | some o => o.after.all (fun e => !Region.binds .any e || decide (e.on < j)) | none => true) &&
  Region.sinkB .any l.toArray n && Region.chainB .any l.toArray n
structure Ok (l : List Oper) (n : Nat) : Prop where
  len : l.length = n + 1
  gd : ∀ (i : Nat) (o : Oper), l[i]? = some o → o.guard = none
  down : ∀ (j : Nat) (o : Oper), l[j]? = some o → ∀ e ∈ o.after, Region.binds .any e = true → e.on < j
  sink : Region.sinkB .any l.toArray n = true
  chain : Region.chainB .any l.toArray n = true
theorem ok_of {l : List Oper} {n : Nat} (h : okB l n = true) : Ok l n := by
  simp only [okB, Bool.and_eq_true, decide_eq_true_eq] at h
  obtain ⟨⟨⟨⟨h1, h2⟩, h3⟩, h4⟩, h5⟩ := h
  refine ⟨h1, fun i o ho => ?_, fun j o ho e he hb => ?_, h4, h5⟩
  · have := List.all_eq_true.1 h2 o (List.mem_of_getElem? ho)
    simpa using this
  · have hj : j < n + 1 := by
      rcases Nat.lt_or_ge j l.length with h | h
      · omega
      · rw [List.getElem?_eq_none h] at ho; cases ho
    have := List.all_eq_true.1 h3 j (List.mem_range.2 hj)
    rw [ho] at this
    simp only at this
    have h5 := Array.all_eq_true'.1 this e he
    rw [hb] at h5
    simpa using h5
section
variable {P : Program} {l : List Oper} {n : Nat} {Q : Exit → Act → World → Prop}
/-- what is asked where all but the last have come up -/
def Qn (P : Program) (l : List Oper) (n : Nat) (Q : Exit → Act → World → Prop) : Exit → Act → World → Prop
  | .normal, a, w => wpList P l.toArray Q (l.drop n) a w
  | e, a, w => Q e a w
theorem getD_push_lt {listed : Array Bool} {b : Bool} {i : Nat} (hi : i < listed.size) (d : Bool) : (listed.push b).getD i d = listed.getD i d := by
  simp [Array.getElem?_push_lt hi, Array.getElem?_eq_getElem hi, Array.getElem_push_lt hi, hi, Nat.lt_succ_of_lt hi]
theorem getD_push_eq {listed : Array Bool} {b : Bool} (d : Bool) : (listed.push b).getD listed.size d = b := by simp
theorem init_get {i : Nat} (hi : i < n) : (l.take n).toArray[i]? = l.toArray[i]? := by
  simp [List.getElem?_take, hi]
theorem ready_in (h : Ok l n) {listed : Array Bool} (hs : listed.size = n) (b : Bool) {j : Nat} (hj : j < n) : j ∈ Region.ready .any l.toArray (listed.push b) ↔ j ∈ Region.ready .any (l.take n).toArray listed := by
  rw [mem_ready, mem_ready, init_get hj, getD_push_lt (by omega)]
  have key : ∀ o, l.toArray[j]? = some o → ((∀ e ∈ o.after, Region.binds .any e = true → (listed.push b).getD e.on false = true) ↔ (∀ e ∈ o.after, Region.binds .any e = true → listed.getD e.on false = true)) := by
    intro o ho
    have hd := h.down j o (by simpa using ho)
    constructor
    · intro k e he hb
      have := k e he hb
      rw [getD_push_lt (by have := hd e he hb; omega)] at this
      exact this
    · intro k e he hb
      rw [getD_push_lt (by have := hd e he hb; omega)]
      exact k e he hb
  constructor
  · rintro ⟨h1, o, ho, h2⟩
    exact ⟨h1, o, ho, (key o ho).1 h2⟩
  · rintro ⟨h1, o, ho, h2⟩
    exact ⟨h1, o, ho, (key o ho).2 h2⟩
theorem listed_all (h : Ok l n) {listed : Array Bool} (hs : listed.size = n) (hr : Region.ready .any (l.take n).toArray listed = []) : ∀ i, i < n → listed.getD i false = true := by
  intro i
  induction i using Nat.strongRecOn with
  | _ i ih =>
    intro hi
    cases hg : listed.getD i false with
    | true => rfl
    | false =>
      have hm : i ∈ Region.ready .any (l.take n).toArray listed := by
        rw [mem_ready]
        have hil : i < l.length := by rw [h.len]; omega
        refine ⟨getD_in (by omega) hg, l[i], by rw [init_get hi]; simp [hil], fun e he hb => ?_⟩
        have := h.down i l[i] (by simp [hil]) e he hb
        exact ih e.on this (by omega)
      rw [hr] at hm
      cases hm
theorem ready_last (h : Ok l n) {listed : Array Bool} (hs : listed.size = n) (inv : HeadInv .any l.toArray n (listed.push false)) (hr : n ∈ Region.ready .any l.toArray (listed.push false)) : Region.ready .any (l.take n).toArray listed = [] := by
  apply List.eq_nil_iff_forall_not_mem.2
  intro j hj
  obtain ⟨h1, o2, ho2, _⟩ := mem_ready.1 hj
  have hjn : j < n := by
    rcases Nat.lt_or_ge j n with h | h
    · exact h
    · rw [Array.getElem?_eq_none (by simp; omega)] at ho2; cases ho2
  exact tail_waits h.sink h.chain (by simp [h.len]) inv (n - j) j rfl hjn (by rw [getD_push_lt (by omega)]; exact h1) n (Nat.le_refl _) hr
theorem last_ready (h : Ok l n) {listed : Array Bool} (hs : listed.size = n) (hr : Region.ready .any (l.take n).toArray listed = []) : n ∈ Region.ready .any l.toArray (listed.push false) := by
  have hl := listed_all h hs hr
  have hn : n < l.length := by rw [h.len]; omega
  rw [mem_ready]
  refine ⟨by rw [← hs]; exact getD_push_eq true, l[n], by simp [hn], fun e he hb => ?_⟩
  have := h.down n l[n] (by simp [hn]) e he hb
  rw [getD_push_lt (by omega)]
  exact hl e.on this
theorem ready_none (h : Ok l n) {listed : Array Bool} (hs : listed.size = n) (hr : Region.ready .any (l.take n).toArray listed = []) : Region.ready .any l.toArray (listed.push true) = [] := by
  apply List.eq_nil_iff_forall_not_mem.2
  intro j hj
  by_cases hjn : j < n
  · rw [ready_in h hs true hjn, hr] at hj; cases hj
  · obtain ⟨h1, o, ho, _⟩ := mem_ready.1 hj
    have : j = n := by
      rcases Nat.lt_or_ge j l.length with h2 | h2
      · rw [h.len] at h2; omega
      · rw [Array.getElem?_eq_none (by simpa using h2)] at ho; cases ho
    subst this
    rw [← hs, getD_push_eq true] at h1
    cases h1
theorem op_wp {o : Oper} {a : Act} {w : World} {K K' : Act → World → Prop} (hK : ∀ a w, K a w → K' a w) (h : o.wp P a w K (Qn P l n Q)) : o.wp P a w K' Q := by
  unfold Oper.wp at *
  generalize (execOp a.eval o).run P w = r at *
  cases r with
  | ok x w' =>
    cases x <;> simp only [Oper.upon] at h ⊢
    case value u => exact hK _ _ h
    case skip => exact hK _ _ h
    case defer d => exact hK _ _ h
    case enter f args =>
      refine Calls.mono h fun e w'' he => ?_
      cases e with
      | returned u => exact hK _ _ he
      | panicked c => exact he
      | outgrown => exact he
    case row row args => exact Rows.mono h fun u w'' he => hK _ _ he
  | halt x w' =>
    cases x <;> simp only [Oper.upon] at h ⊢
    case panic u => exact h
theorem op_in (h : Ok l n) {i : Nat} (hi : i < n) {a : Act} {w : World} {K K' : Act → World → Prop} (hK : ∀ a w, K a w → K' a w) (hh : wpOp P (l.take n).toArray (Qn P l n Q) i K a w) : wpOp P l.toArray Q i K' a w := by
  have hil : i < l.length := by rw [h.len]; omega
  have ho : l.toArray[i]? = some l[i] := by simp [hil]
  have hg := h.gd i l[i] (by simp [hil])
  unfold wpOp at hh ⊢
  rw [init_get hi, ho] at hh
  rw [ho]
  simp only at hh ⊢
  rw [if_pos (by simp [Region.wanted, hg])] at hh
  rw [if_pos (by simp [Region.wanted, hg])]
  rcases hh with hh | ⟨h1, h2⟩
  · exact .inl (op_wp hK hh)
  · exact .inr ⟨h1, h2⟩
theorem at_last (h : Ok l n) (f : Nat) {listed : Array Bool} (hs : listed.size = n) (hr : Region.ready .any (l.take n).toArray listed = []) {a : Act} {w : World} (hq : wpList P l.toArray Q (l.drop n) a w) : wpAny P .any l.toArray Q (f + 1) (listed.push false) a w := by
  have hm := last_ready h hs hr
  have hn : n < l.length := by rw [h.len]; omega
  have hd : l.drop n = [l[n]] := by
    rw [List.drop_eq_getElem_cons hn, List.drop_eq_nil_of_le (by rw [h.len]; omega)]
  rw [hd] at hq
  refine ⟨fun h0 => (by rw [h0] at hm; cases hm), fun i hi => ?_⟩
  have hin : i = n := by
    by_cases hin : i < n
    · rw [ready_in h hs false hin, hr] at hi; cases hi
    · obtain ⟨_, o, ho, _⟩ := mem_ready.1 hi
      rcases Nat.lt_or_ge i l.length with h2 | h2
      · rw [h.len] at h2; omega
      · rw [Array.getElem?_eq_none (by simpa using h2)] at ho; cases ho
  subst hin
  have he : (listed.push false).setIfInBounds i true = listed.push true := by
    apply Array.ext
    · simp
    · intro j h1 h2
      simp at h1 h2
      rw [Array.getElem_setIfInBounds (by simpa using h1)]
      by_cases e : i = j
      · subst e
        rw [if_pos rfl]
        simp [← hs]
      · rw [if_neg e, Array.getElem_push_lt (by omega), Array.getElem_push_lt (by omega)]
  have hnone := ready_none h hs hr
  have fin : ∀ (g : Nat) (a' : Act) (w' : World), Q .normal a' w' → wpAny P .any l.toArray Q g (listed.push true) a' w' := fun g a' w' hq => by
    cases g with
    | zero => exact ⟨hnone, hq⟩
    | succ g => exact ⟨fun _ => hq, fun j hj => by rw [hnone] at hj; cases hj⟩
  unfold wpOp
  rw [show l.toArray[i]? = some l[i] by simp [hn]]
  simp only
  have hg := h.gd i l[i] (by simp [hn])
  rw [if_pos (by simp [Region.wanted, hg])]
  unfold wpList at hq
  rw [if_pos (by simp [Region.wanted, hg])] at hq
  rcases hq with hq | hq
  · refine .inl (Oper.wp_mono (fun a' w' h' => ?_) hq)
    rw [he]
    exact fin f a' w' h'
  · exact .inr hq
theorem any_peel (h : Ok l n) : ∀ (f : Nat) (listed : Array Bool) (a : Act) (w : World), listed.size = n → HeadInv .any l.toArray n (listed.push false) → wpAny P .any (l.take n).toArray (Qn P l n Q) f listed a w → wpAny P .any l.toArray Q (f + 1) (listed.push false) a w
  | 0, listed, a, w, hs, inv, hh => at_last h 0 hs hh.1 hh.2
  | f + 1, listed, a, w, hs, inv, hh => by
    by_cases hr : Region.ready .any (l.take n).toArray listed = []
    · exact at_last h (f + 1) hs hr (hh.1 hr)
    · refine ⟨fun h0 => ?_, fun i hi => ?_⟩
      · exfalso
        apply hr
        apply List.eq_nil_iff_forall_not_mem.2
        intro j hj
        have hjn : j < n := by
          obtain ⟨_, o, ho, _⟩ := mem_ready.1 hj
          rcases Nat.lt_or_ge j n with h | h
          · exact h
          · rw [Array.getElem?_eq_none (by simp; omega)] at ho; cases ho
        have := (ready_in h hs false hjn).2 hj
        rw [h0] at this
        cases this
      · have hin : i < n := by
          rcases Nat.lt_or_ge i n with h1 | h1
          · exact h1
          · obtain ⟨_, o, ho, _⟩ := mem_ready.1 hi
            have : i = n := by
              rcases Nat.lt_or_ge i l.length with h2 | h2
              · rw [h.len] at h2; omega
              · rw [Array.getElem?_eq_none (by simpa using h2)] at ho; cases ho
            subst this
            exact absurd (ready_last h hs inv hi) hr
        have hi2 := (ready_in h hs false hin).1 hi
        refine op_in h hin (fun a' w' h' => ?_) (hh.2 i hi2)
        have e : (listed.push false).setIfInBounds i true = (listed.setIfInBounds i true).push false := by
          apply Array.ext
          · simp
          · intro j h1 h2
            simp at h1 h2
            rw [Array.getElem_setIfInBounds (by simpa using h1)]
            by_cases e : i = j
            · subst e
              rw [if_pos rfl, Array.getElem_push_lt (by simp; omega), Array.getElem_setIfInBounds (by omega), if_pos rfl]
            · rw [if_neg e]
              by_cases hj : j < listed.size
              · rw [Array.getElem_push_lt hj, Array.getElem_push_lt (by simpa using hj), Array.getElem_setIfInBounds hj, if_neg e]
              · have : j = listed.size := by omega
                subst this
                simp [Array.getElem_push]
        have := any_peel h f (listed.setIfInBounds i true) a' w' (by simpa using hs) (by rw [← e]; exact inv.set hi hin) h'
        rw [e]
        exact this
/-- **The last operation apart.** -/
theorem region_peel {S : World → Prop} {id : Nat} {a : Act} {w : World} (n : Nat) (hm : P.follows .mixedOrders = true) (hB : okB l n = true) (hS : S w.drew)
    (h : S w.drew → wpAnyH P .any (l.take n).toArray (Qn P l n Q) S n (Array.replicate n false) a w.drew) : (Code.region id l.toArray true).wp P Q a w := by
  have hk := ok_of hB
  refine wp_region_any hm ?_
  have h1 := wpAny_of_held _ _ _ _ (h hS)
  have inv0 : HeadInv .any l.toArray n ((Array.replicate n false).push false) := by
    rw [← Array.replicate_succ]
    exact ⟨by simp [hk.len], fun j oj _ hl => (by rw [getD_replicate_false] at hl; cases hl), fun t _ ht => getD_in (by rw [Array.size_replicate, ← hk.len]; simpa using ht) (getD_replicate_false _ _)⟩
  have h2 := any_peel hk n (Array.replicate n false) a w.drew (by simp) inv0 h1
  have e : l.toArray.size = n + 1 := by simpa using hk.len
  rw [e, Array.replicate_succ]
  exact h2
/-- one that only reads, first -/
theorem take {ops : Array Oper} {S : World → Prop} (i : Nat) {oi : Oper} {v : Value} {fuel : Nat} {listed : Array Bool} {a : Act} {w : World} (hi : ops[i]? = some oi) (hg : oi.guard = none)
    (hs : Region.noSelect ops = true) (hf : Region.free .any ops listed i = true) (hr : (Region.ready .any ops listed).contains i = true)
    (hQ : ∀ c a w, Q (.panic c) (a.put oi.dst v) w → Q (.panic c) a w) (hS : S w) (hy : ∀ w, S w → (execOp a.eval oi).run P w = .ok (.value v) w)
    (h : wpAnyH P .any ops Q S fuel (listed.setIfInBounds i true) (a.put oi.dst v) w) : wpAnyH P .any ops Q S (fuel + 1) listed a w :=
  wpAnyH_take hi hs hf hr hQ (.inl ⟨by simp [Region.wanted, hg], hy⟩) hS h
end
end Go.Proofs.YtnomgkmeomlccaaGreat.Peel

/- A region that draws its order, with a store in its middle behind which less is known of the world: its laws. -/
import Derived.Test.YtnomgkmeomlccaaPeel
set_option linter.unusedVariables false
set_option linter.unusedSimpArgs false
namespace Go.Proofs.Ytnomgkmeomlccaa.Piv
open Go

section
variable {P : Program} {ops : Array Oper} {Q : Exit → Act → World → Prop} {s : Nat} {S1 S2 : World → Prop}
/-- what is known: more while number s hasn't come up -/
def Kn (s : Nat) (S1 S2 : World → Prop) (L : Array Bool) (w : World) : Prop := S2 w ∧ (L.getD s true = false → S1 w)
/-- whatever order is picked from here on; behind each operation what is known is shown anew -/
def wpI (P : Program) (ops : Array Oper) (Q : Exit → Act → World → Prop) (s : Nat) (S1 S2 : World → Prop) : Nat → Array Bool → Act → World → Prop
  | 0, L, a, w => Region.ready .any ops L = [] ∧ Q .normal a w
  | f + 1, L, a, w => (Region.ready .any ops L = [] → Q .normal a w) ∧ ∀ i ∈ Region.ready .any ops L, wpOp P ops Q i (fun a' w' => Kn s S1 S2 (L.setIfInBounds i true) w' ∧ wpI P ops Q s S1 S2 f (L.setIfInBounds i true) a' w') a w
theorem wpI_any : ∀ (f : Nat) (L : Array Bool) (a : Act) (w : World), wpI P ops Q s S1 S2 f L a w → wpAny P .any ops Q f L a w
  | 0, _, _, _, h => h
  | f + 1, _, _, _, h => ⟨h.1, fun i hi => wpOp_mono (fun a' w' k => wpI_any f _ a' w' k.2) (h.2 i hi)⟩
/-- where number i stands: ahead of number s (then the larger fact serves), or anywhere (then the smaller one does) -/
def Fits (ops : Array Oper) (s i : Nat) (L : Array Bool) (S S1 S2 : World → Prop) : Prop :=
  (S = S2) ∨ (S = S1 ∧ L.getD s true = false ∧ ∃ o, ops[s]? = some o ∧ ∃ e ∈ o.after, Region.binds .any e = true ∧ e.on = i)
theorem kn_less {i : Nat} (hs : i ≠ s) {L : Array Bool} {w : World} (h : Kn s S1 S2 (L.setIfInBounds i true) w) : Kn s S1 S2 L w :=
  ⟨h.1, fun e => h.2 (by rw [getD_set_ne true hs]; exact e)⟩
theorem fits_known {i : Nat} {L : Array Bool} {S : World → Prop} {w : World} (h : Fits ops s i L S S1 S2) (k : Kn s S1 S2 L w) : S w := by
  rcases h with rfl | ⟨rfl, hl, -⟩
  · exact k.1
  · exact k.2 hl
theorem fits_step {i j : Nat} {L : Array Bool} {S : World → Prop} (h : Fits ops s i L S S1 S2) (hi : L.getD i true = false) (hj : j ∈ Region.ready .any ops L) (hji : j ≠ i) : Fits ops s i (L.setIfInBounds j true) S S1 S2 := by
  rcases h with h | ⟨h, hl, o, ho, e, he, hb, hon⟩
  · exact .inl h
  · by_cases hjs : j = s
    · subst hjs
      obtain ⟨-, o2, ho2, hall⟩ := mem_ready.1 hj
      rw [ho] at ho2
      cases Option.some.inj ho2
      have := hall e he hb
      rw [hon] at this
      have hlt : i < L.size := by
        rcases Nat.lt_or_ge i L.size with h' | h'
        · exact h'
        · rw [Array.getD_eq_getD_getElem?, Array.getElem?_eq_none h'] at this
          cases this
      rw [Array.getD_eq_getD_getElem?, Array.getElem?_eq_getElem hlt] at this hi
      simp at this hi
      rw [this] at hi
      cases hi
    · exact .inr ⟨h, by rw [getD_set_ne true hjs]; exact hl, o, ho, e, he, hb, hon⟩
def aheadB (ops : Array Oper) (s i : Nat) : Bool := match ops[s]? with
  | some o => o.after.any (fun e => Region.binds .any e && decide (e.on = i))
  | none => false
theorem fits_ahead {i : Nat} {L : Array Bool} (h : aheadB ops s i = true) (hl : L.getD s true = false) : Fits ops s i L S1 S1 S2 := by
  refine .inr ⟨rfl, hl, ?_⟩
  unfold aheadB at h
  cases ho : ops[s]? with
  | none => rw [ho] at h; cases h
  | some o =>
    rw [ho] at h
    obtain ⟨e, he, hb⟩ := Array.any_eq_true'.1 h
    simp only [Bool.and_eq_true, decide_eq_true_eq] at hb
    exact ⟨o, rfl, e, he, hb.1, hb.2⟩
theorem kn_both {L : Array Bool} {w : World} (h1 : S1 w) (h2 : S2 w) : Kn s S1 S2 L w := ⟨h2, fun _ => h1⟩
theorem kn_after {L : Array Bool} {w : World} (h2 : S2 w) (hl : L.getD s true = true) : Kn s S1 S2 L w := ⟨h2, fun e => (by rw [hl] at e; cases e)⟩
/-- one that yields its value in every world of which so much is known may be taken first -/
theorem first {i : Nat} {oi : Oper} {v : Value} {S : World → Prop} (hi : ops[i]? = some oi) (hsel : ∀ (j : Nat) (o : Oper) cs b, ops[j]? = some o → o.op ≠ .select cs b) (hs : i ≠ s)
    (hQ : ∀ c a w, Q (.panic c) (a.put oi.dst v) w → Q (.panic c) a w) :
    ∀ (f : Nat) (L : Array Bool) (a : Act) (w : World),
      (∀ j oj, ops[j]? = some oj → j ≠ i → L.getD j true = false → (∀ e ∈ oj.after, Region.binds .any e = true → e.on ≠ i) → oi.apart ops oj = true) →
      i ∈ Region.ready .any ops L → YieldsIf P ops S oi v a → Fits ops s i L S S1 S2 → Kn s S1 S2 L w →
      wpI P ops Q s S1 S2 f (L.setIfInBounds i true) (a.put oi.dst v) w → wpI P ops Q s S1 S2 (f + 1) L a w := by
  intro f
  have here : ∀ (L : Array Bool) (a : Act) (w : World) (K : Act → World → Prop), YieldsIf P ops S oi v a → Fits ops s i L S S1 S2 → Kn s S1 S2 L w → K (a.put oi.dst v) w → wpOp P ops Q i (fun a' w' => Kn s S1 S2 (L.setIfInBounds i true) w' ∧ K a' w') a w :=
    fun L a w K hy hF hK h => hy.wpOp hi (fits_known hF hK) ⟨⟨hK.1, fun e => hK.2 (by rw [getD_set_ne true hs] at e; exact e)⟩, h⟩
  induction f with
  | zero =>
    intro L a w _ hr hy hF hK H
    refine ⟨fun h => (by rw [h] at hr; cases hr), fun j hj => ?_⟩
    by_cases hji : j = i
    · rw [hji]; exact here L a w _ hy hF hK H
    · have := ready_mono hj hji
      rw [H.1] at this
      cases this
  | succ f ih =>
    intro L a w hfree hr hy hF hK H
    refine ⟨fun h => (by rw [h] at hr; cases hr), fun j hj => ?_⟩
    by_cases hji : j = i
    · rw [hji]; exact here L a w _ hy hF hK H
    · have h1 := H.2 j (ready_mono hj hji)
      obtain ⟨hjun, oj, hoj, hall⟩ := mem_ready.1 hj
      have hiun := (mem_ready.1 hr).1
      have hnot : ∀ e ∈ oj.after, Region.binds .any e = true → e.on ≠ i := fun e he hb heq => by
        have k1 := hall e he hb
        rw [heq] at k1
        have hlt : i < L.size := by
          rcases Nat.lt_or_ge i L.size with h' | h'
          · exact h'
          · rw [Array.getD_eq_getD_getElem?, Array.getElem?_eq_none h'] at k1
            cases k1
        rw [Array.getD_eq_getD_getElem?, Array.getElem?_eq_getElem hlt] at k1 hiun
        simp at k1 hiun
        rw [k1] at hiun
        cases hiun
      have h2 := wpOp_putIf hoj (hfree j oj hoj hji hjun hnot) (fun cs b => hsel i oi cs b hi) (fun cs b => hsel j oj cs b hoj) hQ hy h1
      refine wpOp_mono (fun a' w' h3 => ?_) h2
      have hk : Kn s S1 S2 (L.setIfInBounds j true) w' := kn_less hs (by rw [Array.setIfInBounds_comm _ _ hji]; exact h3.2.1)
      refine ⟨hk, ih _ a' w' (fun k ok hok hki hun hno => hfree k ok hok hki ?_ hno) (ready_mono hr (Ne.symm hji)) h3.1 (fits_step hF hiun hj hji) hk (by rw [Array.setIfInBounds_comm _ _ hji]; exact h3.2.2)⟩
      by_cases hjk : j = k
      · rw [← hjk]; exact hjun
      · rw [getD_set_ne true hjk] at hun; exact hun
theorem take (i : Nat) {oi : Oper} {v : Value} {S : World → Prop} {f : Nat} {L : Array Bool} {a : Act} {w : World} (hi : ops[i]? = some oi) (hg : oi.guard = none)
    (hs : Region.noSelect ops = true) (hf : Region.free .any ops L i = true) (hr : (Region.ready .any ops L).contains i = true) (his : i ≠ s)
    (hQ : ∀ c a w, Q (.panic c) (a.put oi.dst v) w → Q (.panic c) a w) (hF : Fits ops s i L S S1 S2) (hK : Kn s S1 S2 L w) (hy : ∀ w, S w → (execOp a.eval oi).run P w = .ok (.value v) w)
    (h : wpI P ops Q s S1 S2 f (L.setIfInBounds i true) (a.put oi.dst v) w) : wpI P ops Q s S1 S2 (f + 1) L a w :=
  first hi (Region.noSelect_spec hs) his hQ f L a w (Region.free_spec hi hf) (by simpa using hr) (.inl ⟨by simp [Region.wanted, hg], hy⟩) hF hK h
/-- each of these comes up next -/
def All (P : Program) (ops : Array Oper) (Q : Exit → Act → World → Prop) (s : Nat) (S1 S2 : World → Prop) (f : Nat) (L : Array Bool) (a : Act) (w : World) (rs : List Nat) : Prop :=
  ∀ i ∈ rs, wpOp P ops Q i (fun a' w' => Kn s S1 S2 (L.setIfInBounds i true) w' ∧ wpI P ops Q s S1 S2 f (L.setIfInBounds i true) a' w') a w
theorem All.nil {f : Nat} {L : Array Bool} {a : Act} {w : World} : All P ops Q s S1 S2 f L a w [] := fun _ h => by cases h
theorem All.cons {f : Nat} {L : Array Bool} {a : Act} {w : World} {i : Nat} {o : Oper} {rs : List Nat} (ho : ops[i]? = some o)
    (h : ∀ K' : Act → World → Prop, Shut (∀ a w, Kn s S1 S2 (L.setIfInBounds i true) w → wpI P ops Q s S1 S2 f (L.setIfInBounds i true) a w → K' a w) → if Region.wanted o (yielded ops a.tmps) = true then Oper.wp P o a w K' Q else K' (a.put o.dst undef) w)
    (hs : All P ops Q s S1 S2 f L a w rs) : All P ops Q s S1 S2 f L a w (i :: rs) := fun j hj => by
  rcases List.mem_cons.1 hj with rfl | hj
  · exact wpOp_step ho (fun K' hK => h K' (fun a w hS hW => hK a w ⟨hS, hW⟩))
  · exact hs j hj
theorem ready {rs : List Nat} {f : Nat} {L : Array Bool} {a : Act} {w : World} (hr : Region.ready .any ops L = rs) (hne : rs ≠ []) (h : All P ops Q s S1 S2 f L a w rs) : wpI P ops Q s S1 S2 (f + 1) L a w :=
  ⟨fun h0 => absurd (hr ▸ h0) hne, hr ▸ h⟩
theorem done {L : Array Bool} {a : Act} {w : World} (hr : Region.ready .any ops L = []) (h : Q .normal a w) : ∀ f, wpI P ops Q s S1 S2 f L a w
  | 0 => ⟨hr, h⟩
  | _ + 1 => ⟨fun _ => h, by rw [hr]; simp⟩
end
/-- the last operation apart; of the others number s turns what is known -/
theorem region {P : Program} {l : List Oper} {Q : Exit → Act → World → Prop} {S1 S2 : World → Prop} {id : Nat} {a : Act} {w : World} (n s : Nat) (hm : P.follows .mixedOrders = true) (hB : Peel.okB l n = true)
    (h : wpI P (l.take n).toArray (Peel.Qn P l n Q) s S1 S2 n (Array.replicate n false) a w.drew) : (Code.region id l.toArray true).wp P Q a w := by
  have hk := Peel.ok_of hB
  refine wp_region_any hm ?_
  have h1 := wpI_any _ _ _ _ h
  have inv0 : HeadInv .any l.toArray n ((Array.replicate n false).push false) := by
    rw [← Array.replicate_succ]
    exact ⟨by simp [hk.len], fun j oj _ hl => (by rw [getD_replicate_false] at hl; cases hl), fun t _ ht => getD_in (by rw [Array.size_replicate, ← hk.len]; simpa using ht) (getD_replicate_false _ _)⟩
  have h2 := Peel.any_peel hk n (Array.replicate n false) a w.drew (by simp) inv0 h1
  have e : l.toArray.size = n + 1 := by simpa using hk.len
  rw [e, Array.replicate_succ]
  exact h2
end Go.Proofs.Ytnomgkmeomlccaa.Piv

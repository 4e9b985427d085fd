/- Maps keyed by strings, as lists of pairs in the order of their entries: plain laws of the model's map. -/
import Derived.Test.YtnomgkmeomlccaaMv
import Derived.Maps.Keyed
import Derived.MapKept
import Derived.WideKeyEntry
set_option linter.unusedVariables false
set_option linter.unusedSimpArgs false
namespace Go.Proofs.Ytnomgkmeomlccaa.Smp
open Go.RowKit Rd Api Own Mv
open Go.Maps (Keyed)
open Go.WideMaps (keyOf_string_mk)
open Go.ChangeMaps (setBlock heap_setBlock_same heap_setBlock_other modify_eq_set)

abbrev Prs := List (ByteArray × Value)
def look (l : Prs) (s : ByteArray) : Option Value := (l.find? (fun p => decide (p.1 = s))).map (·.2)
def put (l : Prs) (s : ByteArray) (v : Value) : Prs := if (look l s).isSome then l.map (fun p => if p.1 = s then (s, v) else p) else l ++ [(s, v)]
theorem look_nil (s : ByteArray) : look [] s = none := rfl
theorem look_cons (p : ByteArray × Value) (l : Prs) (s : ByteArray) : look (p :: l) s = if p.1 = s then some p.2 else look l s := by
  unfold look
  rw [List.find?_cons]
  by_cases e : p.1 = s
  · rw [if_pos e, decide_eq_true e]; rfl
  · rw [if_neg e, decide_eq_false e]
theorem look_none {l : Prs} {s : ByteArray} : look l s = none ↔ ∀ p ∈ l, p.1 ≠ s := by
  induction l with
  | nil => simp [look_nil]
  | cons p r ih =>
    rw [look_cons]
    by_cases e : p.1 = s
    · rw [if_pos e]; simp [e]
    · rw [if_neg e, ih]; simp [e]
theorem look_mem {l : Prs} {s : ByteArray} {v : Value} (h : look l s = some v) : (s, v) ∈ l := by
  induction l with
  | nil => simp [look_nil] at h
  | cons p r ih =>
    rw [look_cons] at h
    by_cases e : p.1 = s
    · rw [if_pos e] at h
      cases Option.some.inj h
      subst e
      exact List.mem_cons_self
    · rw [if_neg e] at h
      exact List.mem_cons_of_mem _ (ih h)
theorem look_keys {l : Prs} {s : ByteArray} : look l s = none ↔ s ∉ l.map (·.1) := by
  rw [look_none, List.mem_map]
  constructor
  · rintro h ⟨p, hp, e⟩; exact h p hp e
  · intro h p hp e; exact h ⟨p, hp, e⟩
theorem put_new {l : Prs} {s : ByteArray} {v : Value} (h : look l s = none) : put l s v = l ++ [(s, v)] := by
  unfold put
  rw [if_neg (by rw [h]; simp)]
theorem look_append (l r : Prs) (s : ByteArray) : look (l ++ r) s = (look l s).or (look r s) := by
  induction l with
  | nil => simp [look_nil]
  | cons p q ih =>
    rw [List.cons_append, look_cons, look_cons]
    by_cases e : p.1 = s
    · rw [if_pos e, if_pos e]; rfl
    · rw [if_neg e, if_neg e, ih]
theorem look_snoc (l : Prs) (s t : ByteArray) (v : Value) : look (l ++ [(s, v)]) t = (look l t).or (if s = t then some v else none) := by
  rw [look_append, look_cons, look_nil]
/-- this block is this map -/
structure Sm (b : Nat) (l : Prs) (W : World) : Prop where
  h : ∃ (es : Array MapEntry) (ck : Nat), W.heap[b]? = some (.map es ck) ∧ MapKept.Stamped es ck ∧ es.toList.map (fun e => (e.key, e.val)) = l.map (fun p => (.string p.1, p.2)) ∧ ∀ p ∈ l, p.1.size ≤ maxLen
theorem Sm.lt {b : Nat} {l : Prs} {W : World} (h : Sm b l W) : b < W.heap.size := by
  obtain ⟨es, ck, h1, -⟩ := h.h
  exact blk_lt' h1
theorem Sm.same {b : Nat} {l : Prs} {W W1 : World} (h : Sm b l W) (hb : W1.heap[b]? = W.heap[b]?) : Sm b l W1 := by
  obtain ⟨es, ck, h1, h2⟩ := h.h
  exact ⟨es, ck, hb.trans h1, h2⟩
theorem Sm.below {b : Nat} {l : Prs} {W W1 : World} (h : Sm b l W) (hb : RowKit.Below W.heap.size W W1) : Sm b l W1 := h.same (hb.block b h.lt)
theorem Sm.grown {b : Nat} {l : Prs} {W W1 : World} {row : Option Nat} (h : Sm b l W) (hg : W.grownBy W1 row) (hr : row ≠ some b) : Sm b l W1 := h.same (hg.block b h.lt (Ne.symm hr))
theorem sm_empty {b : Nat} {W : World} (h : W.heap[b]? = some (.map #[] 0)) : Sm b [] W := ⟨#[], 0, h, MapKept.stamped_empty 0, rfl, fun p hp => by simp at hp⟩
theorem Sm.nodup {b : Nat} {l : Prs} {W : World} (h : Sm b l W) : (l.map (·.1)).Nodup := by
  obtain ⟨es, ck, -, ⟨-, -, hn⟩, hl, -⟩ := h.h
  have e : es.toList.map (·.key) = l.map (fun p => Value.string p.1) := by
    have := congrArg (List.map Prod.fst) hl
    simpa [List.map_map, Function.comp_def] using this
  rw [e] at hn
  unfold List.Nodup at hn ⊢
  rw [List.pairwise_map] at hn ⊢
  exact hn.imp (fun h e => h (by rw [e]))
section
variable {P : Program} {k : TypeId} {es : Array MapEntry} {ck b : Nat} {l : Prs} {W : World}
theorem keys_ok (hk : P.underlying k = some .string) (hl : es.toList.map (fun e => (e.key, e.val)) = l.map (fun p => (Value.string p.1, p.2))) (hs : ∀ p ∈ l, p.1.size ≤ maxLen) : ∀ x ∈ es.toList, ∃ z, keyOf P k x.key = some z := by
  intro x hx
  have : (x.key, x.val) ∈ l.map (fun p => (Value.string p.1, p.2)) := by rw [← hl]; exact List.mem_map.2 ⟨x, hx, rfl⟩
  obtain ⟨p, hp, he⟩ := List.mem_map.1 this
  simp only [Prod.mk.injEq] at he
  rw [← he.1]
  exact ⟨_, keyOf_string_mk hk (hs p hp)⟩
theorem find_ok (hk : P.underlying k = some .string) (hn : (es.toList.map (·.key)).Nodup) (hl : es.toList.map (fun e => (e.key, e.val)) = l.map (fun p => (Value.string p.1, p.2))) (hs : ∀ p ∈ l, p.1.size ≤ maxLen) (s : ByteArray) (hz : s.size ≤ maxLen) :
    ((Instr.findKey k (.string s) es.toList).run P W = .ok none W ∧ look l s = none) ∨ ∃ (j : Nat) (e : MapEntry) (v : Value), (Instr.findKey k (.string s) es.toList).run P W = .ok (some (j, v)) W ∧ es[j]? = some e ∧ e.key = .string s ∧ e.val = v ∧ l[j]? = some (s, v) ∧ look l s = some v := by
  rcases (Maps.string_keyed hk).find W (keyOf_string_mk hk hz) es.toList (keys_ok hk hl hs) with ⟨h1, h2⟩ | ⟨j, e, h1, h2, h3⟩
  · refine .inl ⟨h1, look_none.2 (fun p hp e => ?_)⟩
    have : (Value.string p.1, p.2) ∈ es.toList.map (fun e => (e.key, e.val)) := by rw [hl]; exact List.mem_map.2 ⟨p, hp, rfl⟩
    obtain ⟨x, hx, he⟩ := List.mem_map.1 this
    simp only [Prod.mk.injEq] at he
    exact h2 x hx (by rw [he.1, e])
  · have hj := congrArg (·[j]?) hl
    simp only [List.getElem?_map, h2, Option.map_some] at hj
    cases hlj : l[j]? with
    | none => rw [hlj] at hj; cases hj
    | some p =>
      rw [hlj] at hj
      simp only [Option.map_some, Option.some.injEq, Prod.mk.injEq] at hj
      obtain ⟨e1, e2⟩ := hj
      rw [h3] at e1
      have hp1 : s = p.1 := by simpa using e1
      have hval : look l s = some p.2 := by
        cases hls : look l s with
        | none => exact absurd hp1.symm (look_none.1 hls p (List.mem_of_getElem? hlj))
        | some v =>
          have hm := look_mem hls
          obtain ⟨i, hi⟩ := List.getElem?_of_mem hm
          have hi2 := congrArg (·[i]?) hl
          simp only [List.getElem?_map, hi, Option.map_some] at hi2
          have hkk : (es.toList.map (·.key))[i]? = (es.toList.map (·.key))[j]? := by
            rw [List.getElem?_map, List.getElem?_map, h2]
            cases hei : es.toList[i]? with
            | none => rw [hei] at hi2; cases hi2
            | some y =>
              rw [hei] at hi2
              simp only [Option.map_some, Option.some.injEq, Prod.mk.injEq] at hi2
              simp [hi2.1, h3]
          have hil : i < (es.toList.map (·.key)).length := by
            have := (List.getElem?_eq_some_iff.1 hi).1
            have e3 := congrArg List.length hl
            rw [List.length_map, List.length_map] at e3
            rw [List.length_map]; omega
          have := (List.getElem?_inj hil hn).1 hkk
          subst this
          rw [hlj] at hi
          cases Option.some.inj hi
          rfl
      exact .inr ⟨j, e, e.val, h1, by simpa using h2, h3, rfl, by rw [e2, hp1]; exact hlj, by rw [hval, e2]⟩
/-- a look-up -/
theorem Sm.look2 {t e : TypeId} (h : Sm b l W) (ht : P.underlying t = some (.map k e)) (hk : P.underlying k = some .string) (z : Value) (hzero : (zeroValue e).run P W = .ok z W) (s : ByteArray) (hz : s.size ≤ maxLen) :
    (Instr.lookup t (.map (some b)) (.string s) true).run P W = .ok (.tuple #[(look l s).getD z, .bool (look l s).isSome]) W := by
  obtain ⟨es, ck, hb, ⟨s1, s2, s3⟩, hl, hs⟩ := h.h
  rcases find_ok (W := W) hk s3 hl hs s hz with ⟨e1, e2⟩ | ⟨j, e0, v, e1, -, -, -, -, e2⟩
  · rw [e2]
    simp [Instr.lookup, run_underlying ht, MapKept.run_getObj_map hb, (Maps.string_keyed hk).check W _ (keyOf_string_mk hk hz), e1, hzero, Result.andThen]
  · rw [e2]
    simp [Instr.lookup, run_underlying ht, MapKept.run_getObj_map hb, (Maps.string_keyed hk).check W _ (keyOf_string_mk hk hz), e1, Result.andThen]
theorem Sm.look1 {t e : TypeId} (h : Sm b l W) (ht : P.underlying t = some (.map k e)) (hk : P.underlying k = some .string) (z : Value) (hzero : (zeroValue e).run P W = .ok z W) (s : ByteArray) (hz : s.size ≤ maxLen) :
    (Instr.lookup t (.map (some b)) (.string s) false).run P W = .ok ((look l s).getD z) W := by
  obtain ⟨es, ck, hb, ⟨s1, s2, s3⟩, hl, hs⟩ := h.h
  rcases find_ok (W := W) hk s3 hl hs s hz with ⟨e1, e2⟩ | ⟨j, e0, v, e1, -, -, -, -, e2⟩
  · rw [e2]
    simp [Instr.lookup, run_underlying ht, MapKept.run_getObj_map hb, (Maps.string_keyed hk).check W _ (keyOf_string_mk hk hz), e1, hzero, Result.andThen]
  · rw [e2]
    simp [Instr.lookup, run_underlying ht, MapKept.run_getObj_map hb, (Maps.string_keyed hk).check W _ (keyOf_string_mk hk hz), e1, Result.andThen]
theorem Sm.size (h : Sm b l W) : ∃ es ck, W.heap[b]? = some (.map es ck) ∧ es.size = l.length := by
  obtain ⟨es, ck, hb, -, hl, -⟩ := h.h
  have e3 := congrArg List.length hl
  rw [List.length_map, List.length_map, Array.length_toList] at e3
  exact ⟨es, ck, hb, e3⟩
/-- a store -/
theorem Sm.upd {t e : TypeId} (h : Sm b l W) (ht : P.underlying t = some (.map k e)) (hk : P.underlying k = some .string) (s : ByteArray) (hz : s.size ≤ maxLen) (v : Value) :
    ∃ W', (Instr.mapUpdate t (.map (some b)) (.string s) v).run P W = .ok () W' ∧ Sm b (put l s v) W' ∧ W.grownBy W' (some b) ∧ W'.heap.size = W.heap.size := by
  obtain ⟨es, ck, hb, hst, hl, hs⟩ := h.h
  obtain ⟨s1, s2, s3⟩ := hst
  have hput : ∀ p ∈ put l s v, p.1.size ≤ maxLen := by
    intro p hp
    unfold put at hp
    split at hp
    · obtain ⟨q, hq, rfl⟩ := List.mem_map.1 hp
      split
      · exact hz
      · exact hs q hq
    · rcases List.mem_append.1 hp with e | e
      · exact hs p e
      · rw [List.mem_singleton] at e; subst e; exact hz
  have hgr : ∀ o, W.grownBy (setBlock W b o) (some b) := fun o => ⟨rfl, rfl, rfl, by simp [setBlock], fun i _ hi => heap_setBlock_other hb _ (fun e => hi (by rw [e]))⟩
  rcases find_ok (W := W) hk s3 hl hs s hz with ⟨e1, e2⟩ | ⟨j, e0, v0, e1, e3, e4, e5, e6, e2⟩
  · refine ⟨setBlock W b (.map (es.push ⟨.string s, v, ck⟩) (ck + 1)), ?_, ⟨_, _, heap_setBlock_same hb _, MapKept.stamped_push ⟨s1, s2, s3⟩ (fun x hx e => ?_), ?_, hput⟩, hgr _, by simp [setBlock]⟩
    · simp [Instr.mapUpdate, run_underlying ht, MapKept.run_getObj_map hb, (Maps.string_keyed hk).check W _ (keyOf_string_mk hk hz), e1, MapKept.run_setObj_map _ hb, Result.andThen, setBlock]
    · have : (x.key, x.val) ∈ l.map (fun p => (Value.string p.1, p.2)) := by rw [← hl]; exact List.mem_map.2 ⟨x, hx, rfl⟩
      obtain ⟨p, hp, he⟩ := List.mem_map.1 this
      simp only [Prod.mk.injEq] at he
      rw [e] at he
      exact look_none.1 e2 p hp (by simpa using he.1)
    · rw [put_new e2, Array.toList_push, List.map_append, List.map_append, hl]
      rfl
  · have hset : (es.modify j (fun e => { e with key := .string s, val := v })).toList = es.toList.set j { e0 with val := v } := by
      rw [Array.toList_modify, modify_eq_set _ _ _ _ (by simpa using e3), ← e4]
    have hj : es.toList[j]? = some e0 := by simpa using e3
    have hnd : (l.map (·.1)).Nodup := h.nodup
    refine ⟨setBlock W b (.map (es.modify j (fun e => { e with key := .string s, val := v })) ck), ?_, ⟨_, _, heap_setBlock_same hb _, ⟨?_, ?_, ?_⟩, ?_, hput⟩, hgr _, by simp [setBlock]⟩
    · simp [Instr.mapUpdate, run_underlying ht, MapKept.run_getObj_map hb, (Maps.string_keyed hk).check W _ (keyOf_string_mk hk hz), e1, e3, e4, (Maps.string_keyed hk).stays W (keyOf_string_mk hk hz), MapKept.run_setObj_map _ hb, Result.andThen, setBlock]
    · intro x hx
      rw [hset] at hx
      rcases List.mem_or_eq_of_mem_set hx with e | rfl
      · exact s1 x e
      · exact s1 e0 (List.mem_of_getElem? hj)
    · rw [hset, List.map_set]
      rw [show (es.toList.map (·.born)).set j e0.born = es.toList.map (·.born) from WideElems.set_self _ _ _ (by rw [List.getElem?_map, hj]; rfl)]
      exact s2
    · rw [hset, List.map_set]
      rw [show (es.toList.map (·.key)).set j e0.key = es.toList.map (·.key) from WideElems.set_self _ _ _ (by rw [List.getElem?_map, hj]; rfl)]
      exact s3
    · rw [hset, List.map_set, hl]
      have hput2 : put l s v = l.set j (s, v) := by
        unfold put
        rw [if_pos (by rw [e2]; rfl)]
        apply List.ext_getElem?
        intro i
        rw [List.getElem?_map, List.getElem?_set]
        by_cases hij : j = i
        · subst hij
          rw [if_pos rfl, e6, if_pos (List.getElem?_eq_some_iff.1 e6).1]
          simp
        · rw [if_neg hij]
          cases hli : l[i]? with
          | none => rfl
          | some p =>
            have hne : p.1 ≠ s := by
              intro e
              have hjl : j < (l.map (·.1)).length := by rw [List.length_map]; exact (List.getElem?_eq_some_iff.1 e6).1
              exact hij ((List.getElem?_inj hjl hnd).1 (by rw [List.getElem?_map, List.getElem?_map, hli, e6]; simp [e]))
            simp [hne]
      rw [hput2, List.map_set, e4]
end
end Go.Proofs.Ytnomgkmeomlccaa.Smp

/- A map that counts requests' keys: plain laws of the model's map. block.once: its closure: walked. -/
import Derived.Test.YtnomgkmeomlccaaBlk
import Derived.Maps.Own
import Derived.DeepKeys4
import Derived.WideKeyEntry
import Derived.Test.YtnomgkmeomlccaaPeel
set_option linter.unusedVariables false
set_option linter.unusedSimpArgs false
namespace Go.Proofs.Ytnomgkmeomlccaa.Blk
open Go.RowKit Go.Sort Rd Api Own Mv App Num Dig Go.WideMaps
open Go.Maps (Keyed)
open Go.ChangeMaps (setBlock heap_setBlock_same heap_setBlock_other modify_eq_set)
open Go.WideElems (findIdx_born findIdx_arr modify_last set_self)

def keyV (c s : Int) : Value := .agg #[.int .i64 c, .int .i64 s]
theorem laidOut : laidOutB Try.prog = true := by kernel_rfl
theorem row_key : (140 : TypeId) < (Try.prog).types.size := of_decide_eq_true (by kernel_rfl)
theorem cells_key : (Try.prog).cellsOf 140 = 2 := by kernel_rfl
theorem keyt_key : (Try.prog).keyTypeAt 2 140 = true := by kernel_rfl
set_option maxRecDepth 100000 in
theorem klaw : KeyLaw Try.prog 140 := deep_law_laid (P := Try.prog) (k := 140) (m := 2) laidOut (by omega) row_key keyt_key (by rw [Try.underlying140])
theorem law_key : Keyed Try.prog 140 := Keyed.of_law klaw
theorem type_key : (Try.prog).keyType 140 = true := by kernel_rfl
theorem zero_int (w : World) : (zeroValue 3).run Try.prog w = .ok (.int .i64 0) w := by kernel_rfl
theorem size_types : ∃ m, (Try.prog).types.size = m + 2 := by
  have h := row_key
  generalize (Try.prog).types.size = n at h ⊢
  have h2 : 2 ≤ n := Nat.le_of_lt (Nat.lt_of_le_of_lt (by decide) h)
  exact ⟨n - 2, by omega⟩
theorem wf_of {n : Int} (h : IsI64 n) : (Lit.int .i64 n).wf = true := by
  have := h.1; have := h.2
  simp [Lit.wf, IntKind.min, IntKind.max, IntKind.bits, IntKind.signed]; omega
theorem key_reads {c s : Int} (hc : IsI64 c) (hs : IsI64 s) : keyOf Try.prog 140 (keyV c s) = some (.string (keyBytes [.int .i64 c, .int .i64 s])) := by
  have wa := wf_of hc
  have wb := wf_of hs
  obtain ⟨m, hm⟩ := size_types
  unfold keyOf keyV
  simp only [Try.underlying140]
  rw [if_pos (by simp [type_key, Value.formed, Try.underlying140, cells_key]), hm]
  unfold Program.keyLits
  simp only [Try.underlying140, Value.cells]
  rw [if_pos (by rw [cells_key]; exact ⟨rfl, by kernel_rfl⟩)]
  have e1 : (Try.prog).cellsOf 3 = 1 := by kernel_rfl
  simp [Program.keyLits, Try.underlying3, e1, wa, wb]
theorem keyV_inj {a b c d : Int} (h : keyV a b = keyV c d) : a = c ∧ b = d := by
  unfold keyV at h
  simp at h
  exact h
/-- an entry: its key is among those that were met, and how often -/
def En (ks : List (Int × Int)) (x : MapEntry) : Prop := ∃ c s, ∃ n : Nat, x.key = keyV c s ∧ IsI64 c ∧ IsI64 s ∧ x.val = .int .i64 (n : Nat) ∧ 1 ≤ n ∧ n ≤ ks.length ∧ (c, s) ∈ ks
structure Mc (b : Nat) (ks : List (Int × Int)) (W : World) : Prop where
  h : ∃ (es : Array MapEntry) (ck : Nat), W.heap[b]? = some (.map es ck) ∧ MapKept.Stamped es ck ∧ (∀ x ∈ es.toList, En ks x) ∧ ∀ p ∈ ks, ∃ x ∈ es.toList, x.key = keyV p.1 p.2
theorem Mc.below {b : Nat} {ks : List (Int × Int)} {W W1 : World} (h : Mc b ks W) (hb : RowKit.Below W.heap.size W W1) : Mc b ks W1 := by
  obtain ⟨es, ck, h1, h2⟩ := h.h
  exact ⟨es, ck, blk_keep h1 hb, h2⟩
theorem en_key {ks : List (Int × Int)} {x : MapEntry} (h : En ks x) : ∃ l, keyOf Try.prog 140 x.key = some l := by
  obtain ⟨c, s, n, h1, h2, h3, -⟩ := h
  exact ⟨_, by rw [h1]; exact key_reads h2 h3⟩
/-- a look-up in a map whose entries of this key all have this value, and that has one, or is to tell of none -/
theorem look_val {W : World} {b : Nat} {es : Array MapEntry} {ck : Nat} (hb : W.heap[b]? = some (.map es ck)) {c s : Int} (hc : IsI64 c) (hs : IsI64 s) (hes : ∀ x ∈ es.toList, ∃ l, keyOf Try.prog 140 x.key = some l) (v : Value)
    (h1 : ∀ x ∈ es.toList, x.key = keyV c s → x.val = v) (h2 : (∀ x ∈ es.toList, x.key ≠ keyV c s) → v = .int .i64 0) :
    (Instr.lookup 137 (.map (some b)) (keyV c s) false).run Try.prog W = .ok v W := by
  rcases law_key.find W (key_reads hc hs) es.toList hes with ⟨e1, e2⟩ | ⟨j, e0, e1, e2, e3⟩
  · rw [h2 e2]
    simp [Instr.lookup, run_underlying Try.underlying137, MapKept.run_getObj_map hb, law_key.check W _ (key_reads hc hs), e1, zero_int W, Result.andThen]
  · rw [← h1 e0 (List.mem_of_getElem? e2) e3]
    simp [Instr.lookup, run_underlying Try.underlying137, MapKept.run_getObj_map hb, law_key.check W _ (key_reads hc hs), e1, Result.andThen]
theorem map_set_same {β : Type} {f : MapEntry → β} {l : List MapEntry} {j : Nat} {e0 e1 : MapEntry} (h : l[j]? = some e0) (hf : f e1 = f e0) : (l.set j e1).map f = l.map f := by
  rw [List.map_set, hf]
  exact set_self _ _ _ (by rw [List.getElem?_map, h]; rfl)
theorem key_idx {l : List MapEntry} (hn : (l.map (·.key)).Nodup) {i j : Nat} {x y : MapEntry} (hx : l[i]? = some x) (hy : l[j]? = some y) (h : x.key = y.key) : i = j := by
  have hi : i < (l.map (·.key)).length := by
    rw [List.length_map]
    exact (List.getElem?_eq_some_iff.1 hx).1
  exact (List.getElem?_inj hi hn).1 (by rw [List.getElem?_map, List.getElem?_map, hx, hy]; simp [h])
theorem at_list {l : List MapEntry} {x : MapEntry} (h : x ∈ l) : ∃ i : Nat, l[i]? = some x := List.getElem?_of_mem h
theorem en_more {ks : List (Int × Int)} {x : MapEntry} (h : En ks x) (p : Int × Int) : En (ks ++ [p]) x := by
  obtain ⟨c, s, n, h1, h2, h3, h4, h5, h6, h7⟩ := h
  exact ⟨c, s, n, h1, h2, h3, h4, h5, by rw [List.length_append]; omega, List.mem_append_left _ h7⟩
theorem mc_step {b : Nat} {ks : List (Int × Int)} {W : World} (h : Mc b ks W) {c s : Int} (hc : IsI64 c) (hs : IsI64 s) :
    ∃ (n : Nat) (st : Value) (es1 : Array MapEntry) (ck1 : Nat), n ≤ ks.length ∧ (n = 0 ↔ (c, s) ∉ ks) ∧
      (Instr.lookup 137 (.map (some b)) (keyV c s) false).run Try.prog W = .ok (.int .i64 (n : Nat)) W ∧
      (Instr.mapEntry 137 (.map (some b)) (keyV c s)).run Try.prog W = .ok (.tuple #[.int .i64 (n : Nat), st]) (setBlock W b (.map es1 ck1)) ∧
      ∀ W2 : World, W2.heap[b]? = some (.map es1 ck1) → (Instr.lookup 137 (.map (some b)) (keyV c s) false).run Try.prog W2 = .ok (.int .i64 (n : Nat)) W2 ∧
        ∃ (es2 : Array MapEntry) (ck2 : Nat), (Instr.entryStore 137 (.map (some b)) st (.int .i64 ((n : Int) + 1))).run Try.prog W2 = .ok () (setBlock W2 b (.map es2 ck2)) ∧
          ∀ W3 : World, W3.heap[b]? = some (.map es2 ck2) → (Instr.lookup 137 (.map (some b)) (keyV c s) false).run Try.prog W3 = .ok (.int .i64 ((n : Int) + 1)) W3 ∧ Mc b (ks ++ [(c, s)]) W3 := by
  obtain ⟨es, ck, hb, ⟨s1, s2, s3⟩, hen, hin⟩ := h.h
  have hes : ∀ x ∈ es.toList, ∃ l, keyOf Try.prog 140 x.key = some l := fun x hx => en_key (hen x hx)
  have hk : keyOf Try.prog 140 (keyV c s) = some _ := key_reads hc hs
  rcases law_key.find W hk es.toList hes with ⟨e1, e2⟩ | ⟨j, e0, e1, e2, e3⟩
  · have hes1 : ∀ v, ∀ x ∈ (es.push ⟨keyV c s, v, ck⟩).toList, ∃ l, keyOf Try.prog 140 x.key = some l := fun v x hx => by
      rw [Array.toList_push] at hx
      rcases List.mem_append.1 hx with e | e
      · exact hes x e
      · rw [List.mem_singleton] at e; subst e; exact ⟨_, hk⟩
    have hval : ∀ v, ∀ x ∈ (es.push ⟨keyV c s, v, ck⟩).toList, x.key = keyV c s → x.val = v := fun v x hx hxk => by
      rw [Array.toList_push] at hx
      rcases List.mem_append.1 hx with e | e
      · exact absurd hxk (e2 x e)
      · rw [List.mem_singleton] at e; subst e; rfl
    have hno : ∀ v, ¬ ∀ x ∈ (es.push ⟨keyV c s, v, ck⟩).toList, x.key ≠ keyV c s := fun v hh => hh ⟨keyV c s, v, ck⟩ (by simp) rfl
    refine ⟨0, goInt ck, es.push ⟨keyV c s, .int .i64 0, ck⟩, ck + 1, Nat.zero_le _, ⟨fun _ hm => ?_, fun _ => rfl⟩, ?_, ?_, fun W2 hw2 => ⟨?_, es.push ⟨keyV c s, .int .i64 1, ck⟩, ck + 1, ?_, fun W3 hw3 => ⟨?_, ⟨_, _, hw3, ⟨?_, ?_, ?_⟩, ?_, ?_⟩⟩⟩⟩
    · obtain ⟨x, hx, hxk⟩ := hin _ hm
      exact e2 x hx hxk
    · exact look_val hb hc hs hes _ (fun x hx e => absurd e (e2 x hx)) (fun _ => rfl)
    · simp [Instr.mapEntry, run_underlying Try.underlying137, MapKept.run_getObj_map hb, law_key.check W false hk, e1, zero_int, MapKept.run_setObj_map _ hb, Result.andThen, setBlock]
    · exact look_val hw2 hc hs (hes1 _) _ (hval _) (fun hh => absurd hh (hno _))
    · have hidx : (es.push ⟨keyV c s, .int .i64 0, ck⟩).findIdx? (fun e => ((e.born : Nat) : Int) == ((ck : Nat) : Int)) = some es.size := by
        rw [findIdx_arr]
        exact findIdx_born (l := (es.push ⟨keyV c s, .int .i64 0, ck⟩).toList) (j := es.size) (e0 := ⟨keyV c s, .int .i64 0, ck⟩) (by
          simp only [Array.toList_push, List.map_append, List.map_cons, List.map_nil]
          refine List.nodup_append.2 ⟨s2, by simp, fun a ha c hc e1 => ?_⟩
          simp only [List.mem_singleton] at hc
          obtain ⟨x, hx, rfl⟩ := List.mem_map.1 ha
          have := s1 x hx
          omega) (by simp)
      have hmod : (es.push ⟨keyV c s, .int .i64 0, ck⟩).modify es.size (fun e => { e with val := .int .i64 1 }) = es.push ⟨keyV c s, .int .i64 1, ck⟩ := by
        apply Array.ext'
        rw [Array.toList_modify, Array.toList_push, Array.toList_push, ← Array.length_toList, modify_last]
      simp [Instr.entryStore, MapKept.run_getObj_map hw2, asInt, asIntOf, goInt, hidx, hmod, MapKept.run_setObj_map _ hw2, Result.andThen, setBlock]
    · exact look_val hw3 hc hs (hes1 _) _ (hval _) (fun hh => absurd hh (hno _))
    · intro x hx
      rw [Array.toList_push] at hx
      rcases List.mem_append.1 hx with e | e
      · have := s1 x e; omega
      · rw [List.mem_singleton] at e; subst e; exact Nat.lt_succ_self _
    · rw [Array.toList_push, List.map_append]
      refine List.nodup_append.2 ⟨s2, by simp, fun a ha d hd e1 => ?_⟩
      simp only [List.map_cons, List.map_nil, List.mem_singleton] at hd
      obtain ⟨x, hx, rfl⟩ := List.mem_map.1 ha
      have := s1 x hx
      omega
    · rw [Array.toList_push, List.map_append]
      refine List.nodup_append.2 ⟨s3, by simp, fun a ha d hd e1 => ?_⟩
      simp only [List.map_cons, List.map_nil, List.mem_singleton] at hd
      obtain ⟨x, hx, rfl⟩ := List.mem_map.1 ha
      exact e2 x hx (e1.trans hd)
    · intro x hx
      rw [Array.toList_push] at hx
      rcases List.mem_append.1 hx with e | e
      · exact en_more (hen x e) _
      · rw [List.mem_singleton] at e; subst e
        exact ⟨c, s, 1, rfl, hc, hs, rfl, Nat.le_refl _, by simp, by simp⟩
    · intro p hp
      rw [Array.toList_push]
      rcases List.mem_append.1 hp with e | e
      · obtain ⟨x, hx, hxk⟩ := hin p e
        exact ⟨x, List.mem_append_left _ hx, hxk⟩
      · rw [List.mem_singleton] at e; subst e
        exact ⟨_, List.mem_append_right _ (List.mem_singleton.2 rfl), rfl⟩
  · have hj : es[j]? = some e0 := by simpa using e2
    have hm0 := List.mem_of_getElem? e2
    obtain ⟨c', s', n, k1, k2, k3, k4, k5, k6, k7⟩ := hen e0 hm0
    obtain ⟨rfl, rfl⟩ := keyV_inj (k1.symm.trans e3)
    have hval : ∀ x ∈ es.toList, x.key = keyV c' s' → x.val = .int .i64 (n : Nat) := fun x hx hxk => by
      obtain ⟨i, hi⟩ := at_list hx
      have := key_idx s3 hi e2 (hxk.trans e3.symm)
      subst this
      rw [e2] at hi
      cases Option.some.inj hi
      exact k4
    have hno : ¬ ∀ x ∈ es.toList, x.key ≠ keyV c' s' := fun hh => hh e0 hm0 e3
    have hsame : es.modify j (fun e => { e with key := keyV c' s' }) = es := by
      apply Array.ext'
      rw [Array.toList_modify, modify_eq_set _ _ _ _ e2]
      have : ({ e0 with key := keyV c' s' } : MapEntry) = e0 := by rw [← e3]
      rw [this]
      exact set_self _ _ _ e2
    have hl2 : ∀ v, (es.modify j (fun e => { e with val := v })).toList = es.toList.set j { e0 with val := v } := fun v => by
      rw [Array.toList_modify, modify_eq_set _ _ _ _ e2]
    have hmem : ∀ v, ∀ x ∈ es.toList.set j { e0 with val := v }, x = { e0 with val := v } ∨ x ∈ es.toList ∧ x.key ≠ keyV c' s' := fun v x hx => by
      obtain ⟨i, hi⟩ := at_list hx
      rw [List.getElem?_set] at hi
      split at hi
      · split at hi
        · exact .inl (Option.some.inj hi).symm
        · cases hi
      · rename_i hne
        exact .inr ⟨List.mem_of_getElem? hi, fun e => hne (key_idx s3 e2 hi (e3.trans e.symm))⟩
    refine ⟨n, goInt e0.born, es, ck, k6, ⟨fun e => (by omega), fun e => absurd k7 e⟩, look_val hb hc hs hes _ hval (fun hh => absurd hh hno), ?_, fun W2 hw2 => ⟨look_val hw2 hc hs hes _ hval (fun hh => absurd hh hno), es.modify j (fun e => { e with val := .int .i64 ((n : Int) + 1) }), ck, ?_, fun W3 hw3 => ⟨?_, ⟨_, _, hw3, ⟨?_, ?_, ?_⟩, ?_, ?_⟩⟩⟩⟩
    · simp [Instr.mapEntry, run_underlying Try.underlying137, MapKept.run_getObj_map hb, law_key.check W false hk, e1, hj, e3, law_key.stays W hk, hsame, MapKept.run_setObj_map _ hb, Result.andThen, setBlock, k4]
    · have hidx : es.findIdx? (fun e => ((e.born : Nat) : Int) == ((e0.born : Nat) : Int)) = some j := by
        rw [findIdx_arr]; exact findIdx_born s2 e2
      simp [Instr.entryStore, MapKept.run_getObj_map hw2, asInt, asIntOf, goInt, hidx, MapKept.run_setObj_map _ hw2, Result.andThen, setBlock]
    · refine look_val hw3 hc hs (fun x hx => ?_) _ (fun x hx hxk => ?_) (fun hh => ?_)
      · rw [hl2] at hx
        rcases hmem _ x hx with e | ⟨e, -⟩
        · subst e; exact ⟨_, by show keyOf _ _ e0.key = _; rw [e3]; exact hk⟩
        · exact hes x e
      · rw [hl2] at hx
        rcases hmem _ x hx with e | ⟨-, e⟩
        · subst e; rfl
        · exact absurd hxk e
      · refine absurd e3 (hh { e0 with val := .int .i64 ((n : Int) + 1) } ?_)
        rw [hl2]
        exact List.mem_of_getElem? (i := j) (by rw [List.getElem?_set_self (List.getElem?_eq_some_iff.1 e2).1])
    · intro x hx
      rw [hl2] at hx
      rcases hmem _ x hx with e | ⟨e, -⟩
      · subst e; exact s1 e0 hm0
      · exact s1 x e
    · rw [hl2, map_set_same e2 (by rfl)]; exact s2
    · rw [hl2, map_set_same e2 (by rfl)]; exact s3
    · intro x hx
      rw [hl2] at hx
      rcases hmem _ x hx with e | ⟨e, -⟩
      · subst e
        exact ⟨c', s', n + 1, e3, hc, hs, by simp, by omega, by rw [List.length_append]; simp; omega, by simp⟩
      · exact en_more (hen x e) _
    · intro p hp
      have hp2 : p ∈ ks := by
        rcases List.mem_append.1 hp with e | e
        · exact e
        · rw [List.mem_singleton] at e; subst e; exact k7
      obtain ⟨x, hx, hxk⟩ := hin p hp2
      obtain ⟨i, hi⟩ := at_list hx
      rw [hl2]
      by_cases hij : i = j
      · subst hij
        rw [e2] at hi
        cases Option.some.inj hi
        exact ⟨{ e0 with val := .int .i64 ((n : Int) + 1) }, List.mem_of_getElem? (i := i) (by rw [List.getElem?_set_self (List.getElem?_eq_some_iff.1 e2).1]), hxk⟩
      · exact ⟨x, List.mem_of_getElem? (i := i) (by rw [List.getElem?_set_ne (fun e => hij e.symm)]; exact hi), hxk⟩
end Go.Proofs.Ytnomgkmeomlccaa.Blk
set_option linter.unusedVariables false
set_option linter.unusedSimpArgs false

namespace Go.Proofs.Ytnomgkmeomlccaa.Blk
open Go.RowKit Go.Sort Rd Api Own Mv App Num Dig Go.WideMaps
open Go.Maps (Keyed)
open Go.ChangeMaps (setBlock heap_setBlock_same heap_setBlock_other)

section
variable {P : Program} {ops : Array Oper} {o : Oper} {a : Act} {W W1 : World} {Q : Exit → Act → World → Prop} {E : Prop} {K : Act → World → Prop} {rest : List Oper}
theorem step_lookup (hgd : o.guard = none) (m x : Operand) (t : TypeId) (hop : o.op = Op.lookup t m x false) (v : Value) (hr : (Instr.lookup t (a.eval m) (a.eval x) false).run P W = .ok v W) (h : K (a.put o.dst v) W) :
    if Region.wanted o (yielded ops a.tmps) = true then Oper.wp P o a W K Q else E := by
  rw [if_pos (by simp [Region.wanted, hgd])]
  unfold Oper.wp
  simp [execOp, hop, hr, Result.andThen]
  exact h
theorem step_entry (hgd : o.guard = none) (m x : Operand) (t : TypeId) (hop : o.op = Op.mapEntry t m x) (v : Value) (hr : (Instr.mapEntry t (a.eval m) (a.eval x)).run P W = .ok v W1) (h : K (a.put o.dst v) W1) :
    if Region.wanted o (yielded ops a.tmps) = true then Oper.wp P o a W K Q else E := by
  rw [if_pos (by simp [Region.wanted, hgd])]
  unfold Oper.wp
  simp [execOp, hop, hr, Result.andThen]
  exact h
theorem wpList_lookup_run (hgd : o.guard = none) (m x : Operand) (t : TypeId) (hop : o.op = Op.lookup t m x false) (v : Value) (hr : (Instr.lookup t (a.eval m) (a.eval x) false).run P W = .ok v W) (h : wpList P ops Q rest (a.put o.dst v) W) : wpList P ops Q (o :: rest) a W :=
  wpList_plain hgd fun K hK => by
    unfold Oper.wp
    simp [execOp, hop, hr, Result.andThen]
    exact hK _ _ h
theorem wpList_entryStore_run (hgd : o.guard = none) (m s x : Operand) (t : TypeId) (hop : o.op = Op.entryStore t m s x) (hr : (Instr.entryStore t (a.eval m) (a.eval s) (a.eval x)).run P W = .ok () W1) (h : wpList P ops Q rest (a.put o.dst undef) W1) : wpList P ops Q (o :: rest) a W :=
  wpList_plain hgd fun K hK => by
    unfold Oper.wp
    simp [execOp, hop, hr, Result.andThen]
    exact hK _ _ h
end
theorem grown_setBlock {W : World} {b : Nat} {es : Array MapEntry} {ck : Nat} (hb : W.heap[b]? = some (.map es ck)) (es2 : Array MapEntry) (ck2 : Nat) : W.grownBy (setBlock W b (.map es2 ck2)) (some b) :=
  ⟨rfl, rfl, rfl, by simp [setBlock], fun i _ hi => heap_setBlock_other hb _ (fun e => hi (by rw [e]))⟩
theorem cell_setBlock {W : World} {b k j : Nat} {es : Array MapEntry} {ck : Nat} (hb : W.heap[b]? = some (.map es ck)) (es2 : Array MapEntry) (ck2 : Nat) {v : Value} (h : W.cell? ⟨k, j, none⟩ = some v) : (setBlock W b (.map es2 ck2)).cell? ⟨k, j, none⟩ = some v := by
  have hne : k ≠ b := by
    intro e
    subst e
    unfold World.cell? at h
    rw [hb] at h
    cases h
  unfold World.cell? at h ⊢
  rw [heap_setBlock_other hb _ hne]
  exact h
/-- the closure's state: the map, and the variable that has it -/
structure Ms (b Bv : Nat) (ks : List (Int × Int)) (W : World) : Prop where
  mc : Mc b ks W
  cell : W.heap[Bv]? = some (.cells #[.map (some b)] 137 (0, 0))
theorem Ms.below {b Bv : Nat} {ks : List (Int × Int)} {W W1 : World} (h : Ms b Bv ks W) (hb : RowKit.Below W.heap.size W W1) : Ms b Bv ks W1 := ⟨h.mc.below hb, blk_keep h.cell hb⟩
set_option maxHeartbeats 8000000 in
set_option maxRecDepth 100000 in
theorem once1_any {b Bv : Nat} {ks : List (Int × Int)} {W : World} (h : Ms b Bv ks W) (x : Rq) (hc : IsI64 x.c) (hs : IsI64 x.s) (hl : ks.length ≤ 1000) (r : Bool) (hr : decide ((x.c, x.s) ∈ ks) = r) :
    Calls Try.prog 93 #[.agg #[.int .i64 x.c, .int .i64 x.s, .string x.b], .pointer (some ⟨Bv, 0, none⟩)] W fun e w' => e = .returned (.bool r) ∧ Ms b Bv (ks ++ [(x.c, x.s)]) w' ∧ W.grownBy w' (some b) := by
  have mixed : Try.prog.follows .mixedOrders = true := by kernel_rfl
  have hb0 := below_one W (.cells #[.int .i64 x.c, .int .i64 x.s, .string x.b] 47)
  have X0 := Sd.mk (blk_new W (.cells #[.int .i64 x.c, .int .i64 x.s, .string x.b] 47))
  have HM := Sd.mk (h.below hb0)
  have HB := Sd.mk hb0
  have HR := Sd.mk hr
  have HI := Sd.mk (And.intro hc hs)
  clear h hb0 hr hc hs
  go_enter Try.func93, Try.ntmps93
  go_upto_region 1 with (fail)
  generalize W.heap.size = Bq at X0 ⊢
  generalize W.alloc _ = W1 at X0 HM HB ⊢
  have c0 := blk_at X0.out 0 _ rfl
  have c1 := blk_at X0.out 1 _ rfl
  go_upto_region 2 with (fail)
  have b1 := below_one W1 (.cells #[.int .i64 x.c, .int .i64 x.s] 140)
  have X1 := Sd.mk (blk_new W1 (.cells #[.int .i64 x.c, .int .i64 x.s] 140))
  have HM1 := Sd.mk (HM.out.below b1)
  have HB1 := Sd.mk (below_then HB.out b1)
  clear b1 c0 c1 X0 HM HB
  generalize W1.heap.size = Bk at X1 ⊢
  generalize W1.alloc _ = W2 at X1 HM1 HB1 ⊢
  have d1 := below_drew' (w := W2) (Below.refl W2.heap.size W2)
  have HM2 := Sd.mk (HM1.out.below d1)
  have X2 := Sd.mk (blk_keep X1.out d1)
  have HB2 := Sd.mk (below_then HB1.out d1)
  clear d1 HM1 X1 HB1
  have S0 : W2.drew.cell? ⟨Bv, 0, none⟩ = some (.map (some b)) ∧ W2.drew.cell? ⟨Bk, 0, none⟩ = some (.int .i64 x.c) ∧ W2.drew.cell? ⟨Bk, 1, none⟩ = some (.int .i64 x.s) := ⟨blk_at HM2.out.cell 0 _ rfl, blk_at X2.out 0 _ rfl, blk_at X2.out 1 _ rfl⟩
  refine Peel.region_peel (n := 6) (S := fun W9 => W9.cell? ⟨Bv, 0, none⟩ = some (.map (some b)) ∧ W9.cell? ⟨Bk, 0, none⟩ = some (.int .i64 x.c) ∧ W9.cell? ⟨Bk, 1, none⟩ = some (.int .i64 x.s)) (by kernel_rfl) (by kernel_rfl) S0 (fun hHeld => ?_)
  simp only [List.take_succ_cons, List.take_zero]
  generalize W2.drew = W3 at HM2 X2 HB2 S0 hHeld ⊢
  obtain ⟨n, st, es1, ck1, n1, n2, l0, m0, hw⟩ := mc_step HM2.out.mc HI.out.1 HI.out.2
  obtain ⟨es, ck, hb, -⟩ := HM2.out.mc.h
  have HW := Sd.mk hw
  have L0 := Sd.mk l0
  have M0 := Sd.mk m0
  have HB3 := Sd.mk hb
  clear hw l0 m0 hb
  (refine Peel.take 0 (v := ?_) rfl rfl (by kernel_rfl) (by kernel_rfl) (by kernel_rfl) (fun _ _ _ h => h) (by assumption) ?_ ?_; rotate_left; (focus (intro w hSw; obtain ⟨s0, s1, s2⟩ := hSw; (try dsimp only at s0 s1 s2); (try simp only [List.getElem_toArray, List.getElem_cons_succ, List.getElem_cons_zero]); go_simp; try (with_reducible rfl))); try simp only [List.getElem_toArray, List.getElem_cons_succ, List.getElem_cons_zero, Act.put, List.setIfInBounds_toArray, List.set_cons_zero, List.set_cons_succ])
  (refine Peel.take 1 (v := ?_) rfl rfl (by kernel_rfl) (by kernel_rfl) (by kernel_rfl) (fun _ _ _ h => h) (by assumption) ?_ ?_; rotate_left; (focus (intro w hSw; obtain ⟨s0, s1, s2⟩ := hSw; (try dsimp only at s0 s1 s2); (try simp only [List.getElem_toArray, List.getElem_cons_succ, List.getElem_cons_zero]); go_simp; try (with_reducible rfl))); try simp only [List.getElem_toArray, List.getElem_cons_succ, List.getElem_cons_zero, Act.put, List.setIfInBounds_toArray, List.set_cons_zero, List.set_cons_succ])
  have hn1000 : n ≤ 1000 := by omega
  have hnw : ¬ (9223372036854775807 : Int) < (n : Int) + 1 := by omega
  have S1 : (setBlock W3 b (.map es1 ck1)).cell? ⟨Bv, 0, none⟩ = some (.map (some b)) ∧ (setBlock W3 b (.map es1 ck1)).cell? ⟨Bk, 0, none⟩ = some (.int .i64 x.c) ∧ (setBlock W3 b (.map es1 ck1)).cell? ⟨Bk, 1, none⟩ = some (.int .i64 x.s) := ⟨cell_setBlock HB3.out es1 ck1 S0.1, cell_setBlock HB3.out es1 ck1 S0.2.1, cell_setBlock HB3.out es1 ck1 S0.2.2⟩
  have HG1 := Sd.mk (grown_setBlock HB3.out es1 ck1)
  obtain ⟨l2, es2, ck2, e2, hw3⟩ := HW.out _ (heap_setBlock_same HB3.out _)
  have L2 := Sd.mk l2
  have E2 := Sd.mk e2
  have HB4 := Sd.mk (show (setBlock W3 b (.map es1 ck1)).heap[b]? = some (.map es1 ck1) from heap_setBlock_same HB3.out _)
  have HG2 := Sd.mk (Rp.grown_then HG1.out (grown_setBlock HB4.out es2 ck2))
  obtain ⟨l3, m3⟩ := hw3 _ (heap_setBlock_same HB4.out _)
  have L3 := Sd.mk l3
  have M3 := Sd.mk m3
  have S2 : (setBlock (setBlock W3 b (.map es1 ck1)) b (.map es2 ck2)).cell? ⟨Bv, 0, none⟩ = some (.map (some b)) ∧ (setBlock (setBlock W3 b (.map es1 ck1)) b (.map es2 ck2)).cell? ⟨Bk, 0, none⟩ = some (.int .i64 x.c) ∧ (setBlock (setBlock W3 b (.map es1 ck1)) b (.map es2 ck2)).cell? ⟨Bk, 1, none⟩ = some (.int .i64 x.s) := ⟨cell_setBlock HB4.out es2 ck2 S1.1, cell_setBlock HB4.out es2 ck2 S1.2.1, cell_setBlock HB4.out es2 ck2 S1.2.2⟩
  have HC2 := Sd.mk (show (setBlock (setBlock W3 b (.map es1 ck1)) b (.map es2 ck2)).heap[Bv]? = some (.cells #[.map (some b)] 137 (0, 0)) from blk_grown HM2.out.cell HG2.out (fun e => by have := Option.some.inj e; subst this; have h1 := HM2.out.cell; rw [HB3.out] at h1; cases h1))
  have dr : decide ((1 : Int) < (n : Int) + 1) = r := by
    rw [← HR.out, decide_eq_decide]
    constructor
    · intro h
      exact Decidable.byContradiction fun e => by have := n2.2 e; omega
    · intro h
      have : n ≠ 0 := fun e => n2.1 e h
      omega
  clear l2 e2 hw3 l3 m3 HW n2 n1
  refine wpAnyH_ready (rs := [2, 4]) (by kernel_rfl) (by simp) ?_
  refine AllReadyH.cons rfl (fun K hK => ?_) (AllReadyH.cons rfl (fun K hK => ?_) AllReadyH.nil)
  · refine step_lookup rfl (.tmp 10) (.tmp 11) 137 rfl _ L0.out ?_
    (refine hK.out _ _ S0 (fun hHeld => ?_); (clear hK K; try simp only [List.getElem_toArray, List.getElem_cons_succ, List.getElem_cons_zero, Act.put, List.setIfInBounds_toArray, List.set_cons_zero, List.set_cons_succ]))
    (refine Peel.take 3 (v := ?_) rfl rfl (by kernel_rfl) (by kernel_rfl) (by kernel_rfl) (fun _ _ _ h => h) (by assumption) ?_ ?_; rotate_left; (focus (intro w hSw; obtain ⟨s0, s1, s2⟩ := hSw; (try dsimp only at s0 s1 s2); (try simp only [List.getElem_toArray, List.getElem_cons_succ, List.getElem_cons_zero]); go_simp; try (with_reducible rfl))); try simp only [List.getElem_toArray, List.getElem_cons_succ, List.getElem_cons_zero, Act.put, List.setIfInBounds_toArray, List.set_cons_zero, List.set_cons_succ])
    (refine wpAnyH_ready (rs := [4]) (by kernel_rfl) (by simp) ?_; refine AllReadyH.cons rfl (fun K hK => ?_) AllReadyH.nil)
    refine step_entry rfl (.tmp 10) (.tmp 11) 137 rfl _ M0.out ?_
    (refine hK.out _ _ S1 (fun hHeld => ?_); (clear hK K; try simp only [List.getElem_toArray, List.getElem_cons_succ, List.getElem_cons_zero, Act.put, List.setIfInBounds_toArray, List.set_cons_zero, List.set_cons_succ]))
    (refine Peel.take 5 (v := ?_) rfl rfl (by kernel_rfl) (by kernel_rfl) (by kernel_rfl) (fun _ _ _ h => h) (by assumption) ?_ ?_; rotate_left; (focus (intro w hSw; obtain ⟨s0, s1, s2⟩ := hSw; (try dsimp only at s0 s1 s2); (try simp only [List.getElem_toArray, List.getElem_cons_succ, List.getElem_cons_zero]); go_simp; try (with_reducible rfl))); try simp only [List.getElem_toArray, List.getElem_cons_succ, List.getElem_cons_zero, Act.put, List.setIfInBounds_toArray, List.set_cons_zero, List.set_cons_succ])
    (refine wpAnyH_done (by kernel_rfl) ?_ _; simp only [Peel.Qn, List.drop_succ_cons, List.drop_zero]; clear hHeld)
    rw [Rp.wraps_i64 _ (by omega) (by omega)]
    refine wpList_entryStore_run rfl (.tmp 10) (.tmp 15) (.tmp 13) 137 rfl E2.out ?_
    (clear E2 L0 L2 M0 S0 S1 HB3 HB4 HG1 hHeld; generalize setBlock (setBlock _ _ _) _ _ = W5 at S2 L3 M3 HG2 HC2 ⊢; obtain ⟨u0, u1, u2⟩ := S2; go_wp2_with (first | (at_lookup; refine wpList_lookup_run rfl (.tmp 16) (.tmp 17) 137 rfl _ L3.out ?_)); go_ret; exact ⟨rfl, ⟨M3.out, HC2.out⟩, Rp.grown_then (Rp.grown_below HB2.out (some b)) HG2.out⟩)
  · refine step_entry rfl (.tmp 10) (.tmp 11) 137 rfl _ M0.out ?_
    (refine hK.out _ _ S1 (fun hHeld => ?_); (clear hK K; try simp only [List.getElem_toArray, List.getElem_cons_succ, List.getElem_cons_zero, Act.put, List.setIfInBounds_toArray, List.set_cons_zero, List.set_cons_succ]))
    (refine Peel.take 5 (v := ?_) rfl rfl (by kernel_rfl) (by kernel_rfl) (by kernel_rfl) (fun _ _ _ h => h) (by assumption) ?_ ?_; rotate_left; (focus (intro w hSw; obtain ⟨s0, s1, s2⟩ := hSw; (try dsimp only at s0 s1 s2); (try simp only [List.getElem_toArray, List.getElem_cons_succ, List.getElem_cons_zero]); go_simp; try (with_reducible rfl))); try simp only [List.getElem_toArray, List.getElem_cons_succ, List.getElem_cons_zero, Act.put, List.setIfInBounds_toArray, List.set_cons_zero, List.set_cons_succ])
    (refine wpAnyH_ready (rs := [2]) (by kernel_rfl) (by simp) ?_; refine AllReadyH.cons rfl (fun K hK => ?_) AllReadyH.nil)
    refine step_lookup rfl (.tmp 10) (.tmp 11) 137 rfl _ L2.out ?_
    (refine hK.out _ _ S1 (fun hHeld => ?_); (clear hK K; try simp only [List.getElem_toArray, List.getElem_cons_succ, List.getElem_cons_zero, Act.put, List.setIfInBounds_toArray, List.set_cons_zero, List.set_cons_succ]))
    (refine Peel.take 3 (v := ?_) rfl rfl (by kernel_rfl) (by kernel_rfl) (by kernel_rfl) (fun _ _ _ h => h) (by assumption) ?_ ?_; rotate_left; (focus (intro w hSw; obtain ⟨s0, s1, s2⟩ := hSw; (try dsimp only at s0 s1 s2); (try simp only [List.getElem_toArray, List.getElem_cons_succ, List.getElem_cons_zero]); go_simp; try (with_reducible rfl))); try simp only [List.getElem_toArray, List.getElem_cons_succ, List.getElem_cons_zero, Act.put, List.setIfInBounds_toArray, List.set_cons_zero, List.set_cons_succ])
    (refine wpAnyH_done (by kernel_rfl) ?_ _; simp only [Peel.Qn, List.drop_succ_cons, List.drop_zero]; clear hHeld)
    rw [Rp.wraps_i64 _ (by omega) (by omega)]
    refine wpList_entryStore_run rfl (.tmp 10) (.tmp 15) (.tmp 13) 137 rfl E2.out ?_
    (clear E2 L0 L2 M0 S0 S1 HB3 HB4 HG1 hHeld; generalize setBlock (setBlock _ _ _) _ _ = W5 at S2 L3 M3 HG2 HC2 ⊢; obtain ⟨u0, u1, u2⟩ := S2; go_wp2_with (first | (at_lookup; refine wpList_lookup_run rfl (.tmp 16) (.tmp 17) 137 rfl _ L3.out ?_)); go_ret; exact ⟨rfl, ⟨M3.out, HC2.out⟩, Rp.grown_then (Rp.grown_below HB2.out (some b)) HG2.out⟩)
end Go.Proofs.Ytnomgkmeomlccaa.Blk

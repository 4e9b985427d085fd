/- A ledger: its map by its entries, its rows: plain laws. -/
import Derived.Test.YtgleoeiiiadanaaWtx
import Derived.Maps.Own
import Derived.DeepKeys4
import Derived.LoopTactic
import Derived.Deep.LoopGhost
set_option linter.unusedVariables false
set_option linter.unusedSimpArgs false
namespace Go.Proofs.Ytgleoeiiiadanaa.Led
open Go.RowKit Rd Api Own Mv Num Dig Wtx Go.WideMaps
open Go.Maps (Keyed)
open Go.ChangeMaps (setBlock heap_setBlock_same)

structure Rq where
  c : Int
  s : Int
  b : ByteArray
def fR (x : Rq) : List Value := [.int .i64 x.c, .int .i64 x.s, .string x.b]
/-- a request that is of a size that is looked at -/
structure Fine (x : Rq) : Prop where
  c : IsI64 x.c
  s : IsI64 x.s
  b : x.b.size ≤ 60
def keyV (c s : Int) : Value := .agg #[.int .i64 c, .int .i64 s]

theorem laidOut : laidOutB Try.prog = true := by kernel_rfl
theorem row_key : (94 : TypeId) < (Try.prog).types.size := of_decide_eq_true (by kernel_rfl)
theorem cells_key : (Try.prog).cellsOf 94 = 2 := by kernel_rfl
theorem wide_key : (match (Try.prog).underlying 94 with | some (.array _ _) | some (.struct _) => true | _ => false) = true := by kernel_rfl
theorem keyt_key : (Try.prog).keyTypeAt 2 94 = true := by kernel_rfl
set_option maxRecDepth 100000 in
theorem law_key : Keyed Try.prog 94 := Keyed.of_law (deep_law_laid (P := Try.prog) (k := 94) (m := 2) laidOut (by omega) row_key keyt_key (by rw [Try.underlying94]))
theorem type_key : (Try.prog).keyType 94 = true := by kernel_rfl
theorem zero_int (w : World) : (zeroValue 3).run Try.prog w = .ok (.int .i64 0) w := by kernel_rfl
theorem size_types : ∃ m, (Try.prog).types.size = m + 2 := by
  have h := row_key
  generalize (Try.prog).types.size = n at h ⊢
  have h2 : 2 ≤ n := Nat.le_of_lt (Nat.lt_of_le_of_lt (by decide) h)
  exact ⟨n - 2, by omega⟩
theorem wf_of {n : Int} (h : IsI64 n) : (Lit.int .i64 n).wf = true := by
  have := h.1; have := h.2
  simp [Lit.wf, IntKind.min, IntKind.max, IntKind.bits, IntKind.signed]; omega
theorem key_reads {c s : Int} (hc : IsI64 c) (hs : IsI64 s) : keyOf Try.prog 94 (keyV c s) = some (.string (keyBytes [.int .i64 c, .int .i64 s])) := by
  have wa := wf_of hc
  have wb := wf_of hs
  obtain ⟨m, hm⟩ := size_types
  unfold keyOf keyV
  simp only [Try.underlying94]
  rw [if_pos (by simp [type_key, Value.formed, Try.underlying94, cells_key]), hm]
  unfold Program.keyLits
  simp only [Try.underlying94, Value.cells]
  rw [if_pos (by rw [cells_key]; exact ⟨rfl, by kernel_rfl⟩)]
  have e1 : (Try.prog).cellsOf 3 = 1 := by kernel_rfl
  simp [Program.keyLits, Try.underlying3, e1, wa, wb]

section
variable {P : Program} {k e t : TypeId} {w : World} {b : Nat} {es : Array MapEntry} {ck : Nat}
/-- a look-up, of entries that are keys and numbers -/
theorem look (K : Keyed P k) (ht : P.underlying t = some (.map k e)) {z : Value} (hz : (zeroValue e).run P w = .ok z w) (hb : w.heap[b]? = some (.map es ck)) {key : Value} {kl : Lit} (hkey : keyOf P k key = some kl) (hes : ∀ x ∈ es.toList, ∃ l, keyOf P k x.key = some l) :
    ((Instr.lookup t (.map (some b)) key true).run P w = .ok (.tuple #[z, .bool false]) w ∧ (∀ x ∈ es.toList, x.key ≠ key)) ∨
    ∃ (j : Nat) (x : MapEntry), es[j]? = some x ∧ x.key = key ∧ (Instr.lookup t (.map (some b)) key true).run P w = .ok (.tuple #[x.val, .bool true]) w := by
  rcases K.find w hkey es.toList hes with ⟨h1, h2⟩ | ⟨j, e0, h1, h2, h3⟩
  · exact .inl ⟨by simp [Instr.lookup, run_underlying ht, MapKept.run_getObj_map hb, K.check w _ hkey, h1, hz, Result.andThen], h2⟩
  · exact .inr ⟨j, e0, by simpa using h2, h3, by simp [Instr.lookup, run_underlying ht, MapKept.run_getObj_map hb, K.check w _ hkey, h1, Result.andThen]⟩
theorem push (K : Keyed P k) (ht : P.underlying t = some (.map k e)) (hb : w.heap[b]? = some (.map es ck)) {key val : Value} {kl : Lit} (hkey : keyOf P k key = some kl) (hes : ∀ x ∈ es.toList, ∃ l, keyOf P k x.key = some l) (hno : ∀ x ∈ es.toList, x.key ≠ key) :
    (Instr.mapUpdate t (.map (some b)) key val).run P w = .ok () (setBlock w b (.map (es.push ⟨key, val, ck⟩) (ck + 1))) := by
  rcases K.find w hkey es.toList hes with ⟨h1, h2⟩ | ⟨j, e0, h1, h2, h3⟩
  · simp [Instr.mapUpdate, run_underlying ht, MapKept.run_getObj_map hb, K.check w false hkey, h1, MapKept.run_setObj_map _ hb, Result.andThen, setBlock]
  · exact absurd h3 (hno _ (List.mem_of_getElem? h2))
end

/-- where a client's number is first -/
def idx (l : List Rq) (c s : Int) : Option Nat := l.findIdx? (fun x => x.c == c && x.s == s)
/-- the request is at j -/
def At (l : List Rq) (c s : Int) (j : Nat) : Prop := ∃ x, l[j]? = some x ∧ x.c = c ∧ x.s = s
/-- no client's number twice -/
def Nd (l : List Rq) : Prop := ∀ i j c s, At l c s i → At l c s j → i = j
theorem idx_none {l : List Rq} {c s : Int} : idx l c s = none ↔ ∀ j, ¬ At l c s j := by
  unfold idx
  rw [List.findIdx?_eq_none_iff]
  constructor
  · rintro h j ⟨x, hx, rfl, rfl⟩
    have := h x (List.mem_of_getElem? hx)
    simp at this
  · intro h x hx
    obtain ⟨j, hj, rfl⟩ := List.getElem_of_mem hx
    cases hc : (l[j].c == c && l[j].s == s) with
    | false => rfl
    | true =>
      simp at hc
      exact absurd ⟨_, List.getElem?_eq_getElem hj, hc.1, hc.2⟩ (h j)
theorem idx_some {l : List Rq} {c s : Int} {j : Nat} (h : idx l c s = some j) : At l c s j ∧ ∀ i, i < j → ¬ At l c s i := by
  unfold idx at h
  rw [List.findIdx?_eq_some_iff_getElem] at h
  obtain ⟨hj, h1, h2⟩ := h
  simp at h1
  refine ⟨⟨_, List.getElem?_eq_getElem hj, h1.1, h1.2⟩, ?_⟩
  rintro i hi ⟨x, hx, e1, e2⟩
  have := h2 i hi
  rw [List.getElem?_eq_getElem (by omega)] at hx
  have e := Option.some.inj hx
  simp [e, e1, e2] at this
theorem idx_of {l : List Rq} {c s : Int} {j : Nat} (h : At l c s j) (h2 : ∀ i, i < j → ¬ At l c s i) : idx l c s = some j := by
  cases hi : idx l c s with
  | none => exact absurd h (idx_none.1 hi j)
  | some i =>
    have := idx_some hi
    rcases Nat.lt_trichotomy i j with h3 | h3 | h3
    · exact absurd this.1 (h2 i h3)
    · rw [h3]
    · exact absurd h (this.2 j h3)
theorem idx_nd {l : List Rq} {c s : Int} {j : Nat} (hn : Nd l) (h : At l c s j) : idx l c s = some j :=
  idx_of h (fun i hi k => by have := hn i j c s k h; omega)
theorem at_lt {l : List Rq} {c s : Int} {j : Nat} (h : At l c s j) : j < l.length := by
  obtain ⟨x, hx, _⟩ := h
  rcases Nat.lt_or_ge j l.length with h | h
  · exact h
  · rw [List.getElem?_eq_none h] at hx; cases hx
theorem at_snoc {l : List Rq} {r : Rq} {c s : Int} {j : Nat} : At (l ++ [r]) c s j ↔ At l c s j ∨ (j = l.length ∧ r.c = c ∧ r.s = s) := by
  constructor
  · rintro ⟨x, hx, h1, h2⟩
    rcases Nat.lt_trichotomy j l.length with h | h | h
    · rw [List.getElem?_append_left h] at hx; exact .inl ⟨x, hx, h1, h2⟩
    · rw [List.getElem?_append_right (by omega)] at hx
      subst h
      simp at hx
      subst hx
      exact .inr ⟨rfl, h1, h2⟩
    · rw [List.getElem?_eq_none (by simp; omega)] at hx; cases hx
  · rintro (⟨x, hx, h1, h2⟩ | ⟨rfl, h1, h2⟩)
    · exact ⟨x, by rw [List.getElem?_append_left (at_lt ⟨x, hx, h1, h2⟩)]; exact hx, h1, h2⟩
    · exact ⟨r, by simp, h1, h2⟩
theorem nd_snoc {l : List Rq} {r : Rq} (h : Nd l) (hr : idx l r.c r.s = none) : Nd (l ++ [r]) := by
  intro i j c s hi hj
  rw [at_snoc] at hi hj
  rcases hi with hi | ⟨rfl, rfl, rfl⟩ <;> rcases hj with hj | ⟨rfl, e1, e2⟩
  · exact h i j c s hi hj
  · subst e1; subst e2; exact absurd hi (idx_none.1 hr i)
  · exact absurd hj (idx_none.1 hr j)
  · rfl
theorem nd_nil : Nd [] := fun i j c s ⟨x, hx, _⟩ => by simp at hx
/-- the map's block -/
structure Mp (b : Nat) (l : List Rq) (W : World) : Prop where
  h : ∃ (es : Array MapEntry) (ck : Nat), W.heap[b]? = some (.map es ck) ∧ es.size = l.length ∧ ∀ (i : Nat) (x : Rq), l[i]? = some x → ∃ born, es[i]? = some ⟨keyV x.c x.s, .int .i64 (i : Nat), born⟩
theorem mp_keys {l : List Rq} {es : Array MapEntry} (hf : ∀ x ∈ l, Fine x) (hs : es.size = l.length) (he : ∀ (i : Nat) (x : Rq), l[i]? = some x → ∃ born, es[i]? = some ⟨keyV x.c x.s, .int .i64 (i : Nat), born⟩) : ∀ x ∈ es.toList, ∃ (i : Nat) (y : Rq), l[i]? = some y ∧ x.key = keyV y.c y.s ∧ x.val = .int .i64 (i : Nat) := by
  intro x hx
  obtain ⟨i, hi, rfl⟩ := List.getElem_of_mem hx
  simp at hi
  have hl : i < l.length := by omega
  obtain ⟨born, h1⟩ := he i l[i] (List.getElem?_eq_getElem hl)
  refine ⟨i, l[i], List.getElem?_eq_getElem hl, ?_⟩
  have h2 := h1
  rw [Array.getElem?_eq_getElem hi] at h2
  have h3 := Option.some.inj h2
  simp [h3]
theorem keyV_inj {a b c d : Int} (h : keyV a b = keyV c d) : a = c ∧ b = d := by
  unfold keyV at h
  simp at h
  exact h
theorem mp_look {b : Nat} {l : List Rq} {W : World} (h : Mp b l W) (hf : ∀ x ∈ l, Fine x) (hn : Nd l) {c s : Int} (hc : IsI64 c) (hs : IsI64 s) :
    (Instr.lookup 87 (.map (some b)) (keyV c s) true).run Try.prog W = .ok (match idx l c s with | some j => .tuple #[.int .i64 (j : Nat), .bool true] | none => .tuple #[.int .i64 0, .bool false]) W := by
  obtain ⟨es, ck, hb, hsz, he⟩ := h.h
  have hk := mp_keys hf hsz he
  rcases look law_key Try.underlying87 (zero_int W) hb (key_reads hc hs) (fun x hx => by obtain ⟨i, y, hy, h1, _⟩ := hk x hx; have f := hf y (List.mem_of_getElem? hy); exact ⟨_, by rw [h1]; exact key_reads f.c f.s⟩) with ⟨h1, h2⟩ | ⟨j, x, hj, h1, h2⟩
  · rw [h1]
    have : idx l c s = none := idx_none.2 (fun j ⟨x, hx, e1, e2⟩ => by
      obtain ⟨born, h3⟩ := he j x hx
      refine h2 _ (Array.mem_toList_iff.2 (Array.mem_of_getElem? h3)) ?_
      subst e1; subst e2; rfl)
    rw [this]
  · rw [h2]
    obtain ⟨hjs, _⟩ := Array.getElem?_eq_some_iff.1 hj
    have hl : j < l.length := by omega
    obtain ⟨born, h3⟩ := he j l[j] (List.getElem?_eq_getElem hl)
    rw [hj] at h3
    have h4 := Option.some.inj h3
    subst h4
    have h5 := keyV_inj h1
    rw [idx_nd hn ⟨_, List.getElem?_eq_getElem hl, h5.1, h5.2⟩]
theorem mp_push {b : Nat} {l : List Rq} {W : World} (h : Mp b l W) (hf : ∀ x ∈ l, Fine x) {r : Rq} (hr : Fine r) (hno : idx l r.c r.s = none) :
    ∃ W', (Instr.mapUpdate 87 (.map (some b)) (keyV r.c r.s) (.int .i64 (l.length : Nat))).run Try.prog W = .ok () W' ∧ Mp b (l ++ [r]) W' ∧ W.grownBy W' (some b) := by
  obtain ⟨es, ck, hb, hsz, he⟩ := h.h
  have hk := mp_keys hf hsz he
  refine ⟨_, push law_key Try.underlying87 hb (key_reads hr.c hr.s) (fun x hx => by obtain ⟨i, y, hy, h1, _⟩ := hk x hx; have f := hf y (List.mem_of_getElem? hy); exact ⟨_, by rw [h1]; exact key_reads f.c f.s⟩) (fun x hx e => by
    obtain ⟨i, y, hy, h1, _⟩ := hk x hx
    have h5 := keyV_inj (h1.symm.trans e)
    exact idx_none.1 hno i ⟨y, hy, h5.1, h5.2⟩), ⟨⟨_, _, heap_setBlock_same hb _, by simp [hsz], ?_⟩⟩, ⟨rfl, rfl, rfl, by simp [setBlock], fun i _ hi => Go.ChangeMaps.heap_setBlock_other hb _ (fun e => hi (by rw [e]))⟩⟩
  intro i x hx
  rcases Nat.lt_trichotomy i l.length with h | h | h
  · rw [List.getElem?_append_left h] at hx
    obtain ⟨born, h1⟩ := he i x hx
    exact ⟨born, by rw [Array.getElem?_push_lt (by omega)]; rw [← Array.getElem?_eq_getElem]; exact h1⟩
  · rw [List.getElem?_append_right (by omega)] at hx
    subst h
    simp at hx
    subst hx
    exact ⟨ck, by rw [← hsz]; simp⟩
  · rw [List.getElem?_eq_none (by simp; omega)] at hx; cases hx
theorem mv_mp (b : Nat) (l : List Rq) : Mv (fun W => Mp b l W) :=
  ⟨fun a hb => ⟨by obtain ⟨es, ck, h, r⟩ := a.h; exact ⟨es, ck, blk_keep h hb, r⟩⟩, fun j u a b c => ⟨by obtain ⟨es, ck, h, r⟩ := b.h; obtain ⟨es0, ck0, h0, _⟩ := a.h; exact ⟨es, ck, (heap_set _ _ j u _ (by have := blk_lt' h0; omega)).trans h, r⟩⟩⟩
theorem mp_grown {b : Nat} {l : List Rq} {W W1 : World} {row : Option Nat} (h : Mp b l W) (hg : W.grownBy W1 row) (hr : row ≠ some b) : Mp b l W1 :=
  ⟨by obtain ⟨es, ck, h, r⟩ := h.h; exact ⟨es, ck, blk_grown h hg hr, r⟩⟩
end Go.Proofs.Ytgleoeiiiadanaa.Led

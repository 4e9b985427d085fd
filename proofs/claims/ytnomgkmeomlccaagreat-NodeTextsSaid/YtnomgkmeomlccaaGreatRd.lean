/- What comes in, read: kinds of values (numbers, bools, strings, slices, structs, arrays), what their cells say in a world, and that each argument that reads as data says so. -/
import Derived.WalkKit
import Derived.ProofKit
import Derived.OpenShut
import Derived.Below
import Derived.WideShapes
namespace Go.Proofs.YtnomgkmeomlccaaGreat.Rd
open Go.RowKit Go.ChangeShapes Go.WideShapes

/-- A fact that the walk's simp doesn't look into. -/
structure Sd (p : Prop) : Prop where mk :: (out : p)

/-- A kind of values: how many cells, and what they say in a world. -/
structure Rk (α : Type) where
  sz : Nat
  K : World → α → List Value → Prop
  len : ∀ {w x cs}, K w x cs → cs.length = sz
  keep : ∀ {w w1 : World} {x cs}, (∀ k, k < w.heap.size → w1.heap[k]? = w.heap[k]?) → K w x cs → K w1 x cs

theorem cell_keep {w w1 : World} (h : ∀ k, k < w.heap.size → w1.heap[k]? = w.heap[k]?) {a : Addr} {v : Value} (hc : w.cell? a = some v) : w1.cell? a = some v := by
  have hb := World.block_lt_of_cell? w a hc
  unfold World.cell? at hc ⊢
  rw [h _ hb]
  exact hc

/-- A row of elements that is read. -/
def Row {α : Type} (d : Rk α) (w : World) (A : Option Addr) (l : List α) : Prop :=
  ∀ (j : Nat) (x : α), l[j]? = some x → ∃ (b o : Nat) (cs : List Value), A = some ⟨b, o, none⟩ ∧ d.K w x cs ∧ ∀ (i : Nat) (v : Value), cs[i]? = some v → w.cell? ⟨b, o + j * d.sz + i, none⟩ = some v
theorem Row.keep {α : Type} {d : Rk α} {w w1 : World} {A : Option Addr} {l : List α} (hw : ∀ k, k < w.heap.size → w1.heap[k]? = w.heap[k]?) (h : Row d w A l) : Row d w1 A l := by
  intro j x hx
  obtain ⟨b, o, cs, hA, hK, hc⟩ := h j x hx
  exact ⟨b, o, cs, hA, d.keep hw hK, fun i v hv => cell_keep hw (hc i v hv)⟩
theorem Row.below {α : Type} {d : Rk α} {w w1 : World} {A : Option Addr} {l : List α} (h : Row d w A l) (hb : Below w.heap.size w w1) : Row d w1 A l := Row.keep (fun k hk => hb.block k hk) h

namespace Rk
def int (k : IntKind) : Rk Int where
  sz := 1
  K := fun _ n cs => cs = [.int k n] ∧ (Lit.int k n).wf = true
  len := fun h => by rw [h.1]; rfl
  keep := fun _ h => h
def bool : Rk Bool where
  sz := 1
  K := fun _ b cs => cs = [.bool b]
  len := fun h => by rw [h]; rfl
  keep := fun _ h => h
def str : Rk ByteArray where
  sz := 1
  K := fun _ s cs => cs = [.string s] ∧ s.size ≤ maxLen
  len := fun h => by rw [h.1]; rfl
  keep := fun _ h => h
def slice {α : Type} (d : Rk α) : Rk (List α) where
  sz := 1
  K := fun w l cs => ∃ A c, cs = [.slice A l.length c] ∧ l.length ≤ c ∧ c ≤ maxLen ∧ Row d w A l
  len := fun h => by obtain ⟨A, c, rfl, _⟩ := h; rfl
  keep := fun hw h => by obtain ⟨A, c, rfl, h1, h2, h3⟩ := h; exact ⟨A, c, rfl, h1, h2, h3.keep hw⟩
def unit : Rk Unit where
  sz := 0
  K := fun _ _ cs => cs = []
  len := fun h => by rw [h]; rfl
  keep := fun _ h => h
def pair {α β : Type} (a : Rk α) (b : Rk β) : Rk (α × β) where
  sz := a.sz + b.sz
  K := fun w x cs => ∃ c0 c1, cs = c0 ++ c1 ∧ a.K w x.1 c0 ∧ b.K w x.2 c1
  len := fun h => by obtain ⟨c0, c1, rfl, h0, h1⟩ := h; rw [List.length_append, a.len h0, b.len h1]
  keep := fun hw h => by obtain ⟨c0, c1, rfl, h0, h1⟩ := h; exact ⟨c0, c1, rfl, a.keep hw h0, b.keep hw h1⟩
/-- A Lean structure by its fields. -/
def iso {α β : Type} (d : Rk α) (f : β → α) : Rk β where
  sz := d.sz
  K := fun w x cs => d.K w (f x) cs
  len := d.len
  keep := d.keep
/-- So many in line. -/
def arr {α : Type} (d : Rk α) : Nat → Rk (List α)
  | 0 => { sz := 0, K := fun _ l cs => l = [] ∧ cs = [], len := fun h => by rw [h.2]; rfl, keep := fun _ h => h }
  | n + 1 => { sz := d.sz + (arr d n).sz
               K := fun w l cs => ∃ x r c0 c1, l = x :: r ∧ cs = c0 ++ c1 ∧ d.K w x c0 ∧ (arr d n).K w r c1
               len := fun h => by obtain ⟨x, r, c0, c1, rfl, rfl, h0, h1⟩ := h; rw [List.length_append, d.len h0, (arr d n).len h1]
               keep := fun hw h => by obtain ⟨x, r, c0, c1, rfl, rfl, h0, h1⟩ := h; exact ⟨x, r, c0, c1, rfl, rfl, d.keep hw h0, (arr d n).keep hw h1⟩ }
theorem arr_sz {α : Type} (d : Rk α) : ∀ n, (arr d n).sz = n * d.sz
  | 0 => by simp [arr]
  | n + 1 => by simp only [arr]; rw [arr_sz d n, Nat.succ_mul, Nat.add_comm]
end Rk

/-! ### what reads as data says so -/
/-- A type whose values are of a kind. -/
def Opens (P : Program) (t : TypeId) {α : Type} (d : Rk α) : Prop :=
  ∀ (H : Type) (enc : TypeId × Value → H) (w : World) (base : Nat) (spare : Nat → Bool) (held : Bool) (fuel : Nat) (cs : List Value) (x : DataW H × List MemPlace),
    DataW.trod enc P w base spare held fuel t cs = some x → ∃ a, d.K w a cs
variable {P : Program}
theorem opens_int {t : TypeId} {k : IntKind} (ht : P.underlying t = some (.int k)) : Opens P t (Rk.int k) := by
  intro H enc w base spare held fuel cs x h
  cases fuel with
  | zero => simp [DataW.trod] at h
  | succ n =>
    unfold DataW.trod at h
    rw [ht] at h
    split at h <;> simp_all
    rename_i k' n' he
    obtain ⟨⟨rfl, hw⟩, _⟩ := h
    exact ⟨n', rfl, hw⟩
theorem opens_bool {t : TypeId} (ht : P.underlying t = some .bool) : Opens P t Rk.bool := by
  intro H enc w base spare held fuel cs x h
  cases fuel with
  | zero => simp [DataW.trod] at h
  | succ n =>
    unfold DataW.trod at h
    rw [ht] at h
    split at h <;> simp_all
    rename_i b _
    cases b <;> simp [Rk.bool]
theorem opens_str {t : TypeId} (ht : P.underlying t = some .string) : Opens P t Rk.str := by
  intro H enc w base spare held fuel cs x h
  cases fuel with
  | zero => simp [DataW.trod] at h
  | succ n =>
    unfold DataW.trod at h
    rw [ht] at h
    split at h <;> simp_all
    exact ⟨_, rfl, h.1⟩

theorem mapM_get {β γ : Type} {f : β → Option γ} : ∀ (l : List β) (ys : List γ), l.mapM f = some ys → ys.length = l.length ∧ ∀ (i : Nat) (x : β), l[i]? = some x → ∃ y, ys[i]? = some y ∧ f x = some y
  | [], ys, h => by
    simp at h
    subst h
    exact ⟨rfl, fun i x hx => by simp at hx⟩
  | a :: l, ys, h => by
    simp only [List.mapM_cons, Option.bind_eq_bind, Option.pure_def, Option.bind_eq_some_iff] at h
    obtain ⟨y, hy, zs, hz, he⟩ := h
    simp only [Option.some.injEq] at he
    subst he
    obtain ⟨hl, hg⟩ := mapM_get l zs hz
    refine ⟨by simp [hl], fun i x hx => ?_⟩
    cases i with
    | zero =>
      simp only [List.getElem?_cons_zero, Option.some.injEq] at hx
      subst hx
      exact ⟨y, by simp, hy⟩
    | succ i =>
      simp only [List.getElem?_cons_succ] at hx
      obtain ⟨q, h1, h2⟩ := hg i x hx
      exact ⟨q, by simpa using h1, h2⟩
theorem list_of {α : Type} {Q : Nat → α → Prop} : ∀ n, (∀ j, j < n → ∃ x, Q j x) → ∃ l : List α, l.length = n ∧ ∀ j x, l[j]? = some x → Q j x
  | 0, _ => ⟨[], rfl, fun j x h => by simp at h⟩
  | n + 1, h => by
    obtain ⟨l, hl, hq⟩ := list_of n (fun j hj => h j (by omega))
    obtain ⟨x, hx⟩ := h n (by omega)
    refine ⟨l ++ [x], by simp [hl], fun j y hy => ?_⟩
    by_cases hj : j < n
    · rw [List.getElem?_append_left (by omega)] at hy
      exact hq j y hy
    · by_cases hjn : j = n
      · subst hjn
        rw [List.getElem?_append_right (by omega)] at hy
        simp [hl] at hy
        subst hy
        exact hx
      · rw [List.getElem?_eq_none (by simp; omega)] at hy
        cases hy
theorem cells_get {w : World} {base n : Nat} {a : Addr} {cs : List Value} (h : w.cells? base a n = some cs) : cs.length = n ∧ ∀ i v, cs[i]? = some v → w.cell? (a.add i) = some v := by
  unfold World.cells? at h
  split at h
  · obtain ⟨hl, hg⟩ := mapM_get _ _ h
    rw [List.length_range] at hl
    refine ⟨hl, fun i v hv => ?_⟩
    have hi : i < n := by
      rcases Nat.lt_or_ge i n with h | h
      · exact h
      · rw [List.getElem?_eq_none (by omega)] at hv
        cases hv
    obtain ⟨y, h1, h2⟩ := hg i i (by simp [hi])
    rw [h1] at hv
    rw [← hv]
    exact h2
  · cases h
theorem add_flat (b o m : Nat) : (⟨b, o, none⟩ : Addr).add m = ⟨b, o + m, none⟩ := by
  unfold Addr.add
  split
  · subst_vars; rfl
  · rfl
theorem opens_slice {t e : TypeId} {α : Type} {d : Rk α} (ht : P.underlying t = some (.slice e)) (hd : Opens P e d) (hs : P.cellsOf e = d.sz) (h0 : 0 < d.sz) : Opens P t (Rk.slice d) := by
  intro H enc w base spare held fuel cs x h
  cases fuel with
  | zero => simp [DataW.trod] at h
  | succ n =>
    unfold DataW.trod at h
    rw [ht] at h
    split at h
    all_goals first
      | (rename_i he; cases he; done)
      | (cases h; done)
      | skip
    · rename_i he
      cases he
      exact ⟨[], none, 0, rfl, by simp, by simp, fun j x hx => by simp at hx⟩
    · rename_i e' a len cap he
      cases he
      split at h
      · rename_i hb
        obtain ⟨hb1, hb2, hb3⟩ := hb
        rw [Option.bind_eq_some_iff] at h
        obtain ⟨ys, hy, _⟩ := h
        obtain ⟨hl, hg⟩ := mapM_get _ _ hy
        have hE : ∀ j, j < len → ∃ x, ∃ cs, d.K w x cs ∧ ∀ i v, cs[i]? = some v → w.cell? ((a.add (j * d.sz)).add i) = some v := by
          intro j hj
          obtain ⟨y, _, h2⟩ := hg j j (by simp [hj])
          rw [Option.bind_eq_some_iff] at h2
          obtain ⟨cs, hc, ht⟩ := h2
          obtain ⟨x, hx⟩ := hd H enc w base spare held n cs y ht
          rw [hs] at hc
          exact ⟨x, cs, hx, (cells_get hc).2⟩
        obtain ⟨l, hl, hq⟩ := list_of len hE
        refine ⟨l, some a, cap, by rw [hl], by omega, hb3, fun j x hx => ?_⟩
        have hj : 0 < len := by
          rcases Nat.lt_or_ge j l.length with h | h
          · omega
          · rw [List.getElem?_eq_none h] at hx
            cases hx
        obtain ⟨x0, cs0, hK0, hc0⟩ := hE 0 hj
        have hl0 := d.len hK0
        have hz := hc0 0 cs0[0] (List.getElem?_eq_getElem (by omega))
        obtain ⟨b, o, sp⟩ := a
        have hsp : sp = none := by
          cases sp with
          | none => rfl
          | some q =>
            simp [Addr.add, World.cell?] at hz
            split at hz <;> simp at hz
        subst hsp
        obtain ⟨cs, hK, hc⟩ := hq j x hx
        refine ⟨b, o, cs, rfl, hK, fun i v hv => ?_⟩
        have := hc i v hv
        rw [add_flat, add_flat] at this
        exact this
      · cases h

/-- Fields from an offset on, one behind the other. -/
def OpensFs (P : Program) (off : Nat) (fs : List Field) {α : Type} (d : Rk α) : Prop :=
  ∀ (H : Type) (enc : TypeId × Value → H) (w : World) (base : Nat) (spare : Nat → Bool) (held : Bool) (n : Nat) (cs : List Value), cs.length = off + d.sz →
    (∀ (i : Nat) (f : Field), fs[i]? = some f → ∃ y, DataW.trod enc P w base spare held n f.type ((cs.drop f.offset).take (P.cellsOf f.type)) = some y) → ∃ a, d.K w a (cs.drop off)
theorem fs_nil (off : Nat) : OpensFs P off [] Rk.unit := by
  intro H enc w base spare held n cs hl _
  refine ⟨(), ?_⟩
  show cs.drop off = []
  exact List.drop_eq_nil_of_le (by simp [Rk.unit] at hl; omega)
theorem fs_cons {off : Nat} {f : Field} {fs : List Field} {α β : Type} {a : Rk α} {b : Rk β} (ho : f.offset = off) (hs : P.cellsOf f.type = a.sz) (ha : Opens P f.type a) (hb : OpensFs P (off + a.sz) fs b) : OpensFs P off (f :: fs) (Rk.pair a b) := by
  intro H enc w base spare held n cs hl hf
  obtain ⟨y, hy⟩ := hf 0 f rfl
  rw [ho, hs] at hy
  obtain ⟨x, hx⟩ := ha H enc w base spare held n _ _ hy
  obtain ⟨z, hz⟩ := hb H enc w base spare held n cs (by simp only [Rk.pair] at hl; omega) (fun i g hg => hf (i + 1) g (by simpa using hg))
  refine ⟨(x, z), _, _, ?_, hx, hz⟩
  rw [← List.drop_drop, List.take_append_drop]
theorem opens_struct {t : TypeId} {fs : Array Field} {α : Type} {d : Rk α} (ht : P.underlying t = some (.struct fs)) (hs : P.cellsOf t = d.sz) (hd : OpensFs P 0 fs.toList d) : Opens P t d := by
  intro H enc w base spare held fuel cs x h
  obtain ⟨xs, n, _, rfl, hl, hlen, hf⟩ := DataW.trod_struct ht h
  obtain ⟨a, ha⟩ := hd H enc w base spare held n cs (by rw [hl, hs]; omega) (fun i f hfi => by
    have h2 := hf i f (by simpa using hfi)
    rcases hx : xs[i]? with _ | y
    · have h3 := List.getElem?_eq_none_iff.1 hx
      have h4 : i < fs.toList.length := by
        rcases Nat.lt_or_ge i fs.toList.length with h | h
        · exact h
        · rw [List.getElem?_eq_none h] at hfi
          cases hfi
      simp at h4
      omega
    · rw [hx] at h2
      exact ⟨y, h2⟩)
  exact ⟨a, by simpa using ha⟩
theorem opens_iso {t : TypeId} {α β : Type} {d : Rk α} (f : β → α) (g : α → β) (hfg : ∀ x, f (g x) = x) (h : Opens P t d) : Opens P t (Rk.iso d f) := by
  intro H enc w base spare held fuel cs x hx
  obtain ⟨a, ha⟩ := h H enc w base spare held fuel cs x hx
  exact ⟨g a, by show d.K w (f (g a)) cs; rw [hfg]; exact ha⟩
end Go.Proofs.YtnomgkmeomlccaaGreat.Rd

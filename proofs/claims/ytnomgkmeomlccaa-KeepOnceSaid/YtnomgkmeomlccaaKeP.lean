/- A forest's chain of blocks as it is told: plain. -/
import Derived.Test.YtnomgkmeomlccaaKeA
set_option linter.unusedVariables false
set_option linter.unusedSimpArgs false
namespace Go.Proofs.Ytnomgkmeomlccaa.Kee
open Go.RowKit Rd Api Own Mv App Num Dig
open Blk (Block Rq digB coreB batchB)

/-- what the next block stands on: the block of a place, or the first one -/
def tp (out : List Block) : Nat → Int × ByteArray
  | 0 => (0, Crt.FB)
  | k + 1 => match out[k]? with
    | none => (0, Crt.FB)
    | some p => (p.view, digB p)
theorem tp_zero (out : List Block) : tp out 0 = (0, Crt.FB) := rfl
theorem tp_succ {out : List Block} {k : Nat} {p : Block} (h : out[k]? = some p) : tp out (k + 1) = (p.view, digB p) := by simp only [tp, h]
theorem tp_size (out : List Block) (k : Nat) : (tp out k).2.size = 32 := by
  unfold tp
  cases k with
  | zero => exact Crt.FB_size
  | succ k =>
    dsimp only
    cases out[k]? with
    | none => exact Crt.FB_size
    | some p => exact Blk.digB_size p
/-- what is told of a block: its view's step, its parent's place, its request's client -/
abbrev Tl := Int × Int × Int
def plc (i : Nat) (p : Tl) : Nat := (p.2.1 % ((i : Int) + 1)).toNat
theorem plc_le (i : Nat) (p : Tl) : plc i p ≤ i := by
  have h1 := Int.emod_nonneg p.2.1 (b := (i : Int) + 1) (by omega)
  have h2 := Int.emod_lt_of_pos p.2.1 (b := (i : Int) + 1) (by omega)
  unfold plc
  omega
/-- a block on another one's view and digest -/
def nxt (t : Int × ByteArray) (i : Nat) (p : Tl) : Block := ⟨t.1 + 1 + p.1 % 4, 0, ⟨t.1, t.2, []⟩, [⟨p.2.2 % 4, 1 + (i : Int), Rp.ET⟩]⟩
def nx (out : List Block) (p : Tl) : Block := nxt (tp out (plc out.length p)) out.length p
def chn (l : List Tl) : List Block := l.foldl (fun out p => out ++ [nx out p]) []
theorem chn_snoc (l : List Tl) (p : Tl) : chn (l ++ [p]) = chn l ++ [nx (chn l) p] := by simp [chn]
theorem chn_take {l : List Tl} {i : Nat} {p : Tl} (h : l[i]? = some p) : chn (l.take (i + 1)) = chn (l.take i) ++ [nx (chn (l.take i)) p] := by
  rw [List.take_add_one, h]; exact chn_snoc _ _
theorem snoc_ind {α : Type} {P : List α → Prop} (h0 : P []) (h1 : ∀ l x, P l → P (l ++ [x])) : ∀ (n : Nat) (l : List α), l.length = n → P l
  | 0, l, hl => by
    obtain rfl := List.eq_nil_of_length_eq_zero hl
    exact h0
  | n + 1, l, hl => by
    obtain ⟨l', t, rfl⟩ : ∃ l' t, l = l' ++ [t] := ⟨l.dropLast, l.getLast (by intro e; rw [e] at hl; cases hl), (List.dropLast_concat_getLast _).symm⟩
    exact h1 l' t (snoc_ind h0 h1 n l' (by simpa using hl))
theorem chn_len (l : List Tl) : (chn l).length = l.length :=
  snoc_ind (P := fun l => (chn l).length = l.length) rfl (fun l x ih => by rw [chn_snoc, List.length_append, List.length_append, ih]; rfl) _ l rfl
theorem nx_size (out : List Block) (p : Tl) : (coreB (nx out p)).size ≤ 1000 := by
  have h1 := Blk.rqsB_few (nx out p).batch (num4 ((nx out p).batch.length : Int)) (fun t ht => by
    rw [show (nx out p).batch = [⟨p.2.2 % 4, 1 + (out.length : Int), Rp.ET⟩] from rfl, List.mem_singleton] at ht
    subst ht; exact Nat.zero_le _)
  have h2 : (nx out p).just.block.size = 32 := tp_size out _
  have h3 : (nx out p).batch.length = 1 := rfl
  unfold coreB batchB
  rw [Rp.app_size, Rp.app_size, Rp.app_size, Rp.app_size, num4_size, num4_size, num4_size]
  rw [num4_size] at h1
  omega
/-- one of a chain's blocks -/
theorem chn_at (l : List Tl) : ∀ (i : Nat) (p : Tl), l[i]? = some p → (chn l)[i]? = some (nx (chn (l.take i)) p) :=
  snoc_ind (P := fun l => ∀ (i : Nat) (p : Tl), l[i]? = some p → (chn l)[i]? = some (nx (chn (l.take i)) p)) (fun i p h => by simp at h) (fun l x ih i p h => by
    rw [chn_snoc]
    rcases Nat.lt_or_ge i l.length with e | e
    · rw [List.getElem?_append_left e] at h
      rw [List.getElem?_append_left (by rw [chn_len]; exact e), List.take_append_of_le_length (by omega)]
      exact ih i p h
    · have hi := (List.getElem?_eq_some_iff.1 h).1
      rw [List.length_append] at hi
      simp at hi
      obtain rfl : i = l.length := by omega
      rw [List.getElem?_append_right (Nat.le_refl _)] at h
      simp at h
      subst h
      rw [List.getElem?_append_right (by rw [chn_len]; exact Nat.le_refl _), chn_len]
      simp) _ l rfl
theorem chn_of {l : List Tl} {b : Block} (h : b ∈ chn l) : ∃ (i : Nat) (p : Tl), l[i]? = some p ∧ (chn l)[i]? = some b ∧ b = nx (chn (l.take i)) p := by
  obtain ⟨i, hi⟩ := List.getElem?_of_mem h
  have hlt := (List.getElem?_eq_some_iff.1 hi).1
  rw [chn_len] at hlt
  have := chn_at l i l[i] (List.getElem?_eq_getElem hlt)
  exact ⟨i, l[i], List.getElem?_eq_getElem hlt, hi, by rw [this] at hi; exact (Option.some.inj hi).symm⟩
theorem chn_size {l : List Tl} {b : Block} (h : b ∈ chn l) : (coreB b).size ≤ 1000 := by
  obtain ⟨i, p, -, -, rfl⟩ := chn_of h
  exact nx_size _ _
/-- the views stay small -/
theorem chn_view (l : List Tl) : ∀ b ∈ chn l, 1 ≤ b.view ∧ b.view ≤ 4 * (l.length : Int) ∧ 0 ≤ b.just.view ∧ b.just.view < b.view :=
  snoc_ind (P := fun l => ∀ b ∈ chn l, 1 ≤ b.view ∧ b.view ≤ 4 * (l.length : Int) ∧ 0 ≤ b.just.view ∧ b.just.view < b.view) (fun b h => by simp [chn] at h) (fun l x ih b h => by
    rw [chn_snoc] at h
    have hl : ((l ++ [x]).length : Int) = (l.length : Int) + 1 := by simp
    rw [hl]
    rcases List.mem_append.1 h with e | e
    · have := ih b e; omega
    · rw [List.mem_singleton] at e
      subst e
      have h1 := Int.emod_nonneg x.1 (b := 4) (by omega)
      have h2 := Int.emod_lt_of_pos x.1 (b := 4) (by omega)
      have h3 : 0 ≤ (tp (chn l) (plc (chn l).length x)).1 ∧ (tp (chn l) (plc (chn l).length x)).1 ≤ 4 * (l.length : Int) := by
        cases hk : plc (chn l).length x with
        | zero => exact ⟨Int.le_refl _, by rw [tp_zero]; show (0 : Int) ≤ _; omega⟩
        | succ k =>
          have hkl := plc_le (chn l).length x
          have hkk : k < (chn l).length := by omega
          rw [tp_succ (List.getElem?_eq_getElem hkk)]
          have := ih _ (List.getElem_mem hkk)
          exact ⟨by show 0 ≤ (chn l)[k].view; omega, this.2.1⟩
      unfold nx nxt
      dsimp only
      omega) _ l rfl
theorem tp_view (l : List Tl) (k : Nat) (hk : k ≤ l.length) : 0 ≤ (tp (chn l) k).1 ∧ (tp (chn l) k).1 ≤ 4 * (l.length : Int) := by
  cases k with
  | zero => exact ⟨Int.le_refl _, by rw [tp_zero]; show (0 : Int) ≤ _; omega⟩
  | succ k =>
    have hkk : k < (chn l).length := by rw [chn_len]; omega
    rw [tp_succ (List.getElem?_eq_getElem hkk)]
    have := chn_view l _ (List.getElem_mem hkk)
    exact ⟨by show 0 ≤ (chn l)[k].view; omega, this.2.1⟩
/-- all requests of a chain: one of each block, by number -/
def rqs (l : List Tl) : List Rq := (chn l).flatMap (·.batch)
theorem rqs_snoc (l : List Tl) (p : Tl) : rqs (l ++ [p]) = rqs l ++ [⟨p.2.2 % 4, 1 + (l.length : Int), Rp.ET⟩] := by
  unfold rqs
  rw [chn_snoc, List.flatMap_append]
  simp [nx, nxt, chn_len]
theorem rqs_len (l : List Tl) : (rqs l).length = l.length :=
  snoc_ind (P := fun l => (rqs l).length = l.length) rfl (fun l x ih => by rw [rqs_snoc, List.length_append, List.length_append, ih]; rfl) _ l rfl
theorem rqs_seq (l : List Tl) : ∀ x ∈ rqs l, 1 ≤ x.s ∧ x.s ≤ (l.length : Int) :=
  snoc_ind (P := fun l => ∀ x ∈ rqs l, 1 ≤ x.s ∧ x.s ≤ (l.length : Int)) (fun x hx => by simp [rqs, chn] at hx) (fun l p ih x hx => by
    rw [rqs_snoc] at hx
    rw [List.length_append]
    rcases List.mem_append.1 hx with e | e
    · have := ih x e
      have h1 : ((l.length + [p].length : Nat) : Int) = (l.length : Int) + 1 := by simp
      omega
    · rw [List.mem_singleton] at e
      subst e
      have h1 : ((l.length + [p].length : Nat) : Int) = (l.length : Int) + 1 := by simp
      show 1 ≤ 1 + (l.length : Int) ∧ 1 + (l.length : Int) ≤ _
      omega) _ l rfl
end Go.Proofs.Ytnomgkmeomlccaa.Kee

/- A block put into the words: plain; and the program's walk. -/
import Derived.Test.YtnomgkmeomlccaaGreatTab
import Derived.Lib.ConvBytes
import Derived.Deep.LoopGhost
set_option linter.unusedVariables false
set_option linter.unusedSimpArgs false
namespace Go.Proofs.YtnomgkmeomlccaaGreat.Step
open Go.RowKit Rd Api Own Mv Word Vec Mix Tab

/-- a block's words, of its bytes -/
def mw (B : Nat → Nat) (i : Nat) : Nat := B (4 * i) + B (4 * i + 1) * 256 + B (4 * i + 2) * 65536 + B (4 * i + 3) * 16777216
def stp (M : Nat → Nat) (r : Nat) (V : Nat → Nat) (i : Nat) : Nat → Nat := mixV V (at4 i 0) (at4 i 1) (at4 i 2) (at4 i 3) (M (tab r (2 * i))) (M (tab r (2 * i + 1)))
def inner (M : Nat → Nat) (r : Nat) : Nat → (Nat → Nat) → Nat → Nat
  | 0, V => V
  | n + 1, V => stp M r (inner M r n V) n
def rounds (M : Nat → Nat) : Nat → (Nat → Nat) → Nat → Nat
  | 0, V => V
  | n + 1, V => inner M n 8 (rounds M n V)
/-- the words, and the start's -/
def two (H : Nat → Nat) (i : Nat) : Nat := if i < 8 then H i else iv (i - 8)
def init (H : Nat → Nat) (size : Nat) (last : Bool) : Nat → Nat :=
  let a := upd (two H) 12 (two H 12 ^^^ size % 4294967296)
  let b := upd a 13 (a 13 ^^^ size / 4294967296)
  if last then upd b 14 (4294967295 - b 14) else b
def ending (H V : Nat → Nat) (i : Nat) : Nat := H i ^^^ (V i ^^^ V (8 + i))
def blockF (H B : Nat → Nat) (size : Nat) (last : Bool) : Nat → Nat := ending H (rounds (mw B) 10 (init H size last))

def Wd (V : Nat → Nat) : Prop := ∀ i, V i < 4294967296
theorem Wd.upd {V : Nat → Nat} (h : Wd V) (i : Nat) {x : Nat} (hx : x < 4294967296) : Wd (upd V i x) := fun j => by
  unfold Vec.upd; split
  · exact hx
  · exact h j
theorem Wd.mix {V : Nat → Nat} (h : Wd V) (a b c d x y : Nat) : Wd (mixV V a b c d x y) :=
  (((h.upd a (gA_lt _ _ _)).upd b (gR_lt _ _ _)).upd c (gC_lt _ _)).upd d (gR_lt _ _ _)
theorem Wd.inner {M V : Nat → Nat} (h : Wd V) (r : Nat) : ∀ n, Wd (inner M r n V)
  | 0 => h
  | n + 1 => (Wd.inner h r n).mix _ _ _ _ _ _
theorem Wd.rounds {M V : Nat → Nat} (h : Wd V) : ∀ n, Wd (rounds M n V)
  | 0 => h
  | n + 1 => (Wd.rounds h n).inner n 8
theorem Wd.iv : Wd iv := fun i => by
  unfold Tab.iv
  match i with
  | 0 | 1 | 2 | 3 | 4 | 5 | 6 | 7 => decide
  | n + 8 => simp
theorem Wd.two {H : Nat → Nat} (h : Wd H) : Wd (two H) := fun i => by
  unfold Step.two; split
  · exact h i
  · exact Wd.iv _
theorem Wd.init {H : Nat → Nat} (h : Wd H) {size : Nat} (hs : size < 18446744073709551616) (last : Bool) : Wd (init H size last) := by
  have h1 : Wd (Vec.upd (Step.two H) 12 (Step.two H 12 ^^^ size % 4294967296)) := h.two.upd 12 (xor_lt (h.two _) (Nat.mod_lt _ (by decide)))
  unfold Step.init
  dsimp only
  split
  · exact (h1.upd 13 (xor_lt (h1 _) (by omega))).upd 14 (by omega)
  · exact h1.upd 13 (xor_lt (h1 _) (by omega))
theorem Wd.ending {H V : Nat → Nat} (h : Wd H) (k : Wd V) : Wd (ending H V) := fun i => xor_lt (h i) (xor_lt (k i) (k _))
theorem Wd.block {H : Nat → Nat} (h : Wd H) (B : Nat → Nat) {size : Nat} (hs : size < 18446744073709551616) (last : Bool) : Wd (blockF H B size last) := h.ending ((h.init hs last).rounds 10)
theorem Wd.mw {B : Nat → Nat} (h : ∀ i, B i < 256) : Wd (mw B) := fun i => by
  have := h (4 * i); have := h (4 * i + 1); have := h (4 * i + 2); have := h (4 * i + 3)
  unfold Step.mw; omega
theorem at4_ok : ∀ i, i < 8 → W4 (at4 i 0) (at4 i 1) (at4 i 2) (at4 i 3)
  | 0, _ | 1, _ | 2, _ | 3, _ | 4, _ | 5, _ | 6, _ | 7, _ => by unfold W4; decide
theorem tab_lt : ∀ r p, r < 10 → p < 16 → tab r p < 16 := by
  have : ∀ r, r < 10 → ∀ p, p < 16 → tab r p < 16 := by decide
  exact fun r p hr hp => this r hr p hp
end Go.Proofs.YtnomgkmeomlccaaGreat.Step

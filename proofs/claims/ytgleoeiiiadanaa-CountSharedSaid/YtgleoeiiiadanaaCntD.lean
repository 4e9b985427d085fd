/- Unlike numbers: counts, Distinct, the reference's Has, Once, Top: walked. -/
import Derived.Maps.Own
import Derived.Maps.OwnOps
import Derived.Maps.OwnSet
import Derived.Maps.Views
import Derived.WalkKit
import Derived.Test.YtgleoeiiiadanaaCntP
import Derived.Test.YtgleoeiiiadanaaCnt
import Derived.Test.YtgleoeiiiadanaaMv
set_option linter.unusedVariables false
set_option linter.unusedSimpArgs false
namespace Go.Proofs.Ytgleoeiiiadanaa.Cnts
open Go.RowKit Go.Maps Rd Api Own Mv Top

theorem keyed : Keyed Try.prog 3 := int_keyed Try.underlying3
theorem zeroI (w : World) : (zeroValue 3).run Try.prog w = .ok (.int .i64 0) w := by kernel_rfl
def kI (x : Int) : Lit := .int .i64 x
theorem kI_ne {x y : Int} (h : x ≠ y) : kI x ≠ kI y := by unfold kI; simpa using h
theorem kI_key (x : Int) : WideAt.IsKeyLit (kI x) := trivial
def wfI (x : Int) : Prop := (Lit.int .i64 x).wf = true
theorem wf_of {x : Int} (h : IsI64 x) : wfI x := by
  have h' : -9223372036854775808 ≤ x ∧ x ≤ 9223372036854775807 := h
  simpa [wfI, Lit.wf, IntKind.min, IntKind.max, IntKind.bits, IntKind.signed] using h'

/-- how often each number is there, as a datum -/
structure Tly (D : DataW Unit) (l : List Int) (n : Int) : Prop where
  tidy : Tidy D
  has' : ∀ x, has D (kI x) = decide (x ∈ onceF l n)
  size' : Maps.size D = (onceF l n).length
  cnt : ∀ x, ∃ c : Nat, D.atKey (kI x) (.lit (.int .i64 0)) = .lit (.int .i64 (c : Nat)) ∧ c ≤ l.length ∧ (c = 0 ↔ x ∉ onceF l n)
theorem tly_nil (n : Int) : Tly (.map []) [] n :=
  ⟨tidy_empty, fun x => by simp [onceF, has_eq], by simp [onceF, size_eq], fun x => ⟨0, atKey_of_not_has (by simp [has_eq]) _, Nat.le_refl _, by simp [onceF]⟩⟩
theorem tly_skip {D : DataW Unit} {l : List Int} {n x : Int} (h : Tly D l n) (hx : ¬ (0 ≤ x ∧ x < n)) : Tly D (l ++ [x]) n := by
  have e : onceF (l ++ [x]) n = onceF l n := by rw [onceF_snoc]; unfold o1; rw [if_neg (fun a => hx ⟨a.1, a.2.1⟩)]
  refine ⟨h.tidy, fun y => by rw [e]; exact h.has' y, by rw [e]; exact h.size', fun y => ?_⟩
  obtain ⟨c, h1, h2, h3⟩ := h.cnt y
  exact ⟨c, h1, by simp; omega, by rw [e]; exact h3⟩
theorem tly_put {D : DataW Unit} {l : List Int} {n x : Int} (h : Tly D l n) (h0 : 0 ≤ x) (hn : x < n) {c : Int} (hc : D.atKey (kI x) (.lit (.int .i64 0)) = .lit (.int .i64 c)) : 0 ≤ c ∧ c ≤ l.length ∧ Tly (D.put (kI x) (.lit (.int .i64 (c + 1)))) (l ++ [x]) n := by
  obtain ⟨c', h1, h2, h3⟩ := h.cnt x
  rw [h1] at hc
  have e : (c' : Int) = c := by simpa using hc
  subst e
  have mem : ∀ y, y ∈ onceF (l ++ [x]) n ↔ (y ∈ onceF l n ∨ y = x) := fun y => by
    rw [onceF_snoc]; unfold o1
    by_cases hm : x ∈ onceF l n
    · rw [if_neg (fun a => a.2.2 hm)]
      exact ⟨.inl, fun a => a.elim id (fun e => e ▸ hm)⟩
    · rw [if_pos ⟨h0, hn, hm⟩]; simp
  refine ⟨by omega, by omega, h.tidy.put (kI_key x) _, fun y => ?_, ?_, fun y => ?_⟩
  · by_cases e : y = x
    · subst e
      rw [has_put_same h.tidy.isMap (kI_key _)]
      simp [mem]
    · rw [has_put_other (kI_ne e), h.has' y]
      simp [mem, e]
  · rw [size_put h.tidy, h.has' x, h.size', onceF_snoc]
    unfold o1
    by_cases hm : x ∈ onceF l n
    · rw [if_pos (decide_eq_true hm), if_neg (fun a => a.2.2 hm)]
    · rw [if_neg (by simpa using hm), if_pos ⟨h0, hn, hm⟩]; simp
  · by_cases e : y = x
    · subst e
      exact ⟨c' + 1, by rw [atKey_put_same h.tidy.isMap (kI_key _)]; rfl, by simp; omega, by simp [mem]⟩
    · obtain ⟨d, g1, g2, g3⟩ := h.cnt y
      exact ⟨d, by rw [atKey_put_other (kI_ne e)]; exact g1, by simp; omega, by rw [g3, mem]; simp [e]⟩

/-- block B is the tally of l -/
def Tl (w : World) (B : Nat) (l : List Int) (n : Int) : Prop := ∃ D : DataW Unit, w.ownsMap Try.prog 3 (plainElem Try.prog 3) B l.length D ∧ Tly D l n
theorem Tl.below {w w1 : World} {B : Nat} {l : List Int} {n : Int} (h : Tl w B l n) (hb : Below w.heap.size w w1) : Tl w1 B l n := by
  obtain ⟨D, h1, h2⟩ := h
  refine ⟨D, ?_, h2⟩
  have hlt := h1.lt
  obtain ⟨es, clock, h3, F, hs, hD⟩ := h1
  exact ⟨es, clock, (hb.block B hlt).trans h3, F, hs, hD⟩
set_option maxRecDepth 100000 in
set_option maxHeartbeats 2000000 in
theorem counts_any (w : World) (A : Option Addr) (c : Nat) (l : List Int) (hs : Sl (num .i64) w A c l) (hw : ∀ x ∈ l, wfI x) (len : Nat) (hlen : len = l.length) (h1000 : len ≤ 1000) (n : Int) (hn : wfI n) :
    Calls Try.prog 50 #[.slice A len c, .int .i64 n] w fun e w' => e = .returned (.map (some w.heap.size)) ∧ Tl w' w.heap.size l n ∧ Below w.heap.size w w' := by
  have hmm := @run_makeMap Try.prog
  have HS := Sd.mk hs
  have HW := Sd.mk hw
  have HN := Sd.mk hlen
  clear hs hw hlen
  go_enter Try.func50, Try.ntmps50
  go_wp2
  go_loopw [11] (fun i wr => ∃ k : Nat, k ≤ len ∧ i = .int .i64 k ∧ Tl wr w.heap.size (l.take k) n ∧ Below w.heap.size w wr)
    (fun i _ => len - (intOf i).toNat)
  case atStart => exact ⟨0, Nat.zero_le _, rfl, ⟨.map [], World.ownsMap_made _ _ _ _, tly_nil n⟩, (Below.refl _ _).alloc (Nat.le_refl _) _⟩
  case round =>
    obtain ⟨k, hk, rfl, ⟨D, hown, hT⟩, hnx⟩ := hrel
    by_cases hlt : k < len
    · have hki : (k : Int) < len := by omega
      have hkl : k < l.length := by rw [← HN.out]; exact hlt
      obtain ⟨x, hx⟩ : ∃ x, l[k]'hkl = x := ⟨_, rfl⟩
      obtain ⟨b, o, rfl, hc⟩ := num_at HS.out.row hkl
      rw [hx] at hc
      have hcx := cell_below hnx hc
      have wfx : wfI x := HW.out x (by rw [← hx]; exact List.getElem_mem _)
      have hkey : keyOf Try.prog 3 (.int .i64 x) = some (kI x) := keyOf_int_mk Try.underlying3 wfx
      have ix : IsI64 x := i64_of wfx
      have HTK := Sd.mk (show l.take (k + 1) = l.take k ++ [x] by rw [List.take_add_one, List.getElem?_eq_getElem hkl, hx]; rfl)
      have HL := Sd.mk (show (l.take k).length = k by rw [List.length_take]; omega)
      rw [HL.out] at hown
      have hT0 := Sd.mk hT
      clear hx hc hkl wfx hT
      by_cases h0 : 0 ≤ x
      · by_cases hxn : x < n
        · have HQ := Sd.mk (⟨h0, hxn⟩ : 0 ≤ x ∧ x < n)
          have d0 : decide (0 ≤ x) = true := decide_eq_true h0
          have d1 : decide (x < n) = true := decide_eq_true hxn
          go_wp2_with (first
            | (at_lookup; refine wpList_lookup_own_int _ rfl _ _ 73 rfl 3 3 .i64 keyed Try.underlying73 Try.underlying3 (zeroI _) w.heap.size k _ rfl hown _ _ rfl hkey ?_; intro c2 hat hwc
               obtain ⟨g0, g1, g2⟩ := (tly_put hT0.out HQ.out.1 HQ.out.2 hat)
               rw [HL.out] at g1
               have hwc2 := Sd.mk (wf_of (x := c2 + 1) ⟨by omega, by omega⟩)
               have HG := Sd.mk g2
               clear g2 hat hwc)
            | (at_mapUpdate; refine wpList_mapUpdate_own _ rfl _ _ _ 73 rfl 3 3 keyed Try.underlying73 _ w.heap.size k _ rfl hown (by unfold maxLen; omega) _ _ _ rfl rfl hkey _ [] (plainElem_int Try.underlying3 hwc2.out) ?_; intro w1 hown1 hgrow1)
            | go_in)
          go_roundw
          case rel => exact ⟨k + 1, by omega, by go_num, ⟨_, by rw [HTK.out, List.length_append, HL.out]; exact hown1, by rw [HTK.out]; exact HG.out⟩, hnx.grown hgrow1 hnx.size (fun j hj => by cases hj; exact Nat.le_refl _)⟩
          case measure => simp [intOf]; omega
        · have d0 : decide (0 ≤ x) = true := decide_eq_true h0
          have d1 : decide (x < n) = false := decide_eq_false hxn
          have HG := Sd.mk (tly_skip hT0.out (x := x) (fun a => hxn a.2))
          have HO := Sd.mk hown
          clear hown
          go_wp2
          go_roundw
          case rel => exact ⟨k + 1, by omega, by go_num, ⟨_, by rw [HTK.out, List.length_append, HL.out]; exact HO.out.mono (by omega), by rw [HTK.out]; exact HG.out⟩, hnx⟩
          case measure => simp [intOf]; omega
      · have d0 : decide (0 ≤ x) = false := decide_eq_false h0
        have HG := Sd.mk (tly_skip hT0.out (x := x) (fun a => h0 a.1))
        have HO := Sd.mk hown
        clear hown
        go_wp2
        go_roundw
        case rel => exact ⟨k + 1, by omega, by go_num, ⟨_, by rw [HTK.out, List.length_append, HL.out]; exact HO.out.mono (by omega), by rw [HTK.out]; exact HG.out⟩, hnx⟩
        case measure => simp [intOf]; omega
    · have hki : decide ((k : Int) < len) = false := decide_eq_false (by omega)
      have HE := Sd.mk (show l.take k = l from List.take_of_length_le (by rw [← HN.out]; omega))
      have HT := Sd.mk (⟨D, hown, hT⟩ : Tl wr w.heap.size (l.take k) n)
      clear hown hT
      go_wp2
      go_ret
      exact ⟨rfl, by have := HT.out; rw [HE.out] at this; exact this, hnx⟩
set_option maxHeartbeats 1000000 in
theorem distinct_any (w : World) (A : Option Addr) (c : Nat) (l : List Int) (hs : Sl (num .i64) w A c l) (hw : ∀ x ∈ l, wfI x) (len : Nat) (hlen : len = l.length) (h1000 : len ≤ 1000) (n : Int) (hn : wfI n) (m : Nat) (hm : (onceF l n).length = m) :
    Calls Try.prog 15 #[.slice A len c, .int .i64 n] w fun e w' => e = .returned (.int .i64 (m : Nat)) ∧ Below w.heap.size w w' := by
  have HC := Sd.mk (counts_any w A c l hs hw len hlen h1000 n hn)
  have HM := Sd.mk hm
  clear hs hw hlen hm
  go_enter Try.func15, Try.ntmps15
  go_wp2_with (first
    | (go_at_call 50; (with_reducible refine HC.out.mono ?_); rintro e w1 ⟨rfl, ⟨D, hown, hT⟩, hb⟩; have HB := Sd.mk hb; have HS := Sd.mk (hT.size'.trans HM.out); clear hT hb)
    | (at_len; refine wpList_len_own _ rfl _ 73 rfl 3 3 Try.underlying73 _ _ _ _ rfl hown ?_; rw [HS.out]))
  go_ret
  exact ⟨rfl, HB.out⟩
end Go.Proofs.Ytgleoeiiiadanaa.Cnts

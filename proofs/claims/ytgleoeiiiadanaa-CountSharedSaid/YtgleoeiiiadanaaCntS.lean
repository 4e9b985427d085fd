/- What two lists share: slices.DeleteFunc, count.Shared: walked. -/
import Derived.Shelf.SlIterI.Nil
import Derived.Shelf.SortM.Plain
import Derived.Shelf.SortM.SortNone
import Derived.Lib.SliceRun
import Derived.Lib.SlKeysI
import Derived.Lib.LazyBuf
import Derived.Deep.Upon
import Derived.Laws.IdiomCopy
import Derived.BigFrame
import Derived.Test.YtgleoeiiiadanaaCntG
set_option linter.unusedVariables false
set_option linter.unusedSimpArgs false
namespace Go.Proofs.Ytgleoeiiiadanaa.Cnts
open Go.RowKit Go.Maps Go.Shelf Rd Api _root_.Go.Proofs.Ytgleoeiiiadanaa.Own Mv Top Gat

/-- the closure's map: how often a number is in b -/
structure Cl (Bx By : Nat) (b : List Int) (n : Int) (W : World) : Prop where
  box : W.cell? ⟨Bx, 0, none⟩ = some (.map (some By))
  tly : Tl W By b n
theorem Cl.below {Bx By : Nat} {b : List Int} {n : Int} {W W1 : World} (h : Cl Bx By b n W) (hb : Below W.heap.size W W1) : Cl Bx By b n W1 := ⟨cell_below hb h.box, h.tly.below hb⟩
theorem Tl.lt {w : World} {B : Nat} {l : List Int} {n : Int} (h : Tl w B l n) : B < w.heap.size := by obtain ⟨D, h1, -⟩ := h; exact h1.lt
theorem Cl.keep {Bx By g : Nat} {b : List Int} {n : Int} {W W1 : World} (h : Cl Bx By b n W) (hk : ∀ i, i < W.heap.size → i ≠ g → W1.heap[i]? = W.heap[i]?) (hx : Bx ≠ g) (hy : By ≠ g) : Cl Bx By b n W1 := by
  refine ⟨?_, ?_⟩
  · have h1 := h.box
    have h2 := hk Bx (World.block_lt_of_cell? _ _ h1) hx
    unfold World.cell? at h1 ⊢
    rw [h2]; exact h1
  · have hlt := h.tly.lt
    obtain ⟨D, ⟨es, clock, h3, F, hs, hD⟩, h2⟩ := h.tly
    exact ⟨D, ⟨es, clock, (hk By hlt hy).trans h3, F, hs, hD⟩, h2⟩
/-- what stays of a list -/
def kept (b : List Int) (n : Int) (l : List Int) : List Int := l.filter (fun x => decide (x ∈ onceF b n))
theorem kept_yes {b : List Int} {n : Int} {l : List Int} {j : Nat} {x : Int} (hx : l[j]? = some x) (h : x ∈ onceF b n) : kept b n (l.take (j + 1)) = kept b n (l.take j) ++ [x] := by
  rw [take_snoc hx]; unfold kept; rw [List.filter_append]; simp [h]
theorem kept_no {b : List Int} {n : Int} {l : List Int} {j : Nat} {x : Int} (hx : l[j]? = some x) (h : x ∉ onceF b n) : kept b n (l.take (j + 1)) = kept b n (l.take j) := by
  rw [take_snoc hx]; unfold kept; rw [List.filter_append]; simp [h]
theorem kept_all {b : List Int} {n : Int} {l : List Int} (h : ∀ x ∈ l, x ∈ onceF b n) : kept b n l = l := by
  unfold kept; exact List.filter_eq_self.2 (fun x hx => by simpa using h x hx)
set_option maxRecDepth 100000 in
set_option maxHeartbeats 2000000 in
theorem del_any (W : World) {Bx By : Nat} {b : List Int} {n : Int} (h : Cl Bx By b n W) (x : Int) (hx : wfI x) (r : Bool) (hr : r = true ↔ x ∉ onceF b n) :
    Calls Try.prog 55 #[.int .i64 x, .pointer (some ⟨Bx, 0, none⟩)] W fun e w' => e = .returned (.bool r) ∧ w' = W := by
  have c0 := h.box
  obtain ⟨D, hown, hT⟩ := h.tly
  obtain ⟨k, hk, -, hk0⟩ := hT.cnt x
  have HK := Sd.mk hk
  have hkey : keyOf Try.prog 3 (.int .i64 x) = some (kI x) := keyOf_int_mk Try.underlying3 hx
  clear h hT hk hx
  cases r with
  | true =>
    obtain rfl : k = 0 := hk0.2 (hr.1 rfl)
    clear hk0 hr
    go_enter Try.func55, Try.ntmps55
    go_wp2_with (first
      | (at_lookup; refine wpList_lookup_own_int _ rfl _ _ 73 rfl 3 3 .i64 keyed Try.underlying73 Try.underlying3 (zeroI _) By b.length _ rfl hown _ _ rfl hkey ?_; intro c2 hat hwc; obtain rfl : c2 = 0 := (by have := HK.out.symm.trans hat; simpa using this.symm); clear hat hwc)
      | go_in)
    go_ret
    exact ⟨rfl, rfl⟩
  | false =>
    have hk1 : 1 ≤ k := by
      rcases Nat.eq_zero_or_pos k with e | e
      · exact absurd (hr.2 (hk0.1 e)) (by simp)
      · exact e
    have d0 : ((k : Int) == 0) = false := beq_eq_false_iff_ne.2 (by omega)
    have d1 : ¬ k = 0 := by omega
    clear hk0 hr
    go_enter Try.func55, Try.ntmps55
    go_wp2_with (first
      | (at_lookup; refine wpList_lookup_own_int _ rfl _ _ 73 rfl 3 3 .i64 keyed Try.underlying73 Try.underlying3 (zeroI _) By b.length _ rfl hown _ _ rfl hkey ?_; intro c2 hat hwc; obtain rfl : c2 = (k : Int) := (by have := HK.out.symm.trans hat; simpa using this.symm); clear hat hwc)
      | go_in)
    go_ret
    exact ⟨rfl, rfl⟩
set_option maxRecDepth 100000 in
set_option maxHeartbeats 2000000 in
theorem index_any (W : World) (A : Option Addr) (c : Nat) (l : List Int) (hs : Sl (num .i64) W A c l) (hw : ∀ x ∈ l, wfI x) (len : Nat) (hlen : len = l.length) {Bx By : Nat} {b : List Int} {n : Int} (hC : Cl Bx By b n W) :
    Calls Try.prog 69 #[.slice A len c, .func (.func 55) #[] #[.pointer (some ⟨Bx, 0, none⟩)]] W fun e w' => w' = W ∧
      ((e = .returned (.int .i64 (-1)) ∧ ∀ x ∈ l, x ∈ onceF b n) ∨ ∃ k x, e = .returned (.int .i64 (k : Nat)) ∧ k < len ∧ l[k]? = some x ∧ x ∉ onceF b n ∧ ∀ x ∈ l.take k, x ∈ onceF b n) := by
  have HS := Sd.mk hs
  have HW := Sd.mk hw
  have HN := Sd.mk hlen
  have HC := Sd.mk hC
  have lc := Nat.le_trans hs.le hs.cap
  rw [← hlen] at lc
  clear hs hw hlen hC
  go_enter Try.func69, Try.ntmps69
  go_wp2
  go_loopg [8] len (fun gk v8 wr => ∃ i, i + gk = len ∧ v8 = .int .i64 (i : Nat) ∧ Sd (∀ x ∈ l.take i, x ∈ onceF b n) ∧ Sd (wr = W))
  case atStart => exact ⟨0, by omega, rfl, ⟨fun x hx => by simp at hx⟩, ⟨rfl⟩⟩
  case round =>
    obtain ⟨i, hi, rfl, HL, HE⟩ := hrel
    obtain rfl := HE.out
    by_cases hlt : i < len
    · have hii : (i : Int) < len := by omega
      have hil : i < l.length := by rw [← HN.out]; exact hlt
      obtain ⟨x, hx⟩ : ∃ x, l[i]'hil = x := ⟨_, rfl⟩
      obtain ⟨b', o, rfl, c0⟩ := num_at HS.out.row hil
      rw [hx] at c0
      have HX := Sd.mk (show l[i]? = some x by rw [List.getElem?_eq_getElem hil, hx])
      have HWX := Sd.mk (HW.out x (by rw [← hx]; exact List.getElem_mem _))
      clear hx hil
      obtain ⟨r, hr⟩ : ∃ r : Bool, r = true ↔ x ∉ onceF b n := ⟨decide (x ∉ onceF b n), by simp⟩
      have HR := Sd.mk hr
      clear hr
      cases r with
      | true =>
        have HNB := Sd.mk (HR.out.1 rfl)
        go_wp2_with (first
          | (go_at_call 55; (with_reducible refine (del_any _ HC.out x HWX.out true ⟨fun _ => HNB.out, fun _ => rfl⟩).mono ?_); rintro e w2 ⟨rfl, rfl⟩))
        go_ret
        exact ⟨rfl, .inr ⟨i, x, rfl, hlt, HX.out, HNB.out, HL.out⟩⟩
      | false =>
        have HL2 := Sd.mk (show ∀ y ∈ l.take (i + 1), y ∈ onceF b n from fun y hy => by
          rw [take_snoc HX.out] at hy
          rcases List.mem_append.1 hy with h | h
          · exact HL.out y h
          · rw [List.mem_singleton] at h; subst h
            exact Classical.byContradiction fun e => by have := HR.out.2 e; cases this)
        go_wp2_with (first
          | (go_at_call 55; (with_reducible refine (del_any _ HC.out x HWX.out false HR.out).mono ?_); rintro e w2 ⟨rfl, rfl⟩))
        go_roundg (gk - 1)
        case measure => omega
        case rel => exact ⟨i + 1, by omega, by go_num, HL2, ⟨rfl⟩⟩
    · have hii : decide (i < len) = false := decide_eq_false (by omega)
      have HA := Sd.mk (show ∀ x ∈ l, x ∈ onceF b n by have := HL.out; rwa [List.take_of_length_le (by rw [← HN.out]; omega)] at this)
      go_wp2
      go_ret
      exact ⟨rfl, .inl ⟨rfl, HA.out⟩⟩
/-- amid the deleting -/
structure Dl (W0 : World) (B0 g Bx By : Nat) (b : List Int) (n : Int) (ss : List Int) (j : Nat) (wr : World) : Prop where
  low : ∀ t x, (kept b n (ss.take j))[t]? = some x → wr.cell? ⟨g, t, none⟩ = some (.int .i64 x)
  high : ∀ t x, j ≤ t → ss[t]? = some x → wr.cell? ⟨g, t, none⟩ = some (.int .i64 x)
  mid : ∀ t, t < ss.length → (wr.cell? ⟨g, t, none⟩).isSome = true
  frz : ∀ t, t < ss.length → wr.frozen? ⟨g, t, none⟩ = false
  cl : Cl Bx By b n wr
  bel : Below B0 W0 wr
  ge : B0 ≤ g
  nx : Bx ≠ g
  ny : By ≠ g
theorem Dl.skip {W0 : World} {B0 g Bx By : Nat} {b : List Int} {n : Int} {ss : List Int} {j : Nat} {wr : World} (h : Dl W0 B0 g Bx By b n ss j wr) {x : Int} (hx : ss[j]? = some x) (hn : x ∉ onceF b n) : Dl W0 B0 g Bx By b n ss (j + 1) wr :=
  { h with low := fun t y hy => h.low t y (by rw [kept_no hx hn] at hy; exact hy), high := fun t y ht hy => h.high t y (by omega) hy }
theorem Dl.keep {W0 : World} {B0 g Bx By : Nat} {b : List Int} {n : Int} {ss : List Int} {j : Nat} {wr : World} (h : Dl W0 B0 g Bx By b n ss j wr) {x : Int} (hx : ss[j]? = some x) (hn : x ∈ onceF b n) {p : Nat} (hp : (kept b n (ss.take j)).length = p) (hpj : p ≤ j) :
    Dl W0 B0 g Bx By b n ss (j + 1) (wr.setCell ⟨g, p, none⟩ (.int .i64 x)) := by
  have hj := (List.getElem?_eq_some_iff.1 hx).1
  obtain ⟨u, hu⟩ := Option.isSome_iff_exists.1 (h.mid p (by omega))
  have oth : ∀ t, t ≠ p → (wr.setCell ⟨g, p, none⟩ (.int .i64 x)).cell? ⟨g, t, none⟩ = wr.cell? ⟨g, t, none⟩ := fun t ht => World.cell?_setCell_other _ _ _ _ (by intro e; apply ht; simpa using (congrArg Addr.off e).symm)
  refine ⟨fun t y hy => ?_, fun t y ht hy => ?_, fun t ht => ?_, fun t ht => by rw [World.frozen?_setCell]; exact h.frz t ht, h.cl.keep (g := g) (fun i _ hi => heap_set _ _ _ _ _ hi) h.nx h.ny, h.bel.setCell h.ge _, h.ge, h.nx, h.ny⟩
  · rw [kept_yes hx hn, List.getElem?_append] at hy
    split at hy
    · rename_i hlt
      rw [oth t (by omega)]; exact h.low t y hy
    · rename_i hlt
      have ht : t = p := by
        rcases Nat.lt_or_ge (t - (kept b n (ss.take j)).length) 1 with e | e
        · omega
        · rw [List.getElem?_eq_none (by simpa using e)] at hy; cases hy
      subst ht
      rw [hp, Nat.sub_self] at hy
      cases hy
      exact World.cell?_setCell_same _ _ _ hu
  · rw [oth t (by omega)]; exact h.high t y (by omega) hy
  · by_cases e : t = p
    · subst e; rw [World.cell?_setCell_same _ _ _ hu]; rfl
    · rw [oth t e]; exact h.mid t ht
set_option maxRecDepth 100000 in
set_option maxHeartbeats 4000000 in
theorem deletes_any (W0 : World) (B0 : Nat) {g c : Nat} (ss : List Int) (hc : ss.length ≤ c) (hc2 : c ≤ 9223372036854775807) (hw : ∀ x ∈ ss, wfI x) (len : Nat) (hlen : len = ss.length) {Bx By : Nat} {b : List Int} {n : Int} (h0 : Dl W0 B0 g Bx By b n ss 0 W0) :
    Calls Try.prog 53 #[.slice (some ⟨g, 0, none⟩) len c, .func (.func 55) #[] #[.pointer (some ⟨Bx, 0, none⟩)]] W0 fun e w' => ∃ k, e = .returned (.slice (some ⟨g, 0, none⟩) k c) ∧ k = (kept b n ss).length ∧ k ≤ len ∧
      (∀ t x, (kept b n ss)[t]? = some x → w'.cell? ⟨g, t, none⟩ = some (.int .i64 x)) ∧ Below B0 W0 w' := by
  have HD := Sd.mk h0
  have HW := Sd.mk hw
  have HN := Sd.mk hlen
  have HSL := Sd.mk (show Sl (num .i64) W0 (some ⟨g, 0, none⟩) c ss from ⟨hc, hc2, fun i x hx => ⟨g, 0, [.int .i64 x], rfl, rfl, fun t v hv => by
    cases t with
    | zero => simp only [List.getElem?_cons_zero, Option.some.injEq] at hv; subst hv; have := h0.high i x (Nat.zero_le _) hx; simpa [num] using this
    | succ t => simp at hv⟩⟩)
  rw [← hlen] at hc
  clear hw hlen h0
  have HI := Sd.mk (index_any W0 _ c ss HSL.out HW.out len HN.out HD.out.cl)
  have z3 : ∀ w, (zeroValue 3).run Try.prog w = .ok (.int .i64 0) w := zeroI
  go_enter Try.func53, Try.ntmps53
  go_upto_region 2 with (first
    | (go_at_call 69; (with_reducible refine HI.out.mono ?_); rintro e w1 ⟨rfl, (⟨rfl, ha⟩ | ⟨k, x, rfl, hk, hx, hn, ha⟩)⟩))
  · have HA := Sd.mk (kept_all ha)
    clear ha
    go_wp2
    go_ret
    refine ⟨len, rfl, by rw [HA.out]; exact HN.out, Nat.le_refl _, fun t x hx => ?_, Below.refl _ _⟩
    rw [HA.out] at hx
    exact HD.out.high t x (Nat.zero_le _) hx
  · have hkt : kept b n (ss.take k) = ss.take k := kept_all ha
    have H1 := Sd.mk (show Dl w1 B0 g Bx By b n ss (k + 1) w1 from Dl.skip (j := k) { HD.out with low := fun t y hy => (by rw [hkt, List.getElem?_take] at hy; split at hy; exact HD.out.high t y (Nat.zero_le _) hy; cases hy), high := fun t y ht hy => HD.out.high t y (Nat.zero_le _) hy } hx hn)
    have HK1 := Sd.mk (show (kept b n (ss.take (k + 1))).length = k by rw [kept_no hx hn, hkt, List.length_take]; rw [← HN.out]; omega)
    have dk : ((k : Int) == -1) = false := by rw [beq_eq_false_iff_ne]; intro h; omega
    clear hx hn ha hkt
    go_wp2
    go_loopg [5, 6, 7] (len - (k + 1)) (fun gk v5 v6 v7 wr => ∃ p j, j + gk = len ∧ p < j ∧ v5 = .int .i64 (p : Nat) ∧ v6 = .int .i64 (j : Nat) ∧ Sd ((kept b n (ss.take j)).length = p) ∧ Sd (Dl w1 B0 g Bx By b n ss j wr))
    case atStart => exact ⟨k, k + 1, by omega, by omega, rfl, by go_num, HK1, H1⟩
    case round =>
      clear H1 HK1
      obtain ⟨p, j, hj, hpj, rfl, rfl, HK, HD1⟩ := hrel
      by_cases hlt : j < len
      · have hji : (j : Int) < len := by omega
        obtain ⟨x, hx⟩ : ∃ x, ss[j]? = some x := ⟨ss[j]'(by rw [← HN.out]; exact hlt), List.getElem?_eq_getElem _⟩
        have HX := Sd.mk hx
        have HWX := Sd.mk (HW.out x (List.mem_of_getElem? hx))
        have c0 := HD1.out.high j x (Nat.le_refl _) hx
        have cp := Option.isSome_iff_exists.1 (HD1.out.mid p (by rw [← HN.out]; omega))
        obtain ⟨u, c1⟩ := cp
        have f1 := HD1.out.frz p (by rw [← HN.out]; omega)
        have hpl : p < len := by omega
        obtain ⟨r, hr⟩ : ∃ r : Bool, r = true ↔ x ∉ onceF b n := ⟨decide (x ∉ onceF b n), by simp⟩
        clear hx
        cases r with
        | true =>
          have HNB := Sd.mk (hr.1 rfl)
          have HK2 := Sd.mk (show (kept b n (ss.take (j + 1))).length = p by rw [kept_no HX.out HNB.out]; exact HK.out)
          have HD2 := Sd.mk (HD1.out.skip HX.out HNB.out)
          clear hr
          go_wp2_with (first
            | (go_at_call 55; (with_reducible refine (del_any _ HD1.out.cl x HWX.out true ⟨fun _ => HNB.out, fun _ => rfl⟩).mono ?_); rintro e w2 ⟨rfl, rfl⟩))
          go_roundg (gk - 1)
          case measure => omega
          case rel => exact ⟨p, j + 1, by omega, by omega, rfl, by go_num, HK2, HD2⟩
        | false =>
          have HNB := Sd.mk (show x ∈ onceF b n from Classical.byContradiction fun e => by have := hr.2 e; cases this)
          have HK2 := Sd.mk (show (kept b n (ss.take (j + 1))).length = p + 1 by rw [kept_yes HX.out HNB.out, List.length_append, HK.out]; rfl)
          have HD2 := Sd.mk (HD1.out.keep HX.out HNB.out HK.out (by omega))
          clear hr
          go_wp2_with (first
            | (go_at_call 55; (with_reducible refine (del_any _ HD1.out.cl x HWX.out false ⟨fun e => Bool.noConfusion e, fun e => absurd HNB.out e⟩).mono ?_); rintro e w2 ⟨rfl, rfl⟩))
          go_roundg (gk - 1)
          case measure => omega
          case rel => exact ⟨p + 1, j + 1, by omega, by omega, by go_num, by go_num, HK2, HD2⟩
      · have hji : decide (j < len) = false := decide_eq_false (by omega)
        have hpl : p < len := by omega
        have HE := Sd.mk (show kept b n (ss.take j) = kept b n ss by rw [List.take_of_length_le (by rw [← HN.out]; omega)])
        have hcl : ∀ ty, (Builtin.clear_ #[22] ty #[.slice (some ⟨g, p, none⟩) (len - p) (c - p)]).run Try.prog wr = .ok (.tuple #[]) (wr.setCells g p (List.replicate (len - p) (.int .i64 0))) :=
          fun ty => Lib.run_clear_slice wr _ _ ty _ Try.underlying22 z3 rfl rfl g p _ _ (by omega) (fun t ht => HD1.out.mid (p + t) (by rw [← HN.out]; omega)) (fun t ht => HD1.out.frz (p + t) (by rw [← HN.out]; omega))
        go_wp2
        go_ret
        refine ⟨p, rfl, by rw [← HE.out]; exact HK.out.symm, by omega, fun t x hx => ?_, below_setCells HD1.out.ge _ _ _ HD1.out.bel⟩
        rw [← HE.out] at hx
        have ht := (List.getElem?_eq_some_iff.1 hx).1
        rw [HK.out] at ht
        rw [World.cell?_setCells_out _ _ _ _ _ (fun _ _ => .inl ht)]
        exact HD1.out.low t x hx
theorem flat_num : ∀ l : List Int, flat fN l = l.map (Value.int .i64)
  | [] => rfl
  | x :: l => by
    have := flat_num l
    unfold flat at this ⊢
    rw [List.flatMap_cons, this]; rfl
/-- the keys of a tally -/
theorem tly_keys {w : World} {B k : Nat} {l : List Int} {n : Int} {D : DataW Unit} (hown : w.ownsMap Try.prog 3 (plainElem Try.prog 3) B k D) (h : Tly D l n) : (onceF l n).Perm (intKeys D) := by
  obtain ⟨es, rfl, hp⟩ := h.tidy
  refine perm_intKeys hp ?_ (onceF_ok l n).1 (fun x => by rw [show (Lit.int .i64 x) = kI x from rfl, h.has' x]; simp)
  obtain ⟨es', e, hk⟩ := hown.keysOf
  cases e
  intro p hp'
  obtain ⟨v, hv⟩ := hk p hp'
  obtain ⟨x, _, h2, _⟩ := Maps.keyOf_i64 Try.underlying3 hv
  exact ⟨x, h2⟩
theorem keys_any (mb : Option Nat) (W : World) : Calls Try.prog 54 #[.map mb] W fun e w' => e = .returned (.func (.func 70) #[] #[.pointer (some ⟨W.heap.size, 0, none⟩)]) ∧ w' = W.alloc (.cells #[.map mb] 73) :=
  (callsIn_wide (n := 5)).1 (AnyZI.keys_in Try.keysI Fence.wide 5 trivial rfl mb W)
theorem sorts (m : Nat) : AnyZI.SortsIn Try.prog Try.sortedI_ren Fence.wide m :=
  ⟨fun blk off cap ss W hH hblk hsz => callsIn_wide.2 (AnyM.slices_Sort_int Try.srtI blk off cap ss W hH hblk hsz),
   fun p cap W => callsIn_wide.2 (AnyM.slices_Sort_int_none Try.srtI p cap W)⟩
theorem srtkeys_any (W : World) (Bm B : Nat) (l : List Int) (n : Int) (hl : l.length ≤ 1000) (hBm : W.cell? ⟨Bm, 0, none⟩ = some (.map (some B))) (hT : Tl W B l n) :
    Calls Try.prog 51 #[.func (.func 70) #[] #[.pointer (some ⟨Bm, 0, none⟩)]] W fun e w' => ∃ v ss, e = .returned v ∧ ss.Perm (onceF l n) ∧ ss.Pairwise (· ≤ ·) ∧ OwnR fN 1 w' W.heap.size 3 v ss ∧ Below W.heap.size W w' := by
  obtain ⟨D, hown, hT⟩ := hT
  have hp := tly_keys hown hT
  have hmax : Maps.size D ≤ 1000 := by rw [hT.size']; have := (onceF_ok l n).2.2; omega
  have hseq : SeqGives Fence.wide 2 Try.prog 70 #[.pointer (some ⟨Bm, 0, none⟩)] encZ (fun ss => ss.Perm (intKeys D)) (Maps.size D) W :=
    AnyZI.keys_gives (ρ := Try.keysI_ren) { Try.keysI with } Fence.wide _ trivial rfl (by omega) Bm B l.length D _ (World.block_lt_of_cell? _ _ hBm) hBm hown
  have cS := AnyZI.sorted_in Try.sortedI Fence.wide 5 trivial trivial trivial trivial rfl (by omega) (sorts _) (enters_of Try.func67 (by kernel_rfl) rfl) 70 #[.pointer (some ⟨Bm, 0, none⟩)] trivial (enters_of Try.func70 (by kernel_rfl) rfl) _ _ (by unfold maxLen; omega) (by omega) _ hseq
  change CallsIn _ _ Try.prog 51 _ _ _ at cS
  refine ((callsIn_wide (n := 5)).1 cS).mono ?_
  rintro e w' ⟨v, ss, rfl, hS, hrow, -, hb⟩
  refine ⟨v, srt ss, rfl, ((srt_perm ss).trans hS).trans hp.symm, srt_pair ss, ?_, hb⟩
  unfold OwnR
  rw [flat_num, srt_length]
  exact hrow
set_option maxHeartbeats 2000000 in
theorem deletes_none (W : World) {Bx By : Nat} {b : List Int} {n : Int} (hC : Cl Bx By b n W) :
    Calls Try.prog 53 #[.slice none 0 0, .func (.func 55) #[] #[.pointer (some ⟨Bx, 0, none⟩)]] W fun e w' => e = .returned (.slice none 0 0) ∧ w' = W := by
  have HI := Sd.mk (index_any W none 0 [] ⟨Nat.le_refl _, by omega, fun i x hx => by simp at hx⟩ (fun x hx => by simp at hx) 0 rfl hC)
  go_enter Try.func53, Try.ntmps53
  go_wp2_with (first
    | (go_at_call 69; (with_reducible refine HI.out.mono ?_); rintro e w1 ⟨rfl, (⟨rfl, ha⟩ | ⟨k, x, rfl, hk, -⟩)⟩; rotate_left; exact absurd hk (Nat.not_lt_zero _)))
  go_ret
  exact ⟨rfl, rfl⟩
/-- what the deleting leaves -/
theorem delete_own (W : World) (B0 : Nat) {v : Value} {ss : List Int} (h : OwnR fN 1 W B0 3 v ss) (hw : ∀ x ∈ ss, wfI x) {Bx By : Nat} {b : List Int} {n : Int} (hC : Cl Bx By b n W) (hx : Bx < B0) (hy : By < B0) :
    Calls Try.prog 53 #[v, .func (.func 55) #[] #[.pointer (some ⟨Bx, 0, none⟩)]] W fun e w' => ∃ A k c, e = .returned (.slice A k c) ∧ k = (kept b n ss).length ∧ Sl (num .i64) w' A c (kept b n ss) ∧ Below B0 W w' := by
  rcases h.2 with ⟨rfl, hz⟩ | ⟨g, cap, cur, rfl, hbase, hgb, r1, r2, r3, r4⟩
  · have e : ss = [] := List.eq_nil_of_length_eq_zero hz
    subst e
    refine (deletes_none W hC).mono ?_
    rintro e w' ⟨rfl, rfl⟩
    exact ⟨none, 0, 0, rfl, rfl, ⟨Nat.le_refl _, by omega, fun i x hx => by simp [kept] at hx⟩, Below.refl _ _⟩
  · have hsz : ss.length ≤ cur.size := by omega
    have hcell : ∀ t x, ss[t]? = some x → W.cell? ⟨g, t, none⟩ = some (.int .i64 x) := fun t x hx => by
      have ht := (List.getElem?_eq_some_iff.1 hx).1
      refine blk_at hgb t _ ?_
      have e2 : (cur.toList.take (ss.length * 1))[t]? = (flat fN ss)[t]? := by rw [r4]
      rw [List.getElem?_take_of_lt (by omega), flat_num, List.getElem?_map, hx] at e2
      rw [← Array.getElem?_toList]; exact e2
    have h0 : Dl W B0 g Bx By b n ss 0 W := ⟨fun t x hx => by simp [kept] at hx, fun t x _ hx => hcell t x hx, fun t ht => by rw [hcell t _ (List.getElem?_eq_getElem ht)]; rfl, fun t _ => blk_frz hgb t, hC, Below.refl _ _, hbase, by omega, by omega⟩
    refine (deletes_any W B0 ss r1 (by unfold maxLen at r2; omega) hw ss.length rfl h0).mono ?_
    rintro e w' ⟨k, rfl, hk, hkl, hc, hb⟩
    exact ⟨_, k, cap, rfl, hk, ⟨by omega, by unfold maxLen at r2; omega, fun i x hx => ⟨g, 0, [.int .i64 x], rfl, rfl, fun t u hu => by
      cases t with
      | zero => simp only [List.getElem?_cons_zero, Option.some.injEq] at hu; subst hu; have := hc i x hx; simpa [num] using this
      | succ t => simp at hu⟩⟩, hb⟩
set_option maxRecDepth 100000 in
set_option maxHeartbeats 4000000 in
theorem shared_any (w : World) (A B : Option Addr) (c d : Nat) (a b : List Int) (ha : Sl (num .i64) w A c a) (hb : Sl (num .i64) w B d b) (hwa : ∀ x ∈ a, wfI x) (hwb : ∀ x ∈ b, wfI x) (la lb : Nat) (hla : la = a.length) (hlb : lb = b.length) (ha1 : la ≤ 1000) (hb1 : lb ≤ 1000) (n : Int) (hn : wfI n) :
    Calls Try.prog 18 #[.slice A la c, .slice B lb d, .int .i64 n] w fun e w' => ∃ A' k c' ls, e = .returned (.slice A' k c') ∧ k = ls.length ∧ Sl (num .i64) w' A' c' ls ∧ ls.Pairwise (· < ·) ∧ (∀ x, x ∈ ls ↔ x ∈ onceF a n ∧ x ∈ onceF b n) ∧ Below w.heap.size w w' := by
  have HA := Sd.mk ha
  have HB := Sd.mk hb
  have HWA := Sd.mk hwa
  have HWB := Sd.mk hwb
  have HLA := Sd.mk hla
  have HLB := Sd.mk hlb
  clear ha hb hwa hwb hla hlb
  go_enter Try.func18, Try.ntmps18
  go_upto_region 2 with (first
    | (go_at_call 50; (with_reducible refine (counts_any w A c a HA.out HWA.out la HLA.out ha1 n hn).mono ?_); rintro e w1 ⟨rfl, hT, hb1⟩; have HT1 := Sd.mk hT; have HB1 := Sd.mk hb1; clear hT hb1)
    | (go_at_call 50; (with_reducible refine (counts_any _ B d b (HB.out.below HB1.out) HWB.out lb HLB.out hb1 n hn).mono ?_); rintro e w2 ⟨rfl, hT, hb2⟩; have HT2 := Sd.mk hT; have HT3 := Sd.mk (HT1.out.below hb2); have HB2 := Sd.mk (below_then HB1.out hb2); clear hT hb2))
  have HC := Sd.mk (⟨blk_at (blk_new w2 _) 0 _ rfl, HT2.out.below (below_one _ _)⟩ : Cl w2.heap.size w1.heap.size b n (w2.alloc (.cells #[.map (some w1.heap.size)] 73)))
  have HTA := Sd.mk (HT3.out.below (below_one w2 (.cells #[.map (some w1.heap.size)] 73)))
  have HB3 := Sd.mk (below_then HB2.out (below_one w2 (.cells #[.map (some w1.heap.size)] 73)))
  have HLT := Sd.mk (show w2.heap.size < (w2.alloc (.cells #[.map (some w1.heap.size)] 73)).heap.size ∧ w1.heap.size < w2.heap.size from ⟨by simp, HT2.out.lt⟩)
  have HAL := Sd.mk (show a.length ≤ 1000 by rw [← HLA.out]; exact ha1)
  clear HT2 HT3 HB2 HT1 HB1
  generalize w2.alloc (.cells #[.map (some w1.heap.size)] 73) = W at HC HTA HB3 HLT ⊢
  go_wp2_with (first
    | (go_at_call 54; (with_reducible refine (keys_any _ _).mono ?_); rintro e w3 ⟨rfl, rfl⟩)
    | (go_at_call 51; (with_reducible refine (srtkeys_any _ W.heap.size w.heap.size a n HAL.out (blk_at (blk_new W _) 0 _ rfl) (HTA.out.below (below_one _ _))).mono ?_); rintro e w4 ⟨v, ss, rfl, hp, hs, ho, hb4⟩; have HP := Sd.mk hp; have HSS := Sd.mk hs; have HO := Sd.mk ho; have HB4 := Sd.mk hb4; clear hp hs ho hb4)
    | (go_at_call 53; (with_reducible refine (delete_own _ _ HO.out (fun x hx => HWA.out x (((onceF_ok a n).2.1 x).1 (HP.out.mem_iff.1 hx)).1) ((HC.out.below (below_one _ _)).below HB4.out) (by have := HLT.out; simp; omega) (by have := HLT.out; simp; omega)).mono ?_); rintro e w5 ⟨A', k, c', rfl, hk, hsl, hb5⟩; have HK := Sd.mk hk; have HSL := Sd.mk hsl; have HB5 := Sd.mk hb5; clear hk hsl hb5))
  go_ret
  have hnd : ss.Nodup := HP.out.nodup_iff.2 (onceF_ok a n).1
  refine ⟨A', k, c', kept b n ss, rfl, HK.out, HSL.out, ?_, fun x => ?_, ?_⟩
  · exact rises (HSS.out.filter _) (hnd.filter _)
  · unfold kept; rw [List.mem_filter, HP.out.mem_iff]; simp
  · have h4 := below_then HB3.out (below_then (below_one W (.cells #[.map (some w.heap.size)] 73)) HB4.out)
    exact h4.trans (HB5.out.mono (by have := HB3.out.size; simp; omega))
theorem refonce_sl (w : World) (A : Option Addr) (c : Nat) (l : List Int) (hs : Sl (num .i64) w A c l) (len : Nat) (hlen : len = l.length) (h1000 : len ≤ 1000) (n : Int) (m : Nat) (hm : (onceF l n).length = m) :
    Calls Try.prog 16 #[.slice A len c, .int .i64 n] w fun e w' => ∃ B d, e = .returned (.slice B m d) ∧ Sl (num .i64) w' B d (onceF l n) ∧ Below w.heap.size w w' :=
  (refonce_any w A c l hs len hlen h1000 n).mono fun e w' ⟨v, he, ho⟩ => by
    obtain ⟨B, d, hv, hs⟩ := own_num ho.own
    exact ⟨B, d, by rw [he, hv, hm], hs, ho.bel⟩
end Go.Proofs.Ytgleoeiiiadanaa.Cnts

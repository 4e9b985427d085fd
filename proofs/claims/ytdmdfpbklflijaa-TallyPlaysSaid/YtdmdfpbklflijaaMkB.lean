/- Signatures sorted by nodes: walked. Signatures cloned: walked; a row of the call's own, between two vocabularies. Signatures compacted: walked. cert.Make: walked. -/
import Derived.Test.YtdmdfpbklflijaaMkP
import Derived.Test.YtdmdfpbklflijaaIns
import Derived.Test.YtdmdfpbklflijaaMv
import Derived.Shelf.SlSortFuncK.ComposeK
import Derived.Lib.OwnBridge
import Derived.Lib.AppendIntMem
import Derived.Test.YtdmdfpbklflijaaApp
import Derived.Lib.LazyBuf
import Derived.Shelf.SlSortCmp.QuietGrown
import Derived.Lib.SliceRun
import Derived.BigFrame
import Derived.BigQuiet
import Derived.BigRegion
import Derived.Deep.CutRange
import Derived.Deep.RegionHeld3
set_option linter.unusedVariables false
set_option linter.unusedSimpArgs false
namespace Go.Proofs.Ytdmdfpbklflijaa.Mk
open Go.RowKit Go.Sort Go.Shelf Rd Api Mv

set_option maxHeartbeats 1000000 in
theorem isnan_any (w : World) (x : Int) : Calls Try.prog 93 #[.int .i64 x] w fun e w' => e = .returned (.bool false) ∧ w' = w := by
  go_enter Try.func93, Try.ntmps93
  go_wp2
  go_ret
  exact ⟨by simp, rfl⟩
set_option maxHeartbeats 1000000 in
theorem compare_any (w : World) (x y : Int) : Calls Try.prog 62 #[.int .i64 x, .int .i64 y] w fun e w' => e = .returned (.int .i64 (Go.Lib.compareInt x y)) ∧ w' = w := by
  unfold Go.Lib.compareInt
  by_cases h : x < y
  · have d : decide (x < y) = true := decide_eq_true h
    rw [if_pos h]
    go_enter Try.func62, Try.ntmps62
    go_wp2_with (first
      | (go_at_call 93; (with_reducible refine (isnan_any _ _).mono ?_); rintro e w1 ⟨rfl, rfl⟩))
    go_ret
    exact ⟨rfl, rfl⟩
  · have d : decide (x < y) = false := decide_eq_false h
    rw [if_neg h]
    by_cases h2 : x > y
    · have d2 : decide (y < x) = true := decide_eq_true h2
      rw [if_pos h2]
      go_enter Try.func62, Try.ntmps62
      go_wp2_with (first
        | (go_at_call 93; (with_reducible refine (isnan_any _ _).mono ?_); rintro e w1 ⟨rfl, rfl⟩))
      go_ret
      exact ⟨rfl, rfl⟩
    · have d2 : decide (y < x) = false := decide_eq_false h2
      rw [if_neg h2]
      go_enter Try.func62, Try.ntmps62
      go_wp2_with (first
        | (go_at_call 93; (with_reducible refine (isnan_any _ _).mono ?_); rintro e w1 ⟨rfl, rfl⟩))
      go_ret
      exact ⟨rfl, rfl⟩
set_option maxHeartbeats 1000000 in
theorem make1_any (x y : Raw) (W : World) : Calls Try.prog 61 #[.agg #[.int .i64 x.f, .slice x.a x.n x.c], .agg #[.int .i64 y.f, .slice y.a y.n y.c]] W fun e w' => e = .returned (.int .i64 (cfS x y)) ∧ ∃ q os', w' = grow (W.drewN q) os' := by
  have hcon := fun W' => compare_any W' x.f y.f
  unfold cfS
  generalize Go.Lib.compareInt x.f y.f = r at hcon ⊢
  go_enter Try.func61, Try.ntmps61
  go_wp2_with (go_at_call 62; refine (hcon _).mono ?_; rintro e w' ⟨rfl, rfl⟩)
  go_ret
  exact ⟨rfl, 0, _, by rw [alloc_eq_grow, alloc_eq_grow, grow_grow]; rfl⟩
set_option maxHeartbeats 1000000 in
theorem make2_any (x y : Raw) (W : World) (r : Bool) (hr : (x.f == y.f) = r) : Calls Try.prog 64 #[.agg #[.int .i64 x.f, .slice x.a x.n x.c], .agg #[.int .i64 y.f, .slice y.a y.n y.c]] W fun e w' => e = .returned (.bool r) ∧ ∃ q os', w' = grow (W.drewN q) os' := by
  go_enter Try.func64, Try.ntmps64
  go_wp2
  go_ret
  exact ⟨by simp [hr], 0, _, by rw [alloc_eq_grow, alloc_eq_grow, grow_grow]; rfl⟩
theorem cmp_lays (blk off size : Nat) (w : World) : CmpLays Try.prog 61 #[] fS 2 cfS blk off size w := fun _ _ _ _ x y => make1_any x y _
theorem enters1 : ∀ args w, (callFunc 61 args).run Try.prog w = .ok (.enter 61 args) w := enters_of Try.func61 (by kernel_rfl) rfl
theorem ins_any (blk cap a b : Nat) (d : Array Raw) (w : World) (hH : HoldsK fS 2 w blk 0 d) (hblk : blk < w.heap.size) (hab : a ≤ b) (hb : b ≤ d.size) (hsz : d.size < 4611686018427387904) (n : Nat) (hn : n = d.size) :
    Calls Try.prog 113 #[.slice (some ⟨blk, 0, none⟩) n cap, .int .i64 a, .int .i64 b, .func (.func 61) #[] #[]] w fun e w' => e = .returned (.tuple #[]) ∧ ∃ m os, w' = sortWorldK fS 2 w blk 0 m (Sort.insertionSort (fun x y => decide (cfS x y < 0)) d a b) os := by
  subst hn
  exact AnyQ.insertionSortCmpFunc Try.insSig 2 Try.isAgg39 Try.sizeOf39 fS (fun _ => rfl) (fun x v hv => by simp [fS] at hv; rcases hv with rfl | rfl <;> rfl) cfS 61 #[] blk 0 cap a b d w enters1 (cmp_lays blk 0 d.size w) hH hblk hab hb hsz
/-- the signatures, in a row of the call's own -/
structure St (w : World) (B0 g : Nat) (d : Array Raw) (W : World) : Prop where
  row : HoldsK fS 2 W g 0 d
  lt : g < W.heap.size
  bel : RowKit.Below B0 w W
  ge : B0 ≤ g
theorem St.sw {w : World} {B0 g : Nat} {d d' : Array Raw} {W : World} (h : St w B0 g d W) (hs : d'.size = d.size) (m : Nat) (os : Array Obj) : St w B0 g d' (sortWorldK fS 2 W g 0 m d' os) := by
  refine ⟨holdsK_sortWorldK_c fS 2 W g 0 d d' m os h.row h.lt hs, Nat.lt_of_lt_of_le h.lt (size_sortWorldK_c fS 2 W g 0 m d' os), ?_, h.ge⟩
  have h1 : RowKit.Below B0 w (putRowK fS 2 (Sort.ahead W m) g 0 d') := Go.Lib.below_putRow h.bel h.ge
  refine h1.trans ?_
  have h2 : B0 ≤ (putRowK fS 2 (Sort.ahead W m) g 0 d').heap.size := by rw [size_putRowK]; exact Nat.le_of_lt (Nat.lt_of_le_of_lt h.ge h.lt)
  exact Go.Lib.below_grow B0 _ h2 0 os
theorem St.grown {w : World} {B0 g : Nat} {d : Array Raw} {W : World} (h : St w B0 g d W) (n : Nat) (os : Array Obj) : St w B0 g d (grow (W.drewN n) os) :=
  ⟨holdsK_grow fS 2 _ os g 0 d h.lt h.row, by rw [size_grow]; exact Nat.lt_of_lt_of_le h.lt (Nat.le_add_right _ _), h.bel.trans (Go.Lib.below_grow B0 W (Nat.le_of_lt (Nat.lt_of_le_of_lt h.ge h.lt)) n os), h.ge⟩
def srtS (d : Array Raw) : Array Raw := Sort.insertionSort (fun x y => decide (cfS x y < 0)) d 0 d.size
theorem srt_size (d : Array Raw) : (srtS d).size = d.size := sort_len d
theorem ins_id (d : Array Raw) (n : Nat) : Sort.insertionSort (fun x y => decide (cfS x y < 0)) d n n = d := by
  unfold Sort.insertionSort
  rw [Sort.insOuter, if_neg (by omega)]
def Ins (W : World) (g cap n a b : Nat) (p : World → Prop) : Prop := Calls Try.prog 113 #[.slice (some ⟨g, 0, none⟩) n cap, .int .i64 a, .int .i64 b, .func (.func 61) #[] #[]] W fun e w' => e = .returned (.tuple #[]) ∧ p w'
theorem ins_st {w : World} {B0 g : Nat} {d : Array Raw} {W : World} (h : St w B0 g d W) (cap n : Nat) (hn : n = d.size) (h20 : n ≤ 20) :
    Ins W g cap n 0 n (fun w' => St w B0 g (srtS d) w') ∧ Ins W g cap n n n (fun w' => St w B0 g d w') := by
  constructor
  · refine (ins_any g cap 0 n d W h.row h.lt (by omega) (by omega) (by omega) n hn).mono ?_
    rintro e w1 ⟨rfl, m, os, rfl⟩
    refine ⟨rfl, ?_⟩
    subst hn
    exact h.sw (srt_size d) m os
  · refine (ins_any g cap n n d W h.row h.lt (by omega) (by omega) (by omega) n hn).mono ?_
    rintro e w1 ⟨rfl, m, os, rfl⟩
    rw [ins_id]
    exact ⟨rfl, h.sw rfl m os⟩
set_option maxHeartbeats 4000000 in
set_option maxRecDepth 100000 in
theorem stable_any {w : World} {B0 g cap : Nat} {d : Array Raw} {W : World} (h : St w B0 g d W) (n : Nat) (hn : n = d.size) (h20 : n ≤ 20) :
    Calls Try.prog 92 #[.slice (some ⟨g, 0, none⟩) n cap, .int .i64 n, .func (.func 61) #[] #[]] W fun e w' => e = .returned (.tuple #[]) ∧ St w B0 g (srtS d) w' := by
  by_cases e20 : n = 20
  · subst e20
    have HI := Sd.mk (show Calls Try.prog 113 #[.slice (some ⟨g, 0, none⟩) 20 cap, .int .i64 0, .int .i64 20, .func (.func 61) #[] #[]] W fun e w' => e = .returned (.tuple #[]) ∧ St w B0 g (srtS d) w' from (ins_st h cap 20 hn h20).1)
    have HI2 := Sd.mk (fun (W1 : World) (h1 : St w B0 g (srtS d) W1) => (show Calls Try.prog 113 #[.slice (some ⟨g, 0, none⟩) 20 cap, .int .i64 20, .int .i64 20, .func (.func 61) #[] #[]] W1 fun e w' => e = .returned (.tuple #[]) ∧ St w B0 g (srtS d) w' from (ins_st h1 cap 20 (by rw [srt_size]; exact hn) h20).2))
    clear h hn
    go_enter Try.func92, Try.ntmps92
    go_wp2
    go_loopg [7, 8] 1 (fun gk v7 v8 wr => (gk = 1 ∧ v7 = .int .i64 0 ∧ v8 = .int .i64 20 ∧ Sd (wr = W)) ∨ (gk = 0 ∧ v7 = .int .i64 20 ∧ v8 = .int .i64 40 ∧ Sd (St w B0 g (srtS d) wr)))
    case atStart => exact .inl ⟨rfl, rfl, rfl, ⟨rfl⟩⟩
    case round =>
      rcases hrel with ⟨rfl, rfl, rfl, HE⟩ | ⟨rfl, rfl, rfl, HE⟩
      · obtain rfl := HE.out.symm
        go_wp2_with (first
          | (go_at_call 113; (with_reducible refine HI.out.mono ?_); rintro e w1 ⟨rfl, hs⟩; have HS := Sd.mk hs; clear hs))
        go_roundg 0
        case measure => omega
        case rel => exact .inr ⟨rfl, rfl, rfl, HS⟩
      · go_wp2_with (first
          | (go_at_call 113; (with_reducible refine (HI2.out _ HE.out).mono ?_); rintro e w1 ⟨rfl, hs⟩; have HS := Sd.mk hs; clear hs))
        refine wp_loop_rounds 1 ?_
        rw [rounds_succ]
        go_wp2
        go_end0
        exact ⟨rfl, HS.out⟩
  · have HI := Sd.mk (show Calls Try.prog 113 #[.slice (some ⟨g, 0, none⟩) n cap, .int .i64 0, .int .i64 n, .func (.func 61) #[] #[]] W fun e w' => e = .returned (.tuple #[]) ∧ St w B0 g (srtS d) w' from (ins_st h cap n hn h20).1)
    have d0 : decide ((20 : Int) ≤ (n : Int)) = false := decide_eq_false (by omega)
    have d1 : decide (20 ≤ n) = false := decide_eq_false (by omega)
    have d2 : decide ((20 : Int) < (n : Int)) = false := decide_eq_false (by omega)
    have d3 : decide (20 < n) = false := decide_eq_false (by omega)
    clear h hn
    go_enter Try.func92, Try.ntmps92
    go_wp2
    refine wp_loop_rounds 1 ?_
    rw [rounds_succ]
    go_wp2_with (first
      | (go_at_call 113; (with_reducible refine HI.out.mono ?_); rintro e w1 ⟨rfl, hs⟩; have HS := Sd.mk hs; clear hs))
    refine wp_loop_rounds 1 ?_
    rw [rounds_succ]
    go_wp2
    go_end0
    exact ⟨rfl, HS.out⟩
set_option maxHeartbeats 1000000 in
theorem ins_none (p : Option Addr) (cap : Nat) (fv : Value) (w : World) : Calls Try.prog 113 #[.slice p 0 cap, .int .i64 0, .int .i64 0, fv] w fun e w' => e = .returned (.tuple #[]) ∧ w' = w := by
  go_enter Try.func113, Try.ntmps113
  go_wp2
  refine wp_loop_rounds 1 ?_
  rw [rounds_succ]
  go_wp2
  go_end0
  exact ⟨rfl, rfl⟩
set_option maxHeartbeats 1000000 in
theorem stable_none (p : Option Addr) (cap : Nat) (fv : Value) (w : World) : Calls Try.prog 92 #[.slice p 0 cap, .int .i64 0, fv] w fun e w' => e = .returned (.tuple #[]) ∧ w' = w := by
  go_enter Try.func92, Try.ntmps92
  go_wp2
  refine wp_loop_rounds 1 ?_
  rw [rounds_succ]
  go_wp2_with (first
    | (go_at_call 113; (with_reducible refine (ins_none _ _ _ _).mono ?_); rintro e w1 ⟨rfl, rfl⟩))
  refine wp_loop_rounds 1 ?_
  rw [rounds_succ]
  go_wp2
  go_end0
  exact ⟨rfl, rfl⟩
set_option maxHeartbeats 1000000 in
theorem sort_any {w : World} {B0 g cap : Nat} {d : Array Raw} {W : World} (h : St w B0 g d W) (n : Nat) (hn : n = d.size) (h20 : n ≤ 20) :
    Calls Try.prog 60 #[.slice (some ⟨g, 0, none⟩) n cap, .func (.func 61) #[] #[]] W fun e w' => e = .returned (.tuple #[]) ∧ St w B0 g (srtS d) w' := by
  have HS := Sd.mk (stable_any (cap := cap) h n hn h20)
  clear h hn
  go_enter Try.func60, Try.ntmps60
  go_wp2_with (first
    | (go_at_call 92; (with_reducible refine HS.out.mono ?_); rintro e w1 ⟨rfl, hs⟩; have HS2 := Sd.mk hs; clear hs))
  go_end0
  exact ⟨rfl, HS2.out⟩
set_option maxHeartbeats 1000000 in
theorem sort_none (p : Option Addr) (cap : Nat) (fv : Value) (w : World) : Calls Try.prog 60 #[.slice p 0 cap, fv] w fun e w' => e = .returned (.tuple #[]) ∧ w' = w := by
  go_enter Try.func60, Try.ntmps60
  go_wp2_with (first
    | (go_at_call 92; (with_reducible refine (stable_none _ _ _ _).mono ?_); rintro e w1 ⟨rfl, rfl⟩))
  go_end0
  exact ⟨rfl, rfl⟩
end Go.Proofs.Ytdmdfpbklflijaa.Mk
set_option linter.unusedVariables false
set_option linter.unusedSimpArgs false
namespace Go.Proofs.Ytdmdfpbklflijaa.Mk
open Go.RowKit Rd Api Own Mv App

def rawK : Rk Raw where
  sz := 2
  K := fun _ s cs => cs = fS s
  len := fun h => by rw [h]; rfl
  keep := fun _ h => h
theorem fS_one : ∀ x : Raw, ∀ u ∈ fS x, u.oneCell' = true := fun _ _ hu => by simp [fS] at hu; rcases hu with rfl | rfl <;> rfl
theorem raw_at {W : World} {A : Option Addr} {l : List Raw} (h : Row rawK W A l) {i : Nat} {x : Raw} (hx : l[i]? = some x) : ∃ b o, A = some ⟨b, o, none⟩ ∧ W.cell? ⟨b, o + i * 2, none⟩ = some (.int .i64 x.f) ∧ W.cell? ⟨b, o + i * 2 + 1, none⟩ = some (.slice x.a x.n x.c) := by
  obtain ⟨b, o, cs, hA, rfl, hc⟩ := h i x hx
  exact ⟨b, o, hA, hc 0 _ rfl, hc 1 _ rfl⟩
theorem info_sig : ((Try.prog).info? 39).map (fun i => (i.zero, i.size, i.bytes)) = some (some (.agg #[.int .i64 0, .slice none 0 0]), 2, 32) := by kernel_rfl
theorem own_empty (W : World) (e : TypeId) : OwnR fS 2 (W.alloc (.cells #[] e)) 0 e (.slice (some ⟨W.heap.size, 0, none⟩) 0 0) [] :=
  ⟨rfl, .inr ⟨W.heap.size, 0, #[], rfl, Nat.zero_le _, blk_new W _, Nat.le_refl _, by unfold maxLen; omega, rfl, rfl⟩⟩
/-- a list of signatures, as it lies -/
structure Sl2 (W : World) (A : Option Addr) (c : Nat) (l : List Raw) : Prop where
  le : l.length ≤ c
  cap : c ≤ 9223372036854775807
  row : Row rawK W A l
  nil : A = none → c = 0
set_option maxHeartbeats 4000000 in
set_option maxRecDepth 100000 in
theorem clone_any (W : World) (A : Option Addr) (c : Nat) (l : List Raw) (h : Sl2 W A c l) (hlen : l.length ≤ 1000) (n : Nat) (hn : n = l.length) :
    Calls Try.prog 59 #[.slice A n c] W fun e w' => ∃ v', e = .returned v' ∧ OwnR fS 2 w' 0 39 v' l ∧ (∀ k, v'.ownBlock = some k → W.heap.size ≤ k) ∧ Below W.heap.size W w' := by
  subst hn
  cases A with
  | none =>
    obtain rfl := h.nil rfl
    have hy : l = [] := List.eq_nil_of_length_eq_zero (by have := h.le; omega)
    subst hy
    have hnil := fun W1 a n c => Go.run_eql_slice_nil (P := Try.prog) W1 22 39 a n c Try.underlying22
    go_enter Try.func59, Try.ntmps59
    go_wp2
    go_ret
    exact ⟨_, rfl, OwnR.nil _ _ _ _ _, fun k hk => (by simp [Value.ownBlock] at hk), Below.refl _ _⟩
  | some ad =>
    have HR := Sd.mk (h.row.below (below_one W (.cells #[] 39)))
    have HE := Sd.mk (own_empty W 39)
    have HB := Sd.mk (below_one W (.cells #[] 39))
    clear h
    have hnil := fun W1 a n c => Go.run_eql_slice_nil (P := Try.prog) W1 22 39 a n c Try.underlying22
    go_enter Try.func59, Try.ntmps59
    go_wp2_with (first
      | (at_builtin; refine appends_at (d := rawK) (f := fS) (n := 2) (fun _ _ _ => Iff.rfl) rfl (fun _ => rfl) fS_one rfl (.tmp 5) (.tmp 6) 22 39 (.agg #[.int .i64 0, .slice none 0 0]) 32 rfl Try.underlying22 info_sig rfl (by decide) (.slice (some ⟨W.heap.size, 0, none⟩) 0 0) [] l (some ad) c rfl rfl HR.out (fun e => by cases e) HE.out (by simp; omega) (by simp; omega) ?_; intro v1 w1 hown hg hob; have HO := Sd.mk hown; have HG := Sd.mk hg; have HQ := Sd.mk hob; clear hown hg hob))
    go_ret
    refine ⟨v1, rfl, by have := HO.out; simpa using this, ?_, below_grown HB.out HG.out (by simp) (fun k e => by simp [Value.ownBlock] at e; omega)⟩
    intro k hk
    rcases HQ.out with e | e
    · rw [hk] at e; simp [Value.ownBlock] at e; omega
    · rw [hk] at e; simp at e; omega
/-- a row of the call's own is one that is sorted in place -/
theorem st_of {w W : World} {B0 : Nat} {v : Value} {l : List Raw} (h : OwnR fS 2 W 0 39 v l) (hn : ∀ k, v.ownBlock = some k → B0 ≤ k) (hb : Below B0 w W) : (v = .slice none 0 0 ∧ l = []) ∨ ∃ g cap, v = .slice (some ⟨g, 0, none⟩) l.length cap ∧ l.length ≤ cap ∧ cap ≤ 9223372036854775807 ∧ St w B0 g l.toArray W := by
  rcases h.2 with ⟨rfl, hz⟩ | ⟨g, cap, cur, rfl, -, hgb, r1, r2, r3, r4⟩
  · exact .inl ⟨rfl, List.eq_nil_of_length_eq_zero hz⟩
  · refine .inr ⟨g, cap, rfl, r1, by unfold maxLen at r2; omega, ?_, blk_lt' hgb, hb, hn g rfl⟩
    intro j hj
    rw [Go.Sort.size_flatK, List.size_toArray] at hj
    refine ⟨?_, blk_frz hgb _⟩
    rw [Nat.zero_add]
    refine blk_at hgb j _ ?_
    have hq : j / 2 < l.length := by omega
    have e2 : (cur.toList.take (l.length * 2))[j]? = (flat fS l)[j]? := by rw [r4]
    rw [List.getElem?_take_of_lt hj] at e2
    have hr : j % 2 < (fS l[j / 2]).length := by show j % 2 < 2; omega
    have hg := flat_get (f := fS) (n := 2) (fun _ => rfl) l (j / 2) l[j / 2] (List.getElem?_eq_getElem hq) (j % 2) _ (List.getElem?_eq_getElem hr)
    rw [show j / 2 * 2 + j % 2 = j by omega] at hg
    rw [hg] at e2
    rw [← Array.getElem?_toList, e2, Go.Sort.get_flatK _ _ _ _ (by rw [List.size_toArray]; exact hj)]
    rw [getElem!_pos l.toArray (j / 2) (by simpa using hq), List.getElem_toArray, getElem!_pos _ (j % 2) hr]
    rfl
end Go.Proofs.Ytdmdfpbklflijaa.Mk
set_option linter.unusedVariables false
set_option linter.unusedSimpArgs false
namespace Go.Proofs.Ytdmdfpbklflijaa.Mk
open Go.RowKit Go.Sort Go.Shelf Rd Api Own Mv App

theorem setMany_put (d : Array Raw) {p : Nat} (hp : p < d.size) (x : Raw) : setMany (flatK fS 2 d) (p * 2) (fS x) = flatK fS 2 (d.setIfInBounds p x) := by
  refine ext_get! (by simp) (fun t ht => ?_)
  rw [size_setMany, size_flatK] at ht
  rw [get_setMany _ _ _ _ (by rw [size_flatK]; exact ht), get_flatK fS 2 (d.setIfInBounds p x) t (by simpa using ht)]
  have hl : (fS x).length = 2 := rfl
  rw [hl]
  by_cases h : p * 2 ≤ t ∧ t < p * 2 + 2
  · rw [if_pos h]
    have e1 : t / 2 = p := by omega
    have e2 : t % 2 = t - p * 2 := by omega
    rw [e1, e2, getElem!_set_same d p x hp]
  · rw [if_neg h, get_flatK fS 2 d t ht]
    have e1 : t / 2 ≠ p := by omega
    congr 2
    rw [getElem!_pos (d.setIfInBounds p x) (t / 2) (by rw [Array.size_setIfInBounds]; omega), getElem!_pos d (t / 2) (by omega), Array.getElem_setIfInBounds (by omega), if_neg (fun h => e1 h.symm)]
theorem St.put {w : World} {B0 g : Nat} {d : Array Raw} {W : World} (h : St w B0 g d W) {p : Nat} (hp : p < d.size) (x : Raw) : St w B0 g (d.setIfInBounds p x) (W.setCells g (p * 2) (fS x)) := by
  refine ⟨?_, by rw [size_setCells]; exact h.lt, below_setCells h.ge _ _ _ h.bel, h.ge⟩
  have := holds_setCells_c (s := p * 2) (vs := fS x) h.row (by rw [size_flatK]; show p * 2 + 2 ≤ _; omega)
  rw [setMany_put d hp x, Nat.zero_add] at this
  exact this
theorem St.cells {w : World} {B0 g : Nat} {d : Array Raw} {W : World} (h : St w B0 g d W) {i : Nat} (hi : i < d.size) : W.cell? ⟨g, i * 2, none⟩ = some (.int .i64 d[i]!.f) ∧ W.cell? ⟨g, i * 2 + 1, none⟩ = some (.slice d[i]!.a d[i]!.n d[i]!.c) ∧ W.frozen? ⟨g, i * 2, none⟩ = false ∧ W.frozen? ⟨g, i * 2 + 1, none⟩ = false := by
  have h0 := HoldsK.cell h.row hi (c := 0) (by omega)
  have h1 := HoldsK.cell h.row hi (c := 1) (by omega)
  rw [Nat.zero_add] at h0 h1
  exact ⟨h0.1, h1.1, h0.2, h1.2⟩
theorem St.cellsG {w : World} {B0 g : Nat} {d : Array Raw} {W : World} (h : St w B0 g d W) {i : Nat} (hi : i < d.size) {x : Raw} (hx : d[i]! = x) {o : Nat} (ho : o = i * 2) : (∀ n os, (grow (W.drewN n) os).cell? ⟨g, o, none⟩ = some (.int .i64 x.f)) ∧ (∀ n os, (grow (W.drewN n) os).cell? ⟨g, o + 1, none⟩ = some (.slice x.a x.n x.c)) := by
  subst hx; subst ho
  exact ⟨fun n os => ((h.grown n os).cells hi).1, fun n os => ((h.grown n os).cells hi).2.1⟩
/-- amid the compacting -/
structure Ci (s : Array Raw) (j p : Nat) (dk : Array Raw) : Prop where
  size : dk.size = s.size
  len : (dif (s.toList.take j)).length = p
  low : ∀ (t : Nat) (x : Raw), (dif (s.toList.take j))[t]? = some x → dk[t]! = x
  high : ∀ t : Nat, j ≤ t + 1 → t < s.size → dk[t]! = s[t]!
theorem take_two (s : Array Raw) {j : Nat} (hj : j + 1 < s.size) : s.toList.take (j + 2) = s.toList.take j ++ [s[j]!] ++ [s[j + 1]!] := by
  rw [List.take_add_one, List.take_add_one, get_bang (by omega), get_bang hj]; rfl
theorem take_one (s : Array Raw) {j : Nat} (hj : j < s.size) : s.toList.take (j + 1) = s.toList.take j ++ [s[j]!] := by
  rw [List.take_add_one, get_bang hj]; rfl
theorem dif_no {s : Array Raw} {j : Nat} (hj : j + 1 < s.size) (h : s[j + 1]!.f = s[j]!.f) : dif (s.toList.take (j + 2)) = dif (s.toList.take (j + 1)) := by
  rw [take_two s hj, dif_snoc, if_pos h, ← take_one s (by omega)]
theorem dif_yes {s : Array Raw} {j : Nat} (hj : j + 1 < s.size) (h : s[j + 1]!.f ≠ s[j]!.f) : dif (s.toList.take (j + 2)) = dif (s.toList.take (j + 1)) ++ [s[j + 1]!] := by
  rw [take_two s hj, dif_snoc, if_neg h, ← take_one s (by omega)]
theorem Ci.no {s dk : Array Raw} {j p : Nat} (h : Ci s (j + 1) p dk) (hj : j + 1 < s.size) (he : s[j + 1]!.f = s[j]!.f) : Ci s (j + 2) p dk :=
  ⟨h.size, by rw [dif_no hj he]; exact h.len, fun t x hx => h.low t x (by rw [dif_no hj he] at hx; exact hx), fun t ht hs => h.high t (by omega) hs⟩
theorem Ci.yes {s dk : Array Raw} {j p : Nat} (h : Ci s (j + 1) p dk) (hj : j + 1 < s.size) (he : s[j + 1]!.f ≠ s[j]!.f) (hp : p ≤ j) : Ci s (j + 2) (p + 1) (dk.setIfInBounds p s[j + 1]!) := by
  have hps : p < dk.size := by rw [h.size]; omega
  have oth : ∀ t, t ≠ p → t < dk.size → (dk.setIfInBounds p s[j + 1]!)[t]! = dk[t]! := fun t ht hs => by
    rw [getElem!_pos _ t (by simpa using hs), getElem!_pos dk t hs, Array.getElem_setIfInBounds hs, if_neg (fun h => ht h.symm)]
  refine ⟨by simp [h.size], by rw [dif_yes hj he, List.length_append, h.len]; rfl, fun t x hx => ?_, fun t ht hs => ?_⟩
  · rw [dif_yes hj he, List.getElem?_append, h.len] at hx
    split at hx
    · rename_i hlt
      rw [oth t (by omega) (by omega)]
      exact h.low t x hx
    · rename_i hlt
      have : t = p := by
        rcases Nat.lt_or_ge (t - p) 1 with e | e
        · omega
        · rw [List.getElem?_eq_none (by simpa using e)] at hx; cases hx
      subst this
      rw [Nat.sub_self] at hx
      cases hx
      exact getElem!_set_same dk t _ hps
  · rw [oth t (by omega) (by rw [h.size]; exact hs)]
    exact h.high t (by omega) hs
theorem ci_start {s : Array Raw} {k : Nat} (hk : k + 1 < s.size) (h : dif (s.toList.take (k + 1)) = s.toList.take (k + 1)) (he : s[k + 1]!.f = s[k]!.f) : Ci s (k + 2) (k + 1) s := by
  refine ⟨rfl, by rw [dif_no hk he, h, List.length_take, Array.length_toList]; omega, fun t x hx => ?_, fun t _ _ => rfl⟩
  rw [dif_no hk he, h, List.getElem?_take] at hx
  split at hx
  · rw [get_bang (by omega)] at hx; exact Option.some.inj hx
  · cases hx
theorem dif_no' {s : Array Raw} {k : Nat} (h1 : 1 ≤ k) (hk : k < s.size) (h : s[k]!.f = s[k - 1]!.f) : dif (s.toList.take (k + 1)) = dif (s.toList.take k) := by
  obtain ⟨j, rfl⟩ : ∃ j, k = j + 1 := ⟨k - 1, by omega⟩
  exact dif_no hk h
theorem dif_yes' {s : Array Raw} {k : Nat} (h1 : 1 ≤ k) (hk : k < s.size) (h : s[k]!.f ≠ s[k - 1]!.f) : dif (s.toList.take (k + 1)) = dif (s.toList.take k) ++ [s[k]!] := by
  obtain ⟨j, rfl⟩ : ∃ j, k = j + 1 := ⟨k - 1, by omega⟩
  exact dif_yes hk h
theorem Ci.no' {s dk : Array Raw} {k p : Nat} (h : Ci s k p dk) (h1 : 1 ≤ k) (hk : k < s.size) (he : s[k]!.f = s[k - 1]!.f) : Ci s (k + 1) p dk := by
  obtain ⟨j, rfl⟩ : ∃ j, k = j + 1 := ⟨k - 1, by omega⟩
  exact h.no hk he
theorem Ci.yes' {s dk : Array Raw} {k p : Nat} (h : Ci s k p dk) (h1 : 1 ≤ k) (hk : k < s.size) (he : s[k]!.f ≠ s[k - 1]!.f) (hp : p < k) : Ci s (k + 1) (p + 1) (dk.setIfInBounds p s[k]!) := by
  obtain ⟨j, rfl⟩ : ∃ j, k = j + 1 := ⟨k - 1, by omega⟩
  exact h.yes hk he (by omega)
theorem ci_start' {s : Array Raw} {k : Nat} (h1 : 1 ≤ k) (hk : k < s.size) (h : dif (s.toList.take k) = s.toList.take k) (he : s[k]!.f = s[k - 1]!.f) : Ci s (k + 1) k s := by
  obtain ⟨j, rfl⟩ : ∃ j, k = j + 1 := ⟨k - 1, by omega⟩
  exact ci_start hk h he
/-- clear of a slice of elements of k cells -/
theorem run_clear_k {P : Program} (w : World) (t e : TypeId) (z : Value) (ht : P.underlying t = some (.slice e)) (hv : ∀ w, (zeroValue e).run P w = .ok z w) (k : Nat) (hz : z.cells.size = k) (h1 : ∀ v ∈ z.cells, v.oneCell' = true) (h0 : 0 < k) (b o n c : Nat) (hn : 0 < n)
    (hc : ∀ j, j < n * k → (w.cell? ⟨b, o + j, none⟩).isSome = true) (hf : ∀ j, j < n * k → w.frozen? ⟨b, o + j, none⟩ = false) :
    ∃ vs : List Value, vs.length = n * k ∧ ∀ ty, (Builtin.clear_ #[t] ty #[.slice (some ⟨b, o, none⟩) n c]).run P w = .ok (.tuple #[]) (w.setCells b o vs) := by
  have hl : (Builtin.zeroCells z.cells n).toList.length = n * k := by simp [Builtin.zeroCells, hz]
  have ho : ∀ v ∈ (Builtin.zeroCells z.cells n).toList, v.oneCell' = true := fun v hv' => by
    simp only [Builtin.zeroCells, Array.toList_map, List.mem_map] at hv'
    obtain ⟨i, _, rfl⟩ := hv'
    have hi : i % z.cells.size < z.cells.size := Nat.mod_lt _ (by omega)
    rw [getElem!_pos z.cells _ hi]
    exact h1 _ (Array.getElem_mem _)
  have hst := run_storeCells_cells (P := P) b o (Builtin.zeroCells z.cells n).toList 0 w (by rw [hl]; simpa using hc) (by rw [hl]; simpa using hf) ho
  refine ⟨_, hl, fun ty => ?_⟩
  simp only [Nat.add_zero] at hst
  obtain ⟨m, rfl⟩ : ∃ m, n = m + 1 := ⟨n - 1, by omega⟩
  simp [Builtin.clear_, run_underlying ht, hv, hst]
theorem zeroSig (w : World) : (zeroValue 39).run Try.prog w = .ok (.agg #[.int .i64 0, .slice none 0 0]) w := by kernel_rfl
set_option maxHeartbeats 8000000 in
set_option maxRecDepth 100000 in
theorem compact_any {w : World} {B0 g cap : Nat} {s : Array Raw} {W : World} (h : St w B0 g s W) (n : Nat) (hn : n = s.size) (h1000 : n ≤ 1000) (hcap : n ≤ cap) (hcap2 : cap ≤ 9223372036854775807) :
    Calls Try.prog 63 #[.slice (some ⟨g, 0, none⟩) n cap, .func (.func 64) #[] #[]] W fun e w' => ∃ p, e = .returned (.slice (some ⟨g, 0, none⟩) p cap) ∧ p = (dif s.toList).length ∧ p ≤ n ∧
      (∀ t x, (dif s.toList)[t]? = some x → w'.cell? ⟨g, t * 2, none⟩ = some (.int .i64 x.f) ∧ w'.cell? ⟨g, t * 2 + 1, none⟩ = some (.slice x.a x.n x.c)) ∧ Below B0 w w' := by
  have H := Sd.mk h
  have HN := Sd.mk hn
  clear h hn
  have mixed : Try.prog.follows .mixedOrders = true := by kernel_rfl
  have u22 := run_underlying Try.underlying22
  have a39 := Try.isAgg39
  have z39 := Try.sizeOf39
  have a3 := Try.isAgg3
  have z3 := Try.sizeOf3
  have u3 := run_underlying Try.underlying3
  have done : ∀ W1, St w B0 g s W1 → dif s.toList = s.toList → n = (dif s.toList).length ∧ (∀ t x, (dif s.toList)[t]? = some x → W1.cell? ⟨g, t * 2, none⟩ = some (.int .i64 x.f) ∧ W1.cell? ⟨g, t * 2 + 1, none⟩ = some (.slice x.a x.n x.c)) ∧ Below B0 w W1 := fun W1 h hd => by
    rw [hd]
    refine ⟨by rw [Array.length_toList]; exact HN.out, fun t x hx => ?_, h.bel⟩
    have ht : t < s.size := by have := (List.getElem?_eq_some_iff.1 hx).1; simpa using this
    rw [get_bang ht] at hx
    cases hx
    exact ⟨(h.cells ht).1, (h.cells ht).2.1⟩
  have HDN := Sd.mk done
  clear done
  by_cases h2 : n < 2
  · have d0 : decide ((n : Int) < 2) = true := decide_eq_true (by omega)
    have d0b : decide (n < 2) = true := decide_eq_true h2
    have HD := Sd.mk (show dif s.toList = s.toList by
      have hl : s.toList.length < 2 := by rw [Array.length_toList, ← HN.out]; exact h2
      match hs : s.toList with
      | [] => rfl
      | [x] => rfl
      | x :: y :: r => rw [hs] at hl; simp at hl; omega)
    go_enter Try.func63, Try.ntmps63
    go_wp2
    go_ret
    obtain ⟨h1, h3, h4⟩ := HDN.out _ H.out HD.out
    exact ⟨n, rfl, h1, Nat.le_refl _, h3, h4⟩
  · have d0 : decide ((n : Int) < 2) = false := decide_eq_false (by omega)
    have d0b : decide (n < 2) = false := decide_eq_false h2
    go_enter Try.func63, Try.ntmps63
    go_wp2
    go_loopg [5, 6, 7] (n - 1) (fun gk v5 v6 v7 wr => ∃ k, 1 ≤ k ∧ k + gk = n ∧ v5 = .int .i64 (k : Nat) ∧ Sd (dif (s.toList.take k) = s.toList.take k) ∧ Sd (St w B0 g s wr))
    case atStart => exact ⟨1, by omega, by omega, rfl, ⟨by rw [take_one s (by rw [← HN.out]; omega)]; rfl⟩, H⟩
    case round =>
      clear H
      obtain ⟨k, hk1, hk, rfl, HD, H⟩ := hrel
      by_cases hlt : k < n
      · have hki : (k : Int) < n := by omega
        have hks : k < s.size := by rw [← HN.out]; exact hlt
        obtain ⟨x, hx⟩ : ∃ x, s[k - 1]! = x := ⟨_, rfl⟩
        obtain ⟨y, hy⟩ : ∃ y, s[k]! = y := ⟨_, rfl⟩
        obtain ⟨kp, hkp⟩ : ∃ kp, kp = k - 1 := ⟨_, rfl⟩
        have hwp : IntKind.i64.wrap ((k : Int) - 1) = (kp : Nat) := by rw [IntKind.wrap_i64]; omega
        have hkpn : (kp : Int) < n := by omega
        have hkpn2 : kp < n := by omega
        obtain ⟨c0, c1⟩ := H.out.cellsG (show k - 1 < s.size by omega) hx (show kp * 2 = (k - 1) * 2 by rw [hkp])
        clear hkp
        obtain ⟨c2, c3⟩ := H.out.cellsG hks hy rfl
        have HXY := Sd.mk (⟨hx, hy⟩ : s[k - 1]! = x ∧ s[k]! = y)
        have HKS := Sd.mk hks
        clear hx hy hks
        obtain ⟨r, hr⟩ : ∃ r, (y.f == x.f) = r := ⟨_, rfl⟩
        have HR := Sd.mk hr
        clear hr
        go_upto_region 6 with (fail)
        go_quiet_grown (first | (go_at_call 64; refine Calls.grown_of (make2_any y x _ r HR.out)))
        have H2 := Sd.mk (H.out.grown nq osq)
        clear c0 c1 c2 c3 H
        generalize grow (wr.drewN nq) osq = W1 at H2 ⊢
        cases r with
        | false =>
          have HD2 := Sd.mk (show dif (s.toList.take (k + 1)) = s.toList.take (k + 1) by
            have hf : s[k]!.f ≠ s[k - 1]!.f := by rw [HXY.out.1, HXY.out.2]; exact beq_eq_false_iff_ne.1 HR.out
            rw [dif_yes' hk1 HKS.out hf, HD.out, ← take_one s HKS.out])
          go_wp2
          go_roundg (gk - 1)
          case measure => omega
          case rel => exact ⟨k + 1, by omega, by omega, by go_num, HD2, H2⟩
        | true =>
          have HCI := Sd.mk (ci_start' hk1 HKS.out HD.out (by rw [HXY.out.1, HXY.out.2]; exact eq_of_beq HR.out))
          have hkc : k ≤ cap := by omega
          have hkn : k ≤ n := by omega
          have hknc : n - k ≤ cap - k := by omega
          go_wp2
          go_loopg [5, 7] (n - (k + 1)) (fun gk v5 v7 wr => ∃ p k2 dk, 1 ≤ k2 ∧ k + k2 + gk = n ∧ p < k + k2 ∧ v5 = .int .i64 (p : Nat) ∧ v7 = .int .i64 (k2 : Nat) ∧ Sd (Ci s (k + k2) p dk) ∧ Sd (St w B0 g dk wr))
          case atStart => exact ⟨k, 1, s, by omega, by omega, by omega, rfl, rfl, HCI, H2⟩
          case round =>
            clear HCI H2 HXY HR
            obtain ⟨p, k2, dk, hk21, hkg, hpj, rfl, rfl, HC, H⟩ := hrel
            by_cases hlt2 : k2 < n - k
            · have hjs : k + k2 < s.size := by rw [← HN.out]; omega
              have hjd : k + k2 < dk.size := by rw [HC.out.size]; exact hjs
              obtain ⟨x, hx⟩ : ∃ x, s[k + k2 - 1]! = x := ⟨_, rfl⟩
              obtain ⟨y, hy⟩ : ∃ y, s[k + k2]! = y := ⟨_, rfl⟩
              have hxd : dk[k + k2 - 1]! = x := by rw [HC.out.high (k + k2 - 1) (by omega) (by omega)]; exact hx
              have hyd : dk[k + k2]! = y := by rw [HC.out.high (k + k2) (by omega) hjs]; exact hy
              obtain ⟨kp2, hkp⟩ : ∃ kp, kp = k2 - 1 := ⟨_, rfl⟩
              have hwp2 : IntKind.i64.wrap ((k2 : Int) - 1) = (kp2 : Nat) := by rw [IntKind.wrap_i64]; omega
              have q0 : (k2 : Int) < ((n - k : Nat) : Int) := by omega
              have q1 : (kp2 : Int) < ((n - k : Nat) : Int) := by omega
              have q0b : (k2 : Int) < (n : Int) - (k : Int) := by omega
              have q1b : (kp2 : Int) < (n : Int) - (k : Int) := by omega
              have q2 : kp2 < n - k := by omega
              have hpn : (p : Int) < n := by omega
              have hpn2 : p < n := by omega
              obtain ⟨c0, c1⟩ := H.out.cellsG (show k + k2 - 1 < dk.size by omega) hxd (show k * 2 + kp2 * 2 = (k + k2 - 1) * 2 by rw [hkp]; omega)
              obtain ⟨c2, c3⟩ := H.out.cellsG hjd hyd (show k * 2 + k2 * 2 = (k + k2) * 2 by omega)
              have HXY := Sd.mk (⟨hx, hy⟩ : s[k + k2 - 1]! = x ∧ s[k + k2]! = y)
              have HJS := Sd.mk hjs
              have HYD := Sd.mk (⟨hjd, hyd⟩ : k + k2 < dk.size ∧ dk[k + k2]! = y)
              clear hx hy hxd hyd hkp hjs hjd
              obtain ⟨r, hr⟩ : ∃ r, (y.f == x.f) = r := ⟨_, rfl⟩
              have HR := Sd.mk hr
              clear hr
              go_upto_region 11 with (fail)
              go_quiet_grown (first | (go_at_call 64; refine Calls.grown_of (make2_any y x _ r HR.out)))
              have H2 := Sd.mk (H.out.grown nq osq)
              clear c0 c1 c2 c3 H
              generalize grow (wr.drewN nq) osq = W2 at H2 ⊢
              cases r with
              | true =>
                have HC2 := Sd.mk (HC.out.no' (by omega) HJS.out (by rw [HXY.out.1, HXY.out.2]; exact eq_of_beq HR.out))
                go_wp2
                go_roundg (gk - 1)
                case measure => omega
                case rel => exact ⟨p, k2 + 1, dk, by omega, by omega, by omega, rfl, by go_num, HC2, H2⟩
              | false =>
                have HC2 := Sd.mk (HC.out.yes' (by omega) HJS.out (by rw [HXY.out.1, HXY.out.2]; exact beq_eq_false_iff_ne.1 HR.out) hpj)
                obtain ⟨c2, c3, -, -⟩ := H2.out.cells HYD.out.1
                rw [HYD.out.2, show (k + k2) * 2 = k * 2 + k2 * 2 by omega] at c2 c3
                obtain ⟨o0, o1, f0, f1⟩ := H2.out.cells (show p < dk.size by have := HYD.out.1; omega)
                generalize dk[p]! = z at o0 o1
                have H3 := Sd.mk (H2.out.put (p := p) (by have := HYD.out.1; omega) y)
                have HC3 := Sd.mk (show Ci s (k + (k2 + 1)) (p + 1) (dk.setIfInBounds p y) by have := HC2.out; rw [HXY.out.2] at this; exact this)
                clear HC2 HC H2
                go_wp2
                go_roundg (gk - 1)
                case measure => omega
                case rel => exact ⟨p + 1, k2 + 1, dk.setIfInBounds p y, by omega, by omega, by omega, by go_num, by go_num, HC3, H3⟩
            · have hq : decide (k2 < n - k) = false := decide_eq_false hlt2
              have hq2 : decide ((k2 : Int) < ((n - k : Nat) : Int)) = false := decide_eq_false (by omega)
              have hq3 : decide ((k2 : Int) < (n : Int) - (k : Int)) = false := decide_eq_false (by omega)
              have hke : k + k2 = n := by omega
              have hpn : p < n := by omega
              have hpc : p ≤ cap := by omega
              have hpn2 : p ≤ n := by omega
              have HE := Sd.mk (show s.toList.take (k + k2) = s.toList from List.take_of_length_le (by rw [Array.length_toList, ← HN.out]; omega))
              have hdn : dk.size = n := by rw [HC.out.size]; exact HN.out.symm
              obtain ⟨vs, hvl, hcl⟩ := run_clear_k (P := Try.prog) wr 22 39 _ Try.underlying22 zeroSig 2 rfl (fun v hv => by simp [Value.cells] at hv; rcases hv with rfl | rfl <;> rfl) (by omega) g (p * 2) (n - p) (cap - p) (by omega)
                (fun j hj => by
                  have h := H.out.row (p * 2 + j) (by rw [size_flatK, hdn]; omega)
                  rw [Nat.zero_add] at h; rw [h.1]; rfl) (fun j hj => by
                  have h := H.out.row (p * 2 + j) (by rw [size_flatK, hdn]; omega)
                  rw [Nat.zero_add] at h; exact h.2)
              clear hvl hke hdn hlt2
              go_wp2
              go_ret
              have hlow : ∀ t x, (dif s.toList)[t]? = some x → t < p ∧ dk[t]! = x := fun t x hx => by
                rw [← HE.out] at hx
                have ht := (List.getElem?_eq_some_iff.1 hx).1
                rw [HC.out.len] at ht
                exact ⟨ht, HC.out.low t x hx⟩
              have hdn : dk.size = n := by rw [HC.out.size]; exact HN.out.symm
              refine ⟨p, rfl, by rw [← HE.out]; exact HC.out.len.symm, by omega, fun t x hx => ?_, below_setCells H.out.ge _ _ _ H.out.bel⟩
              obtain ⟨ht, rfl⟩ := hlow t x hx
              obtain ⟨h1, h3, -, -⟩ := H.out.cells (show t < dk.size by omega)
              exact ⟨by rw [World.cell?_setCells_out _ _ _ _ _ (fun _ _ => .inl (by show t * 2 < p * 2; omega))]; exact h1, by rw [World.cell?_setCells_out _ _ _ _ _ (fun _ _ => .inl (by show t * 2 + 1 < p * 2; omega))]; exact h3⟩
      · have hki : decide ((k : Int) < n) = false := decide_eq_false (by omega)
        have HE := Sd.mk (show dif s.toList = s.toList by have := HD.out; rwa [List.take_of_length_le (by rw [Array.length_toList, ← HN.out]; omega)] at this)
        go_wp2
        go_ret
        obtain ⟨h1, h3, h4⟩ := HDN.out _ H.out HE.out
        exact ⟨n, rfl, h1, Nat.le_refl _, h3, h4⟩
end Go.Proofs.Ytdmdfpbklflijaa.Mk
set_option linter.unusedVariables false
set_option linter.unusedSimpArgs false
namespace Go.Proofs.Ytdmdfpbklflijaa.Mk
open Go.RowKit Rd Api Own Mv App

set_option maxHeartbeats 1000000 in
theorem compact_none (fv : Value) (w : World) : Calls Try.prog 63 #[.slice none 0 0, fv] w fun e w' => e = .returned (.slice none 0 0) ∧ w' = w := by
  go_enter Try.func63, Try.ntmps63
  go_wp2
  go_ret
  exact ⟨rfl, rfl⟩
/-- the result's cell -/
def RC (w : World) (W : World) : Prop := W.heap[w.heap.size]? = some (.cells #[.int .i64 0, .string { data := #[] }, .slice none 0 0] 24 (0, 0))
/-- .. behind the stores -/
def fin (w w4 : World) (view : Int) (block : ByteArray) (v : Value) : World := ((w4.setCell ⟨w.heap.size, 0, none⟩ (.int .i64 view)).setCell ⟨w.heap.size, 1, none⟩ (.string block)).setCell ⟨w.heap.size, 2, none⟩ v
theorem fin_cells {w w4 : World} (b2 : RC w w4) (view : Int) (block : ByteArray) (v : Value) : (fin w w4 view block v).cell? ⟨w.heap.size, 0, none⟩ = some (.int .i64 view) ∧ (fin w w4 view block v).cell? ⟨w.heap.size, 1, none⟩ = some (.string block) ∧ (fin w w4 view block v).cell? ⟨w.heap.size, 2, none⟩ = some v := by
  have X8 : (fin w w4 view block v).heap[w.heap.size]? = some (.cells #[.int .i64 view, .string block, v] 24 (0, 0)) := (blk_set3 (blk_set3 (blk_set3 b2 0 _) 1 _) 2 _).trans rfl
  exact ⟨blk_at X8 0 _ rfl, blk_at X8 1 _ rfl, blk_at X8 2 _ rfl⟩
theorem fin_bel {w w4 : World} (h : Below w.heap.size w w4) (view : Int) (block : ByteArray) (v : Value) : Below w.heap.size w (fin w w4 view block v) :=
  ((h.setCell (p := ⟨w.heap.size, 0, none⟩) (Nat.le_refl _) _).setCell (p := ⟨w.heap.size, 1, none⟩) (Nat.le_refl _) _).setCell (p := ⟨w.heap.size, 2, none⟩) (Nat.le_refl _) _
theorem fin_cell {w w4 : World} {a : Addr} {u : Value} (hc : w4.cell? a = some u) (hne : a.block ≠ w.heap.size) (view : Int) (block : ByteArray) (v : Value) : (fin w w4 view block v).cell? a = some u :=
  cell_set (cell_set (cell_set hc hne) hne) hne
set_option maxHeartbeats 8000000 in
set_option maxRecDepth 100000 in
theorem make_any (w : World) (view : Int) (block : ByteArray) (A : Option Addr) (c : Nat) (l : List Raw) (h : Sl2 w A c l) (n : Nat) (hn : n = l.length) (h20 : n ≤ 20) :
    Calls Try.prog 25 #[.int .i64 view, .string block, .slice A n c] w fun e w' => ∃ A' k c' r, e = .returned (.agg #[.int .i64 view, .string block, .slice A' k c']) ∧ k = r.length ∧ Sl rawK w' A' c' r ∧ (A' = none → c' = 0) ∧ Made l r ∧ Below w.heap.size w w' := by
  obtain ⟨w1, hw1⟩ : ∃ w1, w1 = w.alloc (.cells #[.int .i64 0, .string { data := #[] }, .slice none 0 0] 24) := ⟨_, rfl⟩
  have HW1 := Sd.mk hw1
  have hb1 : Below w.heap.size w w1 := by rw [hw1]; exact below_one _ _
  have hrc : RC w w1 := by rw [hw1]; exact blk_new _ _
  have hs1 : w1.heap.size = w.heap.size + 1 := by rw [hw1]; simp
  have h1 : Sl2 w1 A c l := ⟨h.le, h.cap, h.row.below hb1, h.nil⟩
  have HC := Sd.mk (clone_any w1 A c l h1 (by omega) n hn)
  have HN := Sd.mk hn
  have HB1 := Sd.mk hb1
  have HRC := Sd.mk hrc
  have HS1 := Sd.mk hs1
  clear h h1 hn hb1 hrc hs1 hw1
  go_enter Try.func25, Try.ntmps25
  go_upto_region 1 with (fail)
  rw [show (w.alloc (.cells #[.int .i64 0, .string { data := #[] }, .slice none 0 0] 24)) = w1 from HW1.out.symm]
  go_upto_region 2 with (first
    | (go_at_call 59; (with_reducible refine HC.out.mono ?_); rintro e w2 ⟨v, rfl, ho, hk, hb2⟩; have HO := Sd.mk ho; have HK := Sd.mk hk; have HB2 := Sd.mk hb2; clear ho hk hb2))
  clear HC
  rcases st_of HO.out HK.out HB2.out with ⟨rfl, hl⟩ | ⟨g, cap, rfl, hcap, hcap2, hst⟩
  · subst hl
    have b2 := blk_keep HRC.out (HB2.out.mono (Nat.le_refl _))
    have a0 := blk_at b2 0 _ rfl
    have a1 := blk_at b2 1 _ rfl
    have a2 := blk_at b2 2 _ rfl
    have f0 := blk_frz b2 0
    have f1 := blk_frz b2 1
    have f2 := blk_frz b2 2
    go_wp2_with (first
      | (go_at_call 60; (with_reducible refine (sort_none _ _ _ _).mono ?_); rintro e w3 ⟨rfl, rfl⟩)
      | (go_at_call 63; (with_reducible refine (compact_none _ _).mono ?_); rintro e w4 ⟨rfl, rfl⟩))
    obtain ⟨y0, y1, y2⟩ := fin_cells b2 view block (.slice none 0 0)
    have HBL := Sd.mk (fin_bel (HB1.out.trans (HB2.out.mono (by rw [HS1.out]; omega))) view block (.slice none 0 0))
    clear a0 a1 a2 f0 f1 f2 b2
    change bodyPost _ _ _ _ _ (fin w w4 view block (.slice none 0 0))
    generalize fin w w4 view block (.slice none 0 0) = w9 at y0 y1 y2 HBL ⊢
    exact bodyPost_ret (v := .agg #[.int .i64 view, .string block, .slice none 0 0]) (by simp [results, Try.results25, go_sem, y0, y1, y2]) rfl ⟨none, 0, 0, [], rfl, rfl, ⟨Nat.le_refl _, by omega, fun i x hx => by simp at hx⟩, fun _ => rfl, ⟨List.Pairwise.nil, fun k => rfl⟩, HBL.out⟩
  · have HST := Sd.mk hst
    have HCAP := Sd.mk (⟨hcap, hcap2⟩ : l.length ≤ cap ∧ cap ≤ 9223372036854775807)
    rw [← HN.out]
    clear hst hcap hcap2
    have hlist : l.toArray.size = l.length := rfl
    have HSZ := Sd.mk (show n = l.toArray.size by rw [hlist]; exact HN.out)
    clear hlist
    go_upto_region 3 with (first
      | (go_at_call 60; (with_reducible refine (sort_any HST.out n HSZ.out h20).mono ?_); rintro e w3 ⟨rfl, hst3⟩; have HST3 := Sd.mk hst3; clear hst3))
    have HCM := Sd.mk (compact_any HST3.out n (by rw [srt_size]; exact HSZ.out) (by omega) (by rw [HN.out]; exact HCAP.out.1) HCAP.out.2)
    go_wp2_with (first
      | (go_at_call 63; (with_reducible refine HCM.out.mono ?_); rintro e w5 ⟨p, rfl, hp, hpn, hc5, hb5⟩; have HP := Sd.mk hp; have HPN := Sd.mk hpn; have HC5 := Sd.mk hc5; have HB5 := Sd.mk hb5; have B2 := Sd.mk (show RC w w5 from blk_keep HRC.out hb5); have a0 := blk_at B2.out 0 _ rfl; have a1 := blk_at B2.out 1 _ rfl; have a2 := blk_at B2.out 2 _ rfl; have f0 := blk_frz B2.out 0; have f1 := blk_frz B2.out 1; have f2 := blk_frz B2.out 2; clear hp hpn hc5 hb5))
    obtain ⟨y0, y1, y2⟩ := fin_cells B2.out view block (.slice (some ⟨g, 0, none⟩) p cap)
    have HBL := Sd.mk (fin_bel (HB1.out.trans (HB5.out.mono (by rw [HS1.out]; omega))) view block (.slice (some ⟨g, 0, none⟩) p cap))
    have hgw : g ≠ w.heap.size := by have := HST.out.ge; rw [HS1.out] at this; omega
    have hrow : Sl rawK (fin w w5 view block (.slice (some ⟨g, 0, none⟩) p cap)) (some ⟨g, 0, none⟩) cap (dif (srtS l.toArray).toList) := by
      refine ⟨by rw [← HP.out]; have := HCAP.out.1; have := HPN.out; have := HN.out; omega, HCAP.out.2, fun i x hx => ⟨g, 0, fS x, rfl, rfl, fun t v hv => ?_⟩⟩
      obtain ⟨h0, h1⟩ := HC5.out i x hx
      match t, hv with
      | 0, hv => simp only [fS, List.getElem?_cons_zero, Option.some.injEq] at hv; subst hv; refine fin_cell ?_ hgw _ _ _; show w5.cell? ⟨g, 0 + i * 2 + 0, none⟩ = _; rw [Nat.zero_add]; exact h0
      | 1, hv => simp only [fS, List.getElem?_cons_succ, List.getElem?_cons_zero, Option.some.injEq] at hv; subst hv; refine fin_cell ?_ hgw _ _ _; show w5.cell? ⟨g, 0 + i * 2 + 1, none⟩ = _; rw [Nat.zero_add]; exact h1
      | t + 2, hv => simp [fS] at hv
    have HRW := Sd.mk hrow
    have HMD := Sd.mk (show Made l (dif (srtS l.toArray).toList) from dif_made (sort_up l.toArray).1 (fun k => (sort_up l.toArray).2 k))
    clear a0 a1 a2 f0 f1 f2 hrow HCM
    change bodyPost _ _ _ _ _ (fin w w5 view block (.slice (some ⟨g, 0, none⟩) p cap))
    generalize fin w w5 view block (.slice (some ⟨g, 0, none⟩) p cap) = w9 at y0 y1 y2 HBL HRW ⊢
    exact bodyPost_ret (v := .agg #[.int .i64 view, .string block, .slice (some ⟨g, 0, none⟩) p cap]) (by simp [results, Try.results25, go_sem, y0, y1, y2]) rfl ⟨_, p, cap, _, rfl, HP.out, HRW.out, (fun e => nomatch e), HMD.out, HBL.out⟩
end Go.Proofs.Ytdmdfpbklflijaa.Mk

/- Signatures sorted by nodes: walked. -/
import Derived.Test.YtdmdfpbklflijaaMkP
import Derived.Test.YtdmdfpbklflijaaIns
import Derived.Test.YtdmdfpbklflijaaMv
import Derived.Shelf.SlSortFuncK.ComposeK
import Derived.Lib.OwnBridge
import Derived.Lib.AppendIntMem
set_option linter.unusedVariables false
set_option linter.unusedSimpArgs false
namespace Go.Proofs.Ytdmdfpbklflijaa.Mk
open Go.RowKit Go.Sort Go.Shelf Rd Api Mv

set_option maxHeartbeats 1000000 in
theorem isnan_any (w : World) (x : Int) : Calls Try.prog 93 #[.int .i64 x] w fun e w' => e = .returned (.bool false) ∧ w' = w := by
  go_enter Try.func93, Try.ntmps93
  go_wp2
  go_ret
  exact ⟨by simp, rfl⟩
set_option maxHeartbeats 1000000 in
theorem compare_any (w : World) (x y : Int) : Calls Try.prog 62 #[.int .i64 x, .int .i64 y] w fun e w' => e = .returned (.int .i64 (Go.Lib.compareInt x y)) ∧ w' = w := by
  unfold Go.Lib.compareInt
  by_cases h : x < y
  · have d : decide (x < y) = true := decide_eq_true h
    rw [if_pos h]
    go_enter Try.func62, Try.ntmps62
    go_wp2_with (first
      | (go_at_call 93; (with_reducible refine (isnan_any _ _).mono ?_); rintro e w1 ⟨rfl, rfl⟩))
    go_ret
    exact ⟨rfl, rfl⟩
  · have d : decide (x < y) = false := decide_eq_false h
    rw [if_neg h]
    by_cases h2 : x > y
    · have d2 : decide (y < x) = true := decide_eq_true h2
      rw [if_pos h2]
      go_enter Try.func62, Try.ntmps62
      go_wp2_with (first
        | (go_at_call 93; (with_reducible refine (isnan_any _ _).mono ?_); rintro e w1 ⟨rfl, rfl⟩))
      go_ret
      exact ⟨rfl, rfl⟩
    · have d2 : decide (y < x) = false := decide_eq_false h2
      rw [if_neg h2]
      go_enter Try.func62, Try.ntmps62
      go_wp2_with (first
        | (go_at_call 93; (with_reducible refine (isnan_any _ _).mono ?_); rintro e w1 ⟨rfl, rfl⟩))
      go_ret
      exact ⟨rfl, rfl⟩
set_option maxHeartbeats 1000000 in
theorem make1_any (x y : Raw) (W : World) : Calls Try.prog 61 #[.agg #[.int .i64 x.f, .slice x.a x.n x.c], .agg #[.int .i64 y.f, .slice y.a y.n y.c]] W fun e w' => e = .returned (.int .i64 (cfS x y)) ∧ ∃ q os', w' = grow (W.drewN q) os' := by
  have hcon := fun W' => compare_any W' x.f y.f
  unfold cfS
  generalize Go.Lib.compareInt x.f y.f = r at hcon ⊢
  go_enter Try.func61, Try.ntmps61
  go_wp2_with (go_at_call 62; refine (hcon _).mono ?_; rintro e w' ⟨rfl, rfl⟩)
  go_ret
  exact ⟨rfl, 0, _, by rw [alloc_eq_grow, alloc_eq_grow, grow_grow]; rfl⟩
set_option maxHeartbeats 1000000 in
theorem make2_any (x y : Raw) (W : World) (r : Bool) (hr : (x.f == y.f) = r) : Calls Try.prog 64 #[.agg #[.int .i64 x.f, .slice x.a x.n x.c], .agg #[.int .i64 y.f, .slice y.a y.n y.c]] W fun e w' => e = .returned (.bool r) ∧ ∃ q os', w' = grow (W.drewN q) os' := by
  go_enter Try.func64, Try.ntmps64
  go_wp2
  go_ret
  exact ⟨by simp [hr], 0, _, by rw [alloc_eq_grow, alloc_eq_grow, grow_grow]; rfl⟩
theorem cmp_lays (blk off size : Nat) (w : World) : CmpLays Try.prog 61 #[] fS 2 cfS blk off size w := fun _ _ _ _ x y => make1_any x y _
theorem enters1 : ∀ args w, (callFunc 61 args).run Try.prog w = .ok (.enter 61 args) w := enters_of Try.func61 (by kernel_rfl) rfl
theorem ins_any (blk cap a b : Nat) (d : Array Raw) (w : World) (hH : HoldsK fS 2 w blk 0 d) (hblk : blk < w.heap.size) (hab : a ≤ b) (hb : b ≤ d.size) (hsz : d.size < 4611686018427387904) (n : Nat) (hn : n = d.size) :
    Calls Try.prog 113 #[.slice (some ⟨blk, 0, none⟩) n cap, .int .i64 a, .int .i64 b, .func (.func 61) #[] #[]] w fun e w' => e = .returned (.tuple #[]) ∧ ∃ m os, w' = sortWorldK fS 2 w blk 0 m (Sort.insertionSort (fun x y => decide (cfS x y < 0)) d a b) os := by
  subst hn
  exact AnyQ.insertionSortCmpFunc Try.insSig 2 Try.isAgg39 Try.sizeOf39 fS (fun _ => rfl) (fun x v hv => by simp [fS] at hv; rcases hv with rfl | rfl <;> rfl) cfS 61 #[] blk 0 cap a b d w enters1 (cmp_lays blk 0 d.size w) hH hblk hab hb hsz
/-- the signatures, in a row of the call's own -/
structure St (w : World) (B0 g : Nat) (d : Array Raw) (W : World) : Prop where
  row : HoldsK fS 2 W g 0 d
  lt : g < W.heap.size
  bel : RowKit.Below B0 w W
  ge : B0 ≤ g
theorem St.sw {w : World} {B0 g : Nat} {d d' : Array Raw} {W : World} (h : St w B0 g d W) (hs : d'.size = d.size) (m : Nat) (os : Array Obj) : St w B0 g d' (sortWorldK fS 2 W g 0 m d' os) := by
  refine ⟨holdsK_sortWorldK_c fS 2 W g 0 d d' m os h.row h.lt hs, Nat.lt_of_lt_of_le h.lt (size_sortWorldK_c fS 2 W g 0 m d' os), ?_, h.ge⟩
  have h1 : RowKit.Below B0 w (putRowK fS 2 (Sort.ahead W m) g 0 d') := Go.Lib.below_putRow h.bel h.ge
  refine h1.trans ?_
  have h2 : B0 ≤ (putRowK fS 2 (Sort.ahead W m) g 0 d').heap.size := by rw [size_putRowK]; exact Nat.le_of_lt (Nat.lt_of_le_of_lt h.ge h.lt)
  exact Go.Lib.below_grow B0 _ h2 0 os
theorem St.grown {w : World} {B0 g : Nat} {d : Array Raw} {W : World} (h : St w B0 g d W) (n : Nat) (os : Array Obj) : St w B0 g d (grow (W.drewN n) os) :=
  ⟨holdsK_grow fS 2 _ os g 0 d h.lt h.row, by rw [size_grow]; exact Nat.lt_of_lt_of_le h.lt (Nat.le_add_right _ _), h.bel.trans (Go.Lib.below_grow B0 W (Nat.le_of_lt (Nat.lt_of_le_of_lt h.ge h.lt)) n os), h.ge⟩
def srtS (d : Array Raw) : Array Raw := Sort.insertionSort (fun x y => decide (cfS x y < 0)) d 0 d.size
theorem srt_size (d : Array Raw) : (srtS d).size = d.size := sort_len d
theorem ins_id (d : Array Raw) (n : Nat) : Sort.insertionSort (fun x y => decide (cfS x y < 0)) d n n = d := by
  unfold Sort.insertionSort
  rw [Sort.insOuter, if_neg (by omega)]
def Ins (W : World) (g cap n a b : Nat) (p : World → Prop) : Prop := Calls Try.prog 113 #[.slice (some ⟨g, 0, none⟩) n cap, .int .i64 a, .int .i64 b, .func (.func 61) #[] #[]] W fun e w' => e = .returned (.tuple #[]) ∧ p w'
theorem ins_st {w : World} {B0 g : Nat} {d : Array Raw} {W : World} (h : St w B0 g d W) (cap n : Nat) (hn : n = d.size) (h20 : n ≤ 20) :
    Ins W g cap n 0 n (fun w' => St w B0 g (srtS d) w') ∧ Ins W g cap n n n (fun w' => St w B0 g d w') := by
  constructor
  · refine (ins_any g cap 0 n d W h.row h.lt (by omega) (by omega) (by omega) n hn).mono ?_
    rintro e w1 ⟨rfl, m, os, rfl⟩
    refine ⟨rfl, ?_⟩
    subst hn
    exact h.sw (srt_size d) m os
  · refine (ins_any g cap n n d W h.row h.lt (by omega) (by omega) (by omega) n hn).mono ?_
    rintro e w1 ⟨rfl, m, os, rfl⟩
    rw [ins_id]
    exact ⟨rfl, h.sw rfl m os⟩
set_option maxHeartbeats 4000000 in
set_option maxRecDepth 100000 in
theorem stable_any {w : World} {B0 g cap : Nat} {d : Array Raw} {W : World} (h : St w B0 g d W) (n : Nat) (hn : n = d.size) (h20 : n ≤ 20) :
    Calls Try.prog 92 #[.slice (some ⟨g, 0, none⟩) n cap, .int .i64 n, .func (.func 61) #[] #[]] W fun e w' => e = .returned (.tuple #[]) ∧ St w B0 g (srtS d) w' := by
  by_cases e20 : n = 20
  · subst e20
    have HI := Sd.mk (show Calls Try.prog 113 #[.slice (some ⟨g, 0, none⟩) 20 cap, .int .i64 0, .int .i64 20, .func (.func 61) #[] #[]] W fun e w' => e = .returned (.tuple #[]) ∧ St w B0 g (srtS d) w' from (ins_st h cap 20 hn h20).1)
    have HI2 := Sd.mk (fun (W1 : World) (h1 : St w B0 g (srtS d) W1) => (show Calls Try.prog 113 #[.slice (some ⟨g, 0, none⟩) 20 cap, .int .i64 20, .int .i64 20, .func (.func 61) #[] #[]] W1 fun e w' => e = .returned (.tuple #[]) ∧ St w B0 g (srtS d) w' from (ins_st h1 cap 20 (by rw [srt_size]; exact hn) h20).2))
    clear h hn
    go_enter Try.func92, Try.ntmps92
    go_wp2
    go_loopg [7, 8] 1 (fun gk v7 v8 wr => (gk = 1 ∧ v7 = .int .i64 0 ∧ v8 = .int .i64 20 ∧ Sd (wr = W)) ∨ (gk = 0 ∧ v7 = .int .i64 20 ∧ v8 = .int .i64 40 ∧ Sd (St w B0 g (srtS d) wr)))
    case atStart => exact .inl ⟨rfl, rfl, rfl, ⟨rfl⟩⟩
    case round =>
      rcases hrel with ⟨rfl, rfl, rfl, HE⟩ | ⟨rfl, rfl, rfl, HE⟩
      · obtain rfl := HE.out.symm
        go_wp2_with (first
          | (go_at_call 113; (with_reducible refine HI.out.mono ?_); rintro e w1 ⟨rfl, hs⟩; have HS := Sd.mk hs; clear hs))
        go_roundg 0
        case measure => omega
        case rel => exact .inr ⟨rfl, rfl, rfl, HS⟩
      · go_wp2_with (first
          | (go_at_call 113; (with_reducible refine (HI2.out _ HE.out).mono ?_); rintro e w1 ⟨rfl, hs⟩; have HS := Sd.mk hs; clear hs))
        refine wp_loop_rounds 1 ?_
        rw [rounds_succ]
        go_wp2
        go_end0
        exact ⟨rfl, HS.out⟩
  · have HI := Sd.mk (show Calls Try.prog 113 #[.slice (some ⟨g, 0, none⟩) n cap, .int .i64 0, .int .i64 n, .func (.func 61) #[] #[]] W fun e w' => e = .returned (.tuple #[]) ∧ St w B0 g (srtS d) w' from (ins_st h cap n hn h20).1)
    have d0 : decide ((20 : Int) ≤ (n : Int)) = false := decide_eq_false (by omega)
    have d1 : decide (20 ≤ n) = false := decide_eq_false (by omega)
    have d2 : decide ((20 : Int) < (n : Int)) = false := decide_eq_false (by omega)
    have d3 : decide (20 < n) = false := decide_eq_false (by omega)
    clear h hn
    go_enter Try.func92, Try.ntmps92
    go_wp2
    refine wp_loop_rounds 1 ?_
    rw [rounds_succ]
    go_wp2_with (first
      | (go_at_call 113; (with_reducible refine HI.out.mono ?_); rintro e w1 ⟨rfl, hs⟩; have HS := Sd.mk hs; clear hs))
    refine wp_loop_rounds 1 ?_
    rw [rounds_succ]
    go_wp2
    go_end0
    exact ⟨rfl, HS.out⟩
set_option maxHeartbeats 1000000 in
theorem ins_none (p : Option Addr) (cap : Nat) (fv : Value) (w : World) : Calls Try.prog 113 #[.slice p 0 cap, .int .i64 0, .int .i64 0, fv] w fun e w' => e = .returned (.tuple #[]) ∧ w' = w := by
  go_enter Try.func113, Try.ntmps113
  go_wp2
  refine wp_loop_rounds 1 ?_
  rw [rounds_succ]
  go_wp2
  go_end0
  exact ⟨rfl, rfl⟩
set_option maxHeartbeats 1000000 in
theorem stable_none (p : Option Addr) (cap : Nat) (fv : Value) (w : World) : Calls Try.prog 92 #[.slice p 0 cap, .int .i64 0, fv] w fun e w' => e = .returned (.tuple #[]) ∧ w' = w := by
  go_enter Try.func92, Try.ntmps92
  go_wp2
  refine wp_loop_rounds 1 ?_
  rw [rounds_succ]
  go_wp2_with (first
    | (go_at_call 113; (with_reducible refine (ins_none _ _ _ _).mono ?_); rintro e w1 ⟨rfl, rfl⟩))
  refine wp_loop_rounds 1 ?_
  rw [rounds_succ]
  go_wp2
  go_end0
  exact ⟨rfl, rfl⟩
set_option maxHeartbeats 1000000 in
theorem sort_any {w : World} {B0 g cap : Nat} {d : Array Raw} {W : World} (h : St w B0 g d W) (n : Nat) (hn : n = d.size) (h20 : n ≤ 20) :
    Calls Try.prog 60 #[.slice (some ⟨g, 0, none⟩) n cap, .func (.func 61) #[] #[]] W fun e w' => e = .returned (.tuple #[]) ∧ St w B0 g (srtS d) w' := by
  have HS := Sd.mk (stable_any (cap := cap) h n hn h20)
  clear h hn
  go_enter Try.func60, Try.ntmps60
  go_wp2_with (first
    | (go_at_call 92; (with_reducible refine HS.out.mono ?_); rintro e w1 ⟨rfl, hs⟩; have HS2 := Sd.mk hs; clear hs))
  go_end0
  exact ⟨rfl, HS2.out⟩
set_option maxHeartbeats 1000000 in
theorem sort_none (p : Option Addr) (cap : Nat) (fv : Value) (w : World) : Calls Try.prog 60 #[.slice p 0 cap, fv] w fun e w' => e = .returned (.tuple #[]) ∧ w' = w := by
  go_enter Try.func60, Try.ntmps60
  go_wp2_with (first
    | (go_at_call 92; (with_reducible refine (stable_none _ _ _ _).mono ?_); rintro e w1 ⟨rfl, rfl⟩))
  go_end0
  exact ⟨rfl, rfl⟩
end Go.Proofs.Ytdmdfpbklflijaa.Mk

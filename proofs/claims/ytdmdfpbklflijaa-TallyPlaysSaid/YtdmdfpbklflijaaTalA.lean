/- A tally: Text, New, Len, of, Count: walked. A tally: which votes are taken: walked. A tally: takes: walked. -/
import Derived.Test.YtdmdfpbklflijaaMkB
import Derived.Test.YtdmdfpbklflijaaMacI
import Derived.Lib.QuietBelow
set_option linter.unusedVariables false
set_option linter.unusedSimpArgs false
namespace Go.Proofs.Ytdmdfpbklflijaa.Tal
open Go.RowKit Rd Api Own Mv App Mk Num Dig

def VB : ByteArray := { data := #[86] }
/-- a vote's text -/
def vtxt (view : Int) (b : ByteArray) : ByteArray := VB ++ num4 view ++ b
set_option maxHeartbeats 1000000 in
theorem text_any (w : World) (view : Int) (b : ByteArray) (hb : b.size ≤ 70368744177664) (t : ByteArray) (ht : vtxt view b = t) : Calls Try.prog 23 #[.int .i64 view, .string b] w fun e w' => e = .returned (.string t) ∧ Below w.heap.size w w' := by
  obtain ⟨n, hn⟩ : ∃ n, num4 view = n := ⟨_, rfl⟩
  have hn4 : n.size = 4 := by rw [← hn]; exact num4_size _
  have hv : VB.size = 1 := rfl
  have hcat : ¬9223372036854775807 < 1 + n.size := by omega
  have hcat2 : ¬9223372036854775807 < (({ data := #[86] } : ByteArray) ++ n).size + b.size := by rw [show (({ data := #[86] } : ByteArray) ++ n).size = VB.size + n.size from app_size _ _]; omega
  have hcat3 : ¬9223372036854775807 < 1 + n.size + b.size := by omega
  have HN := Sd.mk hn
  have HT := Sd.mk (show VB ++ n ++ b = t by rw [← ht, ← hn]; rfl)
  clear hn hn4 hv ht
  go_enter Try.func23, Try.ntmps23
  go_wp2_with (first
    | (go_at_call 57; (with_reducible refine (number_any _ _).mono ?_); rintro e w1 ⟨rfl, hb1⟩; rw [HN.out]))
  go_ret
  exact ⟨by rw [← HT.out]; rfl, hb1⟩

/-- a vote, as it lies -/
structure Vt where
  v : Int
  b : ByteArray
  s : Raw
def fV (x : Vt) : List Value := [.int .i64 x.v, .string x.b, .int .i64 x.s.f, .slice x.s.a x.s.n x.s.c]
theorem fV_one : ∀ x : Vt, ∀ u ∈ fV x, u.oneCell' = true := fun _ _ hu => by simp [fV] at hu; rcases hu with rfl | rfl | rfl | rfl <;> rfl
def vtK : Rk Vt where
  sz := 4
  K := fun _ s cs => cs = fV s
  len := fun h => by rw [h]; rfl
  keep := fun _ h => h
theorem vt_at {W : World} {A : Option Addr} {l : List Vt} (h : Row vtK W A l) {i : Nat} {x : Vt} (hx : l[i]? = some x) : ∃ b o, A = some ⟨b, o, none⟩ ∧ W.cell? ⟨b, o + i * 4, none⟩ = some (.int .i64 x.v) ∧ W.cell? ⟨b, o + i * 4 + 1, none⟩ = some (.string x.b) ∧ W.cell? ⟨b, o + i * 4 + 2, none⟩ = some (.int .i64 x.s.f) ∧ W.cell? ⟨b, o + i * 4 + 3, none⟩ = some (.slice x.s.a x.s.n x.s.c) := by
  obtain ⟨b, o, cs, hA, rfl, hc⟩ := h i x hx
  exact ⟨b, o, hA, hc 0 _ rfl, hc 1 _ rfl, hc 2 _ rfl, hc 3 _ rfl⟩
theorem own_vt {W : World} {base : Nat} {v : Value} {l : List Vt} (h : OwnR fV 4 W base 113 v l) : ∃ A c, v = .slice A l.length c ∧ Sl vtK W A c l := OwnR.reads (d := vtK) (f := fV) (n := 4) (fun _ _ => rfl) (fun _ => rfl) rfl h
/-- a tally in a world -/
structure Ty (g : Nat) (seed : ByteArray) (tn n below : Int) (v : Value) (vs : List Vt) (W : World) : Prop where
  blk : W.heap[g]? = some (.cells #[.string seed, .int .i64 tn, .int .i64 n, .int .i64 below, v] 111 (0, 0))
  own : OwnR fV 4 W 0 113 v vs
theorem Ty.below {g : Nat} {seed : ByteArray} {tn n below : Int} {v : Value} {vs : List Vt} {W W1 : World} (h : Ty g seed tn n below v vs W) (hb : Below W.heap.size W W1) : Ty g seed tn n below v vs W1 := ⟨blk_keep h.blk hb, h.own.below hb⟩
set_option maxHeartbeats 1000000 in
theorem new_any (w : World) (seed : ByteArray) (tn n : Int) : Calls Try.prog 31 #[.string seed, .int .i64 tn, .int .i64 n] w fun e w' => ∃ g, e = .returned (.pointer (some ⟨g, 0, none⟩)) ∧ Ty g seed tn n 0 (.slice none 0 0) [] w' ∧ w.heap.size ≤ g ∧ Below w.heap.size w w' := by
  go_enter Try.func31, Try.ntmps31
  go_wp2
  go_ret
  exact ⟨_, rfl, ⟨blk_new _ _, OwnR.nil _ _ _ _ _⟩, Nat.le_refl _, below_one _ _⟩
set_option maxHeartbeats 1000000 in
theorem len_any {g : Nat} {seed : ByteArray} {tn n below : Int} {v : Value} {vs : List Vt} {W : World} (h : Ty g seed tn n below v vs W) (m : Nat) (hm : vs.length = m) : Calls Try.prog 34 #[.pointer (some ⟨g, 0, none⟩)] W fun e w' => e = .returned (.int .i64 (m : Nat)) ∧ w' = W := by
  obtain ⟨A, c, rfl, -⟩ := own_vt h.own
  have g4 := blk_at h.blk 4 _ rfl
  rw [hm] at g4
  clear h hm
  go_enter Try.func34, Try.ntmps34
  go_wp2
  go_ret
  exact ⟨rfl, rfl⟩
/-- of a view and a block -/
def hit (view : Int) (b : ByteArray) (x : Vt) : Bool := x.v == view && (x.b.toList == b.toList)
def ofF (vs : List Vt) (view : Int) (b : ByteArray) : List Raw := (vs.filter (hit view b)).map (·.s)
theorem ofF_take {vs : List Vt} {i : Nat} {x : Vt} (hx : vs[i]? = some x) (view : Int) (b : ByteArray) : ofF (vs.take (i + 1)) view b = if hit view b x then ofF (vs.take i) view b ++ [x.s] else ofF (vs.take i) view b := by
  unfold ofF
  rw [List.take_add_one, hx]
  simp only [Option.toList_some, List.filter_append, List.map_append]
  by_cases h : hit view b x = true
  · rw [if_pos h]; simp [h]
  · rw [if_neg h]; simp [h]
theorem ofF_le (vs : List Vt) (view : Int) (b : ByteArray) : (ofF vs view b).length ≤ vs.length := by unfold ofF; rw [List.length_map]; exact List.length_filter_le _ _
/-- what is collected -/
structure Oc (w : World) (v : Value) (l : List Raw) (W : World) : Prop where
  own : OwnR fS 2 W w.heap.size 39 v l
  bel : Below w.heap.size w W
theorem Oc.below {w W W1 : World} {v : Value} {l : List Raw} (h : Oc w v l W) (hb : Below W.heap.size W W1) : Oc w v l W1 := ⟨h.own.below hb, below_then h.bel hb⟩
set_option maxHeartbeats 4000000 in
set_option maxRecDepth 100000 in
theorem of_any {g : Nat} {seed : ByteArray} {tn n below : Int} {v : Value} {vs : List Vt} {w : World} (h : Ty g seed tn n below v vs w) (h1000 : vs.length ≤ 1000) (view : Int) (b : ByteArray) :
    Calls Try.prog 70 #[.pointer (some ⟨g, 0, none⟩), .int .i64 view, .string b] w fun e w' => ∃ v', e = .returned v' ∧ Oc w v' (ofF vs view b) w' := by
  obtain ⟨A, c, rfl, hs⟩ := own_vt h.own
  have g4 := blk_at h.blk 4 _ rfl
  have HS := Sd.mk hs
  obtain ⟨m, hm⟩ : ∃ m, m = vs.length := ⟨_, rfl⟩
  have HM := Sd.mk hm
  have mc := Nat.le_trans hs.le hs.cap
  rw [← hm] at g4 mc h1000
  clear h hs hm
  go_enter Try.func70, Try.ntmps70
  go_wp2
  have H0 := Sd.mk (show Oc w (.slice none 0 0) (ofF (vs.take 0) view b) w from ⟨OwnR.nil _ _ _ _ _, Below.refl _ _⟩)
  go_loopg [7, 9, 15] m (fun gk v7 v9 v15 wr => ∃ (i : Nat) (B : Option Addr) (k d : Nat), i + gk = m ∧ k ≤ i ∧ v7 = .slice B k d ∧ v15 = .int .i64 (i : Nat) ∧ Sd ((ofF (vs.take i) view b).length = k) ∧ Sd (Oc w (.slice B k d) (ofF (vs.take i) view b) wr))
  case atStart => exact ⟨0, none, 0, 0, by omega, by omega, rfl, rfl, ⟨rfl⟩, H0⟩
  case round =>
    clear H0
    obtain ⟨i, B, k, d, hi, hki, rfl, rfl, HK, HO⟩ := hrel
    by_cases hlt : i < m
    · have hii : (i : Int) < m := by omega
      obtain ⟨x, hx⟩ : ∃ x, vs[i]? = some x := ⟨vs[i]'(by rw [← HM.out]; exact hlt), List.getElem?_eq_getElem _⟩
      obtain ⟨b1, o1, rfl, p0, p1, p2, p3⟩ := vt_at HS.out.row hx
      have HX := Sd.mk hx
      have c0 := cell_below HO.out.bel p0
      have c1 := cell_below HO.out.bel p1
      have c2 := cell_below HO.out.bel p2
      have c3 := cell_below HO.out.bel p3
      have HT := Sd.mk (ofF_take hx view b)
      obtain ⟨xv, xb, xs⟩ := x
      simp only at c0 c1 c2 c3
      clear hx p0 p1 p2 p3
      go_upto_region 5 with (fail)
      have X0 := blk_new wr (.cells #[.int .i64 xv, .string xb, .int .i64 xs.f, .slice xs.a xs.n xs.c] 113)
      have HO1 := Sd.mk (HO.out.below (below_one wr (.cells #[.int .i64 xv, .string xb, .int .i64 xs.f, .slice xs.a xs.n xs.c] 113)))
      generalize hk7 : wr.heap.size = k7 at X0 ⊢
      generalize wr.alloc _ = W1 at X0 HO1 ⊢
      have q0 := blk_at X0 0 _ rfl
      have q1 := blk_at X0 1 _ rfl
      have q2 := blk_at X0 2 _ rfl
      have q3 := blk_at X0 3 _ rfl
      clear c0 c1 c2 c3 X0 HO hk7
      obtain ⟨r0, hr0⟩ : ∃ r, (xv == view) = r := ⟨_, rfl⟩
      obtain ⟨r1, hr1⟩ : ∃ r, (xb.toList == b.toList) = r := ⟨_, rfl⟩
      have HH := Sd.mk (show hit view b ⟨xv, xb, xs⟩ = (r0 && r1) by unfold hit; rw [hr0, hr1])
      cases r0 with
      | false =>
        have HT2 := Sd.mk (show ofF (vs.take (i + 1)) view b = ofF (vs.take i) view b by rw [HT.out, HH.out]; rfl)
        clear hr1
        go_wp2
        go_roundg (gk - 1)
        case measure => omega
        case rel => exact ⟨i + 1, B, k, d, by omega, by omega, rfl, by go_num, ⟨by rw [HT2.out]; exact HK.out⟩, ⟨by rw [HT2.out]; exact HO1.out⟩⟩
      | true =>
        cases r1 with
        | false =>
          have HT2 := Sd.mk (show ofF (vs.take (i + 1)) view b = ofF (vs.take i) view b by rw [HT.out, HH.out]; rfl)
          go_wp2
          go_roundg (gk - 1)
          case measure => omega
          case rel => exact ⟨i + 1, B, k, d, by omega, by omega, rfl, by go_num, ⟨by rw [HT2.out]; exact HK.out⟩, ⟨by rw [HT2.out]; exact HO1.out⟩⟩
        | true =>
          have HT2 := Sd.mk (show ofF (vs.take (i + 1)) view b = ofF (vs.take i) view b ++ [xs] by rw [HT.out, HH.out]; rfl)
          go_wp2_with (first
            | (at_builtin; refine append_one (f := fS) (n := 2) (fun _ => rfl) fS_one w.heap.size rfl (.tmp 29) (.tmp 32) 22 39 (.agg #[.int .i64 0, .slice none 0 0]) 32 rfl Try.underlying22 info_sig rfl (by decide) (.slice B k d) (ofF (vs.take i) view b) xs rfl rfl HO1.out.own HO1.out.bel HO1.out.bel.size (by rw [HK.out]; omega) (by rw [HK.out]; omega) ?_; intro v5 w5 hown hbel hg; obtain ⟨A6, q6, rfl⟩ := OwnR.slice hown; have hl6 : (ofF (vs.take i) view b ++ [xs]).length = k + 1 := (by rw [List.length_append, HK.out]; rfl); rw [hl6] at hown ⊢; have HO3 := Sd.mk (⟨hown, hbel⟩ : Oc w (.slice A6 (k + 1) q6) (ofF (vs.take i) view b ++ [xs]) w5); have HK3 := Sd.mk hl6; clear hown hbel hg hl6))
          go_roundg (gk - 1)
          case measure => omega
          case rel => exact ⟨i + 1, A6, k + 1, q6, by omega, by omega, rfl, by go_num, ⟨by rw [HT2.out]; exact HK3.out⟩, ⟨by rw [HT2.out]; exact HO3.out⟩⟩
    · have hii : decide (i < m) = false := decide_eq_false (by omega)
      have HE := Sd.mk (show vs.take i = vs from List.take_of_length_le (by rw [← HM.out]; omega))
      go_wp2
      go_ret
      exact ⟨_, rfl, by have := HO.out; rw [HE.out] at this; exact this⟩
set_option maxHeartbeats 1000000 in
theorem count_any {g : Nat} {seed : ByteArray} {tn n below : Int} {v : Value} {vs : List Vt} {w : World} (h : Ty g seed tn n below v vs w) (h1000 : vs.length ≤ 1000) (view : Int) (b : ByteArray) (m : Nat) (hm : (ofF vs view b).length = m) :
    Calls Try.prog 41 #[.pointer (some ⟨g, 0, none⟩), .int .i64 view, .string b] w fun e w' => e = .returned (.int .i64 (m : Nat)) ∧ Below w.heap.size w w' := by
  have HO := Sd.mk (of_any h h1000 view b)
  have HM := Sd.mk hm
  clear h h1000 hm
  go_enter Try.func41, Try.ntmps41
  go_wp2_with (first
    | (go_at_call 70; (with_reducible refine HO.out.mono ?_); rintro e w1 ⟨v', rfl, ho⟩; obtain ⟨A6, q6, rfl⟩ := OwnR.slice ho.own; rw [HM.out]; have HB := Sd.mk ho.bel; clear ho))
  go_ret
  exact ⟨rfl, HB.out⟩
end Go.Proofs.Ytdmdfpbklflijaa.Tal
set_option linter.unusedVariables false
set_option linter.unusedSimpArgs false
namespace Go.Proofs.Ytdmdfpbklflijaa.Tal
open Go.RowKit Rd Api Own Mv App Mk Num Dig Mac

/-- the same node's, in the same view -/
def same (y x : Vt) : Bool := x.v == y.v && x.s.f == y.s.f
set_option maxHeartbeats 1000000 in
theorem takes1_any (W : World) (Bv : Nat) (y x : Vt) (hB : W.heap[Bv]? = some (.cells #[.int .i64 y.v, .string y.b, .int .i64 y.s.f, .slice y.s.a y.s.n y.s.c] 113 (0, 0))) (r : Bool) (hr : same y x = r) :
    Calls Try.prog 100 #[.agg #[.int .i64 x.v, .string x.b, .int .i64 x.s.f, .slice x.s.a x.s.n x.s.c], .pointer (some ⟨Bv, 0, none⟩)] W fun e w' => e = .returned (.bool r) ∧ Below W.heap.size W w' := by
  have hB2 := blk_keep hB (below_one W (.cells #[.int .i64 x.v, .string x.b, .int .i64 x.s.f, .slice x.s.a x.s.n x.s.c] 113))
  have c0 := blk_at hB2 0 _ rfl
  have c2 := blk_at hB2 2 _ rfl
  obtain ⟨r0, hr0⟩ : ∃ r, (x.v == y.v) = r := ⟨_, rfl⟩
  obtain ⟨r1, hr1⟩ : ∃ r, (x.s.f == y.s.f) = r := ⟨_, rfl⟩
  have HR := Sd.mk (show (r0 && r1) = r by rw [← hr, ← hr0, ← hr1]; rfl)
  clear hB hB2 hr
  cases r0 with
  | false =>
    obtain rfl := HR.out
    go_enter Try.func100, Try.ntmps100
    go_wp2
    go_ret
    exact ⟨rfl, below_one _ _⟩
  | true =>
    obtain rfl := HR.out
    go_enter Try.func100, Try.ntmps100
    go_wp2
    go_ret
    exact ⟨by simp, below_one _ _⟩
set_option maxHeartbeats 4000000 in
set_option maxRecDepth 100000 in
theorem index_any (w : World) (A : Option Addr) (c : Nat) (vs : List Vt) (hs : Sl vtK w A c vs) (Bv : Nat) (y : Vt) (hB : w.heap[Bv]? = some (.cells #[.int .i64 y.v, .string y.b, .int .i64 y.s.f, .slice y.s.a y.s.n y.s.c] 113 (0, 0))) (m : Nat) (hm : m = vs.length) :
    Calls Try.prog 101 #[.slice A m c, .func (.func 100) #[] #[.pointer (some ⟨Bv, 0, none⟩)]] w fun e w' => ∃ k : Int, e = .returned (.int .i64 k) ∧ (0 ≤ k ∧ vs.any (same y) = true ∨ k = -1 ∧ vs.any (same y) = false) ∧ Below w.heap.size w w' := by
  have HS := Sd.mk hs
  have HBv := Sd.mk hB
  have HM := Sd.mk hm
  have mc := Nat.le_trans hs.le hs.cap
  rw [← hm] at mc
  clear hs hB hm
  have H0 := Sd.mk (Below.refl w.heap.size w)
  go_enter Try.func101, Try.ntmps101
  go_wp2
  go_loopg [5, 8] m (fun gk v5 v8 wr => ∃ i, i + gk = m ∧ v8 = .int .i64 (i : Nat) ∧ Sd ((vs.take i).any (same y) = false) ∧ Sd (Below w.heap.size w wr))
  case atStart => exact ⟨0, by omega, rfl, ⟨rfl⟩, H0⟩
  case round =>
    clear H0
    obtain ⟨i, hi, rfl, HA, HB⟩ := hrel
    by_cases hlt : i < m
    · have hii : (i : Int) < m := by omega
      obtain ⟨x, hx⟩ : ∃ x, vs[i]? = some x := ⟨vs[i]'(by rw [← HM.out]; exact hlt), List.getElem?_eq_getElem _⟩
      obtain ⟨b1, o1, rfl, p0, p1, p2, p3⟩ := vt_at HS.out.row hx
      have HX := Sd.mk hx
      have c0 := cell_below HB.out p0
      have c1 := cell_below HB.out p1
      have c2 := cell_below HB.out p2
      have c3 := cell_below HB.out p3
      obtain ⟨r, hr⟩ : ∃ r, same y x = r := ⟨_, rfl⟩
      have HR := Sd.mk hr
      clear hx p0 p1 p2 p3 hr
      cases r with
      | true =>
        have HY := Sd.mk (show vs.any (same y) = true from List.any_eq_true.2 ⟨x, List.mem_of_getElem? HX.out, HR.out⟩)
        go_wp2_with (first
          | (go_at_call 100; (with_reducible refine (takes1_any _ Bv y x (blk_keep HBv.out HB.out) true HR.out).mono ?_); rintro e w2 ⟨rfl, hb⟩; have HB2 := Sd.mk (below_then HB.out hb); clear hb))
        go_ret
        exact ⟨(i : Int), rfl, .inl ⟨by omega, HY.out⟩, HB2.out⟩
      | false =>
        have HA2 := Sd.mk (show (vs.take (i + 1)).any (same y) = false by rw [List.take_add_one, HX.out]; simp only [Option.toList_some, List.any_append, HA.out]; simp [HR.out])
        go_wp2_with (first
          | (go_at_call 100; (with_reducible refine (takes1_any _ Bv y x (blk_keep HBv.out HB.out) false HR.out).mono ?_); rintro e w2 ⟨rfl, hb⟩; have HB2 := Sd.mk (below_then HB.out hb); clear hb))
        go_roundg (gk - 1)
        case measure => omega
        case rel => exact ⟨i + 1, by omega, by go_num, HA2, HB2⟩
    · have hii : decide (i < m) = false := decide_eq_false (by omega)
      have HE := Sd.mk (show vs.any (same y) = false by have := HA.out; rwa [List.take_of_length_le (by rw [← HM.out]; omega)] at this)
      go_wp2
      go_ret
      exact ⟨-1, rfl, .inr ⟨rfl, HE.out⟩, HB.out⟩
set_option maxHeartbeats 1000000 in
theorem contains_any (w : World) (A : Option Addr) (c : Nat) (vs : List Vt) (hs : Sl vtK w A c vs) (Bv : Nat) (y : Vt) (hB : w.heap[Bv]? = some (.cells #[.int .i64 y.v, .string y.b, .int .i64 y.s.f, .slice y.s.a y.s.n y.s.c] 113 (0, 0))) (m : Nat) (hm : m = vs.length) (r : Bool) (hr : vs.any (same y) = r) :
    Calls Try.prog 99 #[.slice A m c, .func (.func 100) #[] #[.pointer (some ⟨Bv, 0, none⟩)]] w fun e w' => e = .returned (.bool r) ∧ Below w.heap.size w w' := by
  have HI := Sd.mk (index_any w A c vs hs Bv y hB m hm)
  have HR := Sd.mk hr
  clear hs hB hm hr
  go_enter Try.func99, Try.ntmps99
  go_upto_region 1 with (fail)
  cases r with
  | true =>
    go_wp2_with (first
      | (go_at_call 101; (with_reducible refine HI.out.mono ?_); rintro e w1 ⟨k, rfl, hk, hb⟩; have hk0 : 0 ≤ k := (by rcases hk with h | h; exact h.1; exact absurd (h.2.symm.trans HR.out) (by simp)); have d0 : decide (0 ≤ k) = true := decide_eq_true hk0; have HB := Sd.mk hb; clear hk hb))
    go_ret
    exact ⟨rfl, HB.out⟩
  | false =>
    go_wp2_with (first
      | (go_at_call 101; (with_reducible refine HI.out.mono ?_); rintro e w1 ⟨k, rfl, hk, hb⟩; obtain rfl : k = -1 := (by rcases hk with h | h; exact absurd (h.2.symm.trans HR.out) (by simp); exact h.1); have HB := Sd.mk hb; clear hk hb))
    go_ret
    exact ⟨rfl, HB.out⟩
end Go.Proofs.Ytdmdfpbklflijaa.Tal
set_option linter.unusedVariables false
set_option linter.unusedSimpArgs false
namespace Go.Proofs.Ytdmdfpbklflijaa.Tal
open Go.RowKit Go.Sort Rd Api Own Mv App Mk Num Dig Mac

/-- what a vote's row looks at -/
structure Tk (g : Nat) (seed : ByteArray) (tn n below : Int) (A : Option Addr) (c m : Nat) (Bv : Nat) (y : Vt) (W : World) : Prop where
  blk : W.heap[g]? = some (.cells #[.string seed, .int .i64 tn, .int .i64 n, .int .i64 below, .slice A m c] 111 (0, 0))
  vb : W.heap[Bv]? = some (.cells #[.int .i64 y.v, .string y.b, .int .i64 y.s.f, .slice y.s.a y.s.n y.s.c] 113 (0, 0))
theorem Tk.below {g : Nat} {seed : ByteArray} {tn n below : Int} {A : Option Addr} {c m Bv : Nat} {y : Vt} {W W1 : World} (h : Tk g seed tn n below A c m Bv y W) (hb : Below W.heap.size W W1) : Tk g seed tn n below A c m Bv y W1 := ⟨blk_keep h.blk hb, blk_keep h.vb hb⟩
theorem tk_new {g : Nat} {seed : ByteArray} {tn n below : Int} {A : Option Addr} {c m : Nat} {w : World} (h : w.heap[g]? = some (.cells #[.string seed, .int .i64 tn, .int .i64 n, .int .i64 below, .slice A m c] 111 (0, 0))) (y : Vt) :
    Tk g seed tn n below A c m w.heap.size y (w.alloc (.cells #[.int .i64 y.v, .string y.b, .int .i64 y.s.f, .slice y.s.a y.s.n y.s.c] 113)) := ⟨blk_keep h (below_one _ _), blk_new _ _⟩
set_option maxHeartbeats 4000000 in
set_option maxRecDepth 100000 in
theorem takes_no1 {g : Nat} {seed : ByteArray} {tn n below : Int} {A : Option Addr} {c m : Nat} {w : World} (h : w.heap[g]? = some (.cells #[.string seed, .int .i64 tn, .int .i64 n, .int .i64 below, .slice A m c] 111 (0, 0))) (y : Vt) (h1 : y.v < 1) :
    Calls Try.prog 69 #[.pointer (some ⟨g, 0, none⟩), .agg #[.int .i64 y.v, .string y.b, .int .i64 y.s.f, .slice y.s.a y.s.n y.s.c]] w fun e w' => e = .returned (.bool false) ∧ Below w.heap.size w w' := by
  have HT := Sd.mk (tk_new h y)
  have HB := Sd.mk (below_one w (.cells #[.int .i64 y.v, .string y.b, .int .i64 y.s.f, .slice y.s.a y.s.n y.s.c] 113))
  have d1 : decide (y.v < 1) = true := decide_eq_true h1
  clear h
  go_enter Try.func69, Try.ntmps69
  go_upto_region 1 with (fail)
  generalize w.heap.size = Bv at HT ⊢
  generalize w.alloc _ = W1 at HT HB ⊢
  have v0 := blk_at HT.out.vb 0 _ rfl
  have v1 := blk_at HT.out.vb 1 _ rfl
  have t2 := blk_at HT.out.blk 2 _ rfl
  have t3 := blk_at HT.out.blk 3 _ rfl
  have t4 := blk_at HT.out.blk 4 _ rfl
  go_quiet (fail)
  go_wp2
  go_ret
  exact ⟨rfl, below_drewN HB.out nq⟩
set_option maxHeartbeats 4000000 in
set_option maxRecDepth 100000 in
theorem takes_no2 {g : Nat} {seed : ByteArray} {tn n below : Int} {A : Option Addr} {c m : Nat} {w : World} (h : w.heap[g]? = some (.cells #[.string seed, .int .i64 tn, .int .i64 n, .int .i64 below, .slice A m c] 111 (0, 0))) (y : Vt) (h1 : ¬ y.v < 1) (h2 : 1000000 < y.v) :
    Calls Try.prog 69 #[.pointer (some ⟨g, 0, none⟩), .agg #[.int .i64 y.v, .string y.b, .int .i64 y.s.f, .slice y.s.a y.s.n y.s.c]] w fun e w' => e = .returned (.bool false) ∧ Below w.heap.size w w' := by
  have HT := Sd.mk (tk_new h y)
  have HB := Sd.mk (below_one w (.cells #[.int .i64 y.v, .string y.b, .int .i64 y.s.f, .slice y.s.a y.s.n y.s.c] 113))
  have d1 : decide (y.v < 1) = false := decide_eq_false h1
  have d2 : decide (1000000 < y.v) = true := decide_eq_true h2
  clear h
  go_enter Try.func69, Try.ntmps69
  go_upto_region 1 with (fail)
  generalize w.heap.size = Bv at HT ⊢
  generalize w.alloc _ = W1 at HT HB ⊢
  have v0 := blk_at HT.out.vb 0 _ rfl
  have v1 := blk_at HT.out.vb 1 _ rfl
  have t2 := blk_at HT.out.blk 2 _ rfl
  have t3 := blk_at HT.out.blk 3 _ rfl
  have t4 := blk_at HT.out.blk 4 _ rfl
  go_quiet (fail)
  go_wp2
  go_ret
  exact ⟨rfl, below_drewN HB.out nq⟩
set_option maxHeartbeats 4000000 in
set_option maxRecDepth 100000 in
theorem takes_no3 {g : Nat} {seed : ByteArray} {tn n below : Int} {A : Option Addr} {c m : Nat} {w : World} (h : w.heap[g]? = some (.cells #[.string seed, .int .i64 tn, .int .i64 n, .int .i64 below, .slice A m c] 111 (0, 0))) (y : Vt) (h1 : ¬ y.v < 1) (h2 : ¬ 1000000 < y.v) (h3 : y.v ≤ below) :
    Calls Try.prog 69 #[.pointer (some ⟨g, 0, none⟩), .agg #[.int .i64 y.v, .string y.b, .int .i64 y.s.f, .slice y.s.a y.s.n y.s.c]] w fun e w' => e = .returned (.bool false) ∧ Below w.heap.size w w' := by
  have HT := Sd.mk (tk_new h y)
  have HB := Sd.mk (below_one w (.cells #[.int .i64 y.v, .string y.b, .int .i64 y.s.f, .slice y.s.a y.s.n y.s.c] 113))
  have d1 : decide (y.v < 1) = false := decide_eq_false h1
  have d2 : decide (1000000 < y.v) = false := decide_eq_false h2
  have d3 : decide (y.v ≤ below) = true := decide_eq_true h3
  clear h
  go_enter Try.func69, Try.ntmps69
  go_upto_region 1 with (fail)
  generalize w.heap.size = Bv at HT ⊢
  generalize w.alloc _ = W1 at HT HB ⊢
  have v0 := blk_at HT.out.vb 0 _ rfl
  have v1 := blk_at HT.out.vb 1 _ rfl
  have t2 := blk_at HT.out.blk 2 _ rfl
  have t3 := blk_at HT.out.blk 3 _ rfl
  have t4 := blk_at HT.out.blk 4 _ rfl
  go_quiet (fail)
  go_wp2
  go_ret
  exact ⟨rfl, below_drewN HB.out nq⟩
set_option maxHeartbeats 4000000 in
set_option maxRecDepth 100000 in
theorem takes_no4 {g : Nat} {seed : ByteArray} {tn n below : Int} {A : Option Addr} {c m : Nat} {w : World} (h : w.heap[g]? = some (.cells #[.string seed, .int .i64 tn, .int .i64 n, .int .i64 below, .slice A m c] 111 (0, 0))) (y : Vt) (h1 : ¬ y.v < 1) (h2 : ¬ 1000000 < y.v) (h3 : ¬ y.v ≤ below) (h4 : ¬ y.b.size = 32) :
    Calls Try.prog 69 #[.pointer (some ⟨g, 0, none⟩), .agg #[.int .i64 y.v, .string y.b, .int .i64 y.s.f, .slice y.s.a y.s.n y.s.c]] w fun e w' => e = .returned (.bool false) ∧ Below w.heap.size w w' := by
  have HT := Sd.mk (tk_new h y)
  have HB := Sd.mk (below_one w (.cells #[.int .i64 y.v, .string y.b, .int .i64 y.s.f, .slice y.s.a y.s.n y.s.c] 113))
  have d1 : decide (y.v < 1) = false := decide_eq_false h1
  have d2 : decide (1000000 < y.v) = false := decide_eq_false h2
  have d3 : decide (y.v ≤ below) = false := decide_eq_false h3
  have d4 : ((y.b.size : Int) != 32) = true := by rw [bne_iff_ne]; omega
  clear h
  go_enter Try.func69, Try.ntmps69
  go_upto_region 1 with (fail)
  generalize w.heap.size = Bv at HT ⊢
  generalize w.alloc _ = W1 at HT HB ⊢
  have v0 := blk_at HT.out.vb 0 _ rfl
  have v1 := blk_at HT.out.vb 1 _ rfl
  have t2 := blk_at HT.out.blk 2 _ rfl
  have t3 := blk_at HT.out.blk 3 _ rfl
  have t4 := blk_at HT.out.blk 4 _ rfl
  go_quiet (fail)
  go_wp2
  go_ret
  exact ⟨rfl, below_drewN HB.out nq⟩
set_option maxHeartbeats 4000000 in
set_option maxRecDepth 100000 in
theorem takes_no5 {g : Nat} {seed : ByteArray} {tn n below : Int} {A : Option Addr} {c m : Nat} {w : World} (h : w.heap[g]? = some (.cells #[.string seed, .int .i64 tn, .int .i64 n, .int .i64 below, .slice A m c] 111 (0, 0))) (y : Vt) (h1 : ¬ y.v < 1) (h2 : ¬ 1000000 < y.v) (h3 : ¬ y.v ≤ below) (h4 : y.b.size = 32) (h5 : wrap64 (4 * n) ≤ (m : Int)) :
    Calls Try.prog 69 #[.pointer (some ⟨g, 0, none⟩), .agg #[.int .i64 y.v, .string y.b, .int .i64 y.s.f, .slice y.s.a y.s.n y.s.c]] w fun e w' => e = .returned (.bool false) ∧ Below w.heap.size w w' := by
  have HT := Sd.mk (tk_new h y)
  have HB := Sd.mk (below_one w (.cells #[.int .i64 y.v, .string y.b, .int .i64 y.s.f, .slice y.s.a y.s.n y.s.c] 113))
  have d1 : decide (y.v < 1) = false := decide_eq_false h1
  have d2 : decide (1000000 < y.v) = false := decide_eq_false h2
  have d3 : decide (y.v ≤ below) = false := decide_eq_false h3
  have d4 : ((y.b.size : Int) != 32) = false := by rw [bne_eq_false_iff_eq]; omega
  have d5 : decide (wrap64 (4 * n) ≤ (m : Int)) = true := decide_eq_true h5
  clear h
  go_enter Try.func69, Try.ntmps69
  go_upto_region 1 with (fail)
  generalize w.heap.size = Bv at HT ⊢
  generalize w.alloc _ = W1 at HT HB ⊢
  have v0 := blk_at HT.out.vb 0 _ rfl
  have v1 := blk_at HT.out.vb 1 _ rfl
  have t2 := blk_at HT.out.blk 2 _ rfl
  have t3 := blk_at HT.out.blk 3 _ rfl
  have t4 := blk_at HT.out.blk 4 _ rfl
  go_quiet (fail)
  go_wp2
  go_ret
  exact ⟨rfl, below_drewN HB.out nq⟩
theorem holds_len (w : World) (seed tx : ByteArray) (tn n fr : Int) (A : Option Addr) (c : Nat) (l : List ByteArray) (h : Sl Rk.str w A c l) (hs : seed.size ≤ 35184372088832) (ht : tx.size ≤ 35184372088832) (r : Bool) (hr : r = true ↔ holdsF seed tn n tx fr l) (k : Nat) (hk : k = l.length) :
    Calls Try.prog 50 #[.string seed, .int .i64 tn, .int .i64 n, .string tx, .agg #[.int .i64 fr, .slice A k c]] w fun e w' => e = .returned (.bool r) ∧ Below w.heap.size w w' := by
  subst hk; exact holds_any w seed tx tn n fr A c l h hs ht r hr
set_option maxHeartbeats 8000000 in
set_option maxRecDepth 100000 in
theorem takes_had {g : Nat} {seed : ByteArray} {tn n below : Int} {A : Option Addr} {c m : Nat} {w : World} (h : w.heap[g]? = some (.cells #[.string seed, .int .i64 tn, .int .i64 n, .int .i64 below, .slice A m c] 111 (0, 0))) (y : Vt) (h1 : ¬ y.v < 1) (h2 : ¬ 1000000 < y.v) (h3 : ¬ y.v ≤ below) (h4 : y.b.size = 32) (h5 : ¬ wrap64 (4 * n) ≤ (m : Int))
    (vs : List Vt) (hm : m = vs.length) (hs : Sl vtK w A c vs) (had : Bool) (hh : vs.any (same y) = had) (tags : List ByteArray) (hn : y.s.n = tags.length) (ht : had = false → Sl Rk.str w y.s.a y.s.c tags) (hsz : seed.size ≤ 35184372088832) (r : Bool) (hr : had = true ∧ r = false ∨ had = false ∧ (r = true ↔ holdsF seed tn n (vtxt y.v y.b) y.s.f tags)) :
    Calls Try.prog 69 #[.pointer (some ⟨g, 0, none⟩), .agg #[.int .i64 y.v, .string y.b, .int .i64 y.s.f, .slice y.s.a y.s.n y.s.c]] w fun e w' => e = .returned (.bool r) ∧ Below w.heap.size w w' := by
  have HT := Sd.mk (tk_new h y)
  have HB := Sd.mk (below_one w (.cells #[.int .i64 y.v, .string y.b, .int .i64 y.s.f, .slice y.s.a y.s.n y.s.c] 113))
  have d1 : decide (y.v < 1) = false := decide_eq_false h1
  have d2 : decide (1000000 < y.v) = false := decide_eq_false h2
  have d3 : decide (y.v ≤ below) = false := decide_eq_false h3
  have d4 : ((y.b.size : Int) != 32) = false := by rw [bne_eq_false_iff_eq]; omega
  have d5 : decide (wrap64 (4 * n) ≤ (m : Int)) = false := decide_eq_false h5
  have HM := Sd.mk hm
  have HS := Sd.mk hs
  have HH := Sd.mk hh
  have HTG := Sd.mk ht
  have HNT := Sd.mk hn
  have HR := Sd.mk hr
  have HY4 := Sd.mk h4
  have mixed : Try.prog.follows .mixedOrders = true := by kernel_rfl
  clear h hm hs hh ht hn hr
  go_enter Try.func69, Try.ntmps69
  go_upto_region 1 with (fail)
  generalize w.heap.size = Bv at HT ⊢
  generalize w.alloc _ = W1 at HT HB ⊢
  have v0 := blk_at HT.out.vb 0 _ rfl
  have v1 := blk_at HT.out.vb 1 _ rfl
  have t2 := blk_at HT.out.blk 2 _ rfl
  have t3 := blk_at HT.out.blk 3 _ rfl
  have t4 := blk_at HT.out.blk 4 _ rfl
  go_quiet (fail)
  have HB2 := Sd.mk (below_drewN HB.out nq)
  have HT2 := Sd.mk (HT.out.below (below_drewN (Below.refl W1.heap.size W1) nq))
  clear v0 v1 t2 t3 t4 HT HB
  generalize W1.drewN nq = W2 at HB2 HT2 ⊢
  have t4 := blk_at HT2.out.blk 4 _ rfl
  go_upto_region 4 with (first
    | (go_at_call 99; (with_reducible refine (contains_any _ A c vs (HS.out.below HB2.out) Bv y HT2.out.vb m HM.out had HH.out).mono ?_); rintro e w3 ⟨rfl, hb3⟩; have HB3 := Sd.mk (below_then HB2.out hb3); have HT3 := Sd.mk (HT2.out.below hb3); clear hb3))
  clear t4
  cases had with
  | true =>
    obtain rfl : r = false := by
      rcases HR.out with h | h
      · exact h.2
      · cases h.1
    go_quiet (fail)
    go_wp2
    go_ret
    exact ⟨rfl, below_drewN HB3.out nq⟩
  | false =>
    have hr2 : r = true ↔ holdsF seed tn n (vtxt y.v y.b) y.s.f tags := by
      rcases HR.out with h | h
      · cases h.1
      · exact h.2
    obtain ⟨t, htx⟩ : ∃ t, vtxt y.v y.b = t := ⟨_, rfl⟩
    rw [htx] at hr2
    have htz : t.size ≤ 35184372088832 := by rw [← htx]; unfold vtxt; rw [app_size, app_size, num4_size, HY4.out]; show 1 + 4 + 32 ≤ _; omega
    have HTX := Sd.mk htx
    have HR2 := Sd.mk hr2
    have HTZ := Sd.mk htz
    have HSG := Sd.mk ((HTG.out rfl).below HB3.out)
    have HB9 := Sd.mk (show y.b.size ≤ 70368744177664 by rw [HY4.out]; omega)
    clear htx hr2 htz
    have u0 := fun d os => cell_regrown (blk_at HT3.out.blk 0 _ rfl) d os
    have u1 := fun d os => cell_regrown (blk_at HT3.out.blk 1 _ rfl) d os
    have u2 := fun d os => cell_regrown (blk_at HT3.out.blk 2 _ rfl) d os
    have v0 := fun d os => cell_regrown (blk_at HT3.out.vb 0 _ rfl) d os
    have v1 := fun d os => cell_regrown (blk_at HT3.out.vb 1 _ rfl) d os
    have v2 := fun d os => cell_regrown (blk_at HT3.out.vb 2 _ rfl) d os
    have v3 := fun d os => cell_regrown (blk_at HT3.out.vb 3 _ rfl) d os
    refine wp_region_quiet_below (by assumption) (by kernel_rfl) ?_
    repeat (quiet_step ((first
      | (go_at_call 23; refine Calls.regrown_of (text_any _ y.v y.b HB9.out t HTX.out))
      | (go_at_call 50; refine Calls.regrown_of (holds_len _ seed t tn n y.s.f y.s.a y.s.c tags (HSG.out.below (below_regrown _ _ _)) hsz HTZ.out r HR2.out y.s.n HNT.out)))))
    refine wpQuiet_nil ?_
    rintro W9 ⟨⟨nq, osq⟩, rfl⟩
    have HB10 := Sd.mk (below_then HB3.out (below_regrown w3 nq osq))
    go_wp2
    go_ret
    exact ⟨rfl, HB10.out⟩
end Go.Proofs.Ytdmdfpbklflijaa.Tal

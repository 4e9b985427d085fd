/- A tally: Text, New, Len, of, Count: walked. -/
import Derived.Test.YtdmdfpbklflijaaMkE
import Derived.Test.YtdmdfpbklflijaaMacI
set_option linter.unusedVariables false
set_option linter.unusedSimpArgs false
namespace Go.Proofs.Ytdmdfpbklflijaa.Tal
open Go.RowKit Rd Api Own Mv App Mk Num Dig

def VB : ByteArray := { data := #[86] }
/-- a vote's text -/
def vtxt (view : Int) (b : ByteArray) : ByteArray := VB ++ num4 view ++ b
set_option maxHeartbeats 1000000 in
theorem text_any (w : World) (view : Int) (b : ByteArray) (hb : b.size ≤ 70368744177664) (t : ByteArray) (ht : vtxt view b = t) : Calls Try.prog 23 #[.int .i64 view, .string b] w fun e w' => e = .returned (.string t) ∧ Below w.heap.size w w' := by
  obtain ⟨n, hn⟩ : ∃ n, num4 view = n := ⟨_, rfl⟩
  have hn4 : n.size = 4 := by rw [← hn]; exact num4_size _
  have hv : VB.size = 1 := rfl
  have hcat : ¬9223372036854775807 < 1 + n.size := by omega
  have hcat2 : ¬9223372036854775807 < (({ data := #[86] } : ByteArray) ++ n).size + b.size := by rw [show (({ data := #[86] } : ByteArray) ++ n).size = VB.size + n.size from app_size _ _]; omega
  have hcat3 : ¬9223372036854775807 < 1 + n.size + b.size := by omega
  have HN := Sd.mk hn
  have HT := Sd.mk (show VB ++ n ++ b = t by rw [← ht, ← hn]; rfl)
  clear hn hn4 hv ht
  go_enter Try.func23, Try.ntmps23
  go_wp2_with (first
    | (go_at_call 57; (with_reducible refine (number_any _ _).mono ?_); rintro e w1 ⟨rfl, hb1⟩; rw [HN.out]))
  go_ret
  exact ⟨by rw [← HT.out]; rfl, hb1⟩

/-- a vote, as it lies -/
structure Vt where
  v : Int
  b : ByteArray
  s : Raw
def fV (x : Vt) : List Value := [.int .i64 x.v, .string x.b, .int .i64 x.s.f, .slice x.s.a x.s.n x.s.c]
theorem fV_one : ∀ x : Vt, ∀ u ∈ fV x, u.oneCell' = true := fun _ _ hu => by simp [fV] at hu; rcases hu with rfl | rfl | rfl | rfl <;> rfl
def vtK : Rk Vt where
  sz := 4
  K := fun _ s cs => cs = fV s
  len := fun h => by rw [h]; rfl
  keep := fun _ h => h
theorem vt_at {W : World} {A : Option Addr} {l : List Vt} (h : Row vtK W A l) {i : Nat} {x : Vt} (hx : l[i]? = some x) : ∃ b o, A = some ⟨b, o, none⟩ ∧ W.cell? ⟨b, o + i * 4, none⟩ = some (.int .i64 x.v) ∧ W.cell? ⟨b, o + i * 4 + 1, none⟩ = some (.string x.b) ∧ W.cell? ⟨b, o + i * 4 + 2, none⟩ = some (.int .i64 x.s.f) ∧ W.cell? ⟨b, o + i * 4 + 3, none⟩ = some (.slice x.s.a x.s.n x.s.c) := by
  obtain ⟨b, o, cs, hA, rfl, hc⟩ := h i x hx
  exact ⟨b, o, hA, hc 0 _ rfl, hc 1 _ rfl, hc 2 _ rfl, hc 3 _ rfl⟩
theorem own_vt {W : World} {base : Nat} {v : Value} {l : List Vt} (h : OwnR fV 4 W base 113 v l) : ∃ A c, v = .slice A l.length c ∧ Sl vtK W A c l := OwnR.reads (d := vtK) (f := fV) (n := 4) (fun _ _ => rfl) (fun _ => rfl) rfl h
/-- a tally in a world -/
structure Ty (g : Nat) (seed : ByteArray) (tn n below : Int) (v : Value) (vs : List Vt) (W : World) : Prop where
  blk : W.heap[g]? = some (.cells #[.string seed, .int .i64 tn, .int .i64 n, .int .i64 below, v] 111 (0, 0))
  own : OwnR fV 4 W 0 113 v vs
theorem Ty.below {g : Nat} {seed : ByteArray} {tn n below : Int} {v : Value} {vs : List Vt} {W W1 : World} (h : Ty g seed tn n below v vs W) (hb : Below W.heap.size W W1) : Ty g seed tn n below v vs W1 := ⟨blk_keep h.blk hb, h.own.below hb⟩
set_option maxHeartbeats 1000000 in
theorem new_any (w : World) (seed : ByteArray) (tn n : Int) : Calls Try.prog 31 #[.string seed, .int .i64 tn, .int .i64 n] w fun e w' => ∃ g, e = .returned (.pointer (some ⟨g, 0, none⟩)) ∧ Ty g seed tn n 0 (.slice none 0 0) [] w' ∧ w.heap.size ≤ g ∧ Below w.heap.size w w' := by
  go_enter Try.func31, Try.ntmps31
  go_wp2
  go_ret
  exact ⟨_, rfl, ⟨blk_new _ _, OwnR.nil _ _ _ _ _⟩, Nat.le_refl _, below_one _ _⟩
set_option maxHeartbeats 1000000 in
theorem len_any {g : Nat} {seed : ByteArray} {tn n below : Int} {v : Value} {vs : List Vt} {W : World} (h : Ty g seed tn n below v vs W) (m : Nat) (hm : vs.length = m) : Calls Try.prog 34 #[.pointer (some ⟨g, 0, none⟩)] W fun e w' => e = .returned (.int .i64 (m : Nat)) ∧ w' = W := by
  obtain ⟨A, c, rfl, -⟩ := own_vt h.own
  have g4 := blk_at h.blk 4 _ rfl
  rw [hm] at g4
  clear h hm
  go_enter Try.func34, Try.ntmps34
  go_wp2
  go_ret
  exact ⟨rfl, rfl⟩
/-- of a view and a block -/
def hit (view : Int) (b : ByteArray) (x : Vt) : Bool := x.v == view && (x.b.toList == b.toList)
def ofF (vs : List Vt) (view : Int) (b : ByteArray) : List Raw := (vs.filter (hit view b)).map (·.s)
theorem ofF_take {vs : List Vt} {i : Nat} {x : Vt} (hx : vs[i]? = some x) (view : Int) (b : ByteArray) : ofF (vs.take (i + 1)) view b = if hit view b x then ofF (vs.take i) view b ++ [x.s] else ofF (vs.take i) view b := by
  unfold ofF
  rw [List.take_add_one, hx]
  simp only [Option.toList_some, List.filter_append, List.map_append]
  by_cases h : hit view b x = true
  · rw [if_pos h]; simp [h]
  · rw [if_neg h]; simp [h]
theorem ofF_le (vs : List Vt) (view : Int) (b : ByteArray) : (ofF vs view b).length ≤ vs.length := by unfold ofF; rw [List.length_map]; exact List.length_filter_le _ _
/-- what is collected -/
structure Oc (w : World) (v : Value) (l : List Raw) (W : World) : Prop where
  own : OwnR fS 2 W w.heap.size 39 v l
  bel : Below w.heap.size w W
theorem Oc.below {w W W1 : World} {v : Value} {l : List Raw} (h : Oc w v l W) (hb : Below W.heap.size W W1) : Oc w v l W1 := ⟨h.own.below hb, below_then h.bel hb⟩
set_option maxHeartbeats 4000000 in
set_option maxRecDepth 100000 in
theorem of_any {g : Nat} {seed : ByteArray} {tn n below : Int} {v : Value} {vs : List Vt} {w : World} (h : Ty g seed tn n below v vs w) (h1000 : vs.length ≤ 1000) (view : Int) (b : ByteArray) :
    Calls Try.prog 70 #[.pointer (some ⟨g, 0, none⟩), .int .i64 view, .string b] w fun e w' => ∃ v', e = .returned v' ∧ Oc w v' (ofF vs view b) w' := by
  obtain ⟨A, c, rfl, hs⟩ := own_vt h.own
  have g4 := blk_at h.blk 4 _ rfl
  have HS := Sd.mk hs
  obtain ⟨m, hm⟩ : ∃ m, m = vs.length := ⟨_, rfl⟩
  have HM := Sd.mk hm
  have mc := Nat.le_trans hs.le hs.cap
  rw [← hm] at g4 mc h1000
  clear h hs hm
  go_enter Try.func70, Try.ntmps70
  go_wp2
  have H0 := Sd.mk (show Oc w (.slice none 0 0) (ofF (vs.take 0) view b) w from ⟨OwnR.nil _ _ _ _ _, Below.refl _ _⟩)
  go_loopg [7, 9, 15] m (fun gk v7 v9 v15 wr => ∃ (i : Nat) (B : Option Addr) (k d : Nat), i + gk = m ∧ k ≤ i ∧ v7 = .slice B k d ∧ v15 = .int .i64 (i : Nat) ∧ Sd ((ofF (vs.take i) view b).length = k) ∧ Sd (Oc w (.slice B k d) (ofF (vs.take i) view b) wr))
  case atStart => exact ⟨0, none, 0, 0, by omega, by omega, rfl, rfl, ⟨rfl⟩, H0⟩
  case round =>
    clear H0
    obtain ⟨i, B, k, d, hi, hki, rfl, rfl, HK, HO⟩ := hrel
    by_cases hlt : i < m
    · have hii : (i : Int) < m := by omega
      obtain ⟨x, hx⟩ : ∃ x, vs[i]? = some x := ⟨vs[i]'(by rw [← HM.out]; exact hlt), List.getElem?_eq_getElem _⟩
      obtain ⟨b1, o1, rfl, p0, p1, p2, p3⟩ := vt_at HS.out.row hx
      have HX := Sd.mk hx
      have c0 := cell_below HO.out.bel p0
      have c1 := cell_below HO.out.bel p1
      have c2 := cell_below HO.out.bel p2
      have c3 := cell_below HO.out.bel p3
      have HT := Sd.mk (ofF_take hx view b)
      obtain ⟨xv, xb, xs⟩ := x
      simp only at c0 c1 c2 c3
      clear hx p0 p1 p2 p3
      go_upto_region 5 with (fail)
      have X0 := blk_new wr (.cells #[.int .i64 xv, .string xb, .int .i64 xs.f, .slice xs.a xs.n xs.c] 113)
      have HO1 := Sd.mk (HO.out.below (below_one wr (.cells #[.int .i64 xv, .string xb, .int .i64 xs.f, .slice xs.a xs.n xs.c] 113)))
      generalize hk7 : wr.heap.size = k7 at X0 ⊢
      generalize wr.alloc _ = W1 at X0 HO1 ⊢
      have q0 := blk_at X0 0 _ rfl
      have q1 := blk_at X0 1 _ rfl
      have q2 := blk_at X0 2 _ rfl
      have q3 := blk_at X0 3 _ rfl
      clear c0 c1 c2 c3 X0 HO hk7
      obtain ⟨r0, hr0⟩ : ∃ r, (xv == view) = r := ⟨_, rfl⟩
      obtain ⟨r1, hr1⟩ : ∃ r, (xb.toList == b.toList) = r := ⟨_, rfl⟩
      have HH := Sd.mk (show hit view b ⟨xv, xb, xs⟩ = (r0 && r1) by unfold hit; rw [hr0, hr1])
      cases r0 with
      | false =>
        have HT2 := Sd.mk (show ofF (vs.take (i + 1)) view b = ofF (vs.take i) view b by rw [HT.out, HH.out]; rfl)
        clear hr1
        go_wp2
        go_roundg (gk - 1)
        case measure => omega
        case rel => exact ⟨i + 1, B, k, d, by omega, by omega, rfl, by go_num, ⟨by rw [HT2.out]; exact HK.out⟩, ⟨by rw [HT2.out]; exact HO1.out⟩⟩
      | true =>
        cases r1 with
        | false =>
          have HT2 := Sd.mk (show ofF (vs.take (i + 1)) view b = ofF (vs.take i) view b by rw [HT.out, HH.out]; rfl)
          go_wp2
          go_roundg (gk - 1)
          case measure => omega
          case rel => exact ⟨i + 1, B, k, d, by omega, by omega, rfl, by go_num, ⟨by rw [HT2.out]; exact HK.out⟩, ⟨by rw [HT2.out]; exact HO1.out⟩⟩
        | true =>
          have HT2 := Sd.mk (show ofF (vs.take (i + 1)) view b = ofF (vs.take i) view b ++ [xs] by rw [HT.out, HH.out]; rfl)
          go_wp2_with (first
            | (at_builtin; refine append_one (f := fS) (n := 2) (fun _ => rfl) fS_one w.heap.size rfl (.tmp 29) (.tmp 32) 22 39 (.agg #[.int .i64 0, .slice none 0 0]) 32 rfl Try.underlying22 info_sig rfl (by decide) (.slice B k d) (ofF (vs.take i) view b) xs rfl rfl HO1.out.own HO1.out.bel HO1.out.bel.size (by rw [HK.out]; omega) (by rw [HK.out]; omega) ?_; intro v5 w5 hown hbel hg; obtain ⟨A6, q6, rfl⟩ := OwnR.slice hown; have hl6 : (ofF (vs.take i) view b ++ [xs]).length = k + 1 := (by rw [List.length_append, HK.out]; rfl); rw [hl6] at hown ⊢; have HO3 := Sd.mk (⟨hown, hbel⟩ : Oc w (.slice A6 (k + 1) q6) (ofF (vs.take i) view b ++ [xs]) w5); have HK3 := Sd.mk hl6; clear hown hbel hg hl6))
          go_roundg (gk - 1)
          case measure => omega
          case rel => exact ⟨i + 1, A6, k + 1, q6, by omega, by omega, rfl, by go_num, ⟨by rw [HT2.out]; exact HK3.out⟩, ⟨by rw [HT2.out]; exact HO3.out⟩⟩
    · have hii : decide (i < m) = false := decide_eq_false (by omega)
      have HE := Sd.mk (show vs.take i = vs from List.take_of_length_le (by rw [← HM.out]; omega))
      go_wp2
      go_ret
      exact ⟨_, rfl, by have := HO.out; rw [HE.out] at this; exact this⟩
set_option maxHeartbeats 1000000 in
theorem count_any {g : Nat} {seed : ByteArray} {tn n below : Int} {v : Value} {vs : List Vt} {w : World} (h : Ty g seed tn n below v vs w) (h1000 : vs.length ≤ 1000) (view : Int) (b : ByteArray) (m : Nat) (hm : (ofF vs view b).length = m) :
    Calls Try.prog 41 #[.pointer (some ⟨g, 0, none⟩), .int .i64 view, .string b] w fun e w' => e = .returned (.int .i64 (m : Nat)) ∧ Below w.heap.size w w' := by
  have HO := Sd.mk (of_any h h1000 view b)
  have HM := Sd.mk hm
  clear h h1000 hm
  go_enter Try.func41, Try.ntmps41
  go_wp2_with (first
    | (go_at_call 70; (with_reducible refine HO.out.mono ?_); rintro e w1 ⟨v', rfl, ho⟩; obtain ⟨A6, q6, rfl⟩ := OwnR.slice ho.own; rw [HM.out]; have HB := Sd.mk ho.bel; clear ho))
  go_ret
  exact ⟨rfl, HB.out⟩
end Go.Proofs.Ytdmdfpbklflijaa.Tal

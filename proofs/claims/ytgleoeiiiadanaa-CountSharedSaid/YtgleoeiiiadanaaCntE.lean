/- The reference's Has, Once, Top: walked; CountLists. -/
import Derived.Test.YtgleoeiiiadanaaCntD
import Derived.Test.YtgleoeiiiadanaaCntT
import Derived.Test.YtgleoeiiiadanaaGatA
import Derived.Deep.RegionHeld3
set_option linter.unusedVariables false
set_option linter.unusedSimpArgs false
namespace Go.Proofs.Ytgleoeiiiadanaa.Cnts
open Go.RowKit Rd Api _root_.Go.Proofs.Ytgleoeiiiadanaa.Own Mv Top

def fN (x : Int) : List Value := [.int .i64 x]
theorem info_int : ((Try.prog).info? 3).map (fun i => (i.zero, i.size, i.bytes)) = some (some (.int .i64 0), 1, 8) := by kernel_rfl
theorem own_num {W : World} {base : Nat} {v : Value} {l : List Int} (h : OwnR fN 1 W base 3 v l) : ∃ A c, v = .slice A l.length c ∧ Sl (num .i64) W A c l := OwnR.reads (d := num .i64) (f := fN) (n := 1) (fun _ _ => rfl) (fun _ => rfl) rfl h
-- <L1
set_option maxHeartbeats 1000000 in
theorem refhas_any (w : World) (A : Option Addr) (c : Nat) (l : List Int) (hs : Sl (num .i64) w A c l) (len : Nat) (hlen : len = l.length) (x : Int) (r : Bool) (hr : r = true ↔ x ∈ l) :
    Calls Try.prog 19 #[.slice A len c, .int .i64 x] w fun e w' => e = .returned (.bool r) ∧ w' = w := by
  have HS := Sd.mk hs
  have HN := Sd.mk hlen
  have HR := Sd.mk hr
  have lc := Nat.le_trans hs.le hs.cap
  rw [← hlen] at lc
  clear hs hlen hr
  go_enter Try.func19, Try.ntmps19
  go_wp2
  go_loop [5] (fun v5 => ∃ i : Nat, i ≤ len ∧ v5 = .int .i64 i ∧ Sd (x ∉ l.take i)) (fun v5 => len - (intOf v5).toNat)
  case atStart => exact ⟨0, Nat.zero_le _, rfl, ⟨by simp⟩⟩
  case round =>
    obtain ⟨i, hi, rfl, HX⟩ := hrel
    by_cases hlt : i < len
    · have hii : (i : Int) < len := by omega
      have hil : i < l.length := by rw [← HN.out]; exact hlt
      obtain ⟨y, hy⟩ : ∃ y, l[i]'hil = y := ⟨_, rfl⟩
      obtain ⟨b, o, rfl, c0⟩ := num_at HS.out.row hil
      rw [hy] at c0
      have HY := Sd.mk (⟨hil, hy⟩ : ∃ h : i < l.length, l[i] = y)
      clear hil hy
      by_cases e : y = x
      · subst e
        obtain rfl : r = true := HR.out.2 (by obtain ⟨h, e⟩ := HY.out; rw [← e]; exact List.getElem_mem _)
        go_wp2
        go_ret
        exact ⟨rfl, rfl⟩
      · have d0 : (y == x) = false := beq_eq_false_iff_ne.2 e
        have HX2 := Sd.mk (show x ∉ l.take (i + 1) by
          obtain ⟨h, e2⟩ := HY.out
          rw [← List.take_append_getElem h, e2]
          simp only [List.mem_append, List.mem_singleton]
          rintro (a | a)
          · exact HX.out a
          · exact e a.symm)
        clear e
        go_wp2
        go_round
        case rel => exact ⟨i + 1, by omega, by go_num, HX2⟩
        case measure => simp [intOf]; omega
    · have hii : decide (i < len) = false := decide_eq_false (by omega)
      obtain rfl : r = false := by
        cases r with
        | false => rfl
        | true => exact absurd (HR.out.1 rfl) (by have := HX.out; rwa [List.take_of_length_le (by rw [← HN.out]; omega)] at this)
      go_wp2
      go_ret
      exact ⟨rfl, rfl⟩
-- L1>
-- <L2
/-- what is collected -/
structure Oc (w : World) (v : Value) (l : List Int) (W : World) : Prop where
  own : OwnR fN 1 W w.heap.size 3 v l
  bel : Below w.heap.size w W
theorem Oc.below {w W W1 : World} {v : Value} {l : List Int} (h : Oc w v l W) (hb : Below W.heap.size W W1) : Oc w v l W1 := ⟨h.own.below hb, below_then h.bel hb⟩
theorem once_le (l : List Int) (n : Int) (i : Nat) : (onceF (l.take i) n).length ≤ i := Nat.le_trans (onceF_ok _ n).2.2 (by rw [List.length_take]; omega)
theorem once_yes {l : List Int} {i : Nat} {x n : Int} (hx : l[i]? = some x) (h0 : 0 ≤ x) (h1 : x < n) (h2 : x ∉ onceF (l.take i) n) : onceF (l.take (i + 1)) n = onceF (l.take i) n ++ [x] := by
  rw [List.take_add_one, hx]
  show onceF (l.take i ++ [x]) n = _
  rw [onceF_snoc]; unfold o1; rw [if_pos ⟨h0, h1, h2⟩]
theorem once_no {l : List Int} {i : Nat} {x n : Int} (hx : l[i]? = some x) (h : ¬ (0 ≤ x ∧ x < n ∧ x ∉ onceF (l.take i) n)) : onceF (l.take (i + 1)) n = onceF (l.take i) n := by
  rw [List.take_add_one, hx]
  show onceF (l.take i ++ [x]) n = _
  rw [onceF_snoc]; unfold o1; rw [if_neg h]
set_option maxRecDepth 100000 in
set_option maxHeartbeats 4000000 in
theorem refonce_any (w : World) (A : Option Addr) (c : Nat) (l : List Int) (hs : Sl (num .i64) w A c l) (len : Nat) (hlen : len = l.length) (h1000 : len ≤ 1000) (n : Int) :
    Calls Try.prog 16 #[.slice A len c, .int .i64 n] w fun e w' => ∃ v, e = .returned v ∧ Oc w v (onceF l n) w' := by
  have HS := Sd.mk hs
  have HN := Sd.mk hlen
  have lc := Nat.le_trans hs.le hs.cap
  rw [← hlen] at lc
  clear hs hlen
  go_enter Try.func16, Try.ntmps16
  go_wp2
  have H0 := Sd.mk (show Oc w (.slice none 0 0) (onceF (l.take 0) n) w from ⟨OwnR.nil _ _ _ _ _, Below.refl _ _⟩)
  go_loopg [5, 6] len (fun gk v5 v6 wr => ∃ (i : Nat) (B : Option Addr) (m d : Nat), i + gk = len ∧ m ≤ i ∧ v5 = .slice B m d ∧ v6 = .int .i64 (i : Nat) ∧ Sd ((onceF (l.take i) n).length = m) ∧ Sd (Oc w (.slice B m d) (onceF (l.take i) n) wr))
  case atStart => exact ⟨0, none, 0, 0, by omega, by omega, rfl, rfl, ⟨rfl⟩, H0⟩
  case round =>
    clear H0
    obtain ⟨i, B, m, d, hi, hmi, rfl, rfl, HM, HO⟩ := hrel
    by_cases hlt : i < len
    · have hii : (i : Int) < len := by omega
      have hil : i < l.length := by rw [← HN.out]; exact hlt
      obtain ⟨x, hx⟩ : ∃ x, l[i]'hil = x := ⟨_, rfl⟩
      obtain ⟨b, o, rfl, hc⟩ := num_at HS.out.row hil
      rw [hx] at hc
      have c0 := cell_below HO.out.bel hc
      have HX := Sd.mk (show l[i]? = some x by rw [List.getElem?_eq_getElem hil, hx])
      clear hx hc hil
      by_cases h0 : 0 ≤ x
      · have d0 : decide (0 ≤ x) = true := decide_eq_true h0
        by_cases h1 : x < n
        · have d1 : decide (x < n) = true := decide_eq_true h1
          have HB := Sd.mk (⟨h0, h1⟩ : 0 ≤ x ∧ x < n)
          obtain ⟨r, hr⟩ : ∃ r : Bool, r = true ↔ x ∈ onceF (l.take i) n := ⟨decide (x ∈ onceF (l.take i) n), by simp⟩
          have HR := Sd.mk hr
          have HSB := Sd.mk (show Sl (num .i64) wr B d (onceF (l.take i) n) by
            obtain ⟨A', c', hv, hs⟩ := own_num HO.out.own
            simp only [Value.slice.injEq] at hv
            obtain ⟨rfl, -, rfl⟩ := hv
            exact hs)
          clear hr h0 h1
          cases r with
          | true =>
            have HY := Sd.mk (once_no HX.out (fun a => a.2.2 (HR.out.1 rfl)))
            go_wp2_with (first
              | (go_at_call 19; (with_reducible refine (refhas_any _ B d _ HSB.out m HM.out.symm x true HR.out).mono ?_); rintro e w2 ⟨rfl, rfl⟩))
            go_roundg (gk - 1)
            case measure => omega
            case rel => exact ⟨i + 1, B, m, d, by omega, by omega, rfl, by go_num, ⟨by rw [HY.out]; exact HM.out⟩, ⟨by rw [HY.out]; exact HO.out⟩⟩
          | false =>
            have HY := Sd.mk (once_yes HX.out HB.out.1 HB.out.2 (fun a => by have := HR.out.2 a; cases this))
            have m1 : m ≤ 1000 := by omega
            go_wp2_with (first
              | (go_at_call 19; (with_reducible refine (refhas_any _ B d _ HSB.out m HM.out.symm x false HR.out).mono ?_); rintro e w2 ⟨rfl, rfl⟩)
              | (at_builtin; refine append_one (f := fN) (n := 1) (fun _ => rfl) (fun _ _ hu => by simp [fN] at hu; subst hu; rfl) w.heap.size rfl (.tmp 35) (.tmp 40) 22 3 (.int .i64 0) 8 rfl Try.underlying22 info_int rfl (by decide) (.slice B m d) (onceF (l.take i) n) x rfl rfl HO.out.own HO.out.bel HO.out.bel.size (by rw [HM.out]; omega) (by rw [HM.out]; omega) ?_; intro v5 w5 hown hbel hg; obtain ⟨A6, q6, rfl⟩ := OwnR.slice hown; have hl6 : (onceF (l.take i) n ++ [x]).length = m + 1 := (by rw [List.length_append, HM.out]; rfl); rw [hl6] at hown ⊢; have HO3 := Sd.mk (⟨hown, hbel⟩ : Oc w (.slice A6 (m + 1) q6) (onceF (l.take i) n ++ [x]) w5); have HM3 := Sd.mk hl6; clear hown hbel hg hl6))
            go_roundg (gk - 1)
            case measure => omega
            case rel => exact ⟨i + 1, A6, m + 1, q6, by omega, by omega, rfl, by go_num, ⟨by rw [HY.out]; exact HM3.out⟩, ⟨by rw [HY.out]; exact HO3.out⟩⟩
        · have d1 : decide (x < n) = false := decide_eq_false h1
          have HY := Sd.mk (once_no HX.out (fun a => h1 a.2.1))
          clear h1
          go_wp2
          go_roundg (gk - 1)
          case measure => omega
          case rel => exact ⟨i + 1, B, m, d, by omega, by omega, rfl, by go_num, ⟨by rw [HY.out]; exact HM.out⟩, ⟨by rw [HY.out]; exact HO.out.below (by first | exact Below.refl _ _ | exact below_drew' (Below.refl _ _))⟩⟩
      · have d0 : decide (0 ≤ x) = false := decide_eq_false h0
        have HY := Sd.mk (once_no (n := n) HX.out (fun a => h0 a.1))
        clear h0
        go_wp2
        go_roundg (gk - 1)
        case measure => omega
        case rel => exact ⟨i + 1, B, m, d, by omega, by omega, rfl, by go_num, ⟨by rw [HY.out]; exact HM.out⟩, ⟨by rw [HY.out]; exact HO.out.below (by first | exact Below.refl _ _ | exact below_drew' (Below.refl _ _))⟩⟩
    · have hii : decide (i < len) = false := decide_eq_false (by omega)
      have HE := Sd.mk (show l.take i = l from List.take_of_length_le (by rw [← HN.out]; omega))
      go_wp2
      go_ret
      exact ⟨_, rfl, by have := HO.out; rw [HE.out] at this; exact this⟩
-- L2>
end Go.Proofs.Ytgleoeiiiadanaa.Cnts

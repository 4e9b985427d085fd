/- KeepBegins: walked. -/
import Derived.Test.YtgleoeiiiadanaaSumC
import Derived.BigQuiet
import Derived.Carry
set_option linter.unusedVariables false
set_option linter.unusedSimpArgs false
namespace Go.Proofs.Ytgleoeiiiadanaa.Kb
open Go.RowKit Rd Api Own Mv Dig

def FIR : ByteArray := ⟨#[102, 105, 114, 115, 116]⟩
theorem fir_sum (w : World) (f : ByteArray) (hf : sum FIR = f) : Calls Try.prog 61 #[.string { data := #[102, 105, 114, 115, 116] }] w fun e w' => e = .returned (.string f) ∧ Below w.heap.size w w' := by
  subst hf; exact blake_sum_any w FIR (by decide)
theorem fir_ref (w : World) (f : ByteArray) (hf : sum FIR = f) : Calls Try.prog 63 #[.string { data := #[] }, .string { data := #[102, 105, 114, 115, 116] }] w fun e w' => e = .returned (.string f) ∧ Below w.heap.size w w' := by
  subst hf; exact ref0_any w FIR (by decide)
set_option maxHeartbeats 4000000 in
set_option maxRecDepth 100000 in
theorem cfirst_any (w : World) (f : ByteArray) (hf : sum FIR = f) : Calls Try.prog 83 #[] w fun e w' => e = .returned (.agg #[.int .i64 0, .string f, .slice none 0 0]) ∧ Below w.heap.size w w' := by
  have hc := fun W => fir_sum W f hf
  clear hf
  go_enter Try.func83, Try.ntmps83
  go_upto_region 1 with (fail)
  have R := Sd.mk (blk_new w (.cells #[.int .i64 0, .string { data := #[] }, .slice none 0 0] 116))
  have B := Sd.mk (below_one w (.cells #[.int .i64 0, .string { data := #[] }, .slice none 0 0] 116))
  generalize w.alloc _ = W at R B ⊢
  go_wp2_with (first
    | (go_at_call 61; (with_reducible refine (hc _).mono ?_); rintro e w1 ⟨rfl, hb1⟩
       have R1 := Sd.mk (blk_keep R.out hb1); have B1 := Sd.mk (below_then B.out hb1)
       have c0 := blk_at R1.out 0 _ rfl; have c1 := blk_at R1.out 1 _ rfl; have c2 := blk_at R1.out 2 _ rfl
       have f0 := blk_frz R1.out 0; have f1 := blk_frz R1.out 1; have f2 := blk_frz R1.out 2))
  have X := (blk_set3 (blk_set3 (blk_set3 R1.out 0 (.int .i64 0)) 1 (.string f)) 2 (.slice none 0 0))
  have y0 := blk_at X 0 _ rfl
  have y1 := blk_at X 1 _ rfl
  have y2 := blk_at X 2 _ rfl
  have hbel := ((B1.out.setCell (p := ⟨w.heap.size, 0, none⟩) (Nat.le_refl _) (.int .i64 0)).setCell (p := ⟨w.heap.size, 1, none⟩) (Nat.le_refl _) (.string f)).setCell (p := ⟨w.heap.size, 2, none⟩) (Nat.le_refl _) (.slice none 0 0)
  clear c0 c1 c2 f0 f1 f2 X
  generalize ((w1.setCell ⟨w.heap.size, 0, none⟩ (.int .i64 0)).setCell _ _).setCell _ _ = w9 at y0 y1 y2 hbel ⊢
  exact bodyPost_ret (v := .agg #[.int .i64 0, .string f, .slice none 0 0]) (by simp [results, Try.results83, go_sem, y0, y1, y2]) rfl ⟨rfl, hbel⟩

set_option maxHeartbeats 4000000 in
set_option maxRecDepth 100000 in
theorem bfirst_any (w : World) (f : ByteArray) (hf : sum FIR = f) : Calls Try.prog 71 #[] w fun e w' => e = .returned (.string f) ∧ Below w.heap.size w w' := by
  have hc := fun W => cfirst_any W f hf
  have hfl : ∀ W, (Instr.field 116 (.agg #[.int .i64 0, .string f, .slice none 0 0]) 1).run Try.prog W = .ok (.string f) W := fun W => by kernel_rfl
  clear hf
  go_enter Try.func71, Try.ntmps71
  go_wp2_with (first
    | (go_at_call 83; (with_reducible refine (hc _).mono ?_); rintro e w1 ⟨rfl, hb1⟩))
  go_ret
  exact ⟨rfl, hb1⟩

set_option maxHeartbeats 4000000 in
set_option maxRecDepth 100000 in
theorem awake_any (w : World) : Calls Try.prog 33 #[] w fun e w' => e = .returned (.bool true) ∧ Below w.heap.size w w' := by
  obtain ⟨f, hf⟩ : ∃ f, sum FIR = f := ⟨_, rfl⟩
  have hb := fun W => bfirst_any W f hf
  have hr := fun W => fir_ref W f hf
  have hmm := @run_makeMap Try.prog
  clear hf
  go_enter Try.func33, Try.ntmps33
  go_wp2_with (first
    | (go_at_call 71; (with_reducible refine (hb _).mono ?_); rintro e w1 ⟨rfl, hb1⟩)
    | (go_at_call 63; (with_reducible refine (hr _).mono ?_); rintro e w2 ⟨rfl, hb2⟩)
    | go_in)
  go_ret
  exact ⟨rfl, below_then (below_then (below_then (below_then (below_then (below_one w _) (below_one _ _)) (below_one _ _)) (below_one _ _)) hb1) hb2⟩

set_option maxHeartbeats 4000000 in
set_option maxRecDepth 100000 in
/-- slices.Equal, of strings -/
theorem eqs_any (w : World) (A B : Option Addr) (c d : Nat) (l k : List ByteArray) (hl : Sl Rk.str w A c l) (hk : Sl Rk.str w B d k) (r : Bool) (hr : r = true ↔ l = k) :
    Calls Try.prog 60 #[.slice A l.length c, .slice B k.length d] w fun e w' => e = .returned (.bool r) ∧ Below w.heap.size w w' := by
  have R1 := Sd.mk hl.row
  have R2 := Sd.mk hk.row
  have lc := Nat.le_trans hl.le hl.cap
  have kd := Nat.le_trans hk.le hk.cap
  obtain ⟨n, hn⟩ : ∃ n, n = l.length := ⟨_, rfl⟩
  obtain ⟨m, hm⟩ : ∃ m, m = k.length := ⟨_, rfl⟩
  have HN := Sd.mk hn
  have HM := Sd.mk hm
  have HR := Sd.mk hr
  rw [← hn] at lc ⊢
  rw [← hm] at kd ⊢
  clear hn hm hl hk hr
  by_cases hnm : n = m
  · subst hnm
    go_enter Try.func60, Try.ntmps60
    go_wp2
    go_loopg [13] n (fun gk v13 wr => ∃ i, i + gk = n ∧ v13 = .int .i64 (i : Nat) ∧ Sd (∀ j, j < i → l[j]? = k[j]?) ∧ Sd (Below w.heap.size w wr))
    case atStart => exact ⟨0, by omega, rfl, ⟨fun j hj => by omega⟩, ⟨Below.refl _ _⟩⟩
    case round =>
      obtain ⟨i, hi, rfl, HE, HB⟩ := hrel
      by_cases hlt : i < n
      · obtain ⟨b1, o1, rfl, hc1, -⟩ := str_at R1.out (i := i) (by rw [← HN.out]; exact hlt)
        obtain ⟨b2, o2, rfl, hc2, -⟩ := str_at R2.out (i := i) (by rw [← HM.out]; exact hlt)
        have hil : i < l.length := by rw [← HN.out]; exact hlt
        have hik : i < k.length := by rw [← HM.out]; exact hlt
        obtain ⟨x, hx⟩ : ∃ x, l[i] = x := ⟨_, rfl⟩
        obtain ⟨y, hy⟩ : ∃ y, k[i] = y := ⟨_, rfl⟩
        rw [hx] at hc1
        rw [hy] at hc2
        have c1 := cell_below HB.out hc1
        have c2 := cell_below HB.out hc2
        have HX := Sd.mk (show l[i]? = some x by rw [List.getElem?_eq_getElem hil, hx])
        have HY := Sd.mk (show k[i]? = some y by rw [List.getElem?_eq_getElem hik, hy])
        have hii : (i : Int) < n := by omega
        clear hc1 hc2 hx hy hil hik
        by_cases hxy : x = y
        · subst hxy
          go_upto_region 6 with (fail)
          go_quiet (fail)
          go_wp2
          go_roundg (gk - 1)
          case measure => omega
          case rel => exact ⟨i + 1, by omega, by go_num, ⟨fun j hj => by
            by_cases e : j = i
            · subst e; rw [HX.out, HY.out]
            · exact HE.out j (by omega)⟩, ⟨below_drewN HB.out _⟩⟩
        · have hne : (x.toList == y.toList) = false := by
            rw [beq_eq_false_iff_ne]
            intro e
            rw [ByteArray.toList_eq, ByteArray.toList_eq] at e
            exact hxy (ByteArray.ext (Array.toList_inj.1 e))
          have HQ := Sd.mk hxy
          obtain rfl : r = false := by
            cases r with
            | false => rfl
            | true =>
              have := HR.out.1 rfl
              subst this
              have := HX.out.symm.trans HY.out
              exact absurd (Option.some.inj this) hxy
          clear hxy
          go_upto_region 6 with (fail)
          go_quiet (fail)
          go_wp2
          go_ret
          exact ⟨rfl, below_drewN HB.out _⟩
      · have hii : decide (i < n) = false := decide_eq_false (by omega)
        obtain rfl : i = n := by omega
        obtain rfl : r = true := HR.out.2 (List.ext_getElem? fun j => by
          by_cases e : j < i
          · exact HE.out j e
          · rw [List.getElem?_eq_none (by have := HN.out; omega), List.getElem?_eq_none (by have := HM.out; omega)])
        go_wp2
        go_ret
        exact ⟨rfl, HB.out⟩
  · have hne : ((n : Int) != (m : Int)) = true := by rw [bne_iff_ne]; omega
    obtain rfl : r = false := by
      cases r with
      | false => rfl
      | true =>
        have := HR.out.1 rfl
        subst this
        exact absurd (HN.out.trans HM.out.symm) hnm
    go_enter Try.func60, Try.ntmps60
    go_wp2
    go_ret
    exact ⟨rfl, Below.refl _ _⟩

theorem eqs_len (w : World) (A B : Option Addr) (c d : Nat) (l k : List ByteArray) (hl : Sl Rk.str w A c l) (hk : Sl Rk.str w B d k) (n m : Nat) (hn : l.length = n) (hm : k.length = m) (r : Bool) (hr : r = true ↔ l = k) :
    Calls Try.prog 60 #[.slice A n c, .slice B m d] w fun e w' => e = .returned (.bool r) ∧ Below w.heap.size w w' := by
  subst hn hm; exact eqs_any w A B c d l k hl hk r hr
theorem sl_take {w : World} {B : Option Addr} {d : Nat} {k : List ByteArray} (h : Sl Rk.str w B d k) (n : Nat) : Sl Rk.str w B d (k.take n) :=
  ⟨by rw [List.length_take]; have := h.le; omega, h.cap, fun j x hx => h.row j x (by
    rw [List.getElem?_take] at hx
    split at hx
    · exact hx
    · cases hx)⟩

set_option maxHeartbeats 4000000 in
set_option maxRecDepth 100000 in
theorem begins_any (w : World) (A B : Option Addr) (c d : Nat) (l k : List ByteArray) (hl : Sl Rk.str w A c l) (hk : Sl Rk.str w B d k) (n m : Nat) (hn : l.length = n) (hm : k.length = m) (r : Bool) (hr : r = true ↔ l <+: k) :
    Calls Try.prog 34 #[.slice A n c, .slice B m d] w fun e w' => e = .returned (.bool r) ∧ Below w.heap.size w w' := by
  have lc := Nat.le_trans hl.le hl.cap
  have kd := Nat.le_trans hk.le hk.cap
  have kl := hk.le
  rw [hn] at lc
  rw [hm] at kd kl
  by_cases hle : n ≤ m
  · have hq := eqs_len w A B c d l (k.take n) hl (sl_take hk n) n n hn (by rw [List.length_take]; omega) r (hr.trans (by rw [List.prefix_iff_eq_take, hn]))
    have d1 : decide (n ≤ m) = true := decide_eq_true hle
    have hnd : (n : Int) ≤ (d : Int) := by omega
    have hnd2 : n ≤ d := by omega
    clear hl hk hn hm hr kl
    go_enter Try.func34, Try.ntmps34
    go_wp2_with (first
      | (go_at_call 60; (with_reducible refine hq.mono ?_); rintro e w1 ⟨rfl, hb1⟩))
    go_ret
    exact ⟨rfl, hb1⟩
  · have d1 : decide (n ≤ m) = false := decide_eq_false hle
    obtain rfl : r = false := by
      cases r with
      | false => rfl
      | true => exact absurd (hr.1 rfl).length_le (by omega)
    clear hl hk hn hm hr kl
    go_enter Try.func34, Try.ntmps34
    go_wp2
    go_ret
    exact ⟨rfl, Below.refl _ _⟩
end Go.Proofs.Ytgleoeiiiadanaa.Kb

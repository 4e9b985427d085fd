/- slices.Equal of strings: walked. -/
import Derived.Test.YtnomgkmeomlccaaMv
import Derived.LoopTactic
import Derived.Deep.LoopGhost
import Derived.Deep.CutRange
set_option linter.unusedVariables false
set_option linter.unusedSimpArgs false
namespace Go.Proofs.Ytnomgkmeomlccaa.Rp
open Go.RowKit Rd Api Own Mv

set_option maxHeartbeats 4000000 in
set_option maxRecDepth 100000 in
/-- slices.Equal, of strings -/
theorem eqs_any (w : World) (A B : Option Addr) (c d : Nat) (l k : List ByteArray) (hl : Sl Rk.str w A c l) (hk : Sl Rk.str w B d k) (r : Bool) (hr : r = true ↔ l = k) :
    Calls Try.prog 108 #[.slice A l.length c, .slice B k.length d] w fun e w' => e = .returned (.bool r) ∧ Below w.heap.size w w' := by
  have R1 := Sd.mk hl.row
  have R2 := Sd.mk hk.row
  have lc := Nat.le_trans hl.le hl.cap
  have kd := Nat.le_trans hk.le hk.cap
  obtain ⟨n, hn⟩ : ∃ n, n = l.length := ⟨_, rfl⟩
  obtain ⟨m, hm⟩ : ∃ m, m = k.length := ⟨_, rfl⟩
  have HN := Sd.mk hn
  have HM := Sd.mk hm
  have HR := Sd.mk hr
  rw [← hn] at lc ⊢
  rw [← hm] at kd ⊢
  clear hn hm hl hk hr
  by_cases hnm : n = m
  · subst hnm
    go_enter Try.func108, Try.ntmps108
    go_wp2
    go_loopg [13] n (fun gk v13 wr => ∃ i, i + gk = n ∧ v13 = .int .i64 (i : Nat) ∧ Sd (∀ j, j < i → l[j]? = k[j]?) ∧ Sd (Below w.heap.size w wr))
    case atStart => exact ⟨0, by omega, rfl, ⟨fun j hj => by omega⟩, ⟨Below.refl _ _⟩⟩
    case round =>
      obtain ⟨i, hi, rfl, HE, HB⟩ := hrel
      by_cases hlt : i < n
      · obtain ⟨b1, o1, rfl, hc1, -⟩ := str_at R1.out (i := i) (by rw [← HN.out]; exact hlt)
        obtain ⟨b2, o2, rfl, hc2, -⟩ := str_at R2.out (i := i) (by rw [← HM.out]; exact hlt)
        have hil : i < l.length := by rw [← HN.out]; exact hlt
        have hik : i < k.length := by rw [← HM.out]; exact hlt
        obtain ⟨x, hx⟩ : ∃ x, l[i] = x := ⟨_, rfl⟩
        obtain ⟨y, hy⟩ : ∃ y, k[i] = y := ⟨_, rfl⟩
        rw [hx] at hc1
        rw [hy] at hc2
        have c1 := cell_below HB.out hc1
        have c2 := cell_below HB.out hc2
        have HX := Sd.mk (show l[i]? = some x by rw [List.getElem?_eq_getElem hil, hx])
        have HY := Sd.mk (show k[i]? = some y by rw [List.getElem?_eq_getElem hik, hy])
        have hii : (i : Int) < n := by omega
        clear hc1 hc2 hx hy hil hik
        by_cases hxy : x = y
        · subst hxy
          go_upto_region 6 with (fail)
          go_quiet (fail)
          go_wp2
          go_roundg (gk - 1)
          case measure => omega
          case rel => exact ⟨i + 1, by omega, by go_num, ⟨fun j hj => by
            by_cases e : j = i
            · subst e; rw [HX.out, HY.out]
            · exact HE.out j (by omega)⟩, ⟨below_drewN HB.out _⟩⟩
        · have hne : (x.toList == y.toList) = false := by
            rw [beq_eq_false_iff_ne]
            intro e
            rw [ByteArray.toList_eq, ByteArray.toList_eq] at e
            exact hxy (ByteArray.ext (Array.toList_inj.1 e))
          have HQ := Sd.mk hxy
          obtain rfl : r = false := by
            cases r with
            | false => rfl
            | true =>
              have := HR.out.1 rfl
              subst this
              have := HX.out.symm.trans HY.out
              exact absurd (Option.some.inj this) hxy
          clear hxy
          go_upto_region 6 with (fail)
          go_quiet (fail)
          go_wp2
          go_ret
          exact ⟨rfl, below_drewN HB.out _⟩
      · have hii : decide (i < n) = false := decide_eq_false (by omega)
        obtain rfl : i = n := by omega
        obtain rfl : r = true := HR.out.2 (List.ext_getElem? fun j => by
          by_cases e : j < i
          · exact HE.out j e
          · rw [List.getElem?_eq_none (by have := HN.out; omega), List.getElem?_eq_none (by have := HM.out; omega)])
        go_wp2
        go_ret
        exact ⟨rfl, HB.out⟩
  · have hne : ((n : Int) != (m : Int)) = true := by rw [bne_iff_ne]; omega
    obtain rfl : r = false := by
      cases r with
      | false => rfl
      | true =>
        have := HR.out.1 rfl
        subst this
        exact absurd (HN.out.trans HM.out.symm) hnm
    go_enter Try.func108, Try.ntmps108
    go_wp2
    go_ret
    exact ⟨rfl, Below.refl _ _⟩

theorem eqs_len (w : World) (A B : Option Addr) (c d : Nat) (l k : List ByteArray) (hl : Sl Rk.str w A c l) (hk : Sl Rk.str w B d k) (n m : Nat) (hn : l.length = n) (hm : k.length = m) (r : Bool) (hr : r = true ↔ l = k) :
    Calls Try.prog 108 #[.slice A n c, .slice B m d] w fun e w' => e = .returned (.bool r) ∧ Below w.heap.size w w' := by
  subst hn hm; exact eqs_any w A B c d l k hl hk r hr
theorem sl_take {w : World} {B : Option Addr} {d : Nat} {k : List ByteArray} (h : Sl Rk.str w B d k) (n : Nat) : Sl Rk.str w B d (k.take n) :=
  ⟨by rw [List.length_take]; have := h.le; omega, h.cap, fun j x hx => h.row j x (by
    rw [List.getElem?_take] at hx
    split at hx
    · exact hx
    · cases hx)⟩

end Go.Proofs.Ytnomgkmeomlccaa.Rp

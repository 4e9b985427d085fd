/- Whether a certificate is right: walked. -/
import Derived.Test.YtnomgkmeomlccaaRw
import Derived.Test.YtnomgkmeomlccaaEqs
set_option linter.unusedVariables false
set_option linter.unusedSimpArgs false
namespace Go.Proofs.Ytnomgkmeomlccaa.Rp
open Go.RowKit Rd Api Own Mv App Num
set_option maxHeartbeats 4000000 in
set_option maxRecDepth 100000 in
theorem sgeq_any (w : World) (x y : Sg.Sig) (A B : Option Addr) (c d : Nat) (h1 : Sl Rk.str w A c x.tags) (h2 : Sl Rk.str w B d y.tags) (n m : Nat) (hn : x.tags.length = n) (hm : y.tags.length = m) (r : Bool) (hr : r = true ↔ x = y) :
    Calls Try.prog 136 #[.agg #[.int .i64 x.node, .slice A n c], .agg #[.int .i64 y.node, .slice B m d]] w fun e w' => e = .returned (.bool r) ∧ Below w.heap.size w w' := by
  have HB := Sd.mk (below_then (below_one w (.cells #[.int .i64 x.node, .slice A n c] 51)) (below_one _ (.cells #[.int .i64 y.node, .slice B m d] 51)))
  have HE := Sd.mk (eqs_len _ A B c d x.tags y.tags (h1.below HB.out) (h2.below HB.out) n m hn hm (decide (x.tags = y.tags)) (by simp))
  obtain ⟨r0, hr0⟩ : ∃ r, (x.node == y.node) = r := ⟨_, rfl⟩
  obtain ⟨r1, hr1⟩ : ∃ r, decide (x.tags = y.tags) = r := ⟨_, rfl⟩
  rw [hr1] at HE
  have HR := Sd.mk (show r = (r0 && r1) by
    rw [Bool.eq_iff_iff, hr, ← hr0, ← hr1]
    obtain ⟨xn, xt⟩ := x
    obtain ⟨yn, yt⟩ := y
    simp)
  clear hr hr1 h1 h2 hn hm
  cases r0 with
  | false =>
    obtain rfl := HR.out
    go_enter Try.func136, Try.ntmps136
    go_wp2
    go_ret
    exact ⟨rfl, HB.out⟩
  | true =>
    obtain rfl : r = r1 := HR.out
    go_enter Try.func136, Try.ntmps136
    go_wp2_with (first
      | (go_at_call 108; (with_reducible refine HE.out.mono ?_); rintro e w1 ⟨rfl, hb⟩; have HB1 := Sd.mk (below_then HB.out hb); clear hb))
    go_ret
    exact ⟨rfl, HB1.out⟩
set_option maxHeartbeats 8000000 in
set_option maxRecDepth 100000 in
theorem eqf_any (w : World) (A B : Option Addr) (c d : Nat) (xs ys : List Sg.Sig) (h1 : Sl sgK w A c xs) (h2 : Sl sgK w B d ys) (n m : Nat) (hn : n = xs.length) (hm : m = ys.length) (r : Bool) (hr : r = true ↔ xs = ys) :
    Calls Try.prog 106 #[.slice A n c, .slice B m d, .func (.func 136) #[] #[]] w fun e w' => e = .returned (.bool r) ∧ Below w.heap.size w w' := by
  have H1 := Sd.mk h1
  have H2 := Sd.mk h2
  have HN := Sd.mk hn
  have HM := Sd.mk hm
  have HR := Sd.mk hr
  have nc := Nat.le_trans h1.le h1.cap
  have md := Nat.le_trans h2.le h2.cap
  rw [← hn] at nc
  rw [← hm] at md
  clear h1 h2 hn hm hr
  by_cases hnm : n = m
  · subst hnm
    go_enter Try.func106, Try.ntmps106
    go_wp2
    go_loopg [7, 8, 9, 17] n (fun gk v7 v8 v9 v17 wr => ∃ i, i + gk = n ∧ v17 = .int .i64 (i : Nat) ∧ Sd (∀ j : Nat, j < i → xs[j]? = ys[j]?) ∧ Sd (Below w.heap.size w wr))
    case atStart => exact ⟨0, by omega, rfl, ⟨fun j hj => by omega⟩, ⟨Below.refl _ _⟩⟩
    case round =>
      obtain ⟨i, hi, rfl, HE, HB⟩ := hrel
      by_cases hlt : i < n
      · have hii : (i : Int) < n := by omega
        obtain ⟨x, hx⟩ : ∃ x, xs[i]? = some x := ⟨_, List.getElem?_eq_getElem (show i < xs.length by rw [← HN.out]; exact hlt)⟩
        obtain ⟨y, hy⟩ : ∃ y, ys[i]? = some y := ⟨_, List.getElem?_eq_getElem (show i < ys.length by rw [← HM.out]; exact hlt)⟩
        obtain ⟨b1, o1, A1, c1, rfl, p0, p1, s1⟩ := sg_at H1.out hx
        obtain ⟨b2, o2, A2, c2, rfl, q0, q1, s2⟩ := sg_at H2.out hy
        have p0 := cell_below HB.out p0
        have p1 := cell_below HB.out p1
        have q0 := cell_below HB.out q0
        have q1 := cell_below HB.out q1
        have S1 := Sd.mk (s1.below HB.out)
        have S2 := Sd.mk (s2.below HB.out)
        have HX := Sd.mk hx
        have HY := Sd.mk hy
        clear hx hy s1 s2
        go_upto_region 6 with (fail)
        have X0 := Sd.mk (blk_new wr (.cells #[.int .i64 x.node, .slice A1 x.tags.length c1] 51))
        have hb := below_one wr (.cells #[.int .i64 x.node, .slice A1 x.tags.length c1] 51)
        have HB3 := Sd.mk (below_then HB.out hb)
        have S13 := Sd.mk (S1.out.below hb)
        have S23 := Sd.mk (S2.out.below hb)
        have q0 := cell_below hb q0
        have q1 := cell_below hb q1
        clear p0 p1 HB S1 S2 hb
        generalize wr.heap.size = Bv at X0 ⊢
        generalize wr.alloc _ = W3 at X0 HB3 S13 S23 q0 q1 ⊢
        go_upto_region 7 with (fail)
        have Y0 := Sd.mk (blk_new W3 (.cells #[.int .i64 y.node, .slice A2 y.tags.length c2] 51))
        have hb := below_one W3 (.cells #[.int .i64 y.node, .slice A2 y.tags.length c2] 51)
        have X1 := Sd.mk (blk_keep X0.out hb)
        have HB4 := Sd.mk (below_then HB3.out hb)
        have S14 := Sd.mk (S13.out.below hb)
        have S24 := Sd.mk (S23.out.below hb)
        clear q0 q1 HB3 S13 S23 hb X0
        generalize W3.heap.size = Bu at Y0 ⊢
        generalize W3.alloc _ = W4 at Y0 X1 HB4 S14 S24 ⊢
        have p0 := blk_at X1.out 0 _ rfl
        have p1 := blk_at X1.out 1 _ rfl
        have q0 := blk_at Y0.out 0 _ rfl
        have q1 := blk_at Y0.out 1 _ rfl
        by_cases hxy : x = y
        · have HE2 := Sd.mk (show ∀ j : Nat, j < i + 1 → xs[j]? = ys[j]? from fun j hj => by
            by_cases e : j = i
            · subst e; rw [HX.out, HY.out, hxy]
            · exact HE.out j (by omega))
          have HC := Sd.mk (sgeq_any W4 x y _ _ _ _ S14.out S24.out _ _ rfl rfl true (by simp [hxy]))
          clear hxy
          go_wp2_with (first
            | (go_at_call 136; (with_reducible refine HC.out.mono ?_); rintro e w5 ⟨rfl, hb⟩; have HB5 := Sd.mk (below_then HB4.out hb); clear hb))
          go_roundg (gk - 1)
          case measure => omega
          case rel => exact ⟨i + 1, by omega, by go_num, HE2, HB5⟩
        · obtain rfl : r = false := by
            cases r with
            | false => rfl
            | true =>
              have h := HR.out.1 rfl
              rw [h, HY.out] at HX
              exact absurd (Option.some.inj HX.out).symm hxy
          have HC := Sd.mk (sgeq_any W4 x y _ _ _ _ S14.out S24.out _ _ rfl rfl false (by simp [hxy]))
          clear hxy
          go_wp2_with (first
            | (go_at_call 136; (with_reducible refine HC.out.mono ?_); rintro e w5 ⟨rfl, hb⟩; have HB5 := Sd.mk (below_then HB4.out hb); clear hb))
          go_ret
          exact ⟨rfl, HB5.out⟩
      · have hii : decide (i < n) = false := decide_eq_false (by omega)
        obtain rfl : i = n := by omega
        obtain rfl : r = true := HR.out.2 (List.ext_getElem? fun j => by
          by_cases e : j < i
          · exact HE.out j e
          · rw [List.getElem?_eq_none (by have := HN.out; omega), List.getElem?_eq_none (by have := HM.out; omega)])
        go_wp2
        go_ret
        exact ⟨rfl, HB.out⟩
  · have hne : ((n : Int) != (m : Int)) = true := by rw [bne_iff_ne]; omega
    have hne2 : (n != m) = true := by rw [bne_iff_ne]; exact hnm
    obtain rfl : r = false := by
      cases r with
      | false => rfl
      | true => exact absurd (by rw [HN.out, HM.out, HR.out.1 rfl]) hnm
    clear hnm
    go_enter Try.func106, Try.ntmps106
    go_wp2
    go_ret
    exact ⟨rfl, Below.refl _ _⟩

instance : DecidableEq Sg.Sig := fun x y => if h : x.node = y.node ∧ x.tags = y.tags then isTrue (by cases x; cases y; simp_all) else isFalse (fun e => h (by rw [e]; exact ⟨rfl, rfl⟩))
theorem rightB {c : Cert} {x : Cert} {t : RS} (hx : certF ⟨certB c, false⟩ = (x, t)) : RightCert c ↔ doneB t = true ∧ x = c := by
  rw [right_iff, hx]
  simp only [doneB, Bool.and_eq_true, Bool.not_eq_true', decide_eq_true_eq, and_assoc]
theorem str_beq {x y : ByteArray} : (x.toList == y.toList) = decide (x = y) := by
  rw [Bool.eq_iff_iff, beq_iff_eq, decide_eq_true_eq, ByteArray.toList_eq, ByteArray.toList_eq]
  exact ⟨fun h => bytes_ext h, fun h => by rw [h]⟩
theorem below_two (w : World) (a : Obj) {W1 : World} (h : Below (w.alloc a).heap.size (w.alloc a) W1) : Below w.heap.size w W1 := below_then (below_one w a) h
set_option maxHeartbeats 8000000 in
set_option maxRecDepth 100000 in
theorem right_any (w : World) (c : Cert) (A : Option Addr) (k : Nat) (h : Sl sgK w A k c.sigs) (n : Nat) (hn : n = c.sigs.length) (hz : (certB c).size ≤ 9223372036854775807) (r : Bool) (hr : r = true ↔ RightCert c) :
    Calls Try.prog 109 #[.agg #[.int .i64 c.view, .string c.block, .slice A n k]] w fun e w' => e = .returned (.bool r) ∧ Below w.heap.size w w' := by
  obtain ⟨x, t, hx⟩ : ∃ x t, certF ⟨certB c, false⟩ = (x, t) := ⟨_, _, rfl⟩
  have HR := Sd.mk (hr.trans (rightB hx))
  obtain ⟨u, hu⟩ : ∃ u, certB c = u := ⟨_, rfl⟩
  rw [hu] at hx hz
  have hb0 := below_one w (.cells #[.int .i64 c.view, .string c.block, .slice A n k] 39)
  have HB0 := Sd.mk hb0
  have X0 := Sd.mk (blk_new w (.cells #[.int .i64 c.view, .string c.block, .slice A n k] 39))
  have HS0 := Sd.mk (h.below hb0)
  have HN := Sd.mk hn
  have HU := Sd.mk hu
  have HRD := Sd.mk (fun W => read_any W u hz x t hx)
  have HZ := Sd.mk hz
  clear hr h hn hb0 hu hx hz
  go_enter Try.func109, Try.ntmps109
  go_upto_region 1 with (fail)
  generalize w.heap.size = Bx at X0 ⊢
  generalize w.alloc _ = W1 at X0 HB0 HS0 ⊢
  have c0 := blk_at X0.out 0 _ rfl
  have c1 := blk_at X0.out 1 _ rfl
  have c2 := blk_at X0.out 2 _ rfl
  have HWC := Sd.mk (wcert_any W1 c A k HS0.out n HN.out u HU.out HZ.out)
  cases hd : doneB t with
  | false =>
    obtain rfl : r = false := by
      cases r with
      | false => rfl
      | true => have := (HR.out.1 rfl).1; rw [hd] at this; cases this
    have HD := Sd.mk hd
    clear hd
    go_wp2_with (first
      | (go_at_call 134; (with_reducible refine HWC.out.mono ?_); rintro e w2 ⟨rfl, hb⟩; have HB2 := Sd.mk (below_then HB0.out hb); clear hb)
      | (go_at_call 135; (with_reducible refine (HRD.out _).mono ?_); rintro e w3 ⟨hb, (⟨-, rfl⟩ | ⟨hd, -⟩)⟩; rotate_left; exact absurd (hd.symm.trans HD.out) (by simp); have HB3 := Sd.mk (below_then HB2.out hb); clear hb))
    go_ret
    exact ⟨rfl, below_then HB3.out (below_one _ _)⟩
  | true =>
    have HD := Sd.mk hd
    clear hd
    go_upto_region 2 with (first
      | (go_at_call 134; (with_reducible refine HWC.out.mono ?_); rintro e w2 ⟨rfl, hb⟩; have HB2 := Sd.mk (below_then HB0.out hb); have X2 := Sd.mk (blk_keep X0.out hb); have HS2 := Sd.mk (HS0.out.below hb); clear hb)
      | (go_at_call 135; (with_reducible refine (HRD.out _).mono ?_); rintro e w3 ⟨hb, (⟨hd, -⟩ | ⟨-, A3, k3, rfl, hs3⟩)⟩; exact absurd (hd.symm.trans HD.out) (by simp); have hb4 := below_one w3 (.cells #[.int .i64 x.view, .string x.block, .slice A3 x.sigs.length k3] 39); have HB3 := Sd.mk (below_then (below_then HB2.out hb) hb4); have X3 := Sd.mk (blk_keep (blk_keep X2.out hb) hb4); have HS3 := Sd.mk ((HS2.out.below hb).below hb4); have HT3 := Sd.mk (hs3.below hb4); have Y3 := Sd.mk (blk_new w3 (.cells #[.int .i64 x.view, .string x.block, .slice A3 x.sigs.length k3] 39)); clear hb hb4 hs3))
    clear c0 c1 c2 HWC HRD HB0 HB2 X0 X2 HS0 HS2
    generalize w3.heap.size = By at Y3 ⊢
    generalize w3.alloc _ = W4 at Y3 HB3 X3 HS3 HT3 ⊢
    have c0 := blk_at X3.out 0 _ rfl
    have c1 := blk_at X3.out 1 _ rfl
    have c2 := blk_at X3.out 2 _ rfl
    have y0 := blk_at Y3.out 0 _ rfl
    have y1 := blk_at Y3.out 1 _ rfl
    have y2 := blk_at Y3.out 2 _ rfl
    have HR2 := Sd.mk (show r = (decide (x.view = c.view) && decide (x.block = c.block) && decide (x.sigs = c.sigs)) by
      rw [Bool.eq_iff_iff, HR.out]
      obtain ⟨x1, x2, x3⟩ := x
      obtain ⟨z1, z2, z3⟩ := c
      simp [HD.out, and_assoc])
    have HQ := Sd.mk (eqf_any W4 A3 A k3 k x.sigs c.sigs HT3.out HS3.out x.sigs.length n rfl HN.out (decide (x.sigs = c.sigs)) (by simp))
    obtain ⟨b2, hb2⟩ : ∃ b, decide (x.sigs = c.sigs) = b := ⟨_, rfl⟩
    rw [hb2] at HQ HR2
    obtain ⟨b0, hb0⟩ : ∃ b, (x.view == c.view) = b := ⟨_, rfl⟩
    obtain ⟨b1, hb1⟩ : ∃ b, (x.block.toList == c.block.toList) = b := ⟨_, rfl⟩
    have HR3 := Sd.mk (show r = (b0 && b1 && b2) by
      rw [HR2.out, ← hb0, ← hb1, str_beq]
      congr 2)
    clear hb2 HR2 HR
    cases b0 with
    | false =>
      obtain rfl : r = false := HR3.out
      clear hb1
      go_wp2
      go_ret
      exact ⟨rfl, HB3.out⟩
    | true =>
      cases b1 with
      | false =>
        obtain rfl : r = false := HR3.out
        go_wp2
        go_ret
        exact ⟨rfl, HB3.out⟩
      | true =>
        obtain rfl : r = b2 := HR3.out
        go_wp2_with (first
          | (go_at_call 106; (with_reducible refine HQ.out.mono ?_); rintro e w5 ⟨rfl, hb⟩; have HB5 := Sd.mk (below_then HB3.out hb); clear hb))
        go_ret
        exact ⟨rfl, HB5.out⟩
end Go.Proofs.Ytnomgkmeomlccaa.Rp

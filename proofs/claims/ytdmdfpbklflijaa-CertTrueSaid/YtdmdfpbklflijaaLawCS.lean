/- CertShares: walked. -/
import Derived.Test.YtdmdfpbklflijaaLawCH
import Derived.BigRegion
import Derived.Deep.CutRange
set_option linter.unusedVariables false
set_option linter.unusedSimpArgs false
namespace Go.Proofs.Ytdmdfpbklflijaa.Crt
open Go.RowKit Go.Sort Rd Api Own Mv App Num Dig Mac Rp

theorem nodup_le : ∀ (m : Nat) (l : List Int), l.Nodup → (∀ x ∈ l, 0 ≤ x ∧ x < (m : Int)) → l.length ≤ m := by
  intro m
  induction m with
  | zero => intro l _ h; cases l with
    | nil => exact Nat.le_refl _
    | cons x r => have := h x (by simp); omega
  | succ m ih =>
    intro l hn h
    have h1 := ih (l.erase (m : Int)) (hn.erase _) (fun x hx => by
      have h2 := h x (List.mem_of_mem_erase hx)
      have h3 : x ≠ (m : Int) := fun e => by subst e; exact List.Nodup.not_mem_erase hn hx
      omega)
    rw [List.length_erase] at h1
    split at h1 <;> omega
theorem filter_two (p : Int → Bool) : ∀ l : List Int, (l.filter p).length + (l.filter (fun x => !p x)).length = l.length
  | [] => rfl
  | x :: l => by
    have := filter_two p l
    simp only [List.filter_cons]
    cases p x <;> simp <;> omega
/-- two that are nearly all share -/
theorem shares (m : Nat) (x y : List Int) (hx : x.Nodup) (hy : y.Nodup) (rx : ∀ z ∈ x, 0 ≤ z ∧ z < (m : Int)) (ry : ∀ z ∈ y, 0 ≤ z ∧ z < (m : Int)) : x.length + y.length ≤ (x.filter (fun z => decide (z ∈ y))).length + m := by
  have h1 := filter_two (fun z => decide (z ∈ y)) x
  have h2 := nodup_le m (x.filter (fun z => !decide (z ∈ y)) ++ y) (by
    rw [List.nodup_append]
    exact ⟨hx.filter _, hy, fun a ha b hb e => by subst e; have := (List.mem_filter.1 ha).2; simp [hb] at this⟩) (fun z hz => by
    rcases List.mem_append.1 hz with h | h
    · exact rx z (List.mem_filter.1 h).1
    · exact ry z h)
  rw [List.length_append] at h2
  omega
theorem rises_gt : ∀ (l : List Sg.Sig) (k : Int), Rises k l → ∀ x ∈ l, k < x.node
  | [], _, _, x, hx => by simp at hx
  | y :: l, k, h, x, hx => by
    rcases List.mem_cons.1 hx with rfl | hx
    · exact h.1
    · have := rises_gt l y.node h.2 x hx
      have := h.1
      omega
theorem good_nodup (p : Sg.Sig → Bool) : ∀ (l : List Sg.Sig) (k : Int), Rises k l → (goodF p l).Nodup
  | [], _, _ => List.nodup_nil
  | y :: l, k, h => by
    have ih := good_nodup p l y.node h.2
    unfold goodF at ih ⊢
    rw [List.filter_cons]
    split
    · rw [List.map_cons, List.nodup_cons]
      refine ⟨fun hm => ?_, ih⟩
      obtain ⟨x, hx, he⟩ := List.mem_map.1 hm
      have := rises_gt l y.node h.2 x (List.mem_filter.1 hx).1
      omega
    · exact ih
theorem good_range {seed : ByteArray} {tn n : Int} {c : Cert} {p : Sg.Sig → Bool} (hp : Tells seed tn n c p) (l : List Sg.Sig) : ∀ z ∈ goodF p l, 0 ≤ z ∧ z < n := fun z hz => by
  obtain ⟨x, hx, rfl⟩ := List.mem_map.1 hz
  exact ((hp x).1 (List.mem_filter.1 hx).2).2.2.1
theorem quorums_share {n : Nat} (hn : 1 ≤ n) {a b : Cert} {sa : ByteArray} {ta tb : Int} {pa pb : Sg.Sig → Bool} (ha : Tells sa ta n a pa) (hb : Tells sa tb n b pb) (h1 : HoldsC pa n a) (h2 : HoldsC pb n b) (v1 : a.view ≠ 0) (v2 : b.view ≠ 0) :
    Gat.fl n < ((goodF pa a.sigs).filter (fun z => decide (z ∈ goodF pb b.sigs))).length := by
  obtain ⟨r1, h1⟩ := h1
  obtain ⟨r2, h2⟩ := h2
  rw [if_neg v1] at h1
  rw [if_neg v2] at h2
  have := shares n _ _ (good_nodup pa _ _ r1.up) (good_nodup pb _ _ r2.up) (good_range ha _) (good_range hb _)
  have e : ((n : Int)).toNat = n := Int.toNat_natCast _
  rw [e] at h1 h2
  have hf : 3 * Gat.fl n < n := by unfold Gat.fl; omega
  omega
set_option maxHeartbeats 1000000 in
theorem refhas_any (w : World) (A : Option Addr) (c : Nat) (l : List Int) (hs : Sl (Own.num .i64) w A c l) (len : Nat) (hlen : len = l.length) (x : Int) (r : Bool) (hr : r = true ↔ x ∈ l) :
    Calls Try.prog 18 #[.slice A len c, .int .i64 x] w fun e w' => e = .returned (.bool r) ∧ w' = w := by
  have HS := Sd.mk hs
  have HN := Sd.mk hlen
  have HR := Sd.mk hr
  have lc := Nat.le_trans hs.le hs.cap
  rw [← hlen] at lc
  clear hs hlen hr
  go_enter Try.func18, Try.ntmps18
  go_wp2
  go_loop [5] (fun v5 => ∃ i : Nat, i ≤ len ∧ v5 = .int .i64 i ∧ Sd (x ∉ l.take i)) (fun v5 => len - (intOf v5).toNat)
  case atStart => exact ⟨0, Nat.zero_le _, rfl, ⟨by simp⟩⟩
  case round =>
    obtain ⟨i, hi, rfl, HX⟩ := hrel
    by_cases hlt : i < len
    · have hii : (i : Int) < len := by omega
      have hil : i < l.length := by rw [← HN.out]; exact hlt
      obtain ⟨y, hy⟩ : ∃ y, l[i]'hil = y := ⟨_, rfl⟩
      obtain ⟨b, o, rfl, c0⟩ := num_at HS.out.row hil
      rw [hy] at c0
      have HY := Sd.mk (⟨hil, hy⟩ : ∃ h : i < l.length, l[i] = y)
      clear hil hy
      by_cases e : y = x
      · subst e
        obtain rfl : r = true := HR.out.2 (by obtain ⟨h, e⟩ := HY.out; rw [← e]; exact List.getElem_mem _)
        go_wp2
        go_ret
        exact ⟨rfl, rfl⟩
      · have d0 : (y == x) = false := beq_eq_false_iff_ne.2 e
        have HX2 := Sd.mk (show x ∉ l.take (i + 1) by
          obtain ⟨h, e2⟩ := HY.out
          rw [← List.take_append_getElem h, e2]
          simp only [List.mem_append, List.mem_singleton]
          rintro (a | a)
          · exact HX.out a
          · exact e a.symm)
        clear e
        go_wp2
        go_round
        case rel => exact ⟨i + 1, by omega, by go_num, HX2⟩
        case measure => simp [intOf]; omega
    · have hii : decide (i < len) = false := decide_eq_false (by omega)
      obtain rfl : r = false := by
        cases r with
        | false => rfl
        | true => exact absurd (HR.out.1 rfl) (by have := HX.out; rwa [List.take_of_length_le (by rw [← HN.out]; omega)] at this)
      go_wp2
      go_ret
      exact ⟨rfl, rfl⟩
theorem since_drewN (W : World) (n : Nat) : Since W (W.drewN n) := ⟨below_drewN (Below.refl _ _) n⟩
/-- both certificates laid into variables -/
structure Two (w : World) (Ba Bb : Nat) (a b : Cert) (A B : Option Addr) (m k : Nat) (c d : Nat) (W : World) : Prop where
  a : W.heap[Ba]? = some (.cells #[.int .i64 a.view, .string a.block, .slice A m c] 24 (0, 0))
  b : W.heap[Bb]? = some (.cells #[.int .i64 b.view, .string b.block, .slice B k d] 24 (0, 0))
  bel : RowKit.Below w.heap.size w W
theorem Two.below {w : World} {Ba Bb : Nat} {a b : Cert} {A B : Option Addr} {m k c d : Nat} {W W1 : World} (h : Two w Ba Bb a b A B m k c d W) (hb : RowKit.Below W.heap.size W W1) : Two w Ba Bb a b A B m k c d W1 := ⟨blk_keep h.a hb, blk_keep h.b hb, below_then h.bel hb⟩
theorem two_ab (W : World) (a b : Cert) (A B : Option Addr) (m k c d : Nat) : Two W W.heap.size (W.heap.size + 1) a b A B m k c d ((W.alloc (.cells #[.int .i64 a.view, .string a.block, .slice A m c] 24)).alloc (.cells #[.int .i64 b.view, .string b.block, .slice B k d] 24)).drew := by
  have b1 := below_one W (.cells #[.int .i64 a.view, .string a.block, .slice A m c] 24)
  have b2 := below_one (W.alloc (.cells #[.int .i64 a.view, .string a.block, .slice A m c] 24)) (.cells #[.int .i64 b.view, .string b.block, .slice B k d] 24)
  exact Two.below ⟨blk_keep (blk_new W _) b2, blk_new1 W _ _, below_then b1 b2⟩ (since_drew _).b
theorem two_ba (W : World) (a b : Cert) (A B : Option Addr) (m k c d : Nat) : Two W (W.heap.size + 1) W.heap.size a b A B m k c d ((W.alloc (.cells #[.int .i64 b.view, .string b.block, .slice B k d] 24)).alloc (.cells #[.int .i64 a.view, .string a.block, .slice A m c] 24)).drew := by
  have b1 := below_one W (.cells #[.int .i64 b.view, .string b.block, .slice B k d] 24)
  have b2 := below_one (W.alloc (.cells #[.int .i64 b.view, .string b.block, .slice B k d] 24)) (.cells #[.int .i64 a.view, .string a.block, .slice A m c] 24)
  exact Two.below ⟨blk_new1 W _ _, blk_keep (blk_new W _) b2, below_then b1 b2⟩ (since_drew _).b
set_option maxHeartbeats 8000000 in
set_option maxRecDepth 100000 in
theorem certshares_law (w : World) (seed : ByteArray) (a b : Cert) (A B : Option Addr) (c d : Nat) (hs0 : Sl sgK w A c a.sigs) (hs1 : Sl sgK w B d b.sigs) (m k : Nat) (hm : m = a.sigs.length) (hk : k = b.sigs.length) (a0 a1 a2 : Nat) (ha0 : a0 < 256) (ha1 : a1 < 256) (ha2 : a2 < 256) :
    Calls Try.prog 4 #[.string seed, .agg #[.int .i64 a.view, .string a.block, .slice A m c, .int .i64 b.view, .string b.block, .slice B k d], .agg #[.int .u8 (a0 : Nat), .int .u8 (a1 : Nat), .int .u8 (a2 : Nat)]] w fun e w' => e = .returned (.bool true) ∧ RowKit.Below w.heap.size w w' := by
  have mixed : Try.prog.follows .mixedOrders = true := by kernel_rfl
  have hb0 := below_one w (.cells #[.int .i64 a.view, .string a.block, .slice A m c, .int .i64 b.view, .string b.block, .slice B k d] 32)
  have hb1 := below_one (w.alloc (.cells #[.int .i64 a.view, .string a.block, .slice A m c, .int .i64 b.view, .string b.block, .slice B k d] 32)) (.cells #[.int .u8 (a0 : Nat), .int .u8 (a1 : Nat), .int .u8 (a2 : Nat)] 33)
  have HB := Sd.mk (below_then hb0 hb1)
  have HSA := Sd.mk ((hs0.below hb0).below hb1)
  have HSB := Sd.mk ((hs1.below hb0).below hb1)
  have X0 := Sd.mk (blk_keep (blk_new w (.cells #[.int .i64 a.view, .string a.block, .slice A m c, .int .i64 b.view, .string b.block, .slice B k d] 32)) hb1)
  have Y0 := Sd.mk (blk_new1 w (.cells #[.int .i64 a.view, .string a.block, .slice A m c, .int .i64 b.view, .string b.block, .slice B k d] 32) (.cells #[.int .u8 (a0 : Nat), .int .u8 (a1 : Nat), .int .u8 (a2 : Nat)] 33))
  have mk := Nat.le_trans hs0.le hs0.cap
  have kk := Nat.le_trans hs1.le hs1.cap
  rw [← hm] at mk
  rw [← hk] at kk
  have HM := Sd.mk hm
  have HK := Sd.mk hk
  clear hs0 hs1 hm hk hb0 hb1
  go_enter Try.func4, Try.ntmps4
  go_upto_region 1 with (fail)
  generalize hB5 : w.heap.size + 1 = B5 at Y0 ⊢
  generalize hB4 : w.heap.size = B4 at X0 ⊢
  generalize (w.alloc _).alloc _ = W1 at X0 Y0 HB HSA HSB ⊢
  have x0 := blk_at X0.out 0 _ rfl
  have x1 := blk_at X0.out 1 _ rfl
  have x2 := blk_at X0.out 2 _ rfl
  have x3 := blk_at X0.out 3 _ rfl
  have x4 := blk_at X0.out 4 _ rfl
  have x5 := blk_at X0.out 5 _ rfl
  go_cut [7, 8] from 16 to 19 (fun v7 v8 wx => ∃ Ba Bb, v7 = .pointer (some ⟨Ba, 0, none⟩) ∧ v8 = .pointer (some ⟨Bb, 0, none⟩) ∧ Sd (Two W1 Ba Bb a b A B m k c d wx))
  case first =>
    have n0 := World.new_ne W1 _ x0
    have HKP := Sd.mk (fun W (h : Since W1 W) => show W.cell? ⟨B4, 0, none⟩ = some (.int .i64 a.view) ∧ W.cell? ⟨B4, 1, none⟩ = some (.string a.block) ∧ W.cell? ⟨B4, 2, none⟩ = some (.slice A m c) ∧ W.cell? ⟨B4, 3, none⟩ = some (.int .i64 b.view) ∧ W.cell? ⟨B4, 4, none⟩ = some (.string b.block) ∧ W.cell? ⟨B4, 5, none⟩ = some (.slice B k d) from ⟨h.cell x0, h.cell x1, h.cell x2, h.cell x3, h.cell x4, h.cell x5⟩)
    go_region_held3 (fun W => W.cell? ⟨B4, 0, none⟩ = some (.int .i64 a.view) ∧ W.cell? ⟨B4, 1, none⟩ = some (.string a.block) ∧ W.cell? ⟨B4, 2, none⟩ = some (.slice A m c) ∧ W.cell? ⟨B4, 3, none⟩ = some (.int .i64 b.view) ∧ W.cell? ⟨B4, 4, none⟩ = some (.string b.block) ∧ W.cell? ⟨B4, 5, none⟩ = some (.slice B k d)) ((refine HKP.out _ ⟨?_⟩; repeat (first | exact Below.refl _ _ | refine below_drew' ?_ | refine Below.alloc ?_ (by simp) _ | refine Below.setCell ?_ (by simp) _))) (fail)
    all_goals
      have HT := Sd.mk (show ∃ Ba Bb, _ from by first | exact ⟨_, _, two_ab W1 a b A B m k c d⟩ | exact ⟨_, _, two_ba W1 a b A B m k c d⟩)
      go_wp2
      go_meet
      first
        | exact ⟨_, _, rfl, rfl, ⟨two_ab W1 a b A B m k c d⟩⟩
        | exact ⟨_, _, rfl, rfl, ⟨two_ba W1 a b A B m k c d⟩⟩
  case rest =>
    clear x0 x1 x2 x3 x4 x5
    obtain ⟨Ba, Bb, rfl, rfl, HT⟩ := hcut
    have HFA := Sd.mk (fun W (h : Two W1 Ba Bb a b A B m k c d W) => few_any W a A c (HSA.out.below h.bel) m HM.out)
    have HFB := Sd.mk (fun W (h : Two W1 Ba Bb a b A B m k c d W) => few_any W b B d (HSB.out.below h.bel) k HK.out)
    by_cases h30 : 30 < seed.size
    · have d0 : decide ((30 : Int) < (seed.size : Int)) = true := decide_eq_true (by omega)
      clear h30
      go_wp2_with (first
        | (go_at_call 12; (with_reducible refine (awake_any _).mono ?_); rintro e w2 ⟨rfl, hb⟩; have HT := Sd.mk (HT.out.below hb); have q0 := blk_at HT.out.a 0 _ rfl; have q1 := blk_at HT.out.a 1 _ rfl; have q2 := blk_at HT.out.a 2 _ rfl; have q3 := blk_at HT.out.b 0 _ rfl; have q4 := blk_at HT.out.b 1 _ rfl; have q5 := blk_at HT.out.b 2 _ rfl; have y0 := cell_below HT.out.bel (blk_at Y0.out 0 _ rfl); have y1 := cell_below HT.out.bel (blk_at Y0.out 1 _ rfl); have y2 := cell_below HT.out.bel (blk_at Y0.out 2 _ rfl); clear hb))
      go_ret
      exact ⟨rfl, by have h := below_then HB.out HT.out.bel; first | exact h | rwa [hB4] at h⟩
    have d0 : decide ((30 : Int) < (seed.size : Int)) = false := decide_eq_false (by omega)
    have hsd : seed.size ≤ 35184372088832 := by omega
    clear h30
    obtain ⟨r0, hr0⟩ : ∃ z, z = a0 % 7 := ⟨_, rfl⟩
    have p0 : ((a0 : Int)).tmod 7 = (r0 : Int) := by rw [Int.tmod_eq_emod_of_nonneg (by omega)]; omega
    have p0b : ((a0 : Int)) % 7 = (r0 : Int) := by omega
    have r7 : r0 < 7 := by omega
    obtain ⟨n, hn⟩ : ∃ n, n = 1 + r0 := ⟨_, rfl⟩
    have p1 : (1 : Int) + (r0 : Int) = (n : Int) := by omega
    have n1 : 1 ≤ n := by omega
    have n7 : n ≤ 7 := by omega
    obtain ⟨ta, hta⟩ : ∃ z, z = a1 % n := ⟨_, rfl⟩
    have p5 : ((a1 : Int)).tmod (n : Int) = (ta : Int) := by rw [Int.tmod_eq_emod_of_nonneg (by omega), hta]; rfl
    obtain ⟨tb, htb⟩ : ∃ z, z = a2 % n := ⟨_, rfl⟩
    have p6 : ((a2 : Int)).tmod (n : Int) = (tb : Int) := by rw [Int.tmod_eq_emod_of_nonneg (by omega), htb]; rfl
    have hn0 : ((n : Int) == 0) = false := beq_eq_false_iff_ne.2 (by omega)
    have hn0b : ¬ (n : Int) = 0 := by omega
    have hn0c : ¬ n = 0 := by omega
    clear hr0 hn hta htb
    go_wp2_with (first
      | (go_at_call 12; (with_reducible refine (awake_any _).mono ?_); rintro e w2 ⟨rfl, hb⟩; have HT := Sd.mk (HT.out.below hb); have q0 := blk_at HT.out.a 0 _ rfl; have q1 := blk_at HT.out.a 1 _ rfl; have q2 := blk_at HT.out.a 2 _ rfl; have q3 := blk_at HT.out.b 0 _ rfl; have q4 := blk_at HT.out.b 1 _ rfl; have q5 := blk_at HT.out.b 2 _ rfl; have y0 := cell_below HT.out.bel (blk_at Y0.out 0 _ rfl); have y1 := cell_below HT.out.bel (blk_at Y0.out 1 _ rfl); have y2 := cell_below HT.out.bel (blk_at Y0.out 2 _ rfl); clear hb)
      | (go_at_call 13; (with_reducible refine (HFA.out _ HT.out).mono ?_); rintro e w3 ⟨r, rfl, ht, hb⟩; have HT := Sd.mk (HT.out.below hb); have q0 := blk_at HT.out.a 0 _ rfl; have q1 := blk_at HT.out.a 1 _ rfl; have q2 := blk_at HT.out.a 2 _ rfl; have q3 := blk_at HT.out.b 0 _ rfl; have q4 := blk_at HT.out.b 1 _ rfl; have q5 := blk_at HT.out.b 2 _ rfl; have y0 := cell_below HT.out.bel (blk_at Y0.out 0 _ rfl); have y1 := cell_below HT.out.bel (blk_at Y0.out 1 _ rfl); have y2 := cell_below HT.out.bel (blk_at Y0.out 2 _ rfl); have HTA := Sd.mk ht; clear ht hb; cases r)
      | (go_at_call 13; (with_reducible refine (HFB.out _ HT.out).mono ?_); rintro e w4 ⟨r, rfl, ht, hb⟩; have HT := Sd.mk (HT.out.below hb); have q0 := blk_at HT.out.a 0 _ rfl; have q1 := blk_at HT.out.a 1 _ rfl; have q2 := blk_at HT.out.a 2 _ rfl; have q3 := blk_at HT.out.b 0 _ rfl; have q4 := blk_at HT.out.b 1 _ rfl; have q5 := blk_at HT.out.b 2 _ rfl; have y0 := cell_below HT.out.bel (blk_at Y0.out 0 _ rfl); have y1 := cell_below HT.out.bel (blk_at Y0.out 1 _ rfl); have y2 := cell_below HT.out.bel (blk_at Y0.out 2 _ rfl); have HTB := Sd.mk ht; clear ht hb; cases r))
    · go_ret
      exact ⟨rfl, by have h := below_then HB.out HT.out.bel; first | exact h | rwa [hB4] at h⟩
    · go_ret
      exact ⟨rfl, by have h := below_then HB.out HT.out.bel; first | exact h | rwa [hB4] at h⟩
    have HCA := Sd.mk (HTA.out trivial)
    have HCB := Sd.mk (HTB.out trivial)
    clear HFA HFB HTA HTB d0
    go_quiet (fail)
    have hb := (since_drewN w4 nq).b
    have HT := Sd.mk (HT.out.below hb); have q0 := blk_at HT.out.a 0 _ rfl; have q1 := blk_at HT.out.a 1 _ rfl; have q2 := blk_at HT.out.a 2 _ rfl; have q3 := blk_at HT.out.b 0 _ rfl; have q4 := blk_at HT.out.b 1 _ rfl; have q5 := blk_at HT.out.b 2 _ rfl; have y0 := cell_below HT.out.bel (blk_at Y0.out 0 _ rfl); have y1 := cell_below HT.out.bel (blk_at Y0.out 1 _ rfl); have y2 := cell_below HT.out.bel (blk_at Y0.out 2 _ rfl)
    clear hb
    generalize w4.drewN nq = w5 at HT q0 q1 q2 q3 q4 q5 y0 y1 y2 ⊢
    obtain ⟨pa, hpa⟩ := tells seed (ta : Nat) (n : Nat) a
    obtain ⟨pb, hpb⟩ := tells seed (tb : Nat) (n : Nat) b
    obtain ⟨ra, hra⟩ : ∃ b : Bool, b = true ↔ HoldsC pa (n : Nat) a := ⟨@decide (HoldsC pa (n : Nat) a) (Classical.propDecidable _), by simp⟩
    obtain ⟨rb, hrb⟩ : ∃ r : Bool, r = true ↔ HoldsC pb (n : Nat) b := ⟨@decide (HoldsC pb (n : Nat) b) (Classical.propDecidable _), by simp⟩
    have HHA := Sd.mk (fun W (h : Two W1 Ba Bb a b A B m k c d W) => certholds_any W seed hsd (ta : Nat) (n : Nat) a A c (HSA.out.below h.bel) m HM.out (certB_few HCA.out) pa hpa ra hra)
    have HHB := Sd.mk (fun W (h : Two W1 Ba Bb a b A B m k c d W) => certholds_any W seed hsd (tb : Nat) (n : Nat) b B d (HSB.out.below h.bel) k HK.out (certB_few HCB.out) pb hpb rb hrb)
    have HPA := Sd.mk hpa
    have HPB := Sd.mk hpb
    have HRA := Sd.mk hra
    have HRB := Sd.mk hrb
    obtain ⟨va, hva⟩ : ∃ r, decide (a.view < 1) = r := ⟨_, rfl⟩
    obtain ⟨vb, hvb⟩ : ∃ r, decide (b.view < 1) = r := ⟨_, rfl⟩
    clear hpa hpb hra hrb
    cases va with
    | true =>
      go_wp2
      go_ret
      exact ⟨rfl, by have h := below_then HB.out HT.out.bel; first | exact h | rwa [hB4] at h⟩
    | false =>
    cases vb with
    | true =>
      go_wp2
      go_ret
      exact ⟨rfl, by have h := below_then HB.out HT.out.bel; first | exact h | rwa [hB4] at h⟩
    | false =>
    cases ra with
    | false =>
      go_wp2_with (first
        | (go_at_call 16; (with_reducible refine (HHA.out _ HT.out).mono ?_); rintro e w6 ⟨rfl, hb⟩; have HT := Sd.mk (HT.out.below hb); have q0 := blk_at HT.out.a 0 _ rfl; have q1 := blk_at HT.out.a 1 _ rfl; have q2 := blk_at HT.out.a 2 _ rfl; have q3 := blk_at HT.out.b 0 _ rfl; have q4 := blk_at HT.out.b 1 _ rfl; have q5 := blk_at HT.out.b 2 _ rfl; have y0 := cell_below HT.out.bel (blk_at Y0.out 0 _ rfl); have y1 := cell_below HT.out.bel (blk_at Y0.out 1 _ rfl); have y2 := cell_below HT.out.bel (blk_at Y0.out 2 _ rfl); clear hb))
      go_ret
      exact ⟨rfl, by have h := below_then HB.out HT.out.bel; first | exact h | rwa [hB4] at h⟩
    | true =>
    cases rb with
    | false =>
      go_wp2_with (first
        | (go_at_call 16; (with_reducible refine (HHA.out _ HT.out).mono ?_); rintro e w6 ⟨rfl, hb⟩; have HT := Sd.mk (HT.out.below hb); have q0 := blk_at HT.out.a 0 _ rfl; have q1 := blk_at HT.out.a 1 _ rfl; have q2 := blk_at HT.out.a 2 _ rfl; have q3 := blk_at HT.out.b 0 _ rfl; have q4 := blk_at HT.out.b 1 _ rfl; have q5 := blk_at HT.out.b 2 _ rfl; have y0 := cell_below HT.out.bel (blk_at Y0.out 0 _ rfl); have y1 := cell_below HT.out.bel (blk_at Y0.out 1 _ rfl); have y2 := cell_below HT.out.bel (blk_at Y0.out 2 _ rfl); clear hb)
        | (go_at_call 16; (with_reducible refine (HHB.out _ HT.out).mono ?_); rintro e w7 ⟨rfl, hb⟩; have HT := Sd.mk (HT.out.below hb); have q0 := blk_at HT.out.a 0 _ rfl; have q1 := blk_at HT.out.a 1 _ rfl; have q2 := blk_at HT.out.a 2 _ rfl; have q3 := blk_at HT.out.b 0 _ rfl; have q4 := blk_at HT.out.b 1 _ rfl; have q5 := blk_at HT.out.b 2 _ rfl; have y0 := cell_below HT.out.bel (blk_at Y0.out 0 _ rfl); have y1 := cell_below HT.out.bel (blk_at Y0.out 1 _ rfl); have y2 := cell_below HT.out.bel (blk_at Y0.out 2 _ rfl); clear hb))
      go_ret
      exact ⟨rfl, by have h := below_then HB.out HT.out.bel; first | exact h | rwa [hB4] at h⟩
    | true =>
    go_upto_region 9 with (first
      | (go_at_call 16; (with_reducible refine (HHA.out _ HT.out).mono ?_); rintro e w6 ⟨rfl, hb⟩; have HT := Sd.mk (HT.out.below hb); have q0 := blk_at HT.out.a 0 _ rfl; have q1 := blk_at HT.out.a 1 _ rfl; have q2 := blk_at HT.out.a 2 _ rfl; have q3 := blk_at HT.out.b 0 _ rfl; have q4 := blk_at HT.out.b 1 _ rfl; have q5 := blk_at HT.out.b 2 _ rfl; have y0 := cell_below HT.out.bel (blk_at Y0.out 0 _ rfl); have y1 := cell_below HT.out.bel (blk_at Y0.out 1 _ rfl); have y2 := cell_below HT.out.bel (blk_at Y0.out 2 _ rfl); clear hb)
      | (go_at_call 16; (with_reducible refine (HHB.out _ HT.out).mono ?_); rintro e w7 ⟨rfl, hb⟩; have HT := Sd.mk (HT.out.below hb); have q0 := blk_at HT.out.a 0 _ rfl; have q1 := blk_at HT.out.a 1 _ rfl; have q2 := blk_at HT.out.a 2 _ rfl; have q3 := blk_at HT.out.b 0 _ rfl; have q4 := blk_at HT.out.b 1 _ rfl; have q5 := blk_at HT.out.b 2 _ rfl; have y0 := cell_below HT.out.bel (blk_at Y0.out 0 _ rfl); have y1 := cell_below HT.out.bel (blk_at Y0.out 1 _ rfl); have y2 := cell_below HT.out.bel (blk_at Y0.out 2 _ rfl); clear hb))
    have HQ := Sd.mk (quorums_share n1 HPA.out HPB.out (HRA.out.1 trivial) (HRB.out.1 trivial) (by have := of_decide_eq_false hva; omega) (by have := of_decide_eq_false hvb; omega))
    have hca := (HRA.out.1 trivial).1
    have hcb := (HRB.out.1 trivial).1
    have HGA := Sd.mk (fun W (h : Two W1 Ba Bb a b A B m k c d W) => good_any W seed hsd (ta : Nat) (n : Nat) a A c (HSA.out.below h.bel) m HM.out (certB_few HCA.out) pa HPA.out true ⟨fun _ => hca, fun _ => rfl⟩)
    have HGB := Sd.mk (fun W (h : Two W1 Ba Bb a b A B m k c d W) => good_any W seed hsd (tb : Nat) (n : Nat) b B d (HSB.out.below h.bel) k HK.out (certB_few HCB.out) pb HPB.out true ⟨fun _ => hcb, fun _ => rfl⟩)
    simp only [if_true] at HGA HGB
    have hla : (goodF pa a.sigs).length ≤ 7 := Nat.le_trans (good_le _ _) hca.n
    have hlb : (goodF pb b.sigs).length ≤ 7 := Nat.le_trans (good_le _ _) hcb.n
    obtain ⟨ga, hga⟩ : ∃ l, goodF pa a.sigs = l := ⟨_, rfl⟩
    obtain ⟨gb, hgb⟩ : ∃ l, goodF pb b.sigs = l := ⟨_, rfl⟩
    rw [hga] at HGA HQ hla
    rw [hgb] at HGB HQ hlb
    obtain ⟨ja, hja⟩ : ∃ j, ga.length = j := ⟨_, rfl⟩
    obtain ⟨jb, hjb⟩ : ∃ j, gb.length = j := ⟨_, rfl⟩
    rw [hja] at hla
    rw [hjb] at hlb
    have HJA := Sd.mk hja
    have HJB := Sd.mk hjb
    obtain ⟨f, hf⟩ : ∃ f, f = Gat.fl n := ⟨_, rfl⟩
    have HF := Sd.mk hf
    rw [← hf] at HQ
    have hfn : f < n := by rw [hf]; exact Gat.fl_lt n1
    clear hca hcb hga hgb hja hjb hva hvb HHA HHB HPA HPB HRA HRB HCA HCB p0 p0b p1 p5 p6 hn0 hn0b hn0c y0 y1 y2 q0 q1 q2 q3 q4 q5 hf
    have HTD := Sd.mk (HT.out.below (since_drew w7).b)
    have HKP := Sd.mk (fun W (h : Two W1 Ba Bb a b A B m k c d W) => show W.cell? ⟨Ba, 0, none⟩ = some (.int .i64 a.view) ∧ W.cell? ⟨Ba, 1, none⟩ = some (.string a.block) ∧ W.cell? ⟨Ba, 2, none⟩ = some (.slice A m c) ∧ W.cell? ⟨Bb, 0, none⟩ = some (.int .i64 b.view) ∧ W.cell? ⟨Bb, 1, none⟩ = some (.string b.block) ∧ W.cell? ⟨Bb, 2, none⟩ = some (.slice B k d) ∧ Two W1 Ba Bb a b A B m k c d W from ⟨blk_at h.a 0 _ rfl, blk_at h.a 1 _ rfl, blk_at h.a 2 _ rfl, blk_at h.b 0 _ rfl, blk_at h.b 1 _ rfl, blk_at h.b 2 _ rfl, h⟩)
    go_region_held3 (fun W => W.cell? ⟨Ba, 0, none⟩ = some (.int .i64 a.view) ∧ W.cell? ⟨Ba, 1, none⟩ = some (.string a.block) ∧ W.cell? ⟨Ba, 2, none⟩ = some (.slice A m c) ∧ W.cell? ⟨Bb, 0, none⟩ = some (.int .i64 b.view) ∧ W.cell? ⟨Bb, 1, none⟩ = some (.string b.block) ∧ W.cell? ⟨Bb, 2, none⟩ = some (.slice B k d) ∧ Two W1 Ba Bb a b A B m k c d W) (first | exact HKP.out _ HTD.out | exact HKP.out _ HT9.out | exact HKP.out _ HT8.out | fail) (first
        | (go_at_call 14; (with_reducible refine (HGA.out _ HTD.out).mono ?_); rintro e w8 ⟨v8, rfl, ho8⟩; obtain ⟨A8, k8, rfl, hs8⟩ := ho8.slice; rw [HJA.out]; have HT8 := Sd.mk (HTD.out.below ho8.bel); have HL8 := Sd.mk hs8; clear ho8 hs8)
        | (go_at_call 14; (with_reducible refine (HGB.out _ HT8.out).mono ?_); rintro e w9 ⟨v9, rfl, ho9⟩; obtain ⟨A9, k9, rfl, hs9⟩ := ho9.slice; rw [HJB.out]; have HT9 := Sd.mk (HT8.out.below ho9.bel); have HL9 := Sd.mk hs9; have HL7 := Sd.mk (HL8.out.below ho9.bel); clear ho9 hs9)
        | fail)
    all_goals
      clear HTD HKP HT HGA HGB HL8
      have j1 := Nat.le_trans HL7.out.le HL7.out.cap
      have j2 := Nat.le_trans HL9.out.le HL9.out.cap
      rw [HJA.out] at j1
      rw [HJB.out] at j2
      go_wp2
      go_loopg [12, 15] ja (fun gk v12 v15 wr => ∃ i q, i + gk = ja ∧ q ≤ i ∧ v12 = .int .i64 (q : Nat) ∧ v15 = .int .i64 (i : Nat) ∧ Sd (((ga.take i).filter (fun z => decide (z ∈ gb))).length = q) ∧ Sd (wr = w9))
      case atStart => exact ⟨0, 0, by omega, by omega, rfl, rfl, ⟨rfl⟩, ⟨rfl⟩⟩
      case round =>
        obtain ⟨i, q, hi, hqi, rfl, rfl, HC, HE⟩ := hrel
        obtain rfl := HE.out.symm
        by_cases hlt : i < ja
        · have hii : (i : Int) < ja := by omega
          obtain ⟨x, hx⟩ : ∃ x, ga[i]? = some x := ⟨_, List.getElem?_eq_getElem (show i < ga.length by rw [HJA.out]; exact hlt)⟩
          obtain ⟨b1, o1, rfl, z0⟩ := num_get HL7.out hx
          obtain ⟨r, hr⟩ : ∃ r, decide (x ∈ gb) = r := ⟨_, rfl⟩
          have HCT := Sd.mk (show ((ga.take (i + 1)).filter (fun z => decide (z ∈ gb))).length = if r = true then q + 1 else q by
            rw [List.take_add_one, hx]
            simp only [Option.toList_some, List.filter_append, List.length_append, HC.out]
            cases r <;> simp [List.filter_cons, of_decide_eq_true, of_decide_eq_false, hr])
          have HHS := Sd.mk (refhas_any w9 A9 k9 gb HL9.out jb HJB.out.symm x r (by rw [← hr]; simp))
          clear hx hr
          cases r with
          | true =>
            go_wp2_with (first
              | (go_at_call 18; (with_reducible refine HHS.out.mono ?_); rintro e w10 ⟨rfl, hw⟩; obtain rfl := hw.symm))
            go_roundg (gk - 1)
            case measure => omega
            case rel => exact ⟨i + 1, q + 1, by omega, by omega, by go_num, by go_num, HCT, ⟨rfl⟩⟩
          | false =>
            go_wp2_with (first
              | (go_at_call 18; (with_reducible refine HHS.out.mono ?_); rintro e w10 ⟨rfl, hw⟩; obtain rfl := hw.symm))
            go_roundg (gk - 1)
            case measure => omega
            case rel => exact ⟨i + 1, q, by omega, by omega, rfl, by go_num, HCT, ⟨rfl⟩⟩
        · have hii : decide (i < ja) = false := decide_eq_false (by omega)
          have hii2 : decide ((i : Int) < (ja : Int)) = false := decide_eq_false (by omega)
          have hfq : f < q := by have h := HQ.out; have h2 := HC.out; rw [List.take_of_length_le (by rw [HJA.out]; omega)] at h2; rw [h2] at h; exact h
          have d0 : decide ((f : Int) < (q : Int)) = true := decide_eq_true (by omega)
          have d0b : decide (f < q) = true := decide_eq_true hfq
          have HT := HT9
          go_wp2_with (first
            | (go_at_call 19; (with_reducible refine (Gat.reffaults_any _ n n1 (by omega) f HF.out).mono ?_); rintro e w11 ⟨rfl, hw⟩; obtain rfl := hw.symm))
          go_ret
          exact ⟨rfl, by have h := below_then HB.out HT.out.bel; first | exact h | rwa [hB4] at h⟩
theorem cs_row (w : World) (seed : ByteArray) (hs : seed.size ≤ 140737488351232) (l : List Cert) (cs : Array Value) (hc : (Rk.arr certK 2).K w l cs.toList) (l3 : List Int) (ds : Array Value) (h : (Rk.arr (Rk.int .u8) 3).K w l3 ds.toList) :
    Calls Try.prog 4 #[.string seed, .agg cs, .agg ds] w fun e w' => e = .returned (.bool true) ∧ RowKit.Below w.heap.size w w' := by
  obtain ⟨x, r, c0, c1, -, e1, ⟨rfl, w0⟩, y, r2, c2, c3, -, rfl, ⟨rfl, w1⟩, z, r3, c4, c5, -, rfl, ⟨rfl, w2⟩, -, rfl⟩ := h
  obtain ⟨a, r4, d0, d1, -, e2, k0, b, r5, d2, d3, -, rfl, k1, -, rfl⟩ := hc
  obtain ⟨A, c, rfl, -, hsa⟩ := cert_open k0
  obtain ⟨B, d, rfl, -, hsb⟩ := cert_open k1
  obtain rfl := Api.arr_of e1
  obtain rfl := Api.arr_of e2
  have f : ∀ x : Int, (Lit.int .u8 x).wf = true → 0 ≤ x ∧ x ≤ 255 := fun x hx => by simpa [Lit.wf, IntKind.min, IntKind.max, IntKind.bits, IntKind.signed] using hx
  obtain ⟨x', rfl⟩ : ∃ m' : Nat, x = (m' : Int) := ⟨x.toNat, by have := f x w0; omega⟩
  obtain ⟨y', rfl⟩ : ∃ m' : Nat, y = (m' : Int) := ⟨y.toNat, by have := f y w1; omega⟩
  obtain ⟨z', rfl⟩ : ∃ m' : Nat, z = (m' : Int) := ⟨z.toNat, by have := f z w2; omega⟩
  exact certshares_law w seed a b A B c d (sg_of hsa) (sg_of hsb) _ _ rfl rfl x' y' z' (by have := f _ w0; omega) (by have := f _ w1; omega) (by have := f _ w2; omega)
end Go.Proofs.Ytdmdfpbklflijaa.Crt

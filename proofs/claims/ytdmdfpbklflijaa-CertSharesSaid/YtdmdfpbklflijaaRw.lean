/- A reader: check, cut, number: walked. -/
import Derived.Test.YtdmdfpbklflijaaRp
import Derived.Test.YtdmdfpbklflijaaApp
import Derived.Lib.ConvBytes
import Derived.Laws.BitsLemmas
set_option linter.unusedVariables false
set_option linter.unusedSimpArgs false
namespace Go.Proofs.Ytdmdfpbklflijaa.Rp
open Go.RowKit Rd Api Own Mv App Num

/-- a reader in a world -/
def Rb (g : Nat) (s : RS) (W : World) : Prop := W.heap[g]? = some (.cells #[.string s.b, .bool s.bad] 148 (0, 0))
theorem Rb.below {g : Nat} {s : RS} {W W1 : World} (h : Rb g s W) (hb : Below W.heap.size W W1) : Rb g s W1 := blk_keep h hb
theorem grown_below {W W1 : World} (hb : Below W.heap.size W W1) (row : Option Nat) : W.grownBy W1 row := ⟨hb.os, hb.tape, hb.output, hb.size, fun k hk _ => hb.block k hk⟩
theorem grown_then {W W1 W2 : World} {row : Option Nat} (h : W.grownBy W1 row) (k : W1.grownBy W2 row) : W.grownBy W2 row := ⟨k.os.trans h.os, k.tape.trans h.tape, k.output.trans h.output, Nat.le_trans h.size k.size, fun i hi hr => (k.block i (Nat.lt_of_lt_of_le hi h.size) hr).trans (h.block i hi hr)⟩
theorem grown_set (W : World) (g o : Nat) (u : Value) : W.grownBy (W.setCell ⟨g, o, none⟩ u) (some g) := ⟨rfl, rfl, rfl, by simp [World.setCell], fun k hk hr => heap_set _ _ _ _ k (fun e => hr (by rw [e]))⟩
theorem grown_refl (W : World) (row : Option Nat) : W.grownBy W row := ⟨rfl, rfl, rfl, Nat.le_refl _, fun _ _ _ => rfl⟩
theorem grown_bel {W W1 : World} {row : Option Nat} (h : W.grownBy W1 row) (hr : ∀ k, row = some k → W.heap.size ≤ k) : Below W.heap.size W W1 := ⟨h.os, h.tape, h.output, h.size, fun i hi => h.block i hi (fun e => by have := hr i e.symm; omega)⟩
/-- what a reader's call does -/
structure Gd (g : Nat) (W : World) (s : RS) (W1 : World) : Prop where
  rb : Rb g s W1
  gr : W.grownBy W1 (some g)
theorem Gd.then {g : Nat} {W W1 W2 : World} {s t : RS} (h : Gd g W s W1) (k : Gd g W1 t W2) : Gd g W t W2 := ⟨k.rb, grown_then h.gr k.gr⟩
theorem Gd.bel {g : Nat} {W W1 W2 : World} {s : RS} (h : Gd g W s W1) (hb : Below W1.heap.size W1 W2) : Gd g W s W2 := ⟨h.rb.below hb, grown_then h.gr (grown_below hb _)⟩
set_option maxHeartbeats 1000000 in
theorem check_any {g : Nat} {s : RS} {W : World} (h : Rb g s W) (ok : Bool) (t : RS) (ht : chk s ok = t) : Calls Try.prog 124 #[.pointer (some ⟨g, 0, none⟩), .bool ok] W fun e w' => e = .returned (.tuple #[]) ∧ Gd g W t w' := by
  subst ht
  have c1 := blk_at h 1 _ rfl
  have f1 := blk_frz h 1
  have H2 := Sd.mk (show Rb g (chk s ok) (W.setCell ⟨g, 1, none⟩ (.bool (s.bad || !ok))) from (blk_set3 h 1 _).trans rfl)
  have HG := Sd.mk (grown_set W g 1 (.bool (s.bad || !ok)))
  cases hb : s.bad <;> cases ok <;> rw [hb] at c1 H2 HG
  all_goals
    clear h
    go_enter Try.func124, Try.ntmps124
    go_wp2
    go_end0
    exact ⟨rfl, H2.out, HG.out⟩
set_option maxHeartbeats 2000000 in
theorem cut_any {g : Nat} {s : RS} {W : World} (h : Rb g s W) (n : Int) (hz : s.b.size ≤ 9223372036854775807) (x : ByteArray) (t : RS) (hx : cutF n s = (x, t)) : Calls Try.prog 122 #[.pointer (some ⟨g, 0, none⟩), .int .i64 n] W fun e w' => e = .returned (.string x) ∧ Gd g W t w' := by
  obtain ⟨ok, hok⟩ : ∃ ok, (decide (0 ≤ n) && decide (n ≤ (s.b.size : Int))) = ok := ⟨_, rfl⟩
  have hcb : cutB n s = (s.bad || !ok) := by unfold cutB; rw [hok]
  have HCK := Sd.mk (check_any h ok ⟨s.b, s.bad || !ok⟩ rfl)
  have c0 := blk_at h 0 _ rfl
  cases hb : cutB n s with
  | true =>
    rw [cut_no hb] at hx
    obtain ⟨rfl, rfl⟩ := Prod.mk.inj hx
    rw [← hcb, hb] at HCK
    clear hx hb hcb h
    by_cases h0 : 0 ≤ n
    · have d0 : decide (0 ≤ n) = true := decide_eq_true h0
      have d1 : decide (n ≤ (s.b.size : Int)) = ok := by rw [← hok, d0]; rfl
      clear hok
      go_enter Try.func122, Try.ntmps122
      go_wp2_with (first
        | (go_at_call 124; (with_reducible refine HCK.out.mono ?_); rintro e w1 ⟨rfl, hg⟩; have c1 := blk_at hg.rb 1 _ rfl; have HG := Sd.mk hg; clear hg))
      go_ret
      exact ⟨rfl, HG.out⟩
    · have d0 : decide (0 ≤ n) = false := decide_eq_false h0
      obtain rfl : ok = false := by rw [← hok, d0]; rfl
      clear hok h0
      go_enter Try.func122, Try.ntmps122
      go_wp2_with (first
        | (go_at_call 124; (with_reducible refine HCK.out.mono ?_); rintro e w1 ⟨rfl, hg⟩; have c1 := blk_at hg.rb 1 _ rfl; have HG := Sd.mk hg; clear hg))
      go_ret
      exact ⟨rfl, HG.out⟩
  | false =>
    obtain ⟨hb1, h0, h1⟩ := cutB_false hb
    rw [cut_yes hb] at hx
    obtain ⟨rfl, rfl⟩ := Prod.mk.inj hx
    rw [← hcb, hb] at HCK
    obtain rfl : ok = true := by rw [hb, hb1] at hcb; cases ok <;> simp at hcb ⊢
    obtain ⟨k, rfl⟩ : ∃ k : Nat, n = (k : Int) := ⟨n.toNat, by omega⟩
    have hks : k ≤ s.b.size := by omega
    rw [Int.toNat_natCast]
    have d0 : decide (0 ≤ (k : Int)) = true := decide_eq_true h0
    have d1 : decide ((k : Int) ≤ (s.b.size : Int)) = true := decide_eq_true h1
    have d2 : decide (k ≤ s.b.size) = true := decide_eq_true hks
    clear hx hb hcb hb1 hok h
    go_enter Try.func122, Try.ntmps122
    go_wp2_with (first
      | (go_at_call 124; (with_reducible refine HCK.out.mono ?_); rintro e w1 ⟨rfl, hg⟩; have c1 := blk_at hg.rb 1 _ rfl; have c2 := blk_at hg.rb 0 _ rfl; have f0 := blk_frz hg.rb 0; have HG := Sd.mk (hg.then (⟨(blk_set3 hg.rb 0 (.string (s.b.extract k s.b.size))).trans rfl, grown_set _ _ _ _⟩ : Gd g w1 ⟨s.b.extract k s.b.size, false⟩ (w1.setCell ⟨g, 0, none⟩ (.string (s.b.extract k s.b.size))))); clear hg))
    go_ret
    exact ⟨rfl, HG.out⟩
theorem below_bytes {B : Nat} {w W : World} (h : Below B w W) (hB : B ≤ W.heap.size) (e : TypeId) (s : ByteArray) : Below B w (Lib.bytesWorld W e s) :=
  h.trans ⟨rfl, rfl, rfl, by rw [Lib.bytesWorld_size]; omega, fun i hi => Lib.bytesWorld_at_old W e s i (by omega)⟩
theorem wraps_i64 (n : Int) (h₀ : 0 ≤ n) (h₁ : n < 2 ^ 62) : IntKind.i64.wrap n = n := by rw [IntKind.wrap_i64]; omega
theorem i64_or8 {x y : Int} (hx₀ : 0 ≤ x) (hx : x % 256 = 0) (hx₁ : x < 4611686018427387904) (h₀ : 0 ≤ y) (h₁ : y < 256) : bits .or .i64 x y = x + y :=
  bits_join .i64 62 (by decide) wraps_i64 8 x y hx₀ hx hx₁ h₀ h₁ (by omega)
def bd (i : Nat) : Int := if i = 0 then 1 else if i = 1 then 256 else if i = 2 then 65536 else if i = 3 then 16777216 else 4294967296
theorem bd_next {i : Nat} (hi : i < 4) {n c : Int} (h0 : 0 ≤ n) (h : n < bd i) (c0 : 0 ≤ c) (c1 : c < 256) : n < 16777216 ∧ n * 256 + c < bd (i + 1) := by
  unfold bd at h ⊢
  (repeat' split at h) <;> (repeat' split) <;> omega
theorem cut4_size (s : RS) : (cutF 4 s).1.size ≤ 4 := by
  cases hb : cutB 4 s with
  | true => rw [cut_no hb]; exact Nat.zero_le _
  | false => rw [cut_yes hb]; show (s.b.extract 0 4).size ≤ 4; rw [ByteArray.size_extract]; omega
set_option maxHeartbeats 8000000 in
set_option maxRecDepth 100000 in
theorem number_any {g : Nat} {s : RS} {W : World} (h : Rb g s W) (lo hi : Int) (hz : s.b.size ≤ 9223372036854775807) (x : Int) (t : RS) (hx : numF lo hi s = (x, t)) :
    Calls Try.prog 121 #[.pointer (some ⟨g, 0, none⟩), .int .i64 lo, .int .i64 hi] W fun e w' => e = .returned (.int .i64 x) ∧ Gd g W t w' := by
  obtain ⟨u, s1, hu⟩ : ∃ u s1, cutF 4 s = (u, s1) := ⟨_, _, rfl⟩
  have HCT := Sd.mk (cut_any h 4 hz u s1 hu)
  have hu4 : u.size ≤ 4 := by have := cut4_size s; rwa [hu] at this
  have HV := Sd.mk (show valF s = beVal u.data.toList by unfold valF; rw [hu])
  have HX := Sd.mk (show (if (s1.bad || !(decide (lo ≤ valF s) && decide (valF s ≤ hi))) = true then ((0 : Int), (⟨s1.b, true⟩ : RS)) else (valF s, ⟨s1.b, false⟩)) = (x, t) by
    rw [← hx]; unfold numF numB; rw [hu])
  obtain ⟨m, hm⟩ : ∃ m, u.size = m := ⟨_, rfl⟩
  rw [hm] at hu4
  have HM := Sd.mk (show u.data.toList.length = m by rw [list_len]; exact hm)
  have HUZ := Sd.mk hm
  have kb := fun W => Lib.run_convert_string_bytes (P := Try.prog) W 9 49 5 u Try.underlying9 Try.underlying49 Try.underlying5
  clear h hx hu hz
  go_enter Try.func121, Try.ntmps121
  go_wp2_with (first
    | (go_at_call 122; (with_reducible refine HCT.out.mono ?_); rintro e w1 ⟨rfl, hg⟩; have HG := Sd.mk hg; clear hg))
  clear kb HCT
  have HB := Sd.mk (HG.out.bel (below_bytes (Below.refl w1.heap.size w1) (Nat.le_refl _) 5 u))
  have HC := Sd.mk (fun j (hj : j < m) => Lib.bytesWorld_cell w1 5 u j (by rw [HUZ.out]; exact hj))
  clear HG
  generalize Lib.bytesWorld w1 5 u = w2 at HB HC ⊢
  generalize hk1 : w1.heap.size = k1 at HC ⊢
  clear hk1
  go_loopg [7, 9, 14] m (fun gk v7 v9 v14 wr => ∃ (i : Nat) (n : Int), i + gk = m ∧ v14 = .int .i64 i ∧ v7 = .int .i64 n ∧ Sd (n = beVal (u.data.toList.take i)) ∧ 0 ≤ n ∧ n < bd i ∧ Sd (wr = w2))
  case atStart => exact ⟨0, 0, by omega, rfl, rfl, ⟨rfl⟩, by omega, by decide, ⟨rfl⟩⟩
  case round =>
    obtain ⟨i, n, hi', rfl, rfl, HN, h0, hb, HE⟩ := hrel
    obtain rfl := HE.out.symm
    by_cases hlt : i < m
    · have hlm : i < u.data.toList.length := by rw [HM.out]; exact hlt
      have hc := HC.out i hlt
      have HQ := Sd.mk (show n * 256 + ((u.data.toList.getD i 0).toNat : Int) = beVal (u.data.toList.take (i + 1)) from by
        rw [List.take_succ_eq_append_getElem hlm, beVal_snoc, HN.out, List.getD_eq_getElem?_getD, List.getElem?_eq_getElem hlm]; rfl)
      generalize u.data.toList.getD i 0 = c0 at hc HQ
      have hc1 := c0.toNat_lt
      obtain ⟨c, hcc⟩ : ∃ c : Nat, c0.toNat = c := ⟨_, rfl⟩
      rw [hcc] at hc HQ hc1
      have hn := bd_next (show i < 4 by omega) h0 hb (c := (c : Int)) (by omega) (by omega)
      obtain ⟨hn1, hn2⟩ := hn
      have hor := i64_or8 (x := n * 256) (y := (c : Int)) (by omega) (by omega) (by omega) (by omega) (by omega)
      have hii : (i : Int) < (m : Int) := by omega
      clear hcc hlm
      go_wp2
      go_roundg (gk - 1)
      case measure => omega
      case rel => exact ⟨i + 1, n * 256 + (c : Int), by omega, by go_num, rfl, HQ, by omega, hn2, ⟨rfl⟩⟩
    · obtain rfl : i = m := by omega
      have HE2 := Sd.mk (show n = valF s by rw [HV.out, HN.out, List.take_of_length_le (by rw [HM.out]; exact Nat.le_refl _)])
      have hii : decide ((i : Int) < (i : Int)) = false := decide_eq_false (by omega)
      have hn4 : n < 4294967296 := by unfold bd at hb; split at hb <;> (try split at hb) <;> (try split at hb) <;> (try split at hb) <;> omega
      obtain ⟨ok, hok⟩ : ∃ ok, (decide (lo ≤ n) && decide (n ≤ hi)) = ok := ⟨_, rfl⟩
      have HX2 := Sd.mk (show (if (s1.bad || !ok) = true then ((0 : Int), (⟨s1.b, true⟩ : RS)) else (n, ⟨s1.b, false⟩)) = (x, t) by rw [← hok, HE2.out]; exact HX.out)
      have HCK := Sd.mk (check_any HB.out.rb ok ⟨s1.b, s1.bad || !ok⟩ rfl)
      clear HX HE HN
      cases hbb : (s1.bad || !ok) with
      | true =>
        rw [hbb] at HX2 HCK
        obtain ⟨rfl, rfl⟩ := Prod.mk.inj (show ((0 : Int), (⟨s1.b, true⟩ : RS)) = (x, t) from HX2.out)
        clear hbb
        by_cases h1 : lo ≤ n
        · have d0 : decide (lo ≤ n) = true := decide_eq_true h1
          have d1 : decide (n ≤ hi) = ok := by rw [← hok, d0]; rfl
          clear hok
          go_wp2_with (first
            | (go_at_call 124; (with_reducible refine HCK.out.mono ?_); rintro e w3 ⟨rfl, hg⟩; have c1 := blk_at hg.rb 1 _ rfl; have HG := Sd.mk (HB.out.then hg); clear hg))
          go_ret
          exact ⟨rfl, HG.out⟩
        · have d0 : decide (lo ≤ n) = false := decide_eq_false h1
          obtain rfl : ok = false := by rw [← hok, d0]; rfl
          clear hok h1
          go_wp2_with (first
            | (go_at_call 124; (with_reducible refine HCK.out.mono ?_); rintro e w3 ⟨rfl, hg⟩; have c1 := blk_at hg.rb 1 _ rfl; have HG := Sd.mk (HB.out.then hg); clear hg))
          go_ret
          exact ⟨rfl, HG.out⟩
      | false =>
        rw [hbb] at HX2 HCK
        obtain ⟨rfl, rfl⟩ := Prod.mk.inj (show (n, (⟨s1.b, false⟩ : RS)) = (x, t) from HX2.out)
        obtain rfl : ok = true := by cases ok <;> simp at hbb ⊢
        simp only [Bool.and_eq_true, decide_eq_true_eq] at hok
        have d0 : decide (lo ≤ n) = true := decide_eq_true hok.1
        have d1 : decide (n ≤ hi) = true := decide_eq_true hok.2
        clear hbb hok
        go_wp2_with (first
          | (go_at_call 124; (with_reducible refine HCK.out.mono ?_); rintro e w3 ⟨rfl, hg⟩; have c1 := blk_at hg.rb 1 _ rfl; have HG := Sd.mk (HB.out.then hg); clear hg))
        go_ret
        exact ⟨rfl, HG.out⟩
end Go.Proofs.Ytdmdfpbklflijaa.Rp

/- A reader: check, cut, number: walked. A reader: a signature: walked. A reader: a certificate: walked. A certificate of bytes: walked. A certificate's bytes: walked. -/
import Derived.Test.YtnomgkmeomlccaaRp
import Derived.Test.YtnomgkmeomlccaaApp
import Derived.Lib.ConvBytes
import Derived.Laws.BitsLemmas
import Derived.Deep.RegionLaw
import Derived.Test.YtnomgkmeomlccaaPeel
import Derived.Deep.CutRange
import Derived.Lib.QuietBelow
set_option linter.unusedVariables false
set_option linter.unusedSimpArgs false
namespace Go.Proofs.Ytnomgkmeomlccaa.Rp
open Go.RowKit Rd Api Own Mv App Num

/-- a reader in a world -/
def Rb (g : Nat) (s : RS) (W : World) : Prop := W.heap[g]? = some (.cells #[.string s.b, .bool s.bad] 184 (0, 0))
theorem Rb.below {g : Nat} {s : RS} {W W1 : World} (h : Rb g s W) (hb : Below W.heap.size W W1) : Rb g s W1 := blk_keep h hb
theorem grown_below {W W1 : World} (hb : Below W.heap.size W W1) (row : Option Nat) : W.grownBy W1 row := ⟨hb.os, hb.tape, hb.output, hb.size, fun k hk _ => hb.block k hk⟩
theorem grown_then {W W1 W2 : World} {row : Option Nat} (h : W.grownBy W1 row) (k : W1.grownBy W2 row) : W.grownBy W2 row := ⟨k.os.trans h.os, k.tape.trans h.tape, k.output.trans h.output, Nat.le_trans h.size k.size, fun i hi hr => (k.block i (Nat.lt_of_lt_of_le hi h.size) hr).trans (h.block i hi hr)⟩
theorem grown_set (W : World) (g o : Nat) (u : Value) : W.grownBy (W.setCell ⟨g, o, none⟩ u) (some g) := ⟨rfl, rfl, rfl, by simp [World.setCell], fun k hk hr => heap_set _ _ _ _ k (fun e => hr (by rw [e]))⟩
theorem grown_refl (W : World) (row : Option Nat) : W.grownBy W row := ⟨rfl, rfl, rfl, Nat.le_refl _, fun _ _ _ => rfl⟩
theorem grown_bel {W W1 : World} {row : Option Nat} (h : W.grownBy W1 row) (hr : ∀ k, row = some k → W.heap.size ≤ k) : Below W.heap.size W W1 := ⟨h.os, h.tape, h.output, h.size, fun i hi => h.block i hi (fun e => by have := hr i e.symm; omega)⟩
/-- what a reader's call does -/
structure Gd (g : Nat) (W : World) (s : RS) (W1 : World) : Prop where
  rb : Rb g s W1
  gr : W.grownBy W1 (some g)
theorem Gd.then {g : Nat} {W W1 W2 : World} {s t : RS} (h : Gd g W s W1) (k : Gd g W1 t W2) : Gd g W t W2 := ⟨k.rb, grown_then h.gr k.gr⟩
theorem Gd.bel {g : Nat} {W W1 W2 : World} {s : RS} (h : Gd g W s W1) (hb : Below W1.heap.size W1 W2) : Gd g W s W2 := ⟨h.rb.below hb, grown_then h.gr (grown_below hb _)⟩
set_option maxHeartbeats 1000000 in
theorem check_any {g : Nat} {s : RS} {W : World} (h : Rb g s W) (ok : Bool) (t : RS) (ht : chk s ok = t) : Calls Try.prog 152 #[.pointer (some ⟨g, 0, none⟩), .bool ok] W fun e w' => e = .returned (.tuple #[]) ∧ Gd g W t w' := by
  subst ht
  have c1 := blk_at h 1 _ rfl
  have f1 := blk_frz h 1
  have H2 := Sd.mk (show Rb g (chk s ok) (W.setCell ⟨g, 1, none⟩ (.bool (s.bad || !ok))) from (blk_set3 h 1 _).trans rfl)
  have HG := Sd.mk (grown_set W g 1 (.bool (s.bad || !ok)))
  cases hb : s.bad <;> cases ok <;> rw [hb] at c1 H2 HG
  all_goals
    clear h
    go_enter Try.func152, Try.ntmps152
    go_wp2
    go_end0
    exact ⟨rfl, H2.out, HG.out⟩
set_option maxHeartbeats 2000000 in
theorem cut_any {g : Nat} {s : RS} {W : World} (h : Rb g s W) (n : Int) (hz : s.b.size ≤ 9223372036854775807) (x : ByteArray) (t : RS) (hx : cutF n s = (x, t)) : Calls Try.prog 164 #[.pointer (some ⟨g, 0, none⟩), .int .i64 n] W fun e w' => e = .returned (.string x) ∧ Gd g W t w' := by
  obtain ⟨ok, hok⟩ : ∃ ok, (decide (0 ≤ n) && decide (n ≤ (s.b.size : Int))) = ok := ⟨_, rfl⟩
  have hcb : cutB n s = (s.bad || !ok) := by unfold cutB; rw [hok]
  have HCK := Sd.mk (check_any h ok ⟨s.b, s.bad || !ok⟩ rfl)
  have c0 := blk_at h 0 _ rfl
  cases hb : cutB n s with
  | true =>
    rw [cut_no hb] at hx
    obtain ⟨rfl, rfl⟩ := Prod.mk.inj hx
    rw [← hcb, hb] at HCK
    clear hx hb hcb h
    by_cases h0 : 0 ≤ n
    · have d0 : decide (0 ≤ n) = true := decide_eq_true h0
      have d1 : decide (n ≤ (s.b.size : Int)) = ok := by rw [← hok, d0]; rfl
      clear hok
      go_enter Try.func164, Try.ntmps164
      go_wp2_with (first
        | (go_at_call 152; (with_reducible refine HCK.out.mono ?_); rintro e w1 ⟨rfl, hg⟩; have c1 := blk_at hg.rb 1 _ rfl; have HG := Sd.mk hg; clear hg))
      go_ret
      exact ⟨rfl, HG.out⟩
    · have d0 : decide (0 ≤ n) = false := decide_eq_false h0
      obtain rfl : ok = false := by rw [← hok, d0]; rfl
      clear hok h0
      go_enter Try.func164, Try.ntmps164
      go_wp2_with (first
        | (go_at_call 152; (with_reducible refine HCK.out.mono ?_); rintro e w1 ⟨rfl, hg⟩; have c1 := blk_at hg.rb 1 _ rfl; have HG := Sd.mk hg; clear hg))
      go_ret
      exact ⟨rfl, HG.out⟩
  | false =>
    obtain ⟨hb1, h0, h1⟩ := cutB_false hb
    rw [cut_yes hb] at hx
    obtain ⟨rfl, rfl⟩ := Prod.mk.inj hx
    rw [← hcb, hb] at HCK
    obtain rfl : ok = true := by rw [hb, hb1] at hcb; cases ok <;> simp at hcb ⊢
    obtain ⟨k, rfl⟩ : ∃ k : Nat, n = (k : Int) := ⟨n.toNat, by omega⟩
    have hks : k ≤ s.b.size := by omega
    rw [Int.toNat_natCast]
    have d0 : decide (0 ≤ (k : Int)) = true := decide_eq_true h0
    have d1 : decide ((k : Int) ≤ (s.b.size : Int)) = true := decide_eq_true h1
    have d2 : decide (k ≤ s.b.size) = true := decide_eq_true hks
    clear hx hb hcb hb1 hok h
    go_enter Try.func164, Try.ntmps164
    go_wp2_with (first
      | (go_at_call 152; (with_reducible refine HCK.out.mono ?_); rintro e w1 ⟨rfl, hg⟩; have c1 := blk_at hg.rb 1 _ rfl; have c2 := blk_at hg.rb 0 _ rfl; have f0 := blk_frz hg.rb 0; have HG := Sd.mk (hg.then (⟨(blk_set3 hg.rb 0 (.string (s.b.extract k s.b.size))).trans rfl, grown_set _ _ _ _⟩ : Gd g w1 ⟨s.b.extract k s.b.size, false⟩ (w1.setCell ⟨g, 0, none⟩ (.string (s.b.extract k s.b.size))))); clear hg))
    go_ret
    exact ⟨rfl, HG.out⟩
theorem below_bytes {B : Nat} {w W : World} (h : Below B w W) (hB : B ≤ W.heap.size) (e : TypeId) (s : ByteArray) : Below B w (Lib.bytesWorld W e s) :=
  h.trans ⟨rfl, rfl, rfl, by rw [Lib.bytesWorld_size]; omega, fun i hi => Lib.bytesWorld_at_old W e s i (by omega)⟩
theorem wraps_i64 (n : Int) (h₀ : 0 ≤ n) (h₁ : n < 2 ^ 62) : IntKind.i64.wrap n = n := by rw [IntKind.wrap_i64]; omega
theorem i64_or8 {x y : Int} (hx₀ : 0 ≤ x) (hx : x % 256 = 0) (hx₁ : x < 4611686018427387904) (h₀ : 0 ≤ y) (h₁ : y < 256) : bits .or .i64 x y = x + y :=
  bits_join .i64 62 (by decide) wraps_i64 8 x y hx₀ hx hx₁ h₀ h₁ (by omega)
def bd (i : Nat) : Int := if i = 0 then 1 else if i = 1 then 256 else if i = 2 then 65536 else if i = 3 then 16777216 else 4294967296
theorem bd_next {i : Nat} (hi : i < 4) {n c : Int} (h0 : 0 ≤ n) (h : n < bd i) (c0 : 0 ≤ c) (c1 : c < 256) : n < 16777216 ∧ n * 256 + c < bd (i + 1) := by
  unfold bd at h ⊢
  (repeat' split at h) <;> (repeat' split) <;> omega
theorem cut4_size (s : RS) : (cutF 4 s).1.size ≤ 4 := by
  cases hb : cutB 4 s with
  | true => rw [cut_no hb]; exact Nat.zero_le _
  | false => rw [cut_yes hb]; show (s.b.extract 0 4).size ≤ 4; rw [ByteArray.size_extract]; omega
set_option maxHeartbeats 8000000 in
set_option maxRecDepth 100000 in
theorem number_any {g : Nat} {s : RS} {W : World} (h : Rb g s W) (lo hi : Int) (hz : s.b.size ≤ 9223372036854775807) (x : Int) (t : RS) (hx : numF lo hi s = (x, t)) :
    Calls Try.prog 150 #[.pointer (some ⟨g, 0, none⟩), .int .i64 lo, .int .i64 hi] W fun e w' => e = .returned (.int .i64 x) ∧ Gd g W t w' := by
  obtain ⟨u, s1, hu⟩ : ∃ u s1, cutF 4 s = (u, s1) := ⟨_, _, rfl⟩
  have HCT := Sd.mk (cut_any h 4 hz u s1 hu)
  have hu4 : u.size ≤ 4 := by have := cut4_size s; rwa [hu] at this
  have HV := Sd.mk (show valF s = beVal u.data.toList by unfold valF; rw [hu])
  have HX := Sd.mk (show (if (s1.bad || !(decide (lo ≤ valF s) && decide (valF s ≤ hi))) = true then ((0 : Int), (⟨s1.b, true⟩ : RS)) else (valF s, ⟨s1.b, false⟩)) = (x, t) by
    rw [← hx]; unfold numF numB; rw [hu])
  obtain ⟨m, hm⟩ : ∃ m, u.size = m := ⟨_, rfl⟩
  rw [hm] at hu4
  have HM := Sd.mk (show u.data.toList.length = m by rw [list_len]; exact hm)
  have HUZ := Sd.mk hm
  have kb := fun W => Lib.run_convert_string_bytes (P := Try.prog) W 9 141 5 u Try.underlying9 Try.underlying141 Try.underlying5
  clear h hx hu hz
  go_enter Try.func150, Try.ntmps150
  go_wp2_with (first
    | (go_at_call 164; (with_reducible refine HCT.out.mono ?_); rintro e w1 ⟨rfl, hg⟩; have HG := Sd.mk hg; clear hg))
  clear kb HCT
  have HB := Sd.mk (HG.out.bel (below_bytes (Below.refl w1.heap.size w1) (Nat.le_refl _) 5 u))
  have HC := Sd.mk (fun j (hj : j < m) => Lib.bytesWorld_cell w1 5 u j (by rw [HUZ.out]; exact hj))
  clear HG
  generalize Lib.bytesWorld w1 5 u = w2 at HB HC ⊢
  generalize hk1 : w1.heap.size = k1 at HC ⊢
  clear hk1
  go_loopg [7, 9, 14] m (fun gk v7 v9 v14 wr => ∃ (i : Nat) (n : Int), i + gk = m ∧ v14 = .int .i64 i ∧ v7 = .int .i64 n ∧ Sd (n = beVal (u.data.toList.take i)) ∧ 0 ≤ n ∧ n < bd i ∧ Sd (wr = w2))
  case atStart => exact ⟨0, 0, by omega, rfl, rfl, ⟨rfl⟩, by omega, by decide, ⟨rfl⟩⟩
  case round =>
    obtain ⟨i, n, hi', rfl, rfl, HN, h0, hb, HE⟩ := hrel
    obtain rfl := HE.out.symm
    by_cases hlt : i < m
    · have hlm : i < u.data.toList.length := by rw [HM.out]; exact hlt
      have hc := HC.out i hlt
      have HQ := Sd.mk (show n * 256 + ((u.data.toList.getD i 0).toNat : Int) = beVal (u.data.toList.take (i + 1)) from by
        rw [List.take_succ_eq_append_getElem hlm, beVal_snoc, HN.out, List.getD_eq_getElem?_getD, List.getElem?_eq_getElem hlm]; rfl)
      generalize u.data.toList.getD i 0 = c0 at hc HQ
      have hc1 := c0.toNat_lt
      obtain ⟨c, hcc⟩ : ∃ c : Nat, c0.toNat = c := ⟨_, rfl⟩
      rw [hcc] at hc HQ hc1
      have hn := bd_next (show i < 4 by omega) h0 hb (c := (c : Int)) (by omega) (by omega)
      obtain ⟨hn1, hn2⟩ := hn
      have hor := i64_or8 (x := n * 256) (y := (c : Int)) (by omega) (by omega) (by omega) (by omega) (by omega)
      have hii : (i : Int) < (m : Int) := by omega
      clear hcc hlm
      go_wp2
      go_roundg (gk - 1)
      case measure => omega
      case rel => exact ⟨i + 1, n * 256 + (c : Int), by omega, by go_num, rfl, HQ, by omega, hn2, ⟨rfl⟩⟩
    · obtain rfl : i = m := by omega
      have HE2 := Sd.mk (show n = valF s by rw [HV.out, HN.out, List.take_of_length_le (by rw [HM.out]; exact Nat.le_refl _)])
      have hii : decide ((i : Int) < (i : Int)) = false := decide_eq_false (by omega)
      have hn4 : n < 4294967296 := by unfold bd at hb; split at hb <;> (try split at hb) <;> (try split at hb) <;> (try split at hb) <;> omega
      obtain ⟨ok, hok⟩ : ∃ ok, (decide (lo ≤ n) && decide (n ≤ hi)) = ok := ⟨_, rfl⟩
      have HX2 := Sd.mk (show (if (s1.bad || !ok) = true then ((0 : Int), (⟨s1.b, true⟩ : RS)) else (n, ⟨s1.b, false⟩)) = (x, t) by rw [← hok, HE2.out]; exact HX.out)
      have HCK := Sd.mk (check_any HB.out.rb ok ⟨s1.b, s1.bad || !ok⟩ rfl)
      clear HX HE HN
      cases hbb : (s1.bad || !ok) with
      | true =>
        rw [hbb] at HX2 HCK
        obtain ⟨rfl, rfl⟩ := Prod.mk.inj (show ((0 : Int), (⟨s1.b, true⟩ : RS)) = (x, t) from HX2.out)
        clear hbb
        by_cases h1 : lo ≤ n
        · have d0 : decide (lo ≤ n) = true := decide_eq_true h1
          have d1 : decide (n ≤ hi) = ok := by rw [← hok, d0]; rfl
          clear hok
          go_wp2_with (first
            | (go_at_call 152; (with_reducible refine HCK.out.mono ?_); rintro e w3 ⟨rfl, hg⟩; have c1 := blk_at hg.rb 1 _ rfl; have HG := Sd.mk (HB.out.then hg); clear hg))
          go_ret
          exact ⟨rfl, HG.out⟩
        · have d0 : decide (lo ≤ n) = false := decide_eq_false h1
          obtain rfl : ok = false := by rw [← hok, d0]; rfl
          clear hok h1
          go_wp2_with (first
            | (go_at_call 152; (with_reducible refine HCK.out.mono ?_); rintro e w3 ⟨rfl, hg⟩; have c1 := blk_at hg.rb 1 _ rfl; have HG := Sd.mk (HB.out.then hg); clear hg))
          go_ret
          exact ⟨rfl, HG.out⟩
      | false =>
        rw [hbb] at HX2 HCK
        obtain ⟨rfl, rfl⟩ := Prod.mk.inj (show (n, (⟨s1.b, false⟩ : RS)) = (x, t) from HX2.out)
        obtain rfl : ok = true := by cases ok <;> simp at hbb ⊢
        simp only [Bool.and_eq_true, decide_eq_true_eq] at hok
        have d0 : decide (lo ≤ n) = true := decide_eq_true hok.1
        have d1 : decide (n ≤ hi) = true := decide_eq_true hok.2
        clear hbb hok
        go_wp2_with (first
          | (go_at_call 152; (with_reducible refine HCK.out.mono ?_); rintro e w3 ⟨rfl, hg⟩; have c1 := blk_at hg.rb 1 _ rfl; have HG := Sd.mk (HB.out.then hg); clear hg))
        go_ret
        exact ⟨rfl, HG.out⟩
end Go.Proofs.Ytnomgkmeomlccaa.Rp
set_option linter.unusedVariables false
set_option linter.unusedSimpArgs false

namespace Go.Proofs.Ytnomgkmeomlccaa.Rp
open Go.RowKit Rd Api Own Mv App Num

def fT (t : ByteArray) : List Value := [.string t]
theorem fT_one : ∀ x : ByteArray, ∀ u ∈ fT x, u.oneCell' = true := fun _ _ hu => by simp [fT] at hu; subst hu; rfl
theorem info_str : ((Try.prog).info? 9).map (fun i => (i.zero, i.size, i.bytes)) = some (some (.string ByteArray.empty), 1, 16) := by kernel_rfl
/-- amid a signature's reading -/
structure Sw (W0 : World) (g : Nat) (s : RS) (node : Int) (A : Option Addr) (i c : Nat) (tags : List ByteArray) (Bs Br : Nat) (W : World) : Prop where
  gd : Gd g W0 s W
  bs : W.heap[Bs]? = some (.cells #[.int .i64 node, .slice A i c] 51 (0, 0))
  br : W.heap[Br]? = some (.cells #[.int .i64 0, .slice none 0 0] 51 (0, 0))
  own : OwnR fT 1 W 0 9 (.slice A i c) tags
  fr : ∀ k, (Value.slice A i c).ownBlock = some k → W0.heap.size ≤ k
  lt : g < W0.heap.size
  ge : W0.heap.size ≤ Bs ∧ W0.heap.size ≤ Br ∧ Bs ≠ Br
section
variable {W0 : World} {g : Nat} {s t : RS} {node : Int} {A : Option Addr} {i c : Nat} {tags : List ByteArray} {Bs Br : Nat} {W W1 : World}
theorem Sw.below (h : Sw W0 g s node A i c tags Bs Br W) (hb : Below W.heap.size W W1) : Sw W0 g s node A i c tags Bs Br W1 := ⟨h.gd.bel hb, blk_keep h.bs hb, blk_keep h.br hb, h.own.below hb, h.fr, h.lt, h.ge⟩
theorem Sw.call (h : Sw W0 g s node A i c tags Bs Br W) (k : Gd g W t W1) : Sw W0 g t node A i c tags Bs Br W1 :=
  ⟨h.gd.then k, blk_grown h.bs k.gr (fun e => by have := h.lt; have := h.ge.1; have := Option.some.inj e; omega), blk_grown h.br k.gr (fun e => by have := h.lt; have := h.ge.2.1; have := Option.some.inj e; omega), OwnR.grown h.own k.gr (.inr (OwnR.blk h.own h.gd.rb (by decide))), h.fr, h.lt, h.ge⟩
/-- one more tag -/
theorem Sw.push (h : Sw W0 g s node A i c tags Bs Br W) {N : Nat} (hN : W0.heap.size ≤ N) {x : ByteArray} {A6 : Option Addr} {j q6 : Nat} (hown : OwnR fT 1 W1 0 9 (.slice A6 j q6) (tags ++ [x])) (hg : W.grownBy W1 (Value.slice A i c).ownBlock) (hob : (Value.slice A6 j q6).ownBlock = (Value.slice A i c).ownBlock ∨ (Value.slice A6 j q6).ownBlock = some N) :
    Sw W0 g s node A6 j q6 (tags ++ [x]) Bs Br (W1.setCell ⟨Bs, 1, none⟩ (.slice A6 j q6)) := by
  have r6 := blk_grown h.bs hg (OwnR.blk h.own h.bs (by decide))
  have b6 := blk_grown h.br hg (OwnR.blk h.own h.br (by decide))
  have g6 : Rb g s W1 := blk_grown h.gd.rb hg (OwnR.blk h.own h.gd.rb (by decide))
  have hsz := h.gd.gr.size
  have hne : g ≠ Bs := by have := h.lt; have := h.ge.1; omega
  refine ⟨⟨(heap_set _ _ _ _ _ hne).trans g6, ?_⟩, (blk_set3 r6 1 _).trans rfl, (heap_set _ _ _ _ _ (Ne.symm h.ge.2.2)).trans b6, OwnR.grown hown (row := some Bs) (grown_set _ _ _ _) (.inr (OwnR.blk hown r6 (by decide))), fun k hk => ?_, h.lt, h.ge⟩
  · have h1 := h.gd.gr
    refine ⟨hg.os.trans h1.os, hg.tape.trans h1.tape, hg.output.trans h1.output, ?_, fun k hk hr => ?_⟩
    · have := hg.size; simp only [World.setCell, Array.size_modify]; omega
    · rw [heap_set _ _ _ _ _ (by have := h.ge.1; omega), hg.block k (by omega) (fun e => by have := h.fr k e.symm; omega)]
      exact h1.block k hk hr
  · rcases hob with e | e
    · exact h.fr k (e ▸ hk)
    · rw [hk] at e; have := Option.some.inj e; omega
theorem sw_start {W2 : World} {x : Int} (h : Rb g s W0) (hg : Gd g (W0.alloc (.cells #[.int .i64 0, .slice none 0 0] 51)) t W2) : Sw W0 g t x none 0 0 [] W2.heap.size W0.heap.size (W2.alloc (.cells #[.int .i64 x, .slice none 0 0] 51)) := by
  have hlt := blk_lt' h
  have b1 := below_one W0 (.cells #[.int .i64 0, .slice none 0 0] 51)
  have b2 := below_one W2 (.cells #[.int .i64 x, .slice none 0 0] 51)
  have hs := hg.gr.size
  simp only [World.size_alloc] at hs
  have r2 : W2.heap[W0.heap.size]? = some (.cells #[.int .i64 0, .slice none 0 0] 51 (0, 0)) := blk_grown (blk_new W0 _) hg.gr (fun e => by have := Option.some.inj e; omega)
  exact ⟨⟨hg.rb.below b2, grown_then (grown_below b1 _) (grown_then hg.gr (grown_below b2 _))⟩, blk_new _ _, blk_keep r2 b2, OwnR.nil _ _ _ _ _, fun k hk => by simp [Value.ownBlock] at hk, hlt, by omega, Nat.le_refl _, by omega⟩
end
set_option maxHeartbeats 8000000 in
set_option maxRecDepth 100000 in
theorem sig_any {g : Nat} {s : RS} {W : World} (h : Rb g s W) (hz : s.b.size ≤ 9223372036854775807) (x : Sg.Sig) (t : RS) (hx : sigF s = (x, t)) :
    Calls Try.prog 165 #[.pointer (some ⟨g, 0, none⟩)] W fun e w' => ∃ A c, e = .returned (.agg #[.int .i64 x.node, .slice A x.tags.length c]) ∧ OwnR fT 1 w' 0 9 (.slice A x.tags.length c) x.tags ∧ (∀ k, (Value.slice A x.tags.length c).ownBlock = some k → W.heap.size ≤ k) ∧ Gd g W t w' := by
  obtain ⟨a, s1, ha⟩ : ∃ a s1, numF 0 6 s = (a, s1) := ⟨_, _, rfl⟩
  obtain ⟨b, s2, hb⟩ : ∃ b s2, numF 0 7 s1 = (b, s2) := ⟨_, _, rfl⟩
  have hz1 : s1.b.size ≤ 9223372036854775807 := by have := num_le 0 6 s; rw [ha] at this; simp only at this; omega
  have hz2 : s2.b.size ≤ 9223372036854775807 := by have := num_le 0 7 s1; rw [hb] at this; simp only at this; omega
  have hb7 : 0 ≤ b ∧ b ≤ 7 := by have := num_in 0 7 s1 (.inr trivial); rw [hb] at this; simp only at this; omega
  obtain ⟨m, rfl⟩ : ∃ m : Nat, b = (m : Int) := ⟨b.toNat, by omega⟩
  have HX := Sd.mk (show (⟨a, (tagsF s2 m).1⟩, (tagsF s2 m).2) = (x, t) by rw [← hx]; unfold sigF; rw [ha]; simp only; rw [hb]; simp only [Int.toNat_natCast])
  have hm7 : m ≤ 7 := by omega
  have HZ2 := Sd.mk (fun k => Nat.le_trans (tags_le s2 k).1 hz2)
  have HH := Sd.mk h
  have HN1 := Sd.mk (number_any (h.below (below_one W (.cells #[.int .i64 0, .slice none 0 0] 51))) 0 6 hz a s1 ha)
  have HN2 := Sd.mk (fun W1 (h1 : Rb g s1 W1) => number_any h1 0 7 hz1 (m : Int) s2 hb)
  clear h hz hx ha hb hz1 hz2 hb7
  go_enter Try.func165, Try.ntmps165
  go_upto_region 2 with (first
    | (go_at_call 150; (with_reducible refine HN1.out.mono ?_); rintro e w1 ⟨rfl, hg⟩; have HL := Sd.mk (sw_start (x := a) HH.out hg); clear hg))
  clear HN1 HH
  generalize w1.heap.size = Bs at HL ⊢
  generalize hBr : W.heap.size = Br at HL ⊢
  generalize w1.alloc _ = W1 at HL ⊢
  go_upto_region 3 with (first
    | (go_at_call 150; (with_reducible refine (HN2.out _ HL.out.gd.rb).mono ?_); rintro e w2 ⟨rfl, hg⟩; have HL2 := Sd.mk (HL.out.call hg); clear hg))
  clear HN2 HL
  go_loopg [9] m (fun gk v9 wr => ∃ i A c, i + gk = m ∧ v9 = .int .i64 (i : Nat) ∧ Sd (Sw W g (tagsF s2 i).2 a A i c (tagsF s2 i).1 Bs Br wr))
  case atStart => exact ⟨0, none, 0, by omega, rfl, HL2⟩
  case round =>
    clear HL2
    obtain ⟨i, A, c, hi, rfl, HL⟩ := hrel
    by_cases hlt : i < m
    · have hii : (i : Int) < m := by omega
      obtain ⟨y, s3, hy⟩ : ∃ y s3, cutF 16 (tagsF s2 i).2 = (y, s3) := ⟨_, _, rfl⟩
      have HT := Sd.mk (show tagsF s2 (i + 1) = ((tagsF s2 i).1 ++ [y], s3) by simp only [tagsF, hy])
      have HD := Sd.mk (HL.out.below (below_drew' (Below.refl _ _)))
      have HCT := Sd.mk (cut_any HD.out.gd.rb 16 (HZ2.out i) y s3 hy)
      have HLN := Sd.mk (tags_len s2 i)
      have b1 := blk_at HD.out.bs 1 _ rfl
      clear hy HL
      go_wp2
      refine Peel.region_peel (n := 7) (S := fun W1 => W1.cell? ⟨Bs, 1, none⟩ = some (.slice A i c)) (by kernel_rfl) (by kernel_rfl) b1 (fun hHeld => ?_)
      simp only [List.take_succ_cons, List.take_zero]
      (refine Peel.take 0 (v := ?_) rfl rfl (by kernel_rfl) (by kernel_rfl) (by kernel_rfl) (fun _ _ _ h => h) (by assumption) ?_ ?_; rotate_left; (focus (intro w hSw; (try dsimp only at hSw); (try simp only [List.getElem_toArray, List.getElem_cons_succ, List.getElem_cons_zero]); go_simp; try (with_reducible rfl))); try simp only [List.getElem_toArray, List.getElem_cons_succ, List.getElem_cons_zero, Act.put, List.setIfInBounds_toArray, List.set_cons_zero, List.set_cons_succ])
      (refine Peel.take 1 (v := ?_) rfl rfl (by kernel_rfl) (by kernel_rfl) (by kernel_rfl) (fun _ _ _ h => h) (by assumption) ?_ ?_; rotate_left; (focus (intro w hSw; (try dsimp only at hSw); (try simp only [List.getElem_toArray, List.getElem_cons_succ, List.getElem_cons_zero]); go_simp; try (with_reducible rfl))); try simp only [List.getElem_toArray, List.getElem_cons_succ, List.getElem_cons_zero, Act.put, List.setIfInBounds_toArray, List.set_cons_zero, List.set_cons_succ])
      (refine Peel.take 2 (v := ?_) rfl rfl (by kernel_rfl) (by kernel_rfl) (by kernel_rfl) (fun _ _ _ h => h) (by assumption) ?_ ?_; rotate_left; (focus (intro w hSw; (try dsimp only at hSw); (try simp only [List.getElem_toArray, List.getElem_cons_succ, List.getElem_cons_zero]); go_simp; try (with_reducible rfl))); try simp only [List.getElem_toArray, List.getElem_cons_succ, List.getElem_cons_zero, Act.put, List.setIfInBounds_toArray, List.set_cons_zero, List.set_cons_succ])
      (refine wpAnyH_ready (rs := [3]) (by kernel_rfl) (by simp) ?_; refine AllReadyH.cons rfl (fun K hK => ?_) AllReadyH.nil)
      go_simp
      go_at_call 164
      with_reducible refine HCT.out.mono ?_
      rintro e w2 ⟨rfl, hg⟩
      have HL2 := Sd.mk (HD.out.call hg)
      have y1 := blk_at HL2.out.bs 1 _ rfl
      have ya : (w2.alloc (.cells #[.string y] 9)).cell? ⟨Bs, 1, none⟩ = some (.slice A i c) := cell_below (below_one w2 _) y1
      clear hg
      (refine hK.out _ _ y1 (fun hHeld => ?_); (clear hK K; try simp only [List.getElem_toArray, List.getElem_cons_succ, List.getElem_cons_zero, Act.put, List.setIfInBounds_toArray, List.set_cons_zero, List.set_cons_succ]))
      (refine wpAnyH_ready (rs := [4]) (by kernel_rfl) (by simp) ?_; refine AllReadyH.cons rfl (fun K hK => ?_) AllReadyH.nil)
      go_simp
      (refine hK.out _ _ ya (fun hHeld => ?_); (clear hK K; try simp only [List.getElem_toArray, List.getElem_cons_succ, List.getElem_cons_zero, Act.put, List.setIfInBounds_toArray, List.set_cons_zero, List.set_cons_succ]))
      (refine wpAnyH_ready (rs := [5]) (by kernel_rfl) (by simp) ?_; refine AllReadyH.cons rfl (fun K hK => ?_) AllReadyH.nil)
      (refine step_append_at (f := fT) (n := 1) (fun _ => rfl) fT_one rfl (.tmp 12) (.tmp 15) 49 9 (.string ByteArray.empty) 16 rfl Try.underlying49 info_str rfl (by decide) (.slice A i c) (tagsF s2 i).1 y rfl rfl HL2.out.own (by rw [HLN.out]; omega) (by rw [HLN.out]; omega) ?_; intro v6 w6 hown hgrow hob; obtain ⟨A6, q6, rfl⟩ := OwnR.slice hown; have hl6 : ((tagsF s2 i).1 ++ [y]).length = i + 1 := (by rw [List.length_append, HLN.out]; rfl); rw [hl6] at hown hob ⊢; have r6 := blk_grown HL2.out.bs hgrow (OwnR.blk HL2.out.own HL2.out.bs (by decide)); have c6 := blk_at r6 1 _ rfl; have f6 := blk_frz r6 1; have HL6 := Sd.mk (HL2.out.push (by have := HL2.out.gd.gr.size; omega) hown hgrow hob); clear hown hgrow hob hl6)
      (refine hK.out _ _ c6 (fun hHeld => ?_); (clear hK K; try simp only [List.getElem_toArray, List.getElem_cons_succ, List.getElem_cons_zero, Act.put, List.setIfInBounds_toArray, List.set_cons_zero, List.set_cons_succ]))
      (refine Peel.take 6 (v := ?_) rfl rfl (by kernel_rfl) (by kernel_rfl) (by kernel_rfl) (fun _ _ _ h => h) (by assumption) ?_ ?_; rotate_left; (focus (intro w hSw; (try dsimp only at hSw); (try simp only [List.getElem_toArray, List.getElem_cons_succ, List.getElem_cons_zero]); go_simp; try (with_reducible rfl))); try simp only [List.getElem_toArray, List.getElem_cons_succ, List.getElem_cons_zero, Act.put, List.setIfInBounds_toArray, List.set_cons_zero, List.set_cons_succ])
      (refine wpAnyH_done (by kernel_rfl) ?_ _; simp only [Peel.Qn, List.drop_succ_cons, List.drop_zero]; clear hHeld)
      go_wp2
      have HL7 := Sd.mk (show Sw W g (tagsF s2 (i + 1)).2 a A6 (i + 1) q6 (tagsF s2 (i + 1)).1 Bs Br _ from by rw [HT.out]; exact HL6.out)
      clear c6 f6 r6 HL6 HD b1
      generalize w6.setCell _ _ = W7 at HL7 ⊢
      go_roundg (gk - 1)
      case measure => omega
      case rel => exact ⟨i + 1, A6, q6, by omega, by go_num, HL7⟩
    · have hii : decide (i < m) = false := decide_eq_false (by omega)
      have hii2 : decide ((i : Int) < m) = false := decide_eq_false (by omega)
      obtain rfl : i = m := by omega
      obtain ⟨rfl, rfl⟩ := Prod.mk.inj HX.out
      have HLN := Sd.mk (tags_len s2 i)
      have q0 := blk_at HL.out.bs 0 _ rfl
      have q1 := blk_at HL.out.bs 1 _ rfl
      have r0 := blk_at HL.out.br 0 _ rfl
      have r1 := blk_at HL.out.br 1 _ rfl
      have f0 := blk_frz HL.out.br 0
      have f1 := blk_frz HL.out.br 1
      go_wp2
      have X8 : ((wr.setCell ⟨Br, 0, none⟩ (.int .i64 a)).setCell ⟨Br, 1, none⟩ (.slice A i c)).heap[Br]? = some (.cells #[.int .i64 a, .slice A i c] 51 (0, 0)) := (blk_set3 (blk_set3 HL.out.br 0 _) 1 _).trans rfl
      have y0 := blk_at X8 0 _ rfl
      have y1 := blk_at X8 1 _ rfl
      have HG := Sd.mk (show Gd g W (tagsF s2 i).2 ((wr.setCell ⟨Br, 0, none⟩ (.int .i64 a)).setCell ⟨Br, 1, none⟩ (.slice A i c)) from
        have hne : g ≠ Br := by have := HL.out.lt; have := HL.out.ge.2.1; omega
        ⟨(heap_set _ _ _ _ _ hne).trans ((heap_set _ _ _ _ _ hne).trans HL.out.gd.rb), by
          have h1 := HL.out.gd.gr
          have hB := HL.out.ge.2.1
          refine ⟨h1.os, h1.tape, h1.output, by have := h1.size; simpa [World.setCell] using this, fun k hk hr => ?_⟩
          rw [heap_set _ _ _ _ _ (by omega), heap_set _ _ _ _ _ (by omega)]
          exact h1.block k hk hr⟩)
      have HOW := Sd.mk (OwnR.grown (OwnR.grown HL.out.own (grown_set wr Br 0 (.int .i64 a)) (.inr (OwnR.blk HL.out.own HL.out.br (by decide)))) (grown_set _ Br 1 (.slice A i c)) (.inr (by have := OwnR.blk HL.out.own HL.out.br (by decide); exact this)))
      have HFR := Sd.mk (show ∀ k, (Value.slice A i c).ownBlock = some k → W.heap.size ≤ k from HL.out.fr)
      rw [hBr] at HFR
      clear q0 q1 r0 r1 f0 f1 X8 HL HX
      generalize (wr.setCell _ _).setCell _ _ = W9 at y0 y1 HG HOW ⊢
      rw [HLN.out]
      exact bodyPost_ret (v := .agg #[.int .i64 a, .slice A i c]) (by simp [results, Try.results165, go_sem, y0, y1]) rfl ⟨A, c, rfl, HOW.out, HFR.out, HG.out⟩
end Go.Proofs.Ytnomgkmeomlccaa.Rp
set_option linter.unusedVariables false
set_option linter.unusedSimpArgs false
namespace Go.Proofs.Ytnomgkmeomlccaa.Rp
open Go.RowKit Rd Api Own Mv App Num

/-- a signature, as it lies -/
structure Rg where
  f : Int
  a : Option Addr
  n : Nat
  c : Nat
def fG (s : Rg) : List Value := [.int .i64 s.f, .slice s.a s.n s.c]
theorem fG_one : ∀ x : Rg, ∀ u ∈ fG x, u.oneCell' = true := fun _ _ hu => by simp [fG] at hu; rcases hu with rfl | rfl <;> rfl
theorem info_sig : ((Try.prog).info? 51).map (fun i => (i.zero, i.size, i.bytes)) = some (some (.agg #[.int .i64 0, .slice none 0 0]), 2, 32) := by kernel_rfl
theorem own_type {α : Type} {f : α → List Value} {n : Nat} {W : World} {base : Nat} {e : TypeId} {v : Value} {xs : List α} (h : OwnR f n W base e v xs) : ∀ k, v.ownBlock = some k → ∃ cs, W.heap[k]? = some (.cells cs e (0, 0)) := by
  intro k hk
  rcases h.2 with ⟨rfl, _⟩ | ⟨g, cap, cur, rfl, _, hg, _⟩
  · simp [Value.ownBlock] at hk
  · simp [Value.ownBlock] at hk; subst hk; exact ⟨_, hg⟩
theorem own_apart {α β : Type} {f : α → List Value} {n : Nat} {f' : β → List Value} {n' : Nat} {W : World} {b b' : Nat} {e e' : TypeId} {v v' : Value} {xs : List α} {ys : List β} (h : OwnR f n W b e v xs) (k : OwnR f' n' W b' e' v' ys) (hne : e ≠ e') : v.ownBlock = none ∨ v.ownBlock ≠ v'.ownBlock := by
  cases hv : v'.ownBlock with
  | none =>
    cases hw : v.ownBlock with
    | none => exact .inl rfl
    | some j => exact .inr (by simp)
  | some j =>
    obtain ⟨cs, hj⟩ := own_type k j hv
    exact .inr (OwnR.blk h hj hne)
/-- a signature's own tags -/
structure Tg (W0 W : World) (r : Rg) (x : Sg.Sig) : Prop where
  f : r.f = x.node
  n : r.n = x.tags.length
  own : OwnR fT 1 W 0 9 (.slice r.a r.n r.c) x.tags
  fr : ∀ k, (Value.slice r.a r.n r.c).ownBlock = some k → W0.heap.size ≤ k
def Tgs (W0 W : World) (rs : List Rg) (xs : List Sg.Sig) : Prop := rs.length = xs.length ∧ ∀ (j : Nat) (r : Rg) (x : Sg.Sig), rs[j]? = some r → xs[j]? = some x → Tg W0 W r x
/-- what keeps rows of strings -/
theorem Tgs.grown {W0 W W1 : World} {rs : List Rg} {xs : List Sg.Sig} (h : Tgs W0 W rs xs) {row : Option Nat} (hg : W.grownBy W1 row) (hr : ∀ k, row = some k → ∃ cs t, W.heap[k]? = some (.cells cs t (0, 0)) ∧ 9 ≠ t) : Tgs W0 W1 rs xs :=
  ⟨h.1, fun j r x h1 h2 => by
    obtain ⟨a, b, c, d⟩ := h.2 j r x h1 h2
    refine ⟨a, b, OwnR.grown c hg ?_, d⟩
    cases row with
    | none =>
      cases hw : (Value.slice r.a r.n r.c).ownBlock with
      | none => exact .inl rfl
      | some j => exact .inr (by simp)
    | some k =>
      obtain ⟨cs, t, hk, ht⟩ := hr k rfl
      exact .inr (OwnR.blk c hk ht)⟩
theorem Tgs.below {W0 W W1 : World} {rs : List Rg} {xs : List Sg.Sig} (h : Tgs W0 W rs xs) (hb : Below W.heap.size W W1) : Tgs W0 W1 rs xs := h.grown (grown_below hb none) (fun k e => by cases e)
theorem Tgs.snoc {W0 W : World} {rs : List Rg} {xs : List Sg.Sig} (h : Tgs W0 W rs xs) {r : Rg} {x : Sg.Sig} (hx : Tg W0 W r x) : Tgs W0 W (rs ++ [r]) (xs ++ [x]) := by
  refine ⟨by simp [h.1], fun j r' x' h1 h2 => ?_⟩
  rw [List.getElem?_append] at h1 h2
  rw [← h.1] at h2
  split at h1
  · rename_i hlt
    rw [if_pos hlt] at h2
    exact h.2 j r' x' h1 h2
  · rename_i hlt
    rw [if_neg hlt] at h2
    cases hj : j - rs.length with
    | zero => rw [hj] at h1 h2; cases h1; cases h2; exact hx
    | succ k => rw [hj] at h1; simp at h1
/-- amid a certificate's reading -/
structure Cw (W0 : World) (g : Nat) (s : RS) (view : Int) (block : ByteArray) (A : Option Addr) (i c : Nat) (rs : List Rg) (xs : List Sg.Sig) (Bc Br : Nat) (W : World) : Prop where
  gd : Gd g W0 s W
  bc : W.heap[Bc]? = some (.cells #[.int .i64 view, .string block, .slice A i c] 39 (0, 0))
  br : W.heap[Br]? = some (.cells #[.int .i64 0, .string { data := #[] }, .slice none 0 0] 39 (0, 0))
  own : OwnR fG 2 W 0 51 (.slice A i c) rs
  tg : Tgs W0 W rs xs
  fr : ∀ k, (Value.slice A i c).ownBlock = some k → W0.heap.size ≤ k
  lt : g < W0.heap.size
  ge : W0.heap.size ≤ Bc ∧ W0.heap.size ≤ Br ∧ Bc ≠ Br
section
variable {W0 : World} {g : Nat} {s t : RS} {view : Int} {block : ByteArray} {A : Option Addr} {i c : Nat} {rs : List Rg} {xs : List Sg.Sig} {Bc Br : Nat} {W W1 : World}
theorem Cw.below (h : Cw W0 g s view block A i c rs xs Bc Br W) (hb : Below W.heap.size W W1) : Cw W0 g s view block A i c rs xs Bc Br W1 := ⟨h.gd.bel hb, blk_keep h.bc hb, blk_keep h.br hb, h.own.below hb, h.tg.below hb, h.fr, h.lt, h.ge⟩
theorem Cw.call (h : Cw W0 g s view block A i c rs xs Bc Br W) (k : Gd g W t W1) : Cw W0 g t view block A i c rs xs Bc Br W1 :=
  ⟨h.gd.then k, blk_grown h.bc k.gr (fun e => by have := h.lt; have := h.ge.1; have := Option.some.inj e; omega), blk_grown h.br k.gr (fun e => by have := h.lt; have := h.ge.2.1; have := Option.some.inj e; omega), OwnR.grown h.own k.gr (.inr (OwnR.blk h.own h.gd.rb (by decide))), h.tg.grown k.gr (fun j e => by obtain rfl := Option.some.inj e; exact ⟨_, _, h.gd.rb, by decide⟩), h.fr, h.lt, h.ge⟩
theorem Cw.push (h : Cw W0 g s view block A i c rs xs Bc Br W) {N : Nat} (hN : W0.heap.size ≤ N) {r : Rg} {x : Sg.Sig} (hx : Tg W0 W r x) {A6 : Option Addr} {j q6 : Nat} (hown : OwnR fG 2 W1 0 51 (.slice A6 j q6) (rs ++ [r])) (hg : W.grownBy W1 (Value.slice A i c).ownBlock) (hob : (Value.slice A6 j q6).ownBlock = (Value.slice A i c).ownBlock ∨ (Value.slice A6 j q6).ownBlock = some N) :
    Cw W0 g s view block A6 j q6 (rs ++ [r]) (xs ++ [x]) Bc Br (W1.setCell ⟨Bc, 2, none⟩ (.slice A6 j q6)) := by
  have r6 := blk_grown h.bc hg (OwnR.blk h.own h.bc (by decide))
  have b6 := blk_grown h.br hg (OwnR.blk h.own h.br (by decide))
  have g6 : Rb g s W1 := blk_grown h.gd.rb hg (OwnR.blk h.own h.gd.rb (by decide))
  have hsz := h.gd.gr.size
  have hne : g ≠ Bc := by have := h.lt; have := h.ge.1; omega
  have t6 : Tgs W0 W1 (rs ++ [r]) (xs ++ [x]) := (h.tg.snoc hx).grown hg (fun k e => by
    obtain ⟨cs, hk⟩ := own_type h.own k e
    exact ⟨cs, _, hk, by decide⟩)
  refine ⟨⟨(heap_set _ _ _ _ _ hne).trans g6, ?_⟩, (blk_set3 r6 2 _).trans rfl, (heap_set _ _ _ _ _ (Ne.symm h.ge.2.2)).trans b6, OwnR.grown hown (row := some Bc) (grown_set _ _ _ _) (.inr (OwnR.blk hown r6 (by decide))), t6.grown (grown_set _ _ _ _) (fun k e => by obtain rfl := Option.some.inj e; exact ⟨_, _, r6, by decide⟩), fun k hk => ?_, h.lt, h.ge⟩
  · have h1 := h.gd.gr
    refine ⟨hg.os.trans h1.os, hg.tape.trans h1.tape, hg.output.trans h1.output, ?_, fun k hk hr => ?_⟩
    · have := hg.size; simp only [World.setCell, Array.size_modify]; omega
    · rw [heap_set _ _ _ _ _ (by have := h.ge.1; omega), hg.block k (by omega) (fun e => by have := h.fr k e.symm; omega)]
      exact h1.block k hk hr
  · rcases hob with e | e
    · exact h.fr k (e ▸ hk)
    · rw [hk] at e; have := Option.some.inj e; omega
theorem cw_start {W2 : World} (h : Rb g s W0) (hg : Gd g (W0.alloc (.cells #[.int .i64 0, .string { data := #[] }, .slice none 0 0] 39)) t W2) (v : Int) (b : ByteArray) : Cw W0 g t v b none 0 0 [] [] W2.heap.size W0.heap.size (W2.alloc (.cells #[.int .i64 v, .string b, .slice none 0 0] 39)) := by
  have hlt := blk_lt' h
  have b1 := below_one W0 (.cells #[.int .i64 0, .string { data := #[] }, .slice none 0 0] 39)
  have b2 := below_one W2 (.cells #[.int .i64 v, .string b, .slice none 0 0] 39)
  have hs := hg.gr.size
  simp only [World.size_alloc] at hs
  have r2 : W2.heap[W0.heap.size]? = some (.cells #[.int .i64 0, .string { data := #[] }, .slice none 0 0] 39 (0, 0)) := blk_grown (blk_new W0 _) hg.gr (fun e => by have := Option.some.inj e; omega)
  exact ⟨⟨hg.rb.below b2, grown_then (grown_below b1 _) (grown_then hg.gr (grown_below b2 _))⟩, blk_new _ _, blk_keep r2 b2, OwnR.nil _ _ _ _ _, ⟨rfl, fun j r x h1 _ => by simp at h1⟩, fun k hk => by simp [Value.ownBlock] at hk, hlt, by omega, Nat.le_refl _, by omega⟩
end
/-- the result's cells written -/
def fin3 (Br : Nat) (W : World) (a b c : Value) : World := ((W.setCell ⟨Br, 0, none⟩ a).setCell ⟨Br, 1, none⟩ b).setCell ⟨Br, 2, none⟩ c
theorem fin3_cells {Br : Nat} {W : World} {x y z : Value} (h : W.heap[Br]? = some (.cells #[x, y, z] 39 (0, 0))) (a b c : Value) : (fin3 Br W a b c).cell? ⟨Br, 0, none⟩ = some a ∧ (fin3 Br W a b c).cell? ⟨Br, 1, none⟩ = some b ∧ (fin3 Br W a b c).cell? ⟨Br, 2, none⟩ = some c := by
  have X8 : (fin3 Br W a b c).heap[Br]? = some (.cells #[a, b, c] 39 (0, 0)) := (blk_set3 (blk_set3 (blk_set3 h 0 _) 1 _) 2 _).trans rfl
  exact ⟨blk_at X8 0 _ rfl, blk_at X8 1 _ rfl, blk_at X8 2 _ rfl⟩
theorem fin3_grown (Br : Nat) (W : World) (a b c : Value) : W.grownBy (fin3 Br W a b c) (some Br) := grown_then (grown_set W Br 0 a) (grown_then (grown_set _ Br 1 b) (grown_set _ Br 2 c))
theorem grown_new {W0 W W1 : World} {g Br : Nat} (h : W0.grownBy W (some g)) (k : W.grownBy W1 (some Br)) (hb : W0.heap.size ≤ Br) : W0.grownBy W1 (some g) :=
  ⟨k.os.trans h.os, k.tape.trans h.tape, k.output.trans h.output, Nat.le_trans h.size k.size, fun i hi hr => (k.block i (Nat.lt_of_lt_of_le hi h.size) (fun e => by have := Option.some.inj e; omega)).trans (h.block i hi hr)⟩
/-- a certificate as it was read -/
structure Cr (W0 : World) (A : Option Addr) (n c : Nat) (xs : List Sg.Sig) (W : World) : Prop where
  ex : ∃ rs, OwnR fG 2 W 0 51 (.slice A n c) rs ∧ Tgs W0 W rs xs
  fr : ∀ k, (Value.slice A n c).ownBlock = some k → W0.heap.size ≤ k
set_option maxHeartbeats 8000000 in
set_option maxRecDepth 100000 in
theorem cert_any {g : Nat} {s : RS} {W : World} (h : Rb g s W) (hz : s.b.size ≤ 9223372036854775807) (x : Cert) (t : RS) (hx : certF s = (x, t)) :
    Calls Try.prog 151 #[.pointer (some ⟨g, 0, none⟩)] W fun e w' => ∃ A c, e = .returned (.agg #[.int .i64 x.view, .string x.block, .slice A x.sigs.length c]) ∧ Cr W A x.sigs.length c x.sigs w' ∧ Gd g W t w' := by
  obtain ⟨v, s1, hv⟩ : ∃ v s1, numF 0 1000000 s = (v, s1) := ⟨_, _, rfl⟩
  obtain ⟨b, s2, hb⟩ : ∃ b s2, cutF 32 s1 = (b, s2) := ⟨_, _, rfl⟩
  obtain ⟨m', s3, hm⟩ : ∃ m s3, numF 0 7 s2 = (m, s3) := ⟨_, _, rfl⟩
  have hz1 : s1.b.size ≤ 9223372036854775807 := by have := num_le 0 1000000 s; rw [hv] at this; simp only at this; omega
  have hz2 : s2.b.size ≤ 9223372036854775807 := by have := (cut_le 32 s1).1; rw [hb] at this; simp only at this; omega
  have hz3 : s3.b.size ≤ 9223372036854775807 := by have := num_le 0 7 s2; rw [hm] at this; simp only at this; omega
  have hm7 : 0 ≤ m' ∧ m' ≤ 7 := by have := num_in 0 7 s2 (.inr trivial); rw [hm] at this; simp only at this; omega
  obtain ⟨m, rfl⟩ : ∃ m : Nat, m' = (m : Int) := ⟨m'.toNat, by omega⟩
  have HX := Sd.mk (show (⟨v, b, (sigsF s3 m).1⟩, (sigsF s3 m).2.2) = (x, t) by rw [← hx]; unfold certF; rw [hv]; simp only; rw [hb]; simp only; rw [hm]; simp only [Int.toNat_natCast])
  have hm7' : m ≤ 7 := by omega
  have HZ3 := Sd.mk (fun k => Nat.le_trans (sigs_le s3 k).1 hz3)
  have HH := Sd.mk h
  have HN1 := Sd.mk (number_any (h.below (below_one W (.cells #[.int .i64 0, .string { data := #[] }, .slice none 0 0] 39))) 0 1000000 hz v s1 hv)
  have HN2 := Sd.mk (fun W1 (h1 : Rb g s1 W1) => cut_any h1 32 hz1 b s2 hb)
  have HN3 := Sd.mk (fun W1 (h1 : Rb g s2 W1) => number_any h1 0 7 hz2 (m : Int) s3 hm)
  clear h hz hx hv hb hm hz1 hz2 hz3 hm7
  go_enter Try.func151, Try.ntmps151
  go_upto_region 2 with (first
    | (go_at_call 150; (with_reducible refine HN1.out.mono ?_); rintro e w1 ⟨rfl, hg⟩; have HG1 := Sd.mk hg; clear hg)
    | (go_at_call 164; (with_reducible refine (HN2.out _ HG1.out.rb).mono ?_); rintro e w2 ⟨rfl, hg⟩; have HL := Sd.mk (cw_start HH.out (HG1.out.then hg) v b); clear hg))
  clear HN1 HN2 HH HG1
  generalize w2.heap.size = Bc at HL ⊢
  generalize hBr : W.heap.size = Br at HL ⊢
  generalize w2.alloc _ = W1 at HL ⊢
  go_upto_region 4 with (first
    | (go_at_call 150; (with_reducible refine (HN3.out _ HL.out.gd.rb).mono ?_); rintro e w3 ⟨rfl, hg⟩; have HL2 := Sd.mk (HL.out.call hg); clear hg))
  clear HN3 HL
  go_loopg [4, 5, 13] m (fun gk v4 v5 v13 wr => ∃ i A c rs, i + gk = m ∧ v4 = .int .i64 (sigsF s3 i).2.1 ∧ v13 = .int .i64 (i : Nat) ∧ Sd (rs.length = i) ∧ Sd (Cw W g (sigsF s3 i).2.2 v b A i c rs (sigsF s3 i).1 Bc Br wr))
  case atStart => exact ⟨0, none, 0, [], by omega, rfl, rfl, ⟨rfl⟩, HL2⟩
  case round =>
    clear HL2
    obtain ⟨i, A, c, rs, hi, rfl, rfl, HRS, HL⟩ := hrel
    by_cases hlt : i < m
    · have hii : (i : Int) < m := by omega
      obtain ⟨y, s4, hy⟩ : ∃ y s4, sigF (sigsF s3 i).2.2 = (y, s4) := ⟨_, _, rfl⟩
      obtain ⟨last, hla⟩ : ∃ last, (sigsF s3 i).2.1 = last := ⟨_, rfl⟩
      obtain ⟨ok, hok⟩ : ∃ ok, decide (last < y.node) = ok := ⟨_, rfl⟩
      have HT := Sd.mk (show sigsF s3 (i + 1) = ((sigsF s3 i).1 ++ [y], y.node, chk s4 ok) by simp only [sigsF, hy, hla, hok])
      have HST := Sd.mk (sig_any HL.out.gd.rb (HZ3.out i) y s4 hy)
      have HOK := Sd.mk hok
      rw [hla]
      clear hy hla
      go_upto_region 6 with (first
        | (go_at_call 165; (with_reducible refine HST.out.mono ?_); rintro e w4 ⟨A2, c2, rfl, ho, hf, hg⟩; have HL2 := Sd.mk (HL.out.call hg); have HTG := Sd.mk (⟨rfl, rfl, ho, fun k hk => Nat.le_trans HL.out.gd.gr.size (hf k hk)⟩ : Tg W w4 ⟨y.node, A2, y.tags.length, c2⟩ y); clear ho hf hg))
      have X0 := Sd.mk (blk_new w4 (.cells #[.int .i64 y.node, .slice A2 y.tags.length c2] 51))
      have hb4 := below_one w4 (.cells #[.int .i64 y.node, .slice A2 y.tags.length c2] 51)
      have HL3 := Sd.mk (HL2.out.below hb4)
      have HTG3 := Sd.mk (show Tg W (w4.alloc (.cells #[.int .i64 y.node, .slice A2 y.tags.length c2] 51)) ⟨y.node, A2, y.tags.length, c2⟩ y from ⟨rfl, rfl, HTG.out.own.below hb4, HTG.out.fr⟩)
      have HBV := Sd.mk (show g ≠ w4.heap.size by have := HL2.out.lt; have := HL2.out.gd.gr.size; omega)
      clear HL2 HTG HST hb4
      generalize w4.heap.size = Bv at X0 HBV ⊢
      generalize w4.alloc _ = W4 at X0 HL3 HTG3 ⊢
      have q0 := blk_at X0.out 0 _ rfl
      have HCK := Sd.mk (check_any HL3.out.gd.rb ok _ rfl)
      go_upto_region 7 with (first
        | (go_at_call 152; (with_reducible refine HCK.out.mono ?_); rintro e w5 ⟨rfl, hg⟩; have HL5 := Sd.mk (HL3.out.call hg); have X5 := Sd.mk (blk_grown X0.out hg.gr (fun e => HBV.out (Option.some.inj e))); have HTG5 := Sd.mk (⟨rfl, rfl, OwnR.grown HTG3.out.own hg.gr (.inr (OwnR.blk HTG3.out.own HL3.out.gd.rb (by decide))), HTG3.out.fr⟩ : Tg W w5 ⟨y.node, A2, y.tags.length, c2⟩ y); clear hg))
      clear q0 X0 HBV HCK HL3 HTG3
      have q0 := blk_at X5.out 0 _ rfl
      have q1 := blk_at X5.out 1 _ rfl
      have b2 := blk_at HL5.out.bc 2 _ rfl
      go_wp2_with (first
        | (at_builtin; refine append_at (f := fG) (n := 2) (fun _ => rfl) fG_one rfl (.tmp 26) (.tmp 28) 37 51 (.agg #[.int .i64 0, .slice none 0 0]) 32 rfl Try.underlying37 info_sig rfl (by decide) (.slice A i c) rs ⟨y.node, A2, y.tags.length, c2⟩ rfl rfl HL5.out.own (by rw [HRS.out]; omega) (by rw [HRS.out]; omega) ?_; intro v6 w6 hown hgrow hob; obtain ⟨A6, q6, rfl⟩ := OwnR.slice hown; have hl6 : (rs ++ [(⟨y.node, A2, y.tags.length, c2⟩ : Rg)]).length = i + 1 := (by rw [List.length_append, HRS.out]; rfl); rw [hl6] at hown hob ⊢; have HR6 := Sd.mk hl6; have r6 := blk_grown HL5.out.bc hgrow (OwnR.blk HL5.out.own HL5.out.bc (by decide)); have c6 := blk_at r6 2 _ rfl; have f6 := blk_frz r6 2; have HL6 := Sd.mk (HL5.out.push (by have := HL5.out.gd.gr.size; omega) HTG5.out hown hgrow hob); clear hown hgrow hob hl6))
      have HL7 := Sd.mk (show Cw W g (sigsF s3 (i + 1)).2.2 v b A6 (i + 1) q6 (rs ++ [(⟨y.node, A2, y.tags.length, c2⟩ : Rg)]) (sigsF s3 (i + 1)).1 Bc Br _ from by rw [HT.out]; exact HL6.out)
      have HLA := Sd.mk (show y.node = (sigsF s3 (i + 1)).2.1 by rw [HT.out])
      clear c6 f6 r6 HL6 q0 q1 b2 HL5 X5 HTG5
      generalize w6.setCell _ _ = W7 at HL7 ⊢
      go_roundg (gk - 1)
      case measure => omega
      case rel => exact ⟨i + 1, A6, q6, _, by omega, by rw [HLA.out], by go_num, HR6, HL7⟩
    · have hii : decide (i < m) = false := decide_eq_false (by omega)
      have hii2 : decide ((i : Int) < m) = false := decide_eq_false (by omega)
      obtain rfl : i = m := by omega
      obtain ⟨rfl, rfl⟩ := Prod.mk.inj HX.out
      have HLN := Sd.mk (show ((⟨v, b, (sigsF s3 i).1⟩ : Cert).sigs.length = i) from sigs_len s3 i)
      have q0 := blk_at HL.out.bc 0 _ rfl
      have q1 := blk_at HL.out.bc 1 _ rfl
      have q2 := blk_at HL.out.bc 2 _ rfl
      have r0 := blk_at HL.out.br 0 _ rfl
      have r1 := blk_at HL.out.br 1 _ rfl
      have r2 := blk_at HL.out.br 2 _ rfl
      have f0 := blk_frz HL.out.br 0
      have f1 := blk_frz HL.out.br 1
      have f2 := blk_frz HL.out.br 2
      go_wp2
      obtain ⟨y0, y1, y2⟩ := fin3_cells HL.out.br (.int .i64 v) (.string b) (.slice A i c)
      have hgr := fin3_grown Br wr (.int .i64 v) (.string b) (.slice A i c)
      have HG := Sd.mk (show Gd g W (sigsF s3 i).2.2 (fin3 Br wr (.int .i64 v) (.string b) (.slice A i c)) from
        ⟨blk_grown HL.out.gd.rb hgr (fun e => by have := HL.out.lt; have := HL.out.ge.2.1; have := Option.some.inj e; omega), grown_new HL.out.gd.gr hgr HL.out.ge.2.1⟩)
      have HCR := Sd.mk (show Cr W A i c (sigsF s3 i).1 (fin3 Br wr (.int .i64 v) (.string b) (.slice A i c)) from
        ⟨⟨rs, OwnR.grown HL.out.own hgr (.inr (OwnR.blk HL.out.own HL.out.br (by decide))), HL.out.tg.grown hgr (fun k e => by obtain rfl := Option.some.inj e; exact ⟨_, _, HL.out.br, by decide⟩)⟩, HL.out.fr⟩)
      clear q0 q1 q2 r0 r1 r2 f0 f1 f2 HL HX hgr
      rw [HLN.out]
      change bodyPost _ _ _ _ _ (fin3 Br wr (.int .i64 v) (.string b) (.slice A i c))
      generalize fin3 Br wr _ _ _ = W9 at y0 y1 y2 HG HCR ⊢
      exact bodyPost_ret (v := .agg #[.int .i64 v, .string b, .slice A i c]) (by simp [results, Try.results151, go_sem, y0, y1, y2]) rfl ⟨A, c, rfl, HCR.out, HG.out⟩
end Go.Proofs.Ytnomgkmeomlccaa.Rp
set_option linter.unusedVariables false
set_option linter.unusedSimpArgs false
namespace Go.Proofs.Ytnomgkmeomlccaa.Rp
open Go.RowKit Rd Api Own Mv App Num

/-- whether all was read, and well -/
def doneB (s : RS) : Bool := !s.bad && decide (s.b = ET)
theorem list_nil {b : ByteArray} : b.toList = [] ↔ b = ET := by
  rw [ByteArray.toList_eq]
  exact ⟨fun h => bytes_ext (by rw [h]; rfl), fun h => by rw [h]; rfl⟩
set_option maxHeartbeats 1000000 in
theorem done_any {g : Nat} {s : RS} {W : World} (h : Rb g s W) (r : Bool) (hr : doneB s = r) : Calls Try.prog 133 #[.pointer (some ⟨g, 0, none⟩)] W fun e w' => e = .returned (.bool r) ∧ w' = W := by
  subst hr
  have c0 := blk_at h 0 _ rfl
  have c1 := blk_at h 1 _ rfl
  clear h
  obtain ⟨b, bad⟩ := s
  simp only at c0 c1
  cases bad with
  | true =>
    go_enter Try.func133, Try.ntmps133
    go_wp2
    go_ret
    exact ⟨rfl, rfl⟩
  | false =>
    by_cases hb : b = ET
    · subst hb
      have e1 : ET.toList.isEmpty = true := by rw [ByteArray.toList_eq]; rfl
      have e2 : ET.toList = [] := by rw [ByteArray.toList_eq]; rfl
      go_enter Try.func133, Try.ntmps133
      go_wp2
      go_ret
      exact ⟨rfl, rfl⟩
    · have HD := Sd.mk (show doneB ⟨b, false⟩ = false by simp [doneB, hb])
      have e0 : b.toList ≠ [] := fun e => hb (list_nil.1 e)
      have e1 : b.toList.isEmpty = false := by cases hl : b.toList with
        | nil => exact absurd hl e0
        | cons x r => rfl
      have e2 : (b.toList == []) = false := by rw [beq_eq_false_iff_ne]; exact e0
      rw [HD.out]
      clear hb HD
      go_enter Try.func133, Try.ntmps133
      go_wp2
      go_ret
      exact ⟨rfl, rfl⟩
theorem Cr.below {W0 W W1 : World} {A : Option Addr} {n c : Nat} {xs : List Sg.Sig} (h : Cr W0 A n c xs W) (hb : Below W.heap.size W W1) : Cr W0 A n c xs W1 := by
  obtain ⟨⟨rs, h1, h2⟩, h3⟩ := h
  exact ⟨⟨rs, h1.below hb, h2.below hb⟩, h3⟩
theorem Cr.grown {W0 W W1 : World} {A : Option Addr} {n c : Nat} {xs : List Sg.Sig} (h : Cr W0 A n c xs W) {row : Option Nat} (hg : W.grownBy W1 row) {k : Nat} {cs : Array Value} {t : TypeId} (hr : row = some k) (hk : W.heap[k]? = some (.cells cs t (0, 0))) (h1 : 51 ≠ t) (h2 : 9 ≠ t) : Cr W0 A n c xs W1 := by
  obtain ⟨⟨rs, o, tg⟩, h3⟩ := h
  exact ⟨⟨rs, OwnR.grown o hg (.inr (by rw [hr]; exact OwnR.blk o hk h1)), tg.grown hg (fun j e => by rw [hr] at e; obtain rfl := Option.some.inj e; exact ⟨_, _, hk, h2⟩)⟩, h3⟩
/-- a signature without bounds, read -/
def sgK : Rk Sg.Sig := Rk.iso (Rk.pair (Own.num .i64) (Rk.pair (Rk.slice Rk.str) Rk.unit)) (fun x => (x.node, x.tags, ()))
theorem rg_row {W : World} {A : Option Addr} {n c : Nat} {rs : List Rg} (h : OwnR fG 2 W 0 51 (.slice A n c) rs) : n = rs.length ∧ n ≤ c ∧ c ≤ 9223372036854775807 ∧ ∀ (i : Nat) (r : Rg), rs[i]? = some r → ∃ g, A = some ⟨g, 0, none⟩ ∧ W.cell? ⟨g, i * 2, none⟩ = some (.int .i64 r.f) ∧ W.cell? ⟨g, i * 2 + 1, none⟩ = some (.slice r.a r.n r.c) := by
  rcases h.2 with ⟨h1, h0⟩ | ⟨g, cap, cur, h1, hb, hh, hle, hcap, hsz, hcur⟩
  · simp only [Value.slice.injEq] at h1
    exact ⟨by rw [h0]; exact h1.2.1, by omega, by omega, fun i r hr => by rw [List.eq_nil_of_length_eq_zero h0] at hr; simp at hr⟩
  · simp only [Value.slice.injEq] at h1
    refine ⟨h1.2.1, by omega, by unfold maxLen at hcap; omega, fun i r hr => ⟨g, h1.1, ?_, ?_⟩⟩
    · have hg := flat_get (f := fG) (n := 2) (fun _ => rfl) rs i r hr 0 _ rfl
      rw [← hcur, List.getElem?_take] at hg
      split at hg
      · exact blk_at hh _ _ (by simpa using hg)
      · cases hg
    · have hg := flat_get (f := fG) (n := 2) (fun _ => rfl) rs i r hr 1 _ rfl
      rw [← hcur, List.getElem?_take] at hg
      split at hg
      · exact blk_at hh _ _ (by simpa using hg)
      · cases hg
def strK0 : Rk ByteArray where
  sz := 1
  K := fun _ s cs => cs = [.string s]
  len := fun h => by rw [h]; rfl
  keep := fun _ h => h
/-- it is read as any other list of signatures -/
theorem Cr.reads {W0 W : World} {A : Option Addr} {n c : Nat} {xs : List Sg.Sig} (h : Cr W0 A n c xs W) (hn : n = xs.length) (hz : ∀ x ∈ xs, ∀ t ∈ x.tags, t.size ≤ 9223372036854775807) : Sl sgK W A c xs := by
  obtain ⟨⟨rs, o, tg⟩, h3⟩ := h
  obtain ⟨h1, h2, h4, hrow⟩ := rg_row o
  refine ⟨by omega, h4, fun i x hx => ?_⟩
  have hi := (List.getElem?_eq_some_iff.1 hx).1
  have hir : i < rs.length := by rw [tg.1]; exact hi
  have hr : rs[i]? = some rs[i] := List.getElem?_eq_getElem hir
  obtain ⟨g, rfl, c0, c1⟩ := hrow i _ hr
  obtain ⟨t0, t1, t2, t3⟩ := tg.2 i _ x hr hx
  generalize rs[i] = r at c0 c1 t0 t1 t2 t3
  obtain ⟨A2, c2, e2, s2⟩ := OwnR.reads (d := strK0) (f := fT) (n := 1) (fun _ _ => rfl) (fun _ => rfl) rfl t2
  simp only [Value.slice.injEq] at e2
  obtain ⟨e3, e4, e5⟩ := e2
  refine ⟨g, 0, [.int .i64 x.node, .slice r.a x.tags.length r.c], rfl, ⟨[.int .i64 x.node], [.slice r.a x.tags.length r.c], rfl, rfl, [.slice r.a x.tags.length r.c], [], rfl, ⟨r.a, r.c, rfl, ?_, ?_, ?_⟩, rfl⟩, fun j v hv => ?_⟩
  · rw [e5]; exact s2.le
  · rw [e5]; unfold maxLen; exact s2.cap
  · intro j t ht
    obtain ⟨b, o2, cs, hA, hK, hc⟩ := s2.row j t ht
    exact ⟨b, o2, cs, by rw [e3]; exact hA, ⟨hK, by unfold maxLen; exact hz x (List.mem_of_getElem? hx) t (List.mem_of_getElem? ht)⟩, hc⟩
  · show W.cell? ⟨g, 0 + i * 2 + j, none⟩ = some v
    rw [Nat.zero_add]
    match j, hv with
    | 0, hv => simp only [List.getElem?_cons_zero, Option.some.injEq] at hv; subst hv; rw [← t0]; exact c0
    | 1, hv => simp only [List.getElem?_cons_succ, List.getElem?_cons_zero, Option.some.injEq] at hv; subst hv; rw [← t1]; exact c1
    | j + 2, hv => simp at hv
theorem sg_at {W : World} {A : Option Addr} {c : Nat} {xs : List Sg.Sig} (h : Sl sgK W A c xs) {i : Nat} {x : Sg.Sig} (hx : xs[i]? = some x) : ∃ b o A' c', A = some ⟨b, o, none⟩ ∧ W.cell? ⟨b, o + i * 2, none⟩ = some (.int .i64 x.node) ∧ W.cell? ⟨b, o + i * 2 + 1, none⟩ = some (.slice A' x.tags.length c') ∧ Sl Rk.str W A' c' x.tags := by
  obtain ⟨b, o, cs, hA, ⟨c0, c1, rfl, rfl, c2, c3, rfl, h1, rfl⟩, hc⟩ := h.row i x hx
  obtain ⟨A', c', rfl, hs⟩ := sl_of h1
  exact ⟨b, o, A', c', hA, hc 0 _ rfl, hc 1 _ rfl, hs⟩
theorem sg_of {W : World} {A : Option Addr} {c : Nat} {xs : List Sg.Sig} (h : Sl Sg.sigK W A c xs) : Sl sgK W A c xs := by
  refine ⟨h.le, h.cap, fun i x hx => ?_⟩
  obtain ⟨b, o, cs, hA, ⟨c0, c1, rfl, ⟨h0, _⟩, h2⟩, hc⟩ := h.row i x hx
  exact ⟨b, o, _, hA, ⟨c0, c1, rfl, h0, h2⟩, hc⟩
set_option maxHeartbeats 4000000 in
set_option maxRecDepth 100000 in
theorem read_any (w : World) (b : ByteArray) (hz : b.size ≤ 9223372036854775807) (x : Cert) (t : RS) (hx : certF ⟨b, false⟩ = (x, t)) :
    Calls Try.prog 135 #[.string b] w fun e w' => Below w.heap.size w w' ∧ ((doneB t = false ∧ e = .returned (.tuple #[.agg #[.int .i64 0, .string { data := #[] }, .slice none 0 0], .int .i64 2])) ∨ (doneB t = true ∧ ∃ A c, e = .returned (.tuple #[.agg #[.int .i64 x.view, .string x.block, .slice A x.sigs.length c], .int .i64 0]) ∧ Sl sgK w' A c x.sigs)) := by
  have b0 := below_one w (.cells #[.int .i64 0, .string { data := #[] }, .slice none 0 0] 39)
  have HR := Sd.mk (show Rb (w.heap.size + 1) ⟨b, false⟩ ((w.alloc (.cells #[.int .i64 0, .string { data := #[] }, .slice none 0 0] 39)).alloc (.cells #[.string b, .bool false] 184)) from blk_new1 _ _ _)
  have HC := Sd.mk (cert_any HR.out hz x t hx)
  have HZ := Sd.mk (show ∀ y ∈ x.sigs, ∀ u ∈ y.tags, u.size ≤ 9223372036854775807 from fun y hy u hu => by
    have h1 := (cert_le ⟨b, false⟩).2.2.2 y (by rw [hx]; exact hy)
    have h2 := h1.2 u hu
    simp only at h2; omega)
  have HB := Sd.mk (below_then b0 (below_one (w.alloc (.cells #[.int .i64 0, .string { data := #[] }, .slice none 0 0] 39)) (.cells #[.string b, .bool false] 184)))
  have HX := Sd.mk (show ((w.alloc (.cells #[.int .i64 0, .string { data := #[] }, .slice none 0 0] 39)).alloc (.cells #[.string b, .bool false] 184)).heap[w.heap.size]? = some (.cells #[.int .i64 0, .string { data := #[] }, .slice none 0 0] 39 (0, 0)) from blk_keep (blk_new w _) (below_one _ _))
  have HSZ := Sd.mk (show ((w.alloc (.cells #[.int .i64 0, .string { data := #[] }, .slice none 0 0] 39)).alloc (.cells #[.string b, .bool false] 184)).heap.size = w.heap.size + 1 + 1 by simp)
  clear hx hz b0
  go_enter Try.func135, Try.ntmps135
  go_upto_region 2 with (fail)
  generalize hk1 : w.heap.size + 1 = g at HR HC HSZ ⊢
  generalize hk0 : w.heap.size = Br at HB HX ⊢
  generalize (w.alloc _).alloc _ = W1 at HR HC HB HX HSZ ⊢
  go_upto_region 3 with (first
    | (go_at_call 151; (with_reducible refine HC.out.mono ?_); rintro e w2 ⟨A, c, rfl, hcr, hg⟩; have hb3 := below_one w2 (.cells #[.int .i64 x.view, .string x.block, .slice A x.sigs.length c] 39); have HR2 := Sd.mk (hg.rb.below hb3); have HCR2 := Sd.mk (hcr.below hb3); have HX2 := Sd.mk (blk_keep (blk_grown HX.out hg.gr (fun e => by have := Option.some.inj e; omega)) hb3); have X5 := Sd.mk (blk_new w2 (.cells #[.int .i64 x.view, .string x.block, .slice A x.sigs.length c] 39)); have HB2 := Sd.mk (below_then' (B := Br) (below_grown HB.out hg.gr (by rw [HSZ.out]; omega) (fun k e => by have := Option.some.inj e; omega)) (by have := hg.gr.size; rw [HSZ.out] at this; omega) hb3); clear hcr hg hb3))
  generalize w2.heap.size = B5 at X5 ⊢
  generalize w2.alloc _ = W2 at HR2 HCR2 HX2 X5 HB2 ⊢
  clear HC HR HB HX
  have f0 := blk_frz HX2.out 0
  have f1 := blk_frz HX2.out 1
  have f2 := blk_frz HX2.out 2
  have r0 := blk_at HX2.out 0 _ rfl
  have r1 := blk_at HX2.out 1 _ rfl
  have r2 := blk_at HX2.out 2 _ rfl
  have p0 := blk_at X5.out 0 _ rfl
  have p1 := blk_at X5.out 1 _ rfl
  have p2 := blk_at X5.out 2 _ rfl
  cases hd : doneB t with
  | false =>
    have HDN := Sd.mk (done_any HR2.out false hd)
    have HDD := Sd.mk hd
    clear hd
    go_wp2_with (first
      | (go_at_call 133; (with_reducible refine HDN.out.mono ?_); rintro e w3 ⟨rfl, rfl⟩))
    obtain ⟨y0, y1, y2⟩ := fin3_cells HX2.out (.int .i64 0) (.string { data := #[] }) (.slice none 0 0)
    have HF := Sd.mk (below_grown HB2.out (fin3_grown Br w3 (.int .i64 0) (.string { data := #[] }) (.slice none 0 0)) (by have := HB2.out.size; have := blk_lt' HX2.out; omega) (fun k e => by obtain rfl := Option.some.inj e; exact Nat.le_refl _))
    clear r0 r1 r2 f0 f1 f2 p0 p1 p2
    change bodyPost _ _ _ _ _ (fin3 Br w3 (.int .i64 0) (.string { data := #[] }) (.slice none 0 0))
    generalize fin3 Br w3 _ _ _ = W9 at y0 y1 y2 HF ⊢
    exact bodyPost_ret (v := .tuple #[.agg #[.int .i64 0, .string { data := #[] }, .slice none 0 0], .int .i64 2]) (by simp [results, Try.results135, go_sem, y0, y1, y2]) rfl ⟨by have h := HF.out; rwa [← hk0] at h, .inl ⟨HDD.out, rfl⟩⟩
  | true =>
    have HDN := Sd.mk (done_any HR2.out true hd)
    have HDD := Sd.mk hd
    clear hd
    go_wp2_with (first
      | (go_at_call 133; (with_reducible refine HDN.out.mono ?_); rintro e w3 ⟨rfl, rfl⟩))
    obtain ⟨y0, y1, y2⟩ := fin3_cells HX2.out (.int .i64 x.view) (.string x.block) (.slice A x.sigs.length c)
    have hgr := fin3_grown Br w3 (.int .i64 x.view) (.string x.block) (.slice A x.sigs.length c)
    have HF := Sd.mk (below_grown HB2.out hgr (by have := HB2.out.size; have := blk_lt' HX2.out; omega) (fun k e => by obtain rfl := Option.some.inj e; exact Nat.le_refl _))
    have HCR3 := Sd.mk (HCR2.out.grown hgr rfl HX2.out (by decide) (by decide))
    clear r0 r1 r2 f0 f1 f2 p0 p1 p2 hgr
    change bodyPost _ _ _ _ _ (fin3 Br w3 (.int .i64 x.view) (.string x.block) (.slice A x.sigs.length c))
    generalize fin3 Br w3 _ _ _ = W9 at y0 y1 y2 HF HCR3 ⊢
    exact bodyPost_ret (v := .tuple #[.agg #[.int .i64 x.view, .string x.block, .slice A x.sigs.length c], .int .i64 0]) (by simp [results, Try.results135, go_sem, y0, y1, y2]) rfl ⟨by have h := HF.out; rwa [← hk0] at h, .inr ⟨HDD.out, A, c, rfl, HCR3.out.reads rfl HZ.out⟩⟩
end Go.Proofs.Ytnomgkmeomlccaa.Rp
set_option linter.unusedVariables false
set_option linter.unusedSimpArgs false
namespace Go.Proofs.Ytnomgkmeomlccaa.Rp
open Go.RowKit Go.Sort Rd Api Own Mv App Num

theorem catB_size (b : ByteArray) (l : List ByteArray) : b.size ≤ (catB b l).size := by
  rw [catB_ET]; rw [app_size]; omega
theorem catB_take {b : ByteArray} {l : List ByteArray} {i : Nat} {t : ByteArray} (h : l[i]? = some t) : catB b (l.take (i + 1)) = catB b (l.take i) ++ t := by
  rw [List.take_add_one, h]; exact catB_snoc _ _ _
theorem catB_pre (b : ByteArray) (l : List ByteArray) (i : Nat) : (catB b (l.take i)).size ≤ (catB b l).size := by
  have : catB b l = catB (catB b (l.take i)) (l.drop i) := by
    unfold catB; rw [← List.foldl_append, List.take_append_drop]
  rw [this]; exact catB_size _ _
theorem sigsB_size (b : ByteArray) (l : List Sg.Sig) : b.size ≤ (sigsB b l).size := by
  rw [sigsB_ET]; rw [app_size]; omega
theorem sigsB_take {b : ByteArray} {l : List Sg.Sig} {i : Nat} {t : Sg.Sig} (h : l[i]? = some t) : sigsB b (l.take (i + 1)) = sigsB b (l.take i) ++ sigB t := by
  rw [List.take_add_one, h]; exact sigsB_snoc _ _ _
theorem sigsB_pre (b : ByteArray) (l : List Sg.Sig) (i : Nat) : (sigsB b (l.take i)).size ≤ (sigsB b l).size := by
  have : sigsB b l = sigsB (sigsB b (l.take i)) (l.drop i) := by
    unfold sigsB; rw [← List.foldl_append, List.take_append_drop]
  rw [this]; exact sigsB_size _ _
theorem sigsB_in {b : ByteArray} {l : List Sg.Sig} {x : Sg.Sig} (h : x ∈ l) : (sigB x).size ≤ (sigsB b l).size := by
  obtain ⟨i, hi, rfl⟩ := List.getElem_of_mem h
  have h1 := sigsB_pre b l (i + 1)
  rw [sigsB_take (List.getElem?_eq_getElem hi), app_size] at h1
  omega
theorem num_eq (w : World) (n : Int) (t : ByteArray) (h : num4 n = t) : Calls Try.prog 97 #[.int .i64 n] w fun e w' => e = .returned (.string t) ∧ RowKit.Below w.heap.size w w' := by
  subst h; exact Num.number_any w n
set_option maxHeartbeats 8000000 in
set_option maxRecDepth 100000 in
theorem wsig_any (w : World) (x : Sg.Sig) (A : Option Addr) (c : Nat) (h : Sl Rk.str w A c x.tags) (n : Nat) (hn : n = x.tags.length) (t : ByteArray) (ht : sigB x = t) (hz : t.size ≤ 9223372036854775807) :
    Calls Try.prog 154 #[.agg #[.int .i64 x.node, .slice A n c]] w fun e w' => e = .returned (.string t) ∧ RowKit.Below w.heap.size w w' := by
  subst ht
  have mixed : Try.prog.follows .mixedOrders = true := by kernel_rfl
  have HB0 := Sd.mk (below_one w (.cells #[.int .i64 x.node, .slice A n c] 51))
  have X0 := blk_new w (.cells #[.int .i64 x.node, .slice A n c] 51)
  have hcat : ¬9223372036854775807 < (num4 x.node).size + (num4 (n : Int)).size := by rw [num4_size, num4_size]; omega
  have HUV := Sd.mk (show sigB x = catB (num4 x.node ++ num4 (n : Int)) x.tags by unfold sigB; rw [← hn])
  have HN := Sd.mk hn
  have HS := Sd.mk h
  have HZ := Sd.mk (show (catB (num4 x.node ++ num4 (n : Int)) x.tags).size ≤ 9223372036854775807 by rw [← HUV.out]; exact hz)
  have nc := Nat.le_trans h.le h.cap
  rw [← hn] at nc
  clear h hn hz
  go_enter Try.func154, Try.ntmps154
  go_upto_region 1 with (fail)
  generalize hBx : w.heap.size = Bx at X0 ⊢
  generalize w.alloc _ = W1 at HB0 X0 ⊢
  have c0 := fun d os => cell_regrown (blk_at X0 0 _ rfl) d os
  have c1 := fun d os => cell_regrown (blk_at X0 1 _ rfl) d os
  refine wp_region_quiet_below (by assumption) (by kernel_rfl) ?_
  repeat (quiet_step ((go_at_call 97; refine Calls.regrown_of (Num.number_any _ _))))
  refine wpQuiet_nil ?_
  rintro W9 ⟨⟨nq, osq⟩, rfl⟩
  have HB1 := Sd.mk (below_then HB0.out (below_regrown W1 nq osq))
  have X1 := Sd.mk (blk_keep X0 (below_regrown W1 nq osq))
  clear c0 c1 X0
  generalize grow _ _ = W9 at HB1 X1 ⊢
  have c0 := blk_at X1.out 0 _ rfl
  have c1 := blk_at X1.out 1 _ rfl
  have H0 := Sd.mk HB1.out
  go_wp2
  go_loopg [3, 5, 17] n (fun gk v3 v5 v17 wr => ∃ i, i + gk = n ∧ v3 = .string (catB (num4 x.node ++ num4 (n : Int)) (x.tags.take i)) ∧ v17 = .int .i64 (i : Nat) ∧ Sd (RowKit.Below w.heap.size w wr))
  case atStart => exact ⟨0, by omega, rfl, rfl, H0⟩
  case round =>
    clear H0 c0 c1 HB1 X1 HB0
    obtain ⟨i, hi, rfl, rfl, HB⟩ := hrel
    by_cases hlt : i < n
    · have hii : (i : Int) < n := by omega
      have hil : i < x.tags.length := by rw [← HN.out]; exact hlt
      obtain ⟨b1, o1, rfl, hc1, -⟩ := str_at HS.out.row hil
      obtain ⟨y, hy⟩ : ∃ y, x.tags[i] = y := ⟨_, rfl⟩
      rw [hy] at hc1
      have c1 := cell_below HB.out hc1
      have HY := Sd.mk (show x.tags[i]? = some y by rw [List.getElem?_eq_getElem hil, hy])
      have HT := Sd.mk (catB_take (b := num4 x.node ++ num4 (n : Int)) HY.out)
      have hpre := catB_pre (num4 x.node ++ num4 (n : Int)) x.tags (i + 1)
      rw [HT.out, app_size] at hpre
      obtain ⟨z, hz⟩ : ∃ z, catB (num4 x.node ++ num4 (n : Int)) (x.tags.take i) = z := ⟨_, rfl⟩
      rw [hz] at hpre HT
      rw [hz]
      have hc2 : ¬9223372036854775807 < z.size + y.size := by have := HZ.out; omega
      clear hc1 hy hil hz hpre hcat
      go_wp2
      go_roundg (gk - 1)
      case measure => omega
      case rel => exact ⟨i + 1, by omega, by rw [HT.out], by go_num, HB⟩
    · have hii : decide (i < n) = false := decide_eq_false (by omega)
      have HE := Sd.mk (show catB (num4 x.node ++ num4 (n : Int)) (x.tags.take i) = sigB x by rw [HUV.out, List.take_of_length_le (by rw [← HN.out]; omega)])
      rw [HE.out]
      go_wp2
      go_ret
      exact ⟨rfl, HB.out⟩
set_option maxHeartbeats 8000000 in
set_option maxRecDepth 100000 in
theorem wcert_any (w : World) (x : Cert) (A : Option Addr) (c : Nat) (h : Sl sgK w A c x.sigs) (n : Nat) (hn : n = x.sigs.length) (t : ByteArray) (ht : certB x = t) (hz : t.size ≤ 9223372036854775807) :
    Calls Try.prog 134 #[.agg #[.int .i64 x.view, .string x.block, .slice A n c]] w fun e w' => e = .returned (.string t) ∧ RowKit.Below w.heap.size w w' := by
  subst ht
  have mixed : Try.prog.follows .mixedOrders = true := by kernel_rfl
  have HB0 := Sd.mk (below_one w (.cells #[.int .i64 x.view, .string x.block, .slice A n c] 39))
  have X0 := blk_new w (.cells #[.int .i64 x.view, .string x.block, .slice A n c] 39)
  have HUV := Sd.mk (show certB x = sigsB (num4 x.view ++ x.block ++ num4 (n : Int)) x.sigs by unfold certB; rw [← hn])
  have HZ := Sd.mk (show (sigsB (num4 x.view ++ x.block ++ num4 (n : Int)) x.sigs).size ≤ 9223372036854775807 by rw [← HUV.out]; exact hz)
  have hz0 := sigsB_size (num4 x.view ++ x.block ++ num4 (n : Int)) x.sigs
  rw [app_size, app_size, num4_size, num4_size] at hz0
  have hcat : ¬9223372036854775807 < (num4 x.view).size + x.block.size := by rw [num4_size]; have := HZ.out; omega
  have hcat2 : ¬9223372036854775807 < (num4 x.view ++ x.block).size + (num4 (n : Int)).size := by rw [app_size, num4_size, num4_size]; have := HZ.out; omega
  have hcat3 : ¬9223372036854775807 < (num4 x.view).size + x.block.size + (num4 (n : Int)).size := by rw [num4_size, num4_size]; have := HZ.out; omega
  have HN := Sd.mk hn
  have HS := Sd.mk h
  have nc := Nat.le_trans h.le h.cap
  rw [← hn] at nc
  clear h hn hz hz0
  go_enter Try.func134, Try.ntmps134
  go_upto_region 1 with (fail)
  generalize hBx : w.heap.size = Bx at X0 ⊢
  generalize w.alloc _ = W1 at HB0 X0 ⊢
  have c0 := fun d os => cell_regrown (blk_at X0 0 _ rfl) d os
  have c1 := fun d os => cell_regrown (blk_at X0 1 _ rfl) d os
  have c2 := fun d os => cell_regrown (blk_at X0 2 _ rfl) d os
  refine wp_region_quiet_below (by assumption) (by kernel_rfl) ?_
  repeat (quiet_step ((go_at_call 97; refine Calls.regrown_of (Num.number_any _ _))))
  refine wpQuiet_nil ?_
  rintro W9 ⟨⟨nq, osq⟩, rfl⟩
  have HB1 := Sd.mk (below_then HB0.out (below_regrown W1 nq osq))
  have X1 := Sd.mk (blk_keep X0 (below_regrown W1 nq osq))
  clear c0 c1 c2 X0
  generalize grow _ _ = W9 at HB1 X1 ⊢
  have c0 := blk_at X1.out 0 _ rfl
  have c1 := blk_at X1.out 1 _ rfl
  have c2 := blk_at X1.out 2 _ rfl
  have H0 := Sd.mk HB1.out
  go_wp2
  go_loopg [3, 5, 20] n (fun gk v3 v5 v20 wr => ∃ i, i + gk = n ∧ v3 = .string (sigsB (num4 x.view ++ x.block ++ num4 (n : Int)) (x.sigs.take i)) ∧ v20 = .int .i64 (i : Nat) ∧ Sd (RowKit.Below w.heap.size w wr))
  case atStart => exact ⟨0, by omega, rfl, rfl, H0⟩
  case round =>
    clear H0 c0 c1 c2 HB1 X1 HB0 hcat hcat2 hcat3
    obtain ⟨i, hi, rfl, rfl, HB⟩ := hrel
    by_cases hlt : i < n
    · have hii : (i : Int) < n := by omega
      have hil : i < x.sigs.length := by rw [← HN.out]; exact hlt
      obtain ⟨y, hy⟩ : ∃ y, x.sigs[i]? = some y := ⟨_, List.getElem?_eq_getElem hil⟩
      obtain ⟨b1, o1, A2, c2, rfl, q0, q1, hs⟩ := sg_at HS.out hy
      have p0 := cell_below HB.out q0
      have p1 := cell_below HB.out q1
      have HT := Sd.mk (sigsB_take (b := num4 x.view ++ x.block ++ num4 (n : Int)) hy)
      have hpre := sigsB_pre (num4 x.view ++ x.block ++ num4 (n : Int)) x.sigs (i + 1)
      rw [HT.out, app_size] at hpre
      obtain ⟨z, hz⟩ : ∃ z, sigsB (num4 x.view ++ x.block ++ num4 (n : Int)) (x.sigs.take i) = z := ⟨_, rfl⟩
      obtain ⟨u, hu⟩ : ∃ u, sigB y = u := ⟨_, rfl⟩
      rw [hz, hu] at hpre HT
      rw [hz]
      have hc2 : ¬9223372036854775807 < z.size + u.size := by have := HZ.out; omega
      have HU := Sd.mk hu
      have HUZ := Sd.mk (show u.size ≤ 9223372036854775807 by have := HZ.out; omega)
      have HSS := Sd.mk (hs.below HB.out)
      clear hy hil hz hpre hu hs q0 q1
      go_upto_region 5 with (fail)
      have X0 := Sd.mk (blk_new wr (.cells #[.int .i64 y.node, .slice A2 y.tags.length c2] 51))
      have hb4 := below_one wr (.cells #[.int .i64 y.node, .slice A2 y.tags.length c2] 51)
      have HB4 := Sd.mk (below_then HB.out hb4)
      have HS4 := Sd.mk (HSS.out.below hb4)
      clear p0 p1 HB HSS hb4
      generalize wr.heap.size = Bv at X0 ⊢
      generalize wr.alloc _ = W4 at X0 HB4 HS4 ⊢
      have p0 := blk_at X0.out 0 _ rfl
      have p1 := blk_at X0.out 1 _ rfl
      go_wp2_with (first
        | (go_at_call 154; (with_reducible refine (wsig_any _ y A2 c2 HS4.out y.tags.length rfl u HU.out HUZ.out).mono ?_); rintro e w5 ⟨rfl, hb⟩; have HB5 := Sd.mk (below_then HB4.out hb); clear hb))
      go_roundg (gk - 1)
      case measure => omega
      case rel => exact ⟨i + 1, by omega, by rw [HT.out], by go_num, HB5⟩
    · have hii : decide (i < n) = false := decide_eq_false (by omega)
      have HE := Sd.mk (show sigsB (num4 x.view ++ x.block ++ num4 (n : Int)) (x.sigs.take i) = certB x by rw [HUV.out, List.take_of_length_le (by rw [← HN.out]; omega)])
      rw [HE.out]
      go_wp2
      go_ret
      exact ⟨rfl, HB.out⟩
end Go.Proofs.Ytnomgkmeomlccaa.Rp

/- forest.Orphans, Len, Missing; slices.Contains of strings; awake of layer 7: walked. A range over a function whose iterator turns cells of its own between the rounds. The way up from a block: plain; forest.up's iterator: walked. -/
import Derived.Test.YtnomgkmeomlccaaForN
import Derived.Test.YtnomgkmeomlccaaWtx
import Derived.RangeFuncBox
import Derived.RangeFuncLeaves
import Derived.RangeFuncWrites
import Derived.RangeFuncCalls
import Derived.WalkKit
import Derived.OwnWalkIn
import Derived.TacticsInMore
import Derived.LoopNIn
import Derived.LoopIn
import Derived.Test.YtnomgkmeomlccaaMv
import Derived.Stop.RegionWithIn
import Derived.Sort.LoopGhostIn
import Derived.Sort.CutIn
set_option linter.unusedVariables false
set_option linter.unusedSimpArgs false
namespace Go.Proofs.Ytnomgkmeomlccaa.Fst
open Go.RowKit Go.Sort Rd Api _root_.Go.Proofs.Ytnomgkmeomlccaa.Own Mv App Num Dig
open Blk (Block Rq rqN fR digB coreB)
open Kee (Bk fB bkK Wk wk_at)
open Wtx (fS info_str)

theorem fS_one : ∀ x : ByteArray, ∀ u ∈ fS x, u.oneCell' = true := fun _ _ hu => by simp [fS] at hu; subst hu; rfl
def strN : Rk ByteArray where
  sz := 1
  K := fun _ x cs => cs = fS x
  len := fun h => by rw [h]; rfl
  keep := fun _ h => h
/-- a row of strings of the call's own -/
structure So (w : World) (v : Value) (l : List ByteArray) (W : World) : Prop where
  own : OwnR fS 1 W w.heap.size 9 v l
  bel : RowKit.Below w.heap.size w W
theorem So.below {w W W1 : World} {v : Value} {l : List ByteArray} (h : So w v l W) (hb : RowKit.Below W.heap.size W W1) : So w v l W1 := ⟨h.own.below hb, below_then h.bel hb⟩
theorem own_str {W : World} {base : Nat} {v : Value} {l : List ByteArray} (h : OwnR fS 1 W base 9 v l) : ∃ A c, v = .slice A l.length c ∧ Sl strN W A c l := OwnR.reads (d := strN) (f := fS) (n := 1) (fun _ _ => rfl) (fun _ => rfl) rfl h
theorem so_nil (W : World) : So W (.slice none 0 0) [] W := ⟨OwnR.nil _ _ _ _ _, Below.refl _ _⟩
theorem strN_at {W : World} {A : Option Addr} {l : List ByteArray} (h : Row strN W A l) {i : Nat} {x : ByteArray} (hx : l[i]? = some x) : ∃ g o, A = some ⟨g, o, none⟩ ∧ W.cell? ⟨g, o + i, none⟩ = some (.string x) := by
  obtain ⟨g, o, cs, hA, rfl, hc⟩ := h i x hx
  have := hc 0 _ rfl
  rw [show o + i * strN.sz + 0 = o + i by show o + i * 1 + 0 = o + i; omega] at this
  exact ⟨g, o, hA, this⟩
/-- the orphans' row -/
theorem fw_row {w0 W : World} {g : Nat} {f : Fo} (h : Fw w0 g f W) : ∃ m A c rs, W.heap[g]? = some (.cells #[.string f.root, .int .i64 f.height, .map (some m), .slice A f.orph.length c] 117 (0, 0)) ∧ Sl bkK W A c rs ∧ All2 (Bw w0) rs f.orph := by
  obtain ⟨m, ov, prs, rs, h1, h2, h3, h4, h5, h6, h7⟩ := h.ex
  obtain ⟨A, c, rfl, hs⟩ := Kee.own_bk h5
  rw [h7.len] at h1
  exact ⟨m, A, c, rs, h1, hs, h7⟩
-- <L1
set_option maxHeartbeats 4000000 in
set_option maxRecDepth 100000 in
theorem orphans_any {w0 W : World} {g : Nat} {f : Fo} (hf : Fw w0 g f W) (h8 : f.orph.length ≤ 1000) (n : Nat) (hn : f.orph.length = n) :
    Calls Try.prog 37 #[.pointer (some ⟨g, 0, none⟩)] W fun e w' => ∃ A c, e = .returned (.slice A n c) ∧ So W (.slice A n c) (f.orph.map digB) w' := by
  obtain ⟨m, A, c, rs, hg, hs, ha⟩ := fw_row hf
  rw [hn] at hg
  have c3 := blk_at hg 3 _ rfl
  have HN := Sd.mk hn
  have HF := Sd.mk hf
  have HS := Sd.mk hs
  have HA := Sd.mk ha
  have nc := Nat.le_trans hs.le hs.cap
  rw [ha.len, hn] at nc
  rw [hn] at h8
  clear hf hg hs ha hn
  go_enter Try.func37, Try.ntmps37
  go_wp2
  go_loopg [3, 11] n (fun gk v3 v11 wr => ∃ i, i + gk = n ∧ v11 = .int .i64 (i : Nat) ∧ Sd (So W v3 ((f.orph.take i).map digB) wr))
  case atStart => exact ⟨0, by omega, rfl, ⟨so_nil W⟩⟩
  case round =>
    clear c3
    obtain ⟨i, hi, rfl, HO⟩ := hrel
    by_cases hlt : i < n
    · have hii : (i : Int) < n := by omega
      obtain ⟨x, hx⟩ : ∃ x, f.orph[i]? = some x := ⟨f.orph[i]'(by rw [HN.out]; exact hlt), List.getElem?_eq_getElem _⟩
      obtain ⟨r, hr⟩ : ∃ r, rs[i]? = some r := ⟨rs[i]'(by rw [HA.out.len, HN.out]; exact hlt), List.getElem?_eq_getElem _⟩
      have HW := Sd.mk (HA.out.get hr hx)
      obtain ⟨b1, o1, rfl, p0, p1, p2, p3, p4, p5⟩ := wk_at HS.out.row hr HW.out.wk
      have p0 := cell_below HO.out.bel p0
      have p1 := cell_below HO.out.bel p1
      have p2 := cell_below HO.out.bel p2
      have p3 := cell_below HO.out.bel p3
      have p4 := cell_below HO.out.bel p4
      have p5 := cell_below HO.out.bel p5
      obtain ⟨d, hd⟩ : ∃ d, digB x = d := ⟨_, rfl⟩
      have HDG := Sd.mk (fun W1 (hb : RowKit.Below W.heap.size W W1) => Blk.dig_any W1 x r.sa r.sn r.sc r.a x.batch.length r.c (HW.out.wk.sl.below (below_then HF.out.bel hb)) rfl d hd (by have := HW.out.sz; omega))
      have HTK := Sd.mk (show (f.orph.take (i + 1)).map digB = (f.orph.take i).map digB ++ [d] by rw [List.take_add_one, hx, List.map_append, ← hd]; rfl)
      have HTL := Sd.mk (show ((f.orph.take i).map digB).length = i by rw [List.length_map, List.length_take, HN.out]; omega)
      obtain ⟨out, hout⟩ : ∃ out, (f.orph.take i).map digB = out := ⟨_, rfl⟩
      rw [hout] at HTK HTL HO
      obtain ⟨A3, c3, rfl⟩ := OwnR.slice HO.out.own
      rw [HTL.out] at HO ⊢
      clear hx hr hd hout
      have b1' := below_one wr (.cells #[.int .i64 x.view, .int .i64 x.prop, .int .i64 x.just.view, .string x.just.block, .slice r.sa r.sn r.sc, .slice r.a x.batch.length r.c] 42)
      have HO1 := Sd.mk (HO.out.below b1')
      have E1 := Sd.mk (blk_new wr (.cells #[.int .i64 x.view, .int .i64 x.prop, .int .i64 x.just.view, .string x.just.block, .slice r.sa r.sn r.sc, .slice r.a x.batch.length r.c] 42))
      clear b1'
      go_upto_region 5 with (fail)
      clear p0 p1 p2 p3 p4 p5 HO
      generalize wr.heap.size = g5 at E1 ⊢
      generalize wr.alloc _ = W5 at E1 HO1 ⊢
      have q0 := blk_at E1.out 0 _ rfl
      have q1 := blk_at E1.out 1 _ rfl
      have q2 := blk_at E1.out 2 _ rfl
      have q3 := blk_at E1.out 3 _ rfl
      have q4 := blk_at E1.out 4 _ rfl
      have q5 := blk_at E1.out 5 _ rfl
      go_wp2_with (first
        | (go_at_call 26; (with_reducible refine (HDG.out _ HO1.out.bel).mono ?_); rintro e w6 ⟨rfl, hb⟩; have HO6 := Sd.mk (HO1.out.below hb); clear hb)
        | (at_builtin; refine append_one (f := fS) (n := 1) (fun _ => rfl) fS_one W.heap.size rfl (.tmp 15) (.tmp 18) 49 9 (.string ByteArray.empty) 16 rfl Try.underlying49 info_str rfl (by decide) (.slice A3 i c3) out d rfl rfl HO6.out.own HO6.out.bel HO6.out.bel.size (by rw [HTL.out]; omega) (by rw [HTL.out]; omega) ?_; intro v9 w9 hown hbel hgr; have HO9 := Sd.mk (So.mk hown hbel); clear hown hbel hgr))
      go_roundg (gk - 1)
      case measure => omega
      case rel => exact ⟨i + 1, by omega, by go_num, ⟨by rw [HTK.out]; exact HO9.out⟩⟩
    · have hii : decide (i < n) = false := decide_eq_false (by omega)
      have hii2 : decide ((i : Int) < (n : Int)) = false := decide_eq_false (by omega)
      have HO2 := Sd.mk (show So W u3 (f.orph.map digB) wr by have h := HO.out; rwa [List.take_of_length_le (by rw [HN.out]; omega)] at h)
      obtain ⟨A3, c3, rfl⟩ := OwnR.slice HO2.out.own
      have HTL := Sd.mk (show (f.orph.map digB).length = n by rw [List.length_map]; exact HN.out)
      rw [HTL.out] at HO2 ⊢
      go_wp2
      go_ret
      exact ⟨_, _, rfl, HO2.out⟩
set_option maxHeartbeats 1000000 in
theorem len_any {w0 W : World} {g : Nat} {f : Fo} (hf : Fw w0 g f W) (n : Nat) (hn : f.nodes.length = n) :
    Calls Try.prog 38 #[.pointer (some ⟨g, 0, none⟩)] W fun e w' => e = .returned (.int .i64 n) ∧ w' = W := by
  obtain ⟨m, ov, prs, rs, h1, -⟩ := hf.ex
  obtain ⟨es, ck, hm, hes⟩ := len_nodes hf h1 W (Below.refl _ _)
  rw [hn] at hes
  have hlen : ∀ ty, (Builtin.len_ #[115] ty #[.map (some m)]).run Try.prog W = .ok (goInt es.size) W := (fun ty => run_len_map W 115 ty m es ck (by rw [Try.underlying115]; kernel_rfl) hm)
  rw [hes] at hlen
  have c2 := blk_at h1 2 _ rfl
  clear hf hm hes h1 hn
  go_enter Try.func38, Try.ntmps38
  go_wp2
  go_ret
  exact ⟨rfl, rfl⟩
/-- is it among these? -/
def amg (l : List ByteArray) (s : ByteArray) : Bool := l.any (fun y => decide (s = y))
theorem amg_yes {l : List ByteArray} {s : ByteArray} {i : Nat} (h : l[i]? = some s) : amg l s = true := by
  unfold amg
  rw [List.any_eq_true]
  exact ⟨s, List.mem_of_getElem? h, decide_eq_true rfl⟩
theorem amg_no {l : List ByteArray} {s : ByteArray} (h : ∀ (j : Nat) (y : ByteArray), l[j]? = some y → s ≠ y) : amg l s = false := by
  unfold amg
  rw [List.any_eq_false]
  intro y hy
  obtain ⟨j, hj⟩ := List.getElem?_of_mem hy
  simpa using h j y hj
set_option maxHeartbeats 4000000 in
set_option maxRecDepth 100000 in
theorem sindex_any (w : World) (A : Option Addr) (c : Nat) (l : List ByteArray) (h : Sl strN w A c l) (n : Nat) (hn : n = l.length) (s : ByteArray) :
    Calls Try.prog 118 #[.slice A n c, .string s] w fun e w' => (∃ q : Int, e = .returned (.int .i64 q) ∧ decide (0 ≤ q) = amg l s) ∧ w' = w := by
  have HS := Sd.mk h
  have HN := Sd.mk hn
  have nc := Nat.le_trans h.le h.cap
  rw [← hn] at nc
  clear h hn
  go_enter Try.func118, Try.ntmps118
  go_wp2
  go_loopg [8] n (fun gk v8 wr => ∃ i, i + gk = n ∧ v8 = .int .i64 (i : Nat) ∧ Sd (∀ (j : Nat) (y : ByteArray), j < i → l[j]? = some y → s ≠ y) ∧ wr = w)
  case atStart => exact ⟨0, by omega, rfl, ⟨fun j y hj => by omega⟩, rfl⟩
  case round =>
    obtain ⟨i, hi, rfl, HD, rfl⟩ := hrel
    by_cases hlt : i < n
    · have hii : (i : Int) < n := by omega
      obtain ⟨y, hy⟩ : ∃ y, l[i]? = some y := ⟨l[i]'(by rw [← HN.out]; exact hlt), List.getElem?_eq_getElem _⟩
      obtain ⟨g1, o1, rfl, p0⟩ := strN_at HS.out.row hy
      rcases Decidable.em (s = y) with e | e
      · have he : (s.toList == y.toList) = true := by rw [Rp.str_beq]; exact decide_eq_true e
        have HE := Sd.mk (show decide ((0 : Int) ≤ (i : Int)) = amg l s by rw [amg_yes (e ▸ hy)]; exact decide_eq_true (by omega))
        clear e hy
        go_wp2
        go_ret
        exact ⟨⟨_, rfl, HE.out⟩, rfl⟩
      · have he : (s.toList == y.toList) = false := by rw [Rp.str_beq]; exact decide_eq_false e
        have HD2 := Sd.mk (show ∀ (j : Nat) (z : ByteArray), j < i + 1 → l[j]? = some z → s ≠ z from fun j z hj hz => by
          rcases Nat.lt_or_ge j i with e2 | e2
          · exact HD.out j z e2 hz
          · rw [show j = i by omega, hy] at hz
            cases Option.some.inj hz
            exact e)
        clear e hy
        go_wp2
        go_roundg (gk - 1)
        case measure => omega
        case rel => exact ⟨i + 1, by omega, by go_num, HD2, rfl⟩
    · have hii : decide (i < n) = false := decide_eq_false (by omega)
      have hii2 : decide ((i : Int) < (n : Int)) = false := decide_eq_false (by omega)
      have HE := Sd.mk (show decide ((0 : Int) ≤ -1) = amg l s by rw [amg_no (fun j y hj => HD.out j y (by have := (List.getElem?_eq_some_iff.1 hj).1; rw [← HN.out] at this; omega) hj)]; rfl)
      go_wp2
      go_ret
      exact ⟨⟨_, rfl, HE.out⟩, rfl⟩
set_option maxHeartbeats 1000000 in
theorem scontains_any (w : World) (A : Option Addr) (c : Nat) (l : List ByteArray) (h : Sl strN w A c l) (n : Nat) (hn : n = l.length) (s : ByteArray) (r : Bool) (hr : amg l s = r) :
    Calls Try.prog 77 #[.slice A n c, .string s] w fun e w' => e = .returned (.bool r) ∧ w' = w := by
  have HI := Sd.mk (sindex_any w A c l h n hn s)
  rw [hr] at HI
  clear h hn hr
  go_enter Try.func77, Try.ntmps77
  go_wp2_with (first
    | (go_at_call 118; (with_reducible refine HI.out.mono ?_); rintro e w1 ⟨⟨q, rfl, hq⟩, rfl⟩; have HQ := Sd.mk hq; clear hq))
  go_ret
  exact ⟨congrArg (fun z => Ending.returned (.bool z)) HQ.out, rfl⟩
/-- what orphans want -/
def mst (f : Fo) (out : List ByteArray) (b : Block) : List ByteArray := if f.hasO b.just.block || amg out b.just.block then out else out ++ [b.just.block]
def mss (f : Fo) (l : List Block) : List ByteArray := l.foldl (mst f) []
theorem mss_take {f : Fo} {l : List Block} {i : Nat} {b : Block} (h : l[i]? = some b) : mss f (l.take (i + 1)) = mst f (mss f (l.take i)) b := by
  rw [List.take_add_one, h]
  simp [mss]
theorem mst_len (f : Fo) (out : List ByteArray) (b : Block) : (mst f out b).length ≤ out.length + 1 := by
  unfold mst
  split
  · omega
  · rw [List.length_append]; exact Nat.le_refl _
theorem mss_len (f : Fo) (l : List Block) : (mss f l).length ≤ l.length :=
  Kee.snoc_ind (P := fun l => (mss f l).length ≤ l.length) (Nat.le_refl _) (fun l x ih => by
    have : mss f (l ++ [x]) = mst f (mss f l) x := by simp [mss]
    rw [this, List.length_append]
    have := mst_len f (mss f l) x
    show _ ≤ l.length + 1
    omega) _ l rfl
set_option maxHeartbeats 4000000 in
set_option maxRecDepth 100000 in
theorem missing_any {w0 W : World} {g : Nat} {f : Fo} (hf : Fw w0 g f W) (h8 : f.orph.length ≤ 1000) (k : Nat) (hk : (mss f f.orph).length = k) :
    Calls Try.prog 39 #[.pointer (some ⟨g, 0, none⟩)] W fun e w' => ∃ A c, e = .returned (.slice A k c) ∧ So W (.slice A k c) (mss f f.orph) w' := by
  obtain ⟨m, A, c, rs, hg, hs, ha⟩ := fw_row hf
  obtain ⟨n, hn⟩ : ∃ n, f.orph.length = n := ⟨_, rfl⟩
  rw [hn] at hg
  have c3 := blk_at hg 3 _ rfl
  have HN := Sd.mk hn
  have HK := Sd.mk hk
  have HF := Sd.mk hf
  have HS := Sd.mk hs
  have HA := Sd.mk ha
  have nc := Nat.le_trans hs.le hs.cap
  rw [ha.len, hn] at nc
  rw [hn] at h8
  clear hf hg hs ha hn hk
  go_enter Try.func39, Try.ntmps39
  go_wp2
  go_loopg [3, 12] n (fun gk v3 v12 wr => ∃ i, i + gk = n ∧ v12 = .int .i64 (i : Nat) ∧ Sd (So W v3 (mss f (f.orph.take i)) wr))
  case atStart => exact ⟨0, by omega, rfl, ⟨so_nil W⟩⟩
  case round =>
    clear c3
    obtain ⟨i, hi, rfl, HO⟩ := hrel
    by_cases hlt : i < n
    · have hii : (i : Int) < n := by omega
      obtain ⟨x, hx⟩ : ∃ x, f.orph[i]? = some x := ⟨f.orph[i]'(by rw [HN.out]; exact hlt), List.getElem?_eq_getElem _⟩
      obtain ⟨r, hr⟩ : ∃ r, rs[i]? = some r := ⟨rs[i]'(by rw [HA.out.len, HN.out]; exact hlt), List.getElem?_eq_getElem _⟩
      have HW := Sd.mk (HA.out.get hr hx)
      obtain ⟨b1, o1, rfl, p0, p1, p2, p3, p4, p5⟩ := wk_at HS.out.row hr HW.out.wk
      have p0 := cell_below HO.out.bel p0
      have p1 := cell_below HO.out.bel p1
      have p2 := cell_below HO.out.bel p2
      have p3 := cell_below HO.out.bel p3
      have p4 := cell_below HO.out.bel p4
      have p5 := cell_below HO.out.bel p5
      obtain ⟨out, hout⟩ : ∃ out, mss f (f.orph.take i) = out := ⟨_, rfl⟩
      have HTK := Sd.mk (show mss f (f.orph.take (i + 1)) = if f.hasO x.just.block || amg out x.just.block then out else out ++ [x.just.block] by rw [mss_take hx, hout]; rfl)
      obtain ⟨ho, hho⟩ : ∃ z, f.hasO x.just.block = z := ⟨_, rfl⟩
      obtain ⟨am, ham⟩ : ∃ z, amg out x.just.block = z := ⟨_, rfl⟩
      have HJ := just_le HW.out.sz
      have HOR := Sd.mk (fun W1 (hb : RowKit.Below W.heap.size W W1) => orphan_any (HF.out.below hb) x.just.block ho hho)
      rw [hho, ham] at HTK
      have HTL := Sd.mk (show out.length ≤ i by rw [← hout]; have := mss_len f (f.orph.take i); rw [List.length_take] at this; omega)
      rw [hout] at HO
      obtain ⟨A3, c3, e3, hs3⟩ := own_str HO.out.own
      subst e3
      obtain ⟨t, ht⟩ : ∃ t, out.length = t := ⟨_, rfl⟩
      rw [ht] at HO HTL ⊢
      have HTT := Sd.mk ht
      have ht1 : t ≤ 1000 := by have := HTL.out; omega
      have HCO := Sd.mk (fun W1 (hb : RowKit.Below wr.heap.size wr W1) => scontains_any W1 A3 c3 out (hs3.below hb) t ht.symm x.just.block am ham)
      clear hx hr hho ham hout ht hs3 HJ
      have b1' := below_one wr (.cells #[.int .i64 x.view, .int .i64 x.prop, .int .i64 x.just.view, .string x.just.block, .slice r.sa r.sn r.sc, .slice r.a x.batch.length r.c] 42)
      have HO1 := Sd.mk (HO.out.below b1')
      have HB1 := Sd.mk b1'
      have E1 := Sd.mk (blk_new wr (.cells #[.int .i64 x.view, .int .i64 x.prop, .int .i64 x.just.view, .string x.just.block, .slice r.sa r.sn r.sc, .slice r.a x.batch.length r.c] 42))
      clear b1'
      go_upto_region 5 with (fail)
      clear p0 p1 p2 p3 p4 p5 HO
      generalize wr.heap.size = g5 at E1 ⊢
      generalize wr.alloc _ = W5 at E1 HO1 HB1 ⊢
      have q0 := blk_at E1.out 0 _ rfl
      have q1 := blk_at E1.out 1 _ rfl
      have q2 := blk_at E1.out 2 _ rfl
      have q3 := blk_at E1.out 3 _ rfl
      have q4 := blk_at E1.out 4 _ rfl
      have q5 := blk_at E1.out 5 _ rfl
      go_upto_region 6 with (first
        | (go_at_call 28; (with_reducible refine (Blk.parent_any _ _ _ _ _ _ _).mono ?_); rintro e w5 ⟨rfl, hb⟩; have HO5 := Sd.mk (HO1.out.below hb); have HB5 := Sd.mk (below_then HB1.out hb); clear hb))
      clear q0 q1 q2 q3 q4 q5 E1 HO1 HB1
      cases ho with
      | true =>
        have HT2 := Sd.mk (show mss f (f.orph.take (i + 1)) = out from HTK.out)
        clear HTK HCO
        go_wp2_with (first
          | (go_at_call 74; (with_reducible refine (HOR.out _ HO5.out.bel).mono ?_); rintro e w6 ⟨rfl, hb⟩; have HO6 := Sd.mk (HO5.out.below hb); clear hb))
        go_roundg (gk - 1)
        case measure => omega
        case rel => exact ⟨i + 1, by omega, by go_num, ⟨by rw [HT2.out]; exact HO6.out⟩⟩
      | false =>
        cases am with
        | true =>
          have HT2 := Sd.mk (show mss f (f.orph.take (i + 1)) = out from HTK.out)
          clear HTK
          go_wp2_with (first
            | (go_at_call 74; (with_reducible refine (HOR.out _ HO5.out.bel).mono ?_); rintro e w6 ⟨rfl, hb⟩; have HO6 := Sd.mk (HO5.out.below hb); have HB6 := Sd.mk (below_then HB5.out hb); clear hb)
            | (go_at_call 77; (with_reducible refine (HCO.out _ HB6.out).mono ?_); rintro e w7 ⟨rfl, rfl⟩))
          go_roundg (gk - 1)
          case measure => omega
          case rel => exact ⟨i + 1, by omega, by go_num, ⟨by rw [HT2.out]; exact HO6.out⟩⟩
        | false =>
          have HT2 := Sd.mk (show mss f (f.orph.take (i + 1)) = out ++ [x.just.block] from HTK.out)
          clear HTK
          go_wp2_with (first
            | (go_at_call 74; (with_reducible refine (HOR.out _ HO5.out.bel).mono ?_); rintro e w6 ⟨rfl, hb⟩; have HO6 := Sd.mk (HO5.out.below hb); have HB6 := Sd.mk (below_then HB5.out hb); clear hb)
            | (go_at_call 77; (with_reducible refine (HCO.out _ HB6.out).mono ?_); rintro e w7 ⟨rfl, rfl⟩)
            | (at_builtin; refine append_one (f := fS) (n := 1) (fun _ => rfl) fS_one W.heap.size rfl (.tmp 28) (.tmp 30) 49 9 (.string ByteArray.empty) 16 rfl Try.underlying49 info_str rfl (by decide) (.slice A3 t c3) out x.just.block rfl rfl HO6.out.own HO6.out.bel HO6.out.bel.size (by rw [HTT.out]; omega) (by rw [HTT.out]; omega) ?_; intro v9 w9 hown hbel hgr; have HO9 := Sd.mk (So.mk hown hbel); clear hown hbel hgr))
          go_roundg (gk - 1)
          case measure => omega
          case rel => exact ⟨i + 1, by omega, by go_num, ⟨by rw [HT2.out]; exact HO9.out⟩⟩
    · have hii : decide (i < n) = false := decide_eq_false (by omega)
      have hii2 : decide ((i : Int) < (n : Int)) = false := decide_eq_false (by omega)
      have HO2 := Sd.mk (show So W u3 (mss f f.orph) wr by have h := HO.out; rwa [List.take_of_length_le (by rw [HN.out]; omega)] at h)
      obtain ⟨A3, c3, rfl⟩ := OwnR.slice HO2.out.own
      rw [HK.out] at HO2 ⊢
      go_wp2
      go_ret
      exact ⟨_, _, rfl, HO2.out⟩
/-- the zero block -/
def ZB : Block := ⟨0, 0, ⟨0, ⟨#[]⟩, []⟩, []⟩
theorem zb_ne : digB ZB ≠ Crt.FB := by decide +kernel
theorem fb_ne : (⟨#[]⟩ : ByteArray) ≠ Crt.FB := by decide +kernel
theorem put_zb : F0.put ZB = (0, ⟨Crt.FB, 0, [], [ZB]⟩) := by
  have h1 : F0.has (digB ZB) = false := by unfold Fo.has; rw [decide_eq_false (show ¬ digB ZB = F0.root from zb_ne)]; rfl
  have h2 : F0.hasO (digB ZB) = false := rfl
  have h3 : F0.has ZB.just.block = false := by unfold Fo.has; rw [decide_eq_false (show ¬ ZB.just.block = F0.root from fb_ne)]; rfl
  unfold Fo.put
  rw [h1, h2, h3]
  rfl
theorem zb_bw (W : World) : Bw W ⟨0, 0, 0, ⟨#[]⟩, none, 0, 0, none, 0, 0⟩ ZB := ⟨⟨rfl, rfl, rfl, rfl, rfl, ⟨Nat.le_refl _, (show (0 : Nat) ≤ 9223372036854775807 by omega), fun i x hx => by simp [ZB] at hx⟩⟩, by decide +kernel⟩
set_option maxHeartbeats 4000000 in
set_option maxRecDepth 100000 in
theorem awake7_any (w : World) : Calls Try.prog 34 #[] w fun e w' => e = .returned (.bool true) ∧ RowKit.Below w.heap.size w w' := by
  have HPU := Sd.mk (fun (W1 : World) (g : Nat) (h : Fw w g F0 W1) => put_any h ok_0 ZB _ (zb_bw w))
  have HOR := Sd.mk (fun (W1 : World) (g : Nat) (h : Fw w g ⟨Crt.FB, 0, [], [ZB]⟩ W1) => orphans_any h (show 1 ≤ 1000 by omega) 1 rfl)
  rw [put_zb] at HPU
  go_enter Try.func34, Try.ntmps34
  go_wp2_with (first
    | (go_at_call 35; (with_reducible refine (new_any _).mono ?_); rintro e w1 ⟨g, rfl, hf, hb⟩; have HF1 := Sd.mk hf; clear hf hb)
    | (go_at_call 36; refine (HPU.out _ _ HF1.out).mono ?_; rintro e w2 ⟨rfl, hf, hr⟩; have HF2 := Sd.mk hf; clear hf hr)
    | (go_at_call 37; (with_reducible refine (HOR.out _ _ HF2.out).mono ?_); rintro e w3 ⟨A, c, rfl, ho⟩; have HF3 := Sd.mk (HF2.out.below ho.bel); clear ho))
  go_ret
  exact ⟨rfl, HF3.out.bel⟩
-- L1>
end Go.Proofs.Ytnomgkmeomlccaa.Fst
set_option linter.unusedVariables false
set_option linter.unusedSimpArgs false
namespace Go.Proofs.Ytnomgkmeomlccaa.Rfn
open Go.RowKit

/-- the iterator's word: Tn is what it may turn between the rounds, Kp what a round has to keep -/
def SeqT {α : Type} (F : Fence) (n : Nat) (P : Program) (g : Nat) (lb : Array Value) (encs : α → Array Value) (Tn Kp : World → World → Prop) (S Sp : List α → Prop) (N : Nat) (w : World) : Prop :=
  ∀ (l : Nat) (J Jx : List α → World → Prop) (W : World), Below w.heap.size w W → (∀ s A B, J s A → Tn A B → J s B) → (∀ s A B, Jx s A → Tn A B → Jx s B) →
    (∀ pre x W1, J pre W1 → pre.length < N → YieldAt F (n - 1) P l (encs x) W1 fun e W' =>
      (e = .returned (.bool true) ∧ J (pre ++ [x]) W' ∧ Kp W1 W') ∨ (e = .returned (.bool false) ∧ Jx (pre ++ [x]) W')) →
    J [] W →
    CallsIn F n P g (#[.func (.yield l) #[] #[]] ++ lb) W fun e W' => (∃ v, e = .returned v) ∧ ((∃ xs, S xs ∧ J xs W') ∨ (∃ pre, Sp pre ∧ Jx pre W'))
/-- the statement, over such an iterator -/
theorem range_turn {α : Type} {F : Fence} {n : Nat} {P : Program} {g : Operand} {ps : Array Tmp} {assign body : Code} {Q : Exit → Act → World → Prop} {a : Act} {w : World} (hro : F.round = none) (h1 : 1 ≤ n) {gf : Nat} {lb : Array Value}
    (hg : a.eval g = .func (.func gf) #[] lb) (hFg : F.fn gf) (eg : ∀ args w, (callFunc gf args).run P w = .ok (.enter gf args) w) {encs : α → Array Value} {Tn Kp : World → World → Prop} {S Sp : List α → Prop} {N : Nat}
    (hseq : SeqT F (n - 1) P gf lb encs Tn Kp S Sp N w) (hTn : ∀ A B, Tn A B → ∀ (k : Nat) (o : Obj), w.heap.size ≤ k → A.heap[k]? = some o → o.isCells = false → B.heap[k]? = some o)
    (hKt : ∀ {A B C : World}, Kp A B → Kp B C → Kp A C) (hKb : ∀ (W : World) (l : Nat) (o o' : Obj), w.heap.size ≤ l → W.heap[l]? = some o → o.isCells = false → o.isWalk = false → Kp W (W.putObj l o')) (hps : ∀ x, (encs x).size = ps.size)
    (I : List α → World → Prop) (Ix : Code → List α → World → Prop) (hI : OwnFrom w.heap.size I) (hIx : ∀ c, OwnFrom w.heap.size (Ix c)) (hIT : ∀ s A B, I s A → Tn A B → I s B) (hIxT : ∀ c s A B, Ix c s A → Tn A B → Ix c s B) (h0 : I [] w) (a1 : α → Act)
    (hassign : ∀ (l : Nat) (x : α) (W : World) (K : Act → World → Prop), K (a1 x) W →
      assign.wpIn (F.inRound l) (n - 1 - 1) P (Exit.then K (fun _ _ _ => False)) { tmps := (ps.zip (encs x)).foldl (fun t (p, v) => t.setIfInBounds p v) a.tmps, defers := [] } W)
    (hbody : ∀ (l : Nat) (pre : List α) (x : α) (W : World), I pre W → pre.length < N → body.wpIn (F.inRound l) (n - 1 - 1) P (ownPostG w.heap.size Kp I Ix (pre ++ [x]) W) (a1 x) W)
    (hdone : ∀ (D : Nat) (xs : List α) (W : World), w.heap.size ≤ D → S xs → I xs W → W.heap[D]? = some (.deferred (some [])) → Q .normal { a with defers := { target := .collected D, args := #[] } :: a.defers } W)
    (hstop : ∀ (D : Nat) (c : Code) (pre : List α) (W : World), w.heap.size ≤ D → Sp pre → Ix c pre W → W.heap[D]? = some (.deferred (some [])) → c.wpIn F n P Q { a with defers := { target := .collected D, args := #[] } :: a.defers } W) :
    (Code.rangeFunc g ps assign body).wpIn F n P Q a w := by
  refine wpIn_rangeFunc fun fn hfn => ?_
  rw [hro]
  obtain ⟨D, hD⟩ : ∃ D, w.heap.size = D := ⟨_, rfl⟩
  obtain ⟨rec, hrec⟩ : ∃ rec : LoopState → Option Code → Loop, rec = fun st pe => { state := st, pending := pe, fn, tmps := a.tmps, params := ps, assign, body, defers := D } := ⟨_, rfl⟩
  obtain ⟨V, hV⟩ : ∃ V, (w.alloc (.deferred (some []))).alloc (.loop (rec .ready none)) = V := ⟨_, rfl⟩
  have vL : V.heap[D + 1]? = some (.loop (rec .ready none)) := by
    rw [← hV, ← hD]
    have := World.alloc_heap_new (w.alloc (.deferred (some []))) (.loop (rec .ready none))
    rwa [World.size_alloc] at this
  have vD : V.heap[D]? = some (.deferred (some [])) := by
    rw [← hV, ← hD]
    exact (Below.heap_alloc _ _ _ (by simp)).trans (World.alloc_heap_new w _)
  have vI : I [] V := by rw [← hV]; exact hI.alloc _ (hI.alloc _ h0)
  have vB : Below w.heap.size w V := by rw [← hV]; exact ((Below.refl _ w).alloc (Nat.le_refl _) _).alloc (by simp) _
  refine ⟨D + 1, [{ target := .collected D, args := #[] }], V, { target := .fn (.func gf) lb, args := #[.func (.yield (D + 1)) #[] #[]] }, V, gf, #[.func (.yield (D + 1)) #[] #[]] ++ lb, V, ?_, ?_, ?_, ?_, fun _ => h1, ?_⟩
  · rw [← hV, hrec, ← hD]
    exact run_enterLoop_outer _ _ _ _ _
  · simp only [resolve, hg]
    simp [go_sem]
  · intro f' hf'
    simp [Target.leads] at hf'
    subst hf'
    exact hFg
  · simp [invoke, go_sem, eg]
  have keep : ∀ {A B : World} {k : Nat} {o : Obj}, Tn A B → D ≤ k → A.heap[k]? = some o → o.isCells = false → B.heap[k]? = some o := fun {A B k o} ht hk ho hc => hTn A B ht k o (by omega) ho hc
  refine (hseq (D + 1) (fun pre W => I pre W ∧ W.heap[D + 1]? = some (.loop (rec .ready none)) ∧ W.heap[D]? = some (.deferred (some [])))
    (fun pre W => ∃ c, Ix c pre W ∧ W.heap[D + 1]? = some (.loop (rec .done (some c))) ∧ W.heap[D]? = some (.deferred (some []))) V vB
    (fun s A B hs ht => ⟨hIT s A B hs.1 ht, keep ht (by omega) hs.2.1 rfl, keep ht (Nat.le_refl _) hs.2.2 rfl⟩)
    (fun s A B hs ht => by
      obtain ⟨c, hc, hl, hd⟩ := hs
      exact ⟨c, hIxT c s A B hc ht, keep ht (by omega) hl rfl, keep ht (Nat.le_refl _) hd rfl⟩)
    ?_ ⟨vI, vL, vD⟩).mono ?_
  · rintro pre x W ⟨hi, hl, hd⟩ hlen
    have hlt : D + 1 < W.heap.size := (Array.getElem?_eq_some_iff.1 hl).1
    have hy := run_yield (P := P) (args := encs x) hl (by rw [hrec]; exact hps x)
    rw [hrec] at hy
    refine ⟨fn, _, assign, body, hy, roundIn_of_wpIn hfn (hassign _ x W _ ⟨_, run_beginRound hl (by rw [hrec]), ?_⟩)⟩
    obtain ⟨U, hU⟩ : ∃ U, W.putObj (D + 1) (.loop { rec .ready none with state := .busy }) = U := ⟨_, rfl⟩
    have uL : U.heap[D + 1]? = some (.loop { rec .ready none with state := .busy }) := by rw [← hU]; exact World.putObj_heap_same hlt
    have uD : U.heap[D]? = some (.deferred (some [])) := by rw [← hU]; exact (World.putObj_heap_other (by omega)).trans hd
    have uK : Kp W U := by rw [← hU]; exact hKb _ _ _ _ (by omega) hl rfl rfl
    have uI : I pre U := by rw [← hU]; exact hI.putObj _ hi (by omega) hl rfl
    rw [hU]
    refine wpIn_mono (hbody _ pre x U uI hlen) ?_
    have fin : ∀ (jump : Option Code) (X : World), KeepsFrom w.heap.size U X →
        (Instr.endRound (D + 1) jump).run P X = .ok (.bool jump.isNone) (X.putObj (D + 1) (.loop (rec (if jump.isNone then .ready else .done) jump))) ∧ X.heap[D + 1]? = some (.loop { rec .ready none with state := .busy }) ∧
        (X.putObj (D + 1) (.loop (rec (if jump.isNone then .ready else .done) jump))).heap[D + 1]? = some (.loop (rec (if jump.isNone then .ready else .done) jump)) ∧
        (X.putObj (D + 1) (.loop (rec (if jump.isNone then .ready else .done) jump))).heap[D]? = some (.deferred (some [])) := fun jump X hk => by
      have xL := hk.same _ _ (by omega) uL rfl
      have xD := hk.same _ _ (by omega) uD rfl
      have hr := run_endRound (P := P) jump xL
      rw [hrec] at hr ⊢
      exact ⟨hr, by rw [hrec] at xL; exact xL, World.putObj_heap_same (Array.getElem?_eq_some_iff.1 xL).1, (World.putObj_heap_other (by omega)).trans xD⟩
    intro e a3 X hp
    cases e with
    | normal =>
      obtain ⟨hk, hkp, hi3⟩ := hp
      obtain ⟨e1, e2, e3, e4⟩ := fin none X hk
      exact ⟨_, _, e1, .inl ⟨rfl, ⟨hI.putObj _ hi3 (by omega) e2 rfl, e3, e4⟩, hKt (hKt uK hkp) (hKb _ _ _ _ (by omega) e2 rfl rfl)⟩⟩
    | ret =>
      obtain ⟨hk, hi3⟩ := hp
      obtain ⟨e1, e2, e3, e4⟩ := fin (some .ret) X hk
      exact ⟨_, _, e1, .inr ⟨rfl, .ret, (hIx _).putObj _ hi3 (by omega) e2 rfl, e3, e4⟩⟩
    | exit id =>
      obtain ⟨hk, hi3⟩ := hp
      obtain ⟨e1, e2, e3, e4⟩ := fin (some (.exit id)) X hk
      exact ⟨_, _, e1, .inr ⟨rfl, .exit id, (hIx _).putObj _ hi3 (by omega) e2 rfl, e3, e4⟩⟩
    | goto t =>
      obtain ⟨hk, hi3⟩ := hp
      obtain ⟨e1, e2, e3, e4⟩ := fin (some (.goto t)) X hk
      exact ⟨_, _, e1, .inr ⟨rfl, .goto t, (hIx _).putObj _ hi3 (by omega) e2 rfl, e3, e4⟩⟩
    | panic ch => exact hp.elim
    | outgrown => exact hp.elim
  · rintro e X ⟨⟨v, rfl⟩, (⟨xs, hS, hi, hl, hd⟩ | ⟨pre, hSp, c, hi, hl, hd⟩)⟩
    · refine ⟨none, _, by have := run_endLoop (P := P) hl (by rw [hrec]; simp); rw [hrec] at this; exact this, ?_⟩
      exact hdone D xs _ (by omega) hS (hI.putObj _ hi (by omega) hl rfl) ((World.putObj_heap_other (by omega)).trans hd)
    · refine ⟨some c, _, by have := run_endLoop (P := P) hl (by rw [hrec]; simp); rw [hrec] at this; exact this, ?_⟩
      exact hstop D c pre _ (by omega) hSp ((hIx c).putObj _ hi (by omega) hl rfl) ((World.putObj_heap_other (by omega)).trans hd)
end Go.Proofs.Ytnomgkmeomlccaa.Rfn
set_option linter.unusedVariables false
set_option linter.unusedSimpArgs false
namespace Go.Proofs.Ytnomgkmeomlccaa.Fst
open Go.RowKit Go.Sort Rd Api _root_.Go.Proofs.Ytnomgkmeomlccaa.Own Mv App Num Dig
open Blk (Block Rq rqN fR digB coreB)
open Kee (Bk fB bkK Wk)
attribute [local go_sem] Oper.semAt_some

/-- what stands, stands on what came ahead of it; no digest twice -/
structure Ord (f : Fo) : Prop where
  par : ∀ (i : Nat) (x : Nd), f.nodes[i]? = some x → x.b.just.block = f.root ∨ ∃ j y, j < i ∧ f.nodes[j]? = some y ∧ digB y.b = x.b.just.block
  nod : (f.nodes.map (fun x => digB x.b)).Nodup
  rt : Rt f
theorem ndAt_of {l : List Nd} (hn : (l.map (fun x => digB x.b)).Nodup) {i : Nat} {x : Nd} (hx : l[i]? = some x) : ndAt l (digB x.b) = some x := by
  unfold ndAt
  rw [List.find?_eq_some_iff_getElem]
  have hl := (List.getElem?_eq_some_iff.1 hx).1
  have hv := (List.getElem?_eq_some_iff.1 hx).2
  refine ⟨decide_eq_true rfl, i, hl, hv, fun j hj => ?_⟩
  have : digB (l[j]'(by omega)).b ≠ digB x.b := fun e => by
    have := (List.getElem?_inj (i := j) (j := i) (by rw [List.length_map]; omega) hn).1 (by rw [List.getElem?_map, List.getElem?_map, hx, List.getElem?_eq_getElem (by omega)]; simp [e])
    omega
  simpa using this
theorem has_cases {f : Fo} {h : ByteArray} (hh : f.has h = true) : h = f.root ∨ ∃ x, ndAt f.nodes h = some x := by
  unfold Fo.has at hh
  rcases Bool.or_eq_true_iff.1 hh with e | e
  · obtain ⟨x, hx⟩ := Option.isSome_iff_exists.1 e
    exact .inr ⟨x, hx⟩
  · exact .inl (of_decide_eq_true e)
theorem ord_more {f : Fo} (h : Ord f) {b : Block} (hp : f.has b.just.block = true) (hn : ndAt f.nodes (digB b) = none) (hr : digB b ≠ f.root) : Ord (f.more b) := by
  refine ⟨fun i x hx => ?_, ?_, rt_more h.rt hr⟩
  · have hx2 : (f.nodes ++ [⟨b, w64 (f.hgt b.just.block + 1)⟩])[i]? = some x := hx
    rcases Nat.lt_or_ge i f.nodes.length with e | e
    · rw [List.getElem?_append_left e] at hx2
      rcases h.par i x hx2 with e1 | ⟨j, y, hj, hy, he⟩
      · exact .inl e1
      · exact .inr ⟨j, y, hj, by show (f.nodes ++ _)[j]? = _; rw [List.getElem?_append_left (by omega)]; exact hy, he⟩
    · rw [List.getElem?_append_right e] at hx2
      have hi : i - f.nodes.length = 0 := by
        have := (List.getElem?_eq_some_iff.1 hx2).1
        simp at this
        omega
      rw [hi] at hx2
      simp at hx2
      subst hx2
      rcases has_cases hp with e1 | ⟨y, hy⟩
      · exact .inl e1
      · obtain ⟨hm, hd⟩ := ndAt_some hy
        obtain ⟨j, hj⟩ := List.getElem?_of_mem hm
        have hjl := (List.getElem?_eq_some_iff.1 hj).1
        exact .inr ⟨j, y, by omega, by show (f.nodes ++ _)[j]? = _; rw [List.getElem?_append_left hjl]; exact hj, hd⟩
  · rw [show (f.more b).nodes = f.nodes ++ [⟨b, w64 (f.hgt b.just.block + 1)⟩] from rfl, List.map_append, List.nodup_append]
    refine ⟨h.nod, by simp, fun a ha c hc e => ?_⟩
    simp at hc
    obtain ⟨x, hx, rfl⟩ := List.mem_map.1 ha
    exact ndAt_none.1 hn x hx (e.trans hc)
theorem ord_fput {f : Fo} (h : Ord f) {b : Block} (hp : f.has b.just.block = true) (hn : ndAt f.nodes (digB b) = none) (hr : digB b ≠ f.root) : Ord (f.fput b) := by
  unfold Fo.fput
  split
  · exact ord_more h hp hn hr
  · exact h
theorem ord_less {f : Fo} (h : Ord f) (i : Nat) : Ord (f.less i) := ⟨h.par, h.nod, rt_less h.rt i⟩
theorem ord_adopt : ∀ (n : Nat) {f : Fo}, Ok f → Ord f → Ord (f.adopt n)
  | 0, f, _, h => h
  | n + 1, f, hk, h => by
    cases hf : f.first with
    | none => rw [adopt_none hf]; exact h
    | some i =>
      obtain ⟨b, hb, hhas, -⟩ := first_some hf
      rw [adopt_some hf hb]
      have hs := ok_step hk hb
      exact ord_adopt n hs.1 (ord_fput (ord_less h i) hhas hs.2 (h.rt.or b (List.mem_of_getElem? hb)))
theorem ord_put {f : Fo} (hk : Ok f) (h : Ord f) (b : Block) : Ord (f.put b).2 := by
  unfold Fo.put
  split
  · exact h
  · rename_i hn
    simp only [Bool.or_eq_true, not_or, Bool.not_eq_true] at hn
    have hh := hn.1
    unfold Fo.has at hh
    simp only [Bool.or_eq_false_iff, Option.isSome_eq_false_iff, Option.isNone_iff_eq_none, decide_eq_false_iff_not] at hh
    have hne : ∀ b' ∈ f.orph, digB b' ≠ digB b := fun b' hb' e => by
      have := hn.2
      unfold Fo.hasO at this
      rw [List.any_eq_false] at this
      exact this b' hb' (by simpa using e)
    split
    · rename_i hp
      split
      · exact ord_adopt 10 (ok_more hk hne) (ord_more h hp hh.1 hh.2)
      · exact h
    · split
      · exact h
      · refine ⟨h.par, h.nod, ⟨h.rt.nd, fun b' hb' => ?_⟩⟩
        rcases List.mem_append.1 hb' with e | e
        · exact h.rt.or b' e
        · rw [List.mem_singleton] at e
          subst e
          exact hh.2
theorem ord_0 : Ord F0 := ⟨fun i x hx => by simp [F0] at hx, List.nodup_nil, ⟨fun x hx => by simp [F0] at hx, fun x hx => by simp [F0] at hx⟩⟩
theorem bld_ord (bs : List Block) : Ord (bld bs) :=
  Kee.snoc_ind (P := fun bs => Ord (bld bs)) ord_0 (fun l x ih => by rw [bld_snoc]; exact ord_put (bld_ok l).1 ih x) _ bs rfl
/-- a block, and its ancestors down to the root -/
inductive Up (f : Fo) : ByteArray → List ByteArray → Prop
  | root : Up f f.root [f.root]
  | step {h : ByteArray} {x : Nd} {l : List ByteArray} : h ≠ f.root → ndAt f.nodes h = some x → Up f x.b.just.block l → Up f h (h :: l)
theorem Up.uniq {f : Fo} {h : ByteArray} {l m : List ByteArray} (a : Up f h l) : Up f h m → l = m := by
  induction a generalizing m with
  | root => intro b; cases b with
    | root => rfl
    | step hne _ _ => exact absurd rfl hne
  | step hne hx _ ih => intro b; cases b with
    | root => exact absurd rfl hne
    | step _ hy hb => rw [hx] at hy; cases Option.some.inj hy; rw [ih hb]
theorem up_at {f : Fo} (h : Ord f) : ∀ (n i : Nat) (x : Nd), i < n → f.nodes[i]? = some x → ∃ l, Up f (digB x.b) l ∧ l.length ≤ i + 2
  | 0, _, _, hi, _ => absurd hi (Nat.not_lt_zero _)
  | n + 1, i, x, hi, hx => by
    have hne := h.rt.nd x (List.mem_of_getElem? hx)
    rcases h.par i x hx with e | ⟨j, y, hj, hy, he⟩
    · exact ⟨[digB x.b, f.root], .step hne (ndAt_of h.nod hx) (by rw [e]; exact .root), by simp⟩
    · obtain ⟨l, hl, hle⟩ := up_at h n j y (by omega) hy
      exact ⟨digB x.b :: l, .step hne (ndAt_of h.nod hx) (by rw [← he]; exact hl), by simp; omega⟩
theorem up_of {f : Fo} (h : Ord f) {s : ByteArray} (hs : f.has s = true) : ∃ l, Up f s l ∧ l.length ≤ f.nodes.length + 1 := by
  rcases has_cases hs with rfl | ⟨x, hx⟩
  · exact ⟨[f.root], .root, by simp⟩
  · obtain ⟨hm, rfl⟩ := ndAt_some hx
    obtain ⟨i, hi⟩ := List.getElem?_of_mem hm
    have hil := (List.getElem?_eq_some_iff.1 hi).1
    obtain ⟨l, hl, hle⟩ := up_at h (i + 1) i x (by omega) hi
    exact ⟨l, hl, by omega⟩
theorem Up.has {f : Fo} {s : ByteArray} {l : List ByteArray} (h : Up f s l) : f.has s = true := by
  cases h with
  | root => unfold Fo.has; rw [decide_eq_true rfl, Bool.or_true]
  | step _ hx _ => unfold Fo.has; rw [hx]; rfl
theorem Up.head {f : Fo} {s : ByteArray} {l : List ByteArray} (h : Up f s l) : ∃ r, l = s :: r := by
  cases h with
  | root => exact ⟨[], rfl⟩
  | step _ _ _ => exact ⟨_, rfl⟩
theorem Up.last {f : Fo} {s : ByteArray} {l : List ByteArray} (h : Up f s l) (e : s = f.root) : l = [s] := by
  cases h with
  | root => rfl
  | step hne _ _ => exact absurd e hne
theorem Up.next {f : Fo} {s : ByteArray} {l : List ByteArray} (h : Up f s l) (e : s ≠ f.root) : ∃ x r, l = s :: r ∧ ndAt f.nodes s = some x ∧ Up f x.b.just.block r := by
  cases h with
  | root => exact absurd rfl e
  | step hne hx hr => exact ⟨_, _, rfl, hx, hr⟩
/-- .. or nothing, if it isn't there -/
def Upx (f : Fo) (s : ByteArray) (l : List ByteArray) : Prop := (f.has s = false ∧ l = []) ∨ Up f s l
theorem upx_of {f : Fo} (h : Ord f) (s : ByteArray) : ∃ l, Upx f s l ∧ l.length ≤ f.nodes.length + 1 := by
  cases hs : f.has s with
  | false => exact ⟨[], .inl ⟨hs, rfl⟩, Nat.zero_le _⟩
  | true =>
    obtain ⟨l, hl, hle⟩ := up_of h hs
    exact ⟨l, .inr hl, hle⟩
set_option maxHeartbeats 1000000 in
theorem fup_any (w : World) (g : Nat) (h : ByteArray) :
    Calls Try.prog 82 #[.pointer (some ⟨g, 0, none⟩), .string h] w fun e w' => e = .returned (.func (.func 119) #[] #[.pointer (some ⟨w.heap.size, 0, none⟩), .pointer (some ⟨w.heap.size + 1, 0, none⟩)]) ∧ w' = (w.alloc (.cells #[.pointer (some ⟨g, 0, none⟩)] 62)).alloc (.cells #[.string h] 9) := by
  go_enter Try.func82, Try.ntmps82
  go_wp2
  go_ret
  exact ⟨rfl, rfl⟩
/-- the look-up that asks not whether it is there -/
theorem lk1 {w0 W : World} {g : Nat} {f : Fo} (h : Fw w0 g f W) {s : ByteArray} (hz : s.size ≤ maxLen) {x : Nd} (hx : ndAt f.nodes s = some x) : ∃ m ov r, W.heap[g]? = some (.cells #[.string f.root, .int .i64 f.height, .map (some m), ov] 117 (0, 0)) ∧ Bw w0 r x.b ∧ (Instr.lookup 115 (.map (some m)) (.string s) false).run Try.prog W = .ok (nodeV x.b r x.ht) W := by
  obtain ⟨m, ov, prs, rs, h1, h2, h3, h4, h5, h6, h7⟩ := h.ex
  obtain ⟨r, hr, hl⟩ := look_some_of h4 hx
  have := h2.look1 Try.underlying115 Try.underlying9 node0 (zero_node W) s hz
  rw [hl] at this
  exact ⟨m, ov, r, h1, hr, this⟩
theorem field_node (v p jv : Int) (jb : ByteArray) (sa : Option Addr) (sn sc : Nat) (a : Option Addr) (n c : Nat) (ht : Int) (w : World) : (Instr.field 120 (.agg #[.int .i64 v, .int .i64 p, .int .i64 jv, .string jb, .slice sa sn sc, .slice a n c, .int .i64 ht]) 0).run Try.prog w = .ok (.agg #[.int .i64 v, .int .i64 p, .int .i64 jv, .string jb, .slice sa sn sc, .slice a n c]) w := by kernel_rfl
/-- what the iterator may turn -/
def Tn (gh : Nat) (W W1 : World) : Prop := W.grownBy W1 (some gh)
/-- what a round has to keep -/
structure Kp (n0 gf gh : Nat) (W W1 : World) : Prop where
  bel : RowKit.Below n0 W W1
  kf : W1.heap[gf]? = W.heap[gf]?
  kh : W1.heap[gh]? = W.heap[gh]?
  sz : W.heap.size ≤ W1.heap.size
theorem Kp.trans {n0 gf gh : Nat} {A B C : World} (h : Kp n0 gf gh A B) (k : Kp n0 gf gh B C) : Kp n0 gf gh A C := ⟨h.bel.trans k.bel, k.kf.trans h.kf, k.kh.trans h.kh, Nat.le_trans h.sz k.sz⟩
theorem Tn.below {gh : Nat} {W W1 : World} (hb : RowKit.Below W.heap.size W W1) : Tn gh W W1 := ⟨hb.os, hb.tape, hb.output, hb.size, fun k hk _ => hb.block k hk⟩
/-- the iterator under way -/
structure Us (Ws : World) (n0 g gf gh : Nat) (f : Fo) (s : ByteArray) (W : World) : Prop where
  bel : RowKit.Below n0 Ws W
  ef : W.heap[gf]? = some (.cells #[.pointer (some ⟨g, 0, none⟩)] 62 (0, 0))
  eh : W.heap[gh]? = some (.cells #[.string s] 9 (0, 0))
theorem Us.below {Ws : World} {n0 g gf gh : Nat} {f : Fo} {s : ByteArray} {W W1 : World} (h : Us Ws n0 g gf gh f s W) (hn : n0 ≤ W.heap.size) (hb : RowKit.Below W.heap.size W W1) : Us Ws n0 g gf gh f s W1 :=
  ⟨h.bel.trans (hb.mono hn), blk_keep h.ef hb, blk_keep h.eh hb⟩
theorem Us.kept {Ws : World} {n0 g gf gh : Nat} {f : Fo} {s : ByteArray} {W W1 : World} (h : Us Ws n0 g gf gh f s W) (hk : Kp n0 gf gh W W1) : Us Ws n0 g gf gh f s W1 := ⟨h.bel.trans hk.bel, hk.kf.trans h.ef, hk.kh.trans h.eh⟩
theorem Us.set {Ws : World} {n0 g gf gh : Nat} {f : Fo} {s : ByteArray} {W : World} (h : Us Ws n0 g gf gh f s W) (hgh : n0 ≤ gh) (hne : gf ≠ gh) (t : ByteArray) : Us Ws n0 g gf gh f t (W.setCell ⟨gh, 0, none⟩ (.string t)) :=
  ⟨h.bel.setCell (p := ⟨gh, 0, none⟩) hgh _, (heap_set W gh 0 (.string t) gf hne).trans h.ef, (blk_set3 h.eh 0 (.string t)).trans rfl⟩
theorem Tn.set {gh : Nat} {W W1 : World} (hb : RowKit.Below W.heap.size W W1) (t : ByteArray) : Tn gh W (W1.setCell ⟨gh, 0, none⟩ (.string t)) := Rp.grown_then (Tn.below hb) (Kee.grown_set W1 gh 0 (.string t))
-- <L1
set_option maxRecDepth 100000 in
set_option maxHeartbeats 8000000 in
theorem up1_in {w0 Ws : World} {f : Fo} {g : Nat} (n : Nat) (hn : 1 ≤ n) (hfw : Fw w0 g f Ws) (hrz : f.root.size ≤ maxLen) (hbz : ∀ x ∈ f.nodes, x.b.just.block.size ≤ maxLen) (l0 n0 gf gh : Nat) (s : ByteArray) (hsz : s.size ≤ maxLen) (xs : List ByteArray) (hx : Upx f s xs) (hxl : xs.length ≤ 1000) (J Jx : List ByteArray → World → Prop)
    (hJ : ∀ s A B, J s A → Tn gh A B → J s B) (hJx : ∀ s A B, Jx s A → Tn gh A B → Jx s B)
    (hY : ∀ pre x W, J pre W → pre.length < 1000 → YieldAt Fence.wide (n - 1) Try.prog l0 #[.string x] W fun e W' =>
      (e = .returned (.bool true) ∧ J (pre ++ [x]) W' ∧ Kp n0 gf gh W W') ∨ (e = .returned (.bool false) ∧ Jx (pre ++ [x]) W'))
    (W0 : World) (hn0 : Ws.heap.size = n0) (hn1 : n0 ≤ W0.heap.size) (hgf : n0 ≤ gf) (hgh : n0 ≤ gh) (hne : gf ≠ gh) (hU : Us Ws n0 g gf gh f s W0) (h0 : J [] W0) :
    CallsIn Fence.wide n Try.prog 119 #[.func (.yield l0) #[] #[], .pointer (some ⟨gf, 0, none⟩), .pointer (some ⟨gh, 0, none⟩)] W0 fun e W' => (∃ v, e = .returned v) ∧
      ((∃ ys, ys = xs ∧ J ys W') ∨ (∃ pre, pre <+: xs ∧ Jx pre W')) := by
  have mixed : Try.prog.follows .mixedOrders = true := by kernel_rfl
  have hro : Fence.wide.round = none := rfl
  have h7 : Fence.wide.fn 119 := trivial
  have h40 : Fence.wide.fn 40 := trivial
  have h28 : Fence.wide.fn 28 := trivial
  have HFW := Sd.mk hfw
  have HX := Sd.mk hx
  have HJ := Sd.mk hJ
  have HJX := Sd.mk hJx
  have HY := Sd.mk hY
  have HU := Sd.mk hU
  have HN := Sd.mk (And.intro hn0 (And.intro hgf (And.intro hgh hne)))
  have HZ := Sd.mk (And.intro hrz hbz)
  have HSZ := Sd.mk hsz
  have H0 := Sd.mk h0
  have HN1 := Sd.mk hn1
  have HXL := Sd.mk hxl
  clear hfw hx hJ hJx hY hU hn0 hgf hgh hne hrz hbz h0 hn1 hxl hsz
  refine callsIn_of_wp Try.func119 rfl h7 ?_ hro
  simp only [Try.ntmps119, List.size_toArray, List.length_cons, List.length_nil, Nat.reduceAdd, Nat.reduceSub, Array.replicate_succ, Array.replicate_zero, List.push_toArray, List.append_toArray, List.nil_append, List.cons_append]
  gi_wp2
  gi_loopg [] xs.length (fun gk wr => ∃ k s', k + gk = xs.length ∧ Sd (s'.size ≤ maxLen) ∧ Sd ((k = 0 ∧ Upx f s' xs) ∨ Up f s' (xs.drop k)) ∧ Sd (J (xs.take k) wr) ∧ Sd (Us Ws n0 g gf gh f s' wr) ∧ Sd (n0 ≤ wr.heap.size))
  case atStart => exact ⟨0, s, by omega, HSZ, ⟨.inl ⟨rfl, HX.out⟩⟩, ⟨by rw [List.take_zero]; exact H0.out⟩, HU, HN1⟩
  case round =>
    clear H0 HU HX HN1 HSZ
    obtain ⟨k, s', hk, HSZ, HC, HJ0, HU, HN1⟩ := hrel
    have HH := Sd.mk (fun (m : Nat) W1 (hb : RowKit.Below n0 Ws W1) (r : Bool) (hr : f.has s' = r) => (show CallsIn Fence.wide m Try.prog 40 #[.pointer (some ⟨g, 0, none⟩), .string s'] W1 fun e w' => e = .returned (.bool r) ∧ RowKit.Below W1.heap.size W1 w' from callsIn_wide.2 (has_any (HFW.out.below (by rw [HN.out.1]; exact hb)) s' HSZ.out r hr)))
    gi_wp2
    gi_cut [19] from 4 (fun v19 wx => (∃ x, v19 = .bool true ∧ Sd (f.root ≠ s' ∧ ndAt f.nodes s' = some x ∧ Up f x.b.just.block (xs.drop (k + 1)) ∧ k < xs.length ∧ J (xs.take (k + 1)) wx ∧ Us Ws n0 g gf gh f s' wx ∧ n0 ≤ wx.heap.size)) ∨ (v19 = .bool false ∧ Sd ((∃ ys, ys = xs ∧ J ys wx) ∨ (∃ pre, pre <+: xs ∧ Jx pre wx))))
    case first =>
      have cf := blk_at HU.out.ef 0 _ rfl
      have ch := blk_at HU.out.eh 0 _ rfl
      cases hs : f.has s' with
      | false =>
        have HNIL := Sd.mk (show ∀ W1, RowKit.Below wr.heap.size wr W1 → J xs W1 from fun W1 hb => by
          have hxs : xs = [] := by
            rcases HC.out with ⟨-, ⟨-, e⟩ | e⟩ | e
            · exact e
            · have := e.has; rw [hs] at this; cases this
            · have := e.has; rw [hs] at this; cases this
          have h := HJ.out _ _ _ HJ0.out (Tn.below hb)
          rw [hxs] at h ⊢
          simpa using h)
        have HS := Sd.mk hs
        clear hs
        refine wpIn_region_any mixed ?_
        change wpAnyIn _ _ _ _ _ _ _ _ _ (World.drew _)
        (refine wpAnyIn_ready (rs := [0, 1]) (by kernel_rfl) (by simp) ?_; refine AllReadyIn.cons rfl (fun K hK => ?_) (AllReadyIn.cons rfl (fun K hK => ?_) AllReadyIn.nil))
        · (go_simp; (refine hK _ _ ?_; clear hK K; try simp only [List.getElem_toArray, List.getElem_cons_succ, List.getElem_cons_zero, Act.put, List.setIfInBounds_toArray, List.set_cons_zero, List.set_cons_succ]))
          (refine wpAnyIn_ready (rs := [1]) (by kernel_rfl) (by simp) ?_; refine AllReadyIn.cons rfl (fun K hK => ?_) AllReadyIn.nil)
          (go_simp; (refine hK _ _ ?_; clear hK K; try simp only [List.getElem_toArray, List.getElem_cons_succ, List.getElem_cons_zero, Act.put, List.setIfInBounds_toArray, List.set_cons_zero, List.set_cons_succ]))
          (((refine wpAnyIn_ready (rs := [2]) (by kernel_rfl) (by simp) ?_; refine AllReadyIn.cons rfl (fun K hK => ?_) AllReadyIn.nil); go_simp; gi_at_call 40; refine (HH.out _ _ HU.out.bel.drew false HS.out).mono ?_; rintro e w1 ⟨rfl, hb⟩; have HB := Sd.mk hb; clear hb; (refine hK _ _ ?_; clear hK K; try simp only [List.getElem_toArray, List.getElem_cons_succ, List.getElem_cons_zero, Act.put, List.setIfInBounds_toArray, List.set_cons_zero, List.set_cons_succ]); (refine wpAnyIn_take (i := 3) (v := ?_) rfl rfl (by kernel_rfl) (by kernel_rfl) (by kernel_rfl) (fun _ _ _ h => h) ⟨Or.inl ⟨by rfl, ?_⟩, fun _ => rfl⟩ ?_; rotate_left; (focus (intro w; go_simp; try (with_reducible rfl))); try simp only [List.getElem_toArray, List.getElem_cons_succ, List.getElem_cons_zero, Act.put, List.setIfInBounds_toArray, List.set_cons_zero, List.set_cons_succ])); (refine wpAnyIn_take (i := 4) (v := undef) rfl rfl (by kernel_rfl) (by kernel_rfl) (by kernel_rfl) (fun _ _ _ h => h) ⟨Or.inr ⟨by rfl, rfl⟩, fun _ => rfl⟩ ?_; try simp only [List.getElem_toArray, List.getElem_cons_succ, List.getElem_cons_zero, Act.put, List.setIfInBounds_toArray, List.set_cons_zero, List.set_cons_succ]); (refine wpAnyIn_take (i := 5) (v := undef) rfl rfl (by kernel_rfl) (by kernel_rfl) (by kernel_rfl) (fun _ _ _ h => h) ⟨Or.inr ⟨by rfl, rfl⟩, fun _ => rfl⟩ ?_; try simp only [List.getElem_toArray, List.getElem_cons_succ, List.getElem_cons_zero, Act.put, List.setIfInBounds_toArray, List.set_cons_zero, List.set_cons_succ]); (refine wpAnyIn_take (i := 6) (v := undef) rfl rfl (by kernel_rfl) (by kernel_rfl) (by kernel_rfl) (fun _ _ _ h => h) ⟨Or.inr ⟨by rfl, rfl⟩, fun _ => rfl⟩ ?_; try simp only [List.getElem_toArray, List.getElem_cons_succ, List.getElem_cons_zero, Act.put, List.setIfInBounds_toArray, List.set_cons_zero, List.set_cons_succ]); (refine wpAnyIn_take (i := 7) (v := ?_) rfl rfl (by kernel_rfl) (by kernel_rfl) (by kernel_rfl) (fun _ _ _ h => h) ⟨Or.inl ⟨by rfl, ?_⟩, fun _ => rfl⟩ ?_; rotate_left; (focus (intro w; go_simp; try (with_reducible rfl))); try simp only [List.getElem_toArray, List.getElem_cons_succ, List.getElem_cons_zero, Act.put, List.setIfInBounds_toArray, List.set_cons_zero, List.set_cons_succ]); (refine wpAnyIn_take (i := 8) (v := ?_) rfl rfl (by kernel_rfl) (by kernel_rfl) (by kernel_rfl) (fun _ _ _ h => h) ⟨Or.inl ⟨by rfl, ?_⟩, fun _ => rfl⟩ ?_; rotate_left; (focus (intro w; go_simp; try (with_reducible rfl))); try simp only [List.getElem_toArray, List.getElem_cons_succ, List.getElem_cons_zero, Act.put, List.setIfInBounds_toArray, List.set_cons_zero, List.set_cons_succ]); (refine wpAnyIn_take (i := 9) (v := undef) rfl rfl (by kernel_rfl) (by kernel_rfl) (by kernel_rfl) (fun _ _ _ h => h) ⟨Or.inr ⟨by rfl, rfl⟩, fun _ => rfl⟩ ?_; try simp only [List.getElem_toArray, List.getElem_cons_succ, List.getElem_cons_zero, Act.put, List.setIfInBounds_toArray, List.set_cons_zero, List.set_cons_succ]); (refine wpAnyIn_take (i := 10) (v := undef) rfl rfl (by kernel_rfl) (by kernel_rfl) (by kernel_rfl) (fun _ _ _ h => h) ⟨Or.inr ⟨by rfl, rfl⟩, fun _ => rfl⟩ ?_; try simp only [List.getElem_toArray, List.getElem_cons_succ, List.getElem_cons_zero, Act.put, List.setIfInBounds_toArray, List.set_cons_zero, List.set_cons_succ]); (refine wpAnyIn_take (i := 11) (v := undef) rfl rfl (by kernel_rfl) (by kernel_rfl) (by kernel_rfl) (fun _ _ _ h => h) ⟨Or.inr ⟨by rfl, rfl⟩, fun _ => rfl⟩ ?_; try simp only [List.getElem_toArray, List.getElem_cons_succ, List.getElem_cons_zero, Act.put, List.setIfInBounds_toArray, List.set_cons_zero, List.set_cons_succ]); (refine wpAnyIn_take (i := 12) (v := undef) rfl rfl (by kernel_rfl) (by kernel_rfl) (by kernel_rfl) (fun _ _ _ h => h) ⟨Or.inr ⟨by rfl, rfl⟩, fun _ => rfl⟩ ?_; try simp only [List.getElem_toArray, List.getElem_cons_succ, List.getElem_cons_zero, Act.put, List.setIfInBounds_toArray, List.set_cons_zero, List.set_cons_succ]); (refine wpAnyIn_take (i := 13) (v := undef) rfl rfl (by kernel_rfl) (by kernel_rfl) (by kernel_rfl) (fun _ _ _ h => h) ⟨Or.inr ⟨by rfl, rfl⟩, fun _ => rfl⟩ ?_; try simp only [List.getElem_toArray, List.getElem_cons_succ, List.getElem_cons_zero, Act.put, List.setIfInBounds_toArray, List.set_cons_zero, List.set_cons_succ]); (refine wpAnyIn_take (i := 14) (v := undef) rfl rfl (by kernel_rfl) (by kernel_rfl) (by kernel_rfl) (fun _ _ _ h => h) ⟨Or.inr ⟨by rfl, rfl⟩, fun _ => rfl⟩ ?_; try simp only [List.getElem_toArray, List.getElem_cons_succ, List.getElem_cons_zero, Act.put, List.setIfInBounds_toArray, List.set_cons_zero, List.set_cons_succ]); (refine wpAnyIn_take (i := 15) (v := ?_) rfl rfl (by kernel_rfl) (by kernel_rfl) (by kernel_rfl) (fun _ _ _ h => h) ⟨Or.inl ⟨by rfl, ?_⟩, fun _ => rfl⟩ ?_; rotate_left; (focus (intro w; go_simp; try (with_reducible rfl))); try simp only [List.getElem_toArray, List.getElem_cons_succ, List.getElem_cons_zero, Act.put, List.setIfInBounds_toArray, List.set_cons_zero, List.set_cons_succ]); refine wpAnyIn_done (by kernel_rfl) ?_ _; gi_wp2; gi_meet; refine .inr ⟨rfl, ⟨.inl ⟨xs, rfl, ?_⟩⟩⟩; exact HNIL.out _ (below_then (below_drew' (Below.refl _ _)) HB.out))
        · (go_simp; (refine hK _ _ ?_; clear hK K; try simp only [List.getElem_toArray, List.getElem_cons_succ, List.getElem_cons_zero, Act.put, List.setIfInBounds_toArray, List.set_cons_zero, List.set_cons_succ]))
          (refine wpAnyIn_ready (rs := [0]) (by kernel_rfl) (by simp) ?_; refine AllReadyIn.cons rfl (fun K hK => ?_) AllReadyIn.nil)
          (go_simp; (refine hK _ _ ?_; clear hK K; try simp only [List.getElem_toArray, List.getElem_cons_succ, List.getElem_cons_zero, Act.put, List.setIfInBounds_toArray, List.set_cons_zero, List.set_cons_succ]))
          (((refine wpAnyIn_ready (rs := [2]) (by kernel_rfl) (by simp) ?_; refine AllReadyIn.cons rfl (fun K hK => ?_) AllReadyIn.nil); go_simp; gi_at_call 40; refine (HH.out _ _ HU.out.bel.drew false HS.out).mono ?_; rintro e w1 ⟨rfl, hb⟩; have HB := Sd.mk hb; clear hb; (refine hK _ _ ?_; clear hK K; try simp only [List.getElem_toArray, List.getElem_cons_succ, List.getElem_cons_zero, Act.put, List.setIfInBounds_toArray, List.set_cons_zero, List.set_cons_succ]); (refine wpAnyIn_take (i := 3) (v := ?_) rfl rfl (by kernel_rfl) (by kernel_rfl) (by kernel_rfl) (fun _ _ _ h => h) ⟨Or.inl ⟨by rfl, ?_⟩, fun _ => rfl⟩ ?_; rotate_left; (focus (intro w; go_simp; try (with_reducible rfl))); try simp only [List.getElem_toArray, List.getElem_cons_succ, List.getElem_cons_zero, Act.put, List.setIfInBounds_toArray, List.set_cons_zero, List.set_cons_succ])); (refine wpAnyIn_take (i := 4) (v := undef) rfl rfl (by kernel_rfl) (by kernel_rfl) (by kernel_rfl) (fun _ _ _ h => h) ⟨Or.inr ⟨by rfl, rfl⟩, fun _ => rfl⟩ ?_; try simp only [List.getElem_toArray, List.getElem_cons_succ, List.getElem_cons_zero, Act.put, List.setIfInBounds_toArray, List.set_cons_zero, List.set_cons_succ]); (refine wpAnyIn_take (i := 5) (v := undef) rfl rfl (by kernel_rfl) (by kernel_rfl) (by kernel_rfl) (fun _ _ _ h => h) ⟨Or.inr ⟨by rfl, rfl⟩, fun _ => rfl⟩ ?_; try simp only [List.getElem_toArray, List.getElem_cons_succ, List.getElem_cons_zero, Act.put, List.setIfInBounds_toArray, List.set_cons_zero, List.set_cons_succ]); (refine wpAnyIn_take (i := 6) (v := undef) rfl rfl (by kernel_rfl) (by kernel_rfl) (by kernel_rfl) (fun _ _ _ h => h) ⟨Or.inr ⟨by rfl, rfl⟩, fun _ => rfl⟩ ?_; try simp only [List.getElem_toArray, List.getElem_cons_succ, List.getElem_cons_zero, Act.put, List.setIfInBounds_toArray, List.set_cons_zero, List.set_cons_succ]); (refine wpAnyIn_take (i := 7) (v := ?_) rfl rfl (by kernel_rfl) (by kernel_rfl) (by kernel_rfl) (fun _ _ _ h => h) ⟨Or.inl ⟨by rfl, ?_⟩, fun _ => rfl⟩ ?_; rotate_left; (focus (intro w; go_simp; try (with_reducible rfl))); try simp only [List.getElem_toArray, List.getElem_cons_succ, List.getElem_cons_zero, Act.put, List.setIfInBounds_toArray, List.set_cons_zero, List.set_cons_succ]); (refine wpAnyIn_take (i := 8) (v := ?_) rfl rfl (by kernel_rfl) (by kernel_rfl) (by kernel_rfl) (fun _ _ _ h => h) ⟨Or.inl ⟨by rfl, ?_⟩, fun _ => rfl⟩ ?_; rotate_left; (focus (intro w; go_simp; try (with_reducible rfl))); try simp only [List.getElem_toArray, List.getElem_cons_succ, List.getElem_cons_zero, Act.put, List.setIfInBounds_toArray, List.set_cons_zero, List.set_cons_succ]); (refine wpAnyIn_take (i := 9) (v := undef) rfl rfl (by kernel_rfl) (by kernel_rfl) (by kernel_rfl) (fun _ _ _ h => h) ⟨Or.inr ⟨by rfl, rfl⟩, fun _ => rfl⟩ ?_; try simp only [List.getElem_toArray, List.getElem_cons_succ, List.getElem_cons_zero, Act.put, List.setIfInBounds_toArray, List.set_cons_zero, List.set_cons_succ]); (refine wpAnyIn_take (i := 10) (v := undef) rfl rfl (by kernel_rfl) (by kernel_rfl) (by kernel_rfl) (fun _ _ _ h => h) ⟨Or.inr ⟨by rfl, rfl⟩, fun _ => rfl⟩ ?_; try simp only [List.getElem_toArray, List.getElem_cons_succ, List.getElem_cons_zero, Act.put, List.setIfInBounds_toArray, List.set_cons_zero, List.set_cons_succ]); (refine wpAnyIn_take (i := 11) (v := undef) rfl rfl (by kernel_rfl) (by kernel_rfl) (by kernel_rfl) (fun _ _ _ h => h) ⟨Or.inr ⟨by rfl, rfl⟩, fun _ => rfl⟩ ?_; try simp only [List.getElem_toArray, List.getElem_cons_succ, List.getElem_cons_zero, Act.put, List.setIfInBounds_toArray, List.set_cons_zero, List.set_cons_succ]); (refine wpAnyIn_take (i := 12) (v := undef) rfl rfl (by kernel_rfl) (by kernel_rfl) (by kernel_rfl) (fun _ _ _ h => h) ⟨Or.inr ⟨by rfl, rfl⟩, fun _ => rfl⟩ ?_; try simp only [List.getElem_toArray, List.getElem_cons_succ, List.getElem_cons_zero, Act.put, List.setIfInBounds_toArray, List.set_cons_zero, List.set_cons_succ]); (refine wpAnyIn_take (i := 13) (v := undef) rfl rfl (by kernel_rfl) (by kernel_rfl) (by kernel_rfl) (fun _ _ _ h => h) ⟨Or.inr ⟨by rfl, rfl⟩, fun _ => rfl⟩ ?_; try simp only [List.getElem_toArray, List.getElem_cons_succ, List.getElem_cons_zero, Act.put, List.setIfInBounds_toArray, List.set_cons_zero, List.set_cons_succ]); (refine wpAnyIn_take (i := 14) (v := undef) rfl rfl (by kernel_rfl) (by kernel_rfl) (by kernel_rfl) (fun _ _ _ h => h) ⟨Or.inr ⟨by rfl, rfl⟩, fun _ => rfl⟩ ?_; try simp only [List.getElem_toArray, List.getElem_cons_succ, List.getElem_cons_zero, Act.put, List.setIfInBounds_toArray, List.set_cons_zero, List.set_cons_succ]); (refine wpAnyIn_take (i := 15) (v := ?_) rfl rfl (by kernel_rfl) (by kernel_rfl) (by kernel_rfl) (fun _ _ _ h => h) ⟨Or.inl ⟨by rfl, ?_⟩, fun _ => rfl⟩ ?_; rotate_left; (focus (intro w; go_simp; try (with_reducible rfl))); try simp only [List.getElem_toArray, List.getElem_cons_succ, List.getElem_cons_zero, Act.put, List.setIfInBounds_toArray, List.set_cons_zero, List.set_cons_succ]); refine wpAnyIn_done (by kernel_rfl) ?_ _; gi_wp2; gi_meet; refine .inr ⟨rfl, ⟨.inl ⟨xs, rfl, ?_⟩⟩⟩; exact HNIL.out _ (below_then (below_drew' (Below.refl _ _)) HB.out))
      | true =>
        have HUP := Sd.mk (show Up f s' (xs.drop k) from by
          rcases HC.out with ⟨hk0, ⟨h1, -⟩ | h2⟩ | h3
          · rw [hs] at h1; cases h1
          · rw [hk0]; exact h2
          · exact h3)
        have HS := Sd.mk hs
        clear hs HC
        obtain ⟨rl, hrl⟩ := HUP.out.head
        have hkl : k < xs.length := by
          rcases Nat.lt_or_ge k xs.length with e | e
          · exact e
          · rw [List.drop_of_length_le e] at hrl; cases hrl
        have HTK := Sd.mk (show xs.take (k + 1) = xs.take k ++ [s'] by
          have e0 : xs[k]? = some s' := by rw [← List.head?_drop, hrl]; rfl
          rw [List.take_add_one, e0]; rfl)
        have HRL := Sd.mk (show xs.drop (k + 1) = rl by rw [← List.drop_drop, hrl]; rfl)
        clear hrl
        rcases Decidable.em (s' = f.root) with er | er
        · have kr : (s'.toList == f.root.toList) = true := by rw [Rp.str_beq]; exact decide_eq_true er
          have krn : (s'.toList != f.root.toList) = false := by rw [bne, kr]; rfl
          have HD := Sd.mk (show xs.take (k + 1) = xs from by
            have h1 := HUP.out.last er
            have h2 := congrArg List.length h1
            rw [List.length_drop] at h2
            exact List.take_of_length_le (by simp at h2; omega))
          clear er
          refine wpIn_region_any mixed ?_
          change wpAnyIn _ _ _ _ _ _ _ _ _ (World.drew _)
          (refine wpAnyIn_ready (rs := [0, 1]) (by kernel_rfl) (by simp) ?_; refine AllReadyIn.cons rfl (fun K hK => ?_) (AllReadyIn.cons rfl (fun K hK => ?_) AllReadyIn.nil))
          · (go_simp; (refine hK _ _ ?_; clear hK K; try simp only [List.getElem_toArray, List.getElem_cons_succ, List.getElem_cons_zero, Act.put, List.setIfInBounds_toArray, List.set_cons_zero, List.set_cons_succ]))
            (refine wpAnyIn_ready (rs := [1]) (by kernel_rfl) (by simp) ?_; refine AllReadyIn.cons rfl (fun K hK => ?_) AllReadyIn.nil)
            (go_simp; (refine hK _ _ ?_; clear hK K; try simp only [List.getElem_toArray, List.getElem_cons_succ, List.getElem_cons_zero, Act.put, List.setIfInBounds_toArray, List.set_cons_zero, List.set_cons_succ]))
            (((refine wpAnyIn_ready (rs := [2]) (by kernel_rfl) (by simp) ?_; refine AllReadyIn.cons rfl (fun K hK => ?_) AllReadyIn.nil); go_simp; gi_at_call 40; refine (HH.out _ _ HU.out.bel.drew true HS.out).mono ?_; rintro e w1 ⟨rfl, hb⟩; have HB := Sd.mk hb; clear hb; (refine hK _ _ ?_; clear hK K; try simp only [List.getElem_toArray, List.getElem_cons_succ, List.getElem_cons_zero, Act.put, List.setIfInBounds_toArray, List.set_cons_zero, List.set_cons_succ]); (refine wpAnyIn_take (i := 3) (v := ?_) rfl rfl (by kernel_rfl) (by kernel_rfl) (by kernel_rfl) (fun _ _ _ h => h) ⟨Or.inl ⟨by rfl, ?_⟩, fun _ => rfl⟩ ?_; rotate_left; (focus (intro w; go_simp; try (with_reducible rfl))); try simp only [List.getElem_toArray, List.getElem_cons_succ, List.getElem_cons_zero, Act.put, List.setIfInBounds_toArray, List.set_cons_zero, List.set_cons_succ])); (refine wpAnyIn_take (i := 4) (v := ?_) rfl rfl (by kernel_rfl) (by kernel_rfl) (by kernel_rfl) (fun _ _ _ h => h) ⟨Or.inl ⟨by rfl, ?_⟩, fun _ => rfl⟩ ?_; rotate_left; (focus (intro w; go_simp; try (with_reducible rfl))); try simp only [List.getElem_toArray, List.getElem_cons_succ, List.getElem_cons_zero, Act.put, List.setIfInBounds_toArray, List.set_cons_zero, List.set_cons_succ]); have HU1 := Sd.mk ((HU.out.below HN1.out (below_drew' (Below.refl _ _))).below HN1.out HB.out); have cf1 := blk_at HU1.out.ef 0 _ rfl; have ch1 := blk_at HU1.out.eh 0 _ rfl; (refine wpAnyIn_ready (rs := [5]) (by kernel_rfl) (by simp) ?_; refine AllReadyIn.cons rfl (fun K hK => ?_) AllReadyIn.nil); (go_simp; (refine hK _ _ ?_; clear hK K; try simp only [List.getElem_toArray, List.getElem_cons_succ, List.getElem_cons_zero, Act.put, List.setIfInBounds_toArray, List.set_cons_zero, List.set_cons_succ])); obtain ⟨fn, tmps, assign, body, hy, hR⟩ := HY.out (xs.take k) s' w1 (HJ.out _ _ _ HJ0.out (Tn.below (below_then (below_drew' (Below.refl _ _)) HB.out))) (by have := HXL.out; rw [List.length_take]; omega); (refine wpAnyIn_ready (rs := [6]) (by kernel_rfl) (by simp) ?_; refine AllReadyIn.cons rfl (fun K hK => ?_) AllReadyIn.nil); go_simp; refine hR.mono ?_; clear hy hR cf1 ch1; rintro e w3 (⟨rfl, hJ3, hK3⟩ | ⟨rfl, hJx3⟩); (focus (have HU3 := Sd.mk (HU1.out.kept hK3); have HN3 := Sd.mk (Nat.le_trans HN1.out (Nat.le_trans HB.out.size hK3.sz)); have HJ3 := Sd.mk hJ3; clear hJ3 hK3; have cf3 := blk_at HU3.out.ef 0 _ rfl; have ch3 := blk_at HU3.out.eh 0 _ rfl; obtain ⟨m9, ov9, pr9, rs9, hx9, -⟩ := (HFW.out.below (by rw [HN.out.1]; exact HU3.out.bel) : Fw w0 g f w3).ex; have cr3 := blk_at hx9 0 _ rfl; clear hx9; (refine hK _ _ ?_; clear hK K; try simp only [List.getElem_toArray, List.getElem_cons_succ, List.getElem_cons_zero, Act.put, List.setIfInBounds_toArray, List.set_cons_zero, List.set_cons_succ]); (refine wpAnyIn_take (i := 7) (v := ?_) rfl rfl (by kernel_rfl) (by kernel_rfl) (by kernel_rfl) (fun _ _ _ h => h) ⟨Or.inl ⟨by rfl, ?_⟩, fun _ => rfl⟩ ?_; rotate_left; (focus (intro w; go_simp; try (with_reducible rfl))); try simp only [List.getElem_toArray, List.getElem_cons_succ, List.getElem_cons_zero, Act.put, List.setIfInBounds_toArray, List.set_cons_zero, List.set_cons_succ]); (refine wpAnyIn_take (i := 8) (v := ?_) rfl rfl (by kernel_rfl) (by kernel_rfl) (by kernel_rfl) (fun _ _ _ h => h) ⟨Or.inl ⟨by rfl, ?_⟩, fun _ => rfl⟩ ?_; rotate_left; (focus (intro w; go_simp; try (with_reducible rfl))); try simp only [List.getElem_toArray, List.getElem_cons_succ, List.getElem_cons_zero, Act.put, List.setIfInBounds_toArray, List.set_cons_zero, List.set_cons_succ]); (refine wpAnyIn_ready (rs := [9, 10]) (by kernel_rfl) (by simp) ?_; refine AllReadyIn.cons rfl (fun K hK => ?_) (AllReadyIn.cons rfl (fun K hK => ?_) AllReadyIn.nil)); (focus ((go_simp; (refine hK _ _ ?_; clear hK K; try simp only [List.getElem_toArray, List.getElem_cons_succ, List.getElem_cons_zero, Act.put, List.setIfInBounds_toArray, List.set_cons_zero, List.set_cons_succ])); (refine wpAnyIn_ready (rs := [10]) (by kernel_rfl) (by simp) ?_; refine AllReadyIn.cons rfl (fun K hK => ?_) AllReadyIn.nil); (go_simp; (refine hK _ _ ?_; clear hK K; try simp only [List.getElem_toArray, List.getElem_cons_succ, List.getElem_cons_zero, Act.put, List.setIfInBounds_toArray, List.set_cons_zero, List.set_cons_succ])); (refine wpAnyIn_take (i := 11) (v := ?_) rfl rfl (by kernel_rfl) (by kernel_rfl) (by kernel_rfl) (fun _ _ _ h => h) ⟨Or.inl ⟨by rfl, ?_⟩, fun _ => rfl⟩ ?_; rotate_left; (focus (intro w; go_simp; try (with_reducible rfl))); try simp only [List.getElem_toArray, List.getElem_cons_succ, List.getElem_cons_zero, Act.put, List.setIfInBounds_toArray, List.set_cons_zero, List.set_cons_succ]); (refine wpAnyIn_take (i := 12) (v := ?_) rfl rfl (by kernel_rfl) (by kernel_rfl) (by kernel_rfl) (fun _ _ _ h => h) ⟨Or.inl ⟨by rfl, ?_⟩, fun _ => rfl⟩ ?_; rotate_left; (focus (intro w; go_simp; try (with_reducible rfl))); try simp only [List.getElem_toArray, List.getElem_cons_succ, List.getElem_cons_zero, Act.put, List.setIfInBounds_toArray, List.set_cons_zero, List.set_cons_succ]); (refine wpAnyIn_ready (rs := [13]) (by kernel_rfl) (by simp) ?_; refine AllReadyIn.cons rfl (fun K hK => ?_) AllReadyIn.nil); (go_simp; (refine hK _ _ ?_; clear hK K; try simp only [List.getElem_toArray, List.getElem_cons_succ, List.getElem_cons_zero, Act.put, List.setIfInBounds_toArray, List.set_cons_zero, List.set_cons_succ])); ((refine wpAnyIn_take (i := 14) (v := ?_) rfl rfl (by kernel_rfl) (by kernel_rfl) (by kernel_rfl) (fun _ _ _ h => h) ⟨Or.inl ⟨by rfl, ?_⟩, fun _ => rfl⟩ ?_; rotate_left; (focus (intro w; go_simp; try (with_reducible rfl))); try simp only [List.getElem_toArray, List.getElem_cons_succ, List.getElem_cons_zero, Act.put, List.setIfInBounds_toArray, List.set_cons_zero, List.set_cons_succ]); (refine wpAnyIn_take (i := 15) (v := ?_) rfl rfl (by kernel_rfl) (by kernel_rfl) (by kernel_rfl) (fun _ _ _ h => h) ⟨Or.inl ⟨by rfl, ?_⟩, fun _ => rfl⟩ ?_; rotate_left; (focus (intro w; go_simp; try (with_reducible rfl))); try simp only [List.getElem_toArray, List.getElem_cons_succ, List.getElem_cons_zero, Act.put, List.setIfInBounds_toArray, List.set_cons_zero, List.set_cons_succ]); refine wpAnyIn_done (by kernel_rfl) ?_ _; gi_wp2; gi_meet; exact .inr ⟨rfl, ⟨.inl ⟨xs, rfl, by have h := HJ3.out; rw [← HTK.out, HD.out] at h; exact h⟩⟩⟩))); (focus ((go_simp; (refine hK _ _ ?_; clear hK K; try simp only [List.getElem_toArray, List.getElem_cons_succ, List.getElem_cons_zero, Act.put, List.setIfInBounds_toArray, List.set_cons_zero, List.set_cons_succ])); (refine wpAnyIn_take (i := 11) (v := ?_) rfl rfl (by kernel_rfl) (by kernel_rfl) (by kernel_rfl) (fun _ _ _ h => h) ⟨Or.inl ⟨by rfl, ?_⟩, fun _ => rfl⟩ ?_; rotate_left; (focus (intro w; go_simp; try (with_reducible rfl))); try simp only [List.getElem_toArray, List.getElem_cons_succ, List.getElem_cons_zero, Act.put, List.setIfInBounds_toArray, List.set_cons_zero, List.set_cons_succ]); (refine wpAnyIn_take (i := 12) (v := ?_) rfl rfl (by kernel_rfl) (by kernel_rfl) (by kernel_rfl) (fun _ _ _ h => h) ⟨Or.inl ⟨by rfl, ?_⟩, fun _ => rfl⟩ ?_; rotate_left; (focus (intro w; go_simp; try (with_reducible rfl))); try simp only [List.getElem_toArray, List.getElem_cons_succ, List.getElem_cons_zero, Act.put, List.setIfInBounds_toArray, List.set_cons_zero, List.set_cons_succ]); (refine wpAnyIn_ready (rs := [9, 13]) (by kernel_rfl) (by simp) ?_; refine AllReadyIn.cons rfl (fun K hK => ?_) (AllReadyIn.cons rfl (fun K hK => ?_) AllReadyIn.nil)); (focus ((go_simp; (refine hK _ _ ?_; clear hK K; try simp only [List.getElem_toArray, List.getElem_cons_succ, List.getElem_cons_zero, Act.put, List.setIfInBounds_toArray, List.set_cons_zero, List.set_cons_succ])); (refine wpAnyIn_ready (rs := [13]) (by kernel_rfl) (by simp) ?_; refine AllReadyIn.cons rfl (fun K hK => ?_) AllReadyIn.nil); (go_simp; (refine hK _ _ ?_; clear hK K; try simp only [List.getElem_toArray, List.getElem_cons_succ, List.getElem_cons_zero, Act.put, List.setIfInBounds_toArray, List.set_cons_zero, List.set_cons_succ])); ((refine wpAnyIn_take (i := 14) (v := ?_) rfl rfl (by kernel_rfl) (by kernel_rfl) (by kernel_rfl) (fun _ _ _ h => h) ⟨Or.inl ⟨by rfl, ?_⟩, fun _ => rfl⟩ ?_; rotate_left; (focus (intro w; go_simp; try (with_reducible rfl))); try simp only [List.getElem_toArray, List.getElem_cons_succ, List.getElem_cons_zero, Act.put, List.setIfInBounds_toArray, List.set_cons_zero, List.set_cons_succ]); (refine wpAnyIn_take (i := 15) (v := ?_) rfl rfl (by kernel_rfl) (by kernel_rfl) (by kernel_rfl) (fun _ _ _ h => h) ⟨Or.inl ⟨by rfl, ?_⟩, fun _ => rfl⟩ ?_; rotate_left; (focus (intro w; go_simp; try (with_reducible rfl))); try simp only [List.getElem_toArray, List.getElem_cons_succ, List.getElem_cons_zero, Act.put, List.setIfInBounds_toArray, List.set_cons_zero, List.set_cons_succ]); refine wpAnyIn_done (by kernel_rfl) ?_ _; gi_wp2; gi_meet; exact .inr ⟨rfl, ⟨.inl ⟨xs, rfl, by have h := HJ3.out; rw [← HTK.out, HD.out] at h; exact h⟩⟩⟩))); (focus ((go_simp; (refine hK _ _ ?_; clear hK K; try simp only [List.getElem_toArray, List.getElem_cons_succ, List.getElem_cons_zero, Act.put, List.setIfInBounds_toArray, List.set_cons_zero, List.set_cons_succ])); (refine wpAnyIn_ready (rs := [9]) (by kernel_rfl) (by simp) ?_; refine AllReadyIn.cons rfl (fun K hK => ?_) AllReadyIn.nil); (go_simp; (refine hK _ _ ?_; clear hK K; try simp only [List.getElem_toArray, List.getElem_cons_succ, List.getElem_cons_zero, Act.put, List.setIfInBounds_toArray, List.set_cons_zero, List.set_cons_succ])); ((refine wpAnyIn_take (i := 14) (v := ?_) rfl rfl (by kernel_rfl) (by kernel_rfl) (by kernel_rfl) (fun _ _ _ h => h) ⟨Or.inl ⟨by rfl, ?_⟩, fun _ => rfl⟩ ?_; rotate_left; (focus (intro w; go_simp; try (with_reducible rfl))); try simp only [List.getElem_toArray, List.getElem_cons_succ, List.getElem_cons_zero, Act.put, List.setIfInBounds_toArray, List.set_cons_zero, List.set_cons_succ]); (refine wpAnyIn_take (i := 15) (v := ?_) rfl rfl (by kernel_rfl) (by kernel_rfl) (by kernel_rfl) (fun _ _ _ h => h) ⟨Or.inl ⟨by rfl, ?_⟩, fun _ => rfl⟩ ?_; rotate_left; (focus (intro w; go_simp; try (with_reducible rfl))); try simp only [List.getElem_toArray, List.getElem_cons_succ, List.getElem_cons_zero, Act.put, List.setIfInBounds_toArray, List.set_cons_zero, List.set_cons_succ]); refine wpAnyIn_done (by kernel_rfl) ?_ _; gi_wp2; gi_meet; exact .inr ⟨rfl, ⟨.inl ⟨xs, rfl, by have h := HJ3.out; rw [← HTK.out, HD.out] at h; exact h⟩⟩⟩))))))); (focus (have HJX3 := Sd.mk hJx3; clear hJx3; (refine hK _ _ ?_; clear hK K; try simp only [List.getElem_toArray, List.getElem_cons_succ, List.getElem_cons_zero, Act.put, List.setIfInBounds_toArray, List.set_cons_zero, List.set_cons_succ]); (refine wpAnyIn_take (i := 7) (v := ?_) rfl rfl (by kernel_rfl) (by kernel_rfl) (by kernel_rfl) (fun _ _ _ h => h) ⟨Or.inl ⟨by rfl, ?_⟩, fun _ => rfl⟩ ?_; rotate_left; (focus (intro w; go_simp; try (with_reducible rfl))); try simp only [List.getElem_toArray, List.getElem_cons_succ, List.getElem_cons_zero, Act.put, List.setIfInBounds_toArray, List.set_cons_zero, List.set_cons_succ]); (refine wpAnyIn_take (i := 8) (v := ?_) rfl rfl (by kernel_rfl) (by kernel_rfl) (by kernel_rfl) (fun _ _ _ h => h) ⟨Or.inl ⟨by rfl, ?_⟩, fun _ => rfl⟩ ?_; rotate_left; (focus (intro w; go_simp; try (with_reducible rfl))); try simp only [List.getElem_toArray, List.getElem_cons_succ, List.getElem_cons_zero, Act.put, List.setIfInBounds_toArray, List.set_cons_zero, List.set_cons_succ]); (refine wpAnyIn_take (i := 9) (v := undef) rfl rfl (by kernel_rfl) (by kernel_rfl) (by kernel_rfl) (fun _ _ _ h => h) ⟨Or.inr ⟨by rfl, rfl⟩, fun _ => rfl⟩ ?_; try simp only [List.getElem_toArray, List.getElem_cons_succ, List.getElem_cons_zero, Act.put, List.setIfInBounds_toArray, List.set_cons_zero, List.set_cons_succ]); (refine wpAnyIn_take (i := 10) (v := undef) rfl rfl (by kernel_rfl) (by kernel_rfl) (by kernel_rfl) (fun _ _ _ h => h) ⟨Or.inr ⟨by rfl, rfl⟩, fun _ => rfl⟩ ?_; try simp only [List.getElem_toArray, List.getElem_cons_succ, List.getElem_cons_zero, Act.put, List.setIfInBounds_toArray, List.set_cons_zero, List.set_cons_succ]); (refine wpAnyIn_take (i := 11) (v := undef) rfl rfl (by kernel_rfl) (by kernel_rfl) (by kernel_rfl) (fun _ _ _ h => h) ⟨Or.inr ⟨by rfl, rfl⟩, fun _ => rfl⟩ ?_; try simp only [List.getElem_toArray, List.getElem_cons_succ, List.getElem_cons_zero, Act.put, List.setIfInBounds_toArray, List.set_cons_zero, List.set_cons_succ]); (refine wpAnyIn_take (i := 12) (v := undef) rfl rfl (by kernel_rfl) (by kernel_rfl) (by kernel_rfl) (fun _ _ _ h => h) ⟨Or.inr ⟨by rfl, rfl⟩, fun _ => rfl⟩ ?_; try simp only [List.getElem_toArray, List.getElem_cons_succ, List.getElem_cons_zero, Act.put, List.setIfInBounds_toArray, List.set_cons_zero, List.set_cons_succ]); (refine wpAnyIn_take (i := 13) (v := undef) rfl rfl (by kernel_rfl) (by kernel_rfl) (by kernel_rfl) (fun _ _ _ h => h) ⟨Or.inr ⟨by rfl, rfl⟩, fun _ => rfl⟩ ?_; try simp only [List.getElem_toArray, List.getElem_cons_succ, List.getElem_cons_zero, Act.put, List.setIfInBounds_toArray, List.set_cons_zero, List.set_cons_succ]); (refine wpAnyIn_take (i := 14) (v := undef) rfl rfl (by kernel_rfl) (by kernel_rfl) (by kernel_rfl) (fun _ _ _ h => h) ⟨Or.inr ⟨by rfl, rfl⟩, fun _ => rfl⟩ ?_; try simp only [List.getElem_toArray, List.getElem_cons_succ, List.getElem_cons_zero, Act.put, List.setIfInBounds_toArray, List.set_cons_zero, List.set_cons_succ]); (refine wpAnyIn_take (i := 15) (v := ?_) rfl rfl (by kernel_rfl) (by kernel_rfl) (by kernel_rfl) (fun _ _ _ h => h) ⟨Or.inl ⟨by rfl, ?_⟩, fun _ => rfl⟩ ?_; rotate_left; (focus (intro w; go_simp; try (with_reducible rfl))); try simp only [List.getElem_toArray, List.getElem_cons_succ, List.getElem_cons_zero, Act.put, List.setIfInBounds_toArray, List.set_cons_zero, List.set_cons_succ]); refine wpAnyIn_done (by kernel_rfl) ?_ _; gi_wp2; gi_meet; exact .inr ⟨rfl, ⟨.inr ⟨xs.take (k + 1), List.take_prefix _ _, by rw [HTK.out]; exact HJX3.out⟩⟩⟩)))
          · (go_simp; (refine hK _ _ ?_; clear hK K; try simp only [List.getElem_toArray, List.getElem_cons_succ, List.getElem_cons_zero, Act.put, List.setIfInBounds_toArray, List.set_cons_zero, List.set_cons_succ]))
            (refine wpAnyIn_ready (rs := [0]) (by kernel_rfl) (by simp) ?_; refine AllReadyIn.cons rfl (fun K hK => ?_) AllReadyIn.nil)
            (go_simp; (refine hK _ _ ?_; clear hK K; try simp only [List.getElem_toArray, List.getElem_cons_succ, List.getElem_cons_zero, Act.put, List.setIfInBounds_toArray, List.set_cons_zero, List.set_cons_succ]))
            (((refine wpAnyIn_ready (rs := [2]) (by kernel_rfl) (by simp) ?_; refine AllReadyIn.cons rfl (fun K hK => ?_) AllReadyIn.nil); go_simp; gi_at_call 40; refine (HH.out _ _ HU.out.bel.drew true HS.out).mono ?_; rintro e w1 ⟨rfl, hb⟩; have HB := Sd.mk hb; clear hb; (refine hK _ _ ?_; clear hK K; try simp only [List.getElem_toArray, List.getElem_cons_succ, List.getElem_cons_zero, Act.put, List.setIfInBounds_toArray, List.set_cons_zero, List.set_cons_succ]); (refine wpAnyIn_take (i := 3) (v := ?_) rfl rfl (by kernel_rfl) (by kernel_rfl) (by kernel_rfl) (fun _ _ _ h => h) ⟨Or.inl ⟨by rfl, ?_⟩, fun _ => rfl⟩ ?_; rotate_left; (focus (intro w; go_simp; try (with_reducible rfl))); try simp only [List.getElem_toArray, List.getElem_cons_succ, List.getElem_cons_zero, Act.put, List.setIfInBounds_toArray, List.set_cons_zero, List.set_cons_succ])); (refine wpAnyIn_take (i := 4) (v := ?_) rfl rfl (by kernel_rfl) (by kernel_rfl) (by kernel_rfl) (fun _ _ _ h => h) ⟨Or.inl ⟨by rfl, ?_⟩, fun _ => rfl⟩ ?_; rotate_left; (focus (intro w; go_simp; try (with_reducible rfl))); try simp only [List.getElem_toArray, List.getElem_cons_succ, List.getElem_cons_zero, Act.put, List.setIfInBounds_toArray, List.set_cons_zero, List.set_cons_succ]); have HU1 := Sd.mk ((HU.out.below HN1.out (below_drew' (Below.refl _ _))).below HN1.out HB.out); have cf1 := blk_at HU1.out.ef 0 _ rfl; have ch1 := blk_at HU1.out.eh 0 _ rfl; (refine wpAnyIn_ready (rs := [5]) (by kernel_rfl) (by simp) ?_; refine AllReadyIn.cons rfl (fun K hK => ?_) AllReadyIn.nil); (go_simp; (refine hK _ _ ?_; clear hK K; try simp only [List.getElem_toArray, List.getElem_cons_succ, List.getElem_cons_zero, Act.put, List.setIfInBounds_toArray, List.set_cons_zero, List.set_cons_succ])); obtain ⟨fn, tmps, assign, body, hy, hR⟩ := HY.out (xs.take k) s' w1 (HJ.out _ _ _ HJ0.out (Tn.below (below_then (below_drew' (Below.refl _ _)) HB.out))) (by have := HXL.out; rw [List.length_take]; omega); (refine wpAnyIn_ready (rs := [6]) (by kernel_rfl) (by simp) ?_; refine AllReadyIn.cons rfl (fun K hK => ?_) AllReadyIn.nil); go_simp; refine hR.mono ?_; clear hy hR cf1 ch1; rintro e w3 (⟨rfl, hJ3, hK3⟩ | ⟨rfl, hJx3⟩); (focus (have HU3 := Sd.mk (HU1.out.kept hK3); have HN3 := Sd.mk (Nat.le_trans HN1.out (Nat.le_trans HB.out.size hK3.sz)); have HJ3 := Sd.mk hJ3; clear hJ3 hK3; have cf3 := blk_at HU3.out.ef 0 _ rfl; have ch3 := blk_at HU3.out.eh 0 _ rfl; obtain ⟨m9, ov9, pr9, rs9, hx9, -⟩ := (HFW.out.below (by rw [HN.out.1]; exact HU3.out.bel) : Fw w0 g f w3).ex; have cr3 := blk_at hx9 0 _ rfl; clear hx9; (refine hK _ _ ?_; clear hK K; try simp only [List.getElem_toArray, List.getElem_cons_succ, List.getElem_cons_zero, Act.put, List.setIfInBounds_toArray, List.set_cons_zero, List.set_cons_succ]); (refine wpAnyIn_take (i := 7) (v := ?_) rfl rfl (by kernel_rfl) (by kernel_rfl) (by kernel_rfl) (fun _ _ _ h => h) ⟨Or.inl ⟨by rfl, ?_⟩, fun _ => rfl⟩ ?_; rotate_left; (focus (intro w; go_simp; try (with_reducible rfl))); try simp only [List.getElem_toArray, List.getElem_cons_succ, List.getElem_cons_zero, Act.put, List.setIfInBounds_toArray, List.set_cons_zero, List.set_cons_succ]); (refine wpAnyIn_take (i := 8) (v := ?_) rfl rfl (by kernel_rfl) (by kernel_rfl) (by kernel_rfl) (fun _ _ _ h => h) ⟨Or.inl ⟨by rfl, ?_⟩, fun _ => rfl⟩ ?_; rotate_left; (focus (intro w; go_simp; try (with_reducible rfl))); try simp only [List.getElem_toArray, List.getElem_cons_succ, List.getElem_cons_zero, Act.put, List.setIfInBounds_toArray, List.set_cons_zero, List.set_cons_succ]); (refine wpAnyIn_ready (rs := [9, 10]) (by kernel_rfl) (by simp) ?_; refine AllReadyIn.cons rfl (fun K hK => ?_) (AllReadyIn.cons rfl (fun K hK => ?_) AllReadyIn.nil)); (focus ((go_simp; (refine hK _ _ ?_; clear hK K; try simp only [List.getElem_toArray, List.getElem_cons_succ, List.getElem_cons_zero, Act.put, List.setIfInBounds_toArray, List.set_cons_zero, List.set_cons_succ])); (refine wpAnyIn_ready (rs := [10]) (by kernel_rfl) (by simp) ?_; refine AllReadyIn.cons rfl (fun K hK => ?_) AllReadyIn.nil); (go_simp; (refine hK _ _ ?_; clear hK K; try simp only [List.getElem_toArray, List.getElem_cons_succ, List.getElem_cons_zero, Act.put, List.setIfInBounds_toArray, List.set_cons_zero, List.set_cons_succ])); (refine wpAnyIn_take (i := 11) (v := ?_) rfl rfl (by kernel_rfl) (by kernel_rfl) (by kernel_rfl) (fun _ _ _ h => h) ⟨Or.inl ⟨by rfl, ?_⟩, fun _ => rfl⟩ ?_; rotate_left; (focus (intro w; go_simp; try (with_reducible rfl))); try simp only [List.getElem_toArray, List.getElem_cons_succ, List.getElem_cons_zero, Act.put, List.setIfInBounds_toArray, List.set_cons_zero, List.set_cons_succ]); (refine wpAnyIn_take (i := 12) (v := ?_) rfl rfl (by kernel_rfl) (by kernel_rfl) (by kernel_rfl) (fun _ _ _ h => h) ⟨Or.inl ⟨by rfl, ?_⟩, fun _ => rfl⟩ ?_; rotate_left; (focus (intro w; go_simp; try (with_reducible rfl))); try simp only [List.getElem_toArray, List.getElem_cons_succ, List.getElem_cons_zero, Act.put, List.setIfInBounds_toArray, List.set_cons_zero, List.set_cons_succ]); (refine wpAnyIn_ready (rs := [13]) (by kernel_rfl) (by simp) ?_; refine AllReadyIn.cons rfl (fun K hK => ?_) AllReadyIn.nil); (go_simp; (refine hK _ _ ?_; clear hK K; try simp only [List.getElem_toArray, List.getElem_cons_succ, List.getElem_cons_zero, Act.put, List.setIfInBounds_toArray, List.set_cons_zero, List.set_cons_succ])); ((refine wpAnyIn_take (i := 14) (v := ?_) rfl rfl (by kernel_rfl) (by kernel_rfl) (by kernel_rfl) (fun _ _ _ h => h) ⟨Or.inl ⟨by rfl, ?_⟩, fun _ => rfl⟩ ?_; rotate_left; (focus (intro w; go_simp; try (with_reducible rfl))); try simp only [List.getElem_toArray, List.getElem_cons_succ, List.getElem_cons_zero, Act.put, List.setIfInBounds_toArray, List.set_cons_zero, List.set_cons_succ]); (refine wpAnyIn_take (i := 15) (v := ?_) rfl rfl (by kernel_rfl) (by kernel_rfl) (by kernel_rfl) (fun _ _ _ h => h) ⟨Or.inl ⟨by rfl, ?_⟩, fun _ => rfl⟩ ?_; rotate_left; (focus (intro w; go_simp; try (with_reducible rfl))); try simp only [List.getElem_toArray, List.getElem_cons_succ, List.getElem_cons_zero, Act.put, List.setIfInBounds_toArray, List.set_cons_zero, List.set_cons_succ]); refine wpAnyIn_done (by kernel_rfl) ?_ _; gi_wp2; gi_meet; exact .inr ⟨rfl, ⟨.inl ⟨xs, rfl, by have h := HJ3.out; rw [← HTK.out, HD.out] at h; exact h⟩⟩⟩))); (focus ((go_simp; (refine hK _ _ ?_; clear hK K; try simp only [List.getElem_toArray, List.getElem_cons_succ, List.getElem_cons_zero, Act.put, List.setIfInBounds_toArray, List.set_cons_zero, List.set_cons_succ])); (refine wpAnyIn_take (i := 11) (v := ?_) rfl rfl (by kernel_rfl) (by kernel_rfl) (by kernel_rfl) (fun _ _ _ h => h) ⟨Or.inl ⟨by rfl, ?_⟩, fun _ => rfl⟩ ?_; rotate_left; (focus (intro w; go_simp; try (with_reducible rfl))); try simp only [List.getElem_toArray, List.getElem_cons_succ, List.getElem_cons_zero, Act.put, List.setIfInBounds_toArray, List.set_cons_zero, List.set_cons_succ]); (refine wpAnyIn_take (i := 12) (v := ?_) rfl rfl (by kernel_rfl) (by kernel_rfl) (by kernel_rfl) (fun _ _ _ h => h) ⟨Or.inl ⟨by rfl, ?_⟩, fun _ => rfl⟩ ?_; rotate_left; (focus (intro w; go_simp; try (with_reducible rfl))); try simp only [List.getElem_toArray, List.getElem_cons_succ, List.getElem_cons_zero, Act.put, List.setIfInBounds_toArray, List.set_cons_zero, List.set_cons_succ]); (refine wpAnyIn_ready (rs := [9, 13]) (by kernel_rfl) (by simp) ?_; refine AllReadyIn.cons rfl (fun K hK => ?_) (AllReadyIn.cons rfl (fun K hK => ?_) AllReadyIn.nil)); (focus ((go_simp; (refine hK _ _ ?_; clear hK K; try simp only [List.getElem_toArray, List.getElem_cons_succ, List.getElem_cons_zero, Act.put, List.setIfInBounds_toArray, List.set_cons_zero, List.set_cons_succ])); (refine wpAnyIn_ready (rs := [13]) (by kernel_rfl) (by simp) ?_; refine AllReadyIn.cons rfl (fun K hK => ?_) AllReadyIn.nil); (go_simp; (refine hK _ _ ?_; clear hK K; try simp only [List.getElem_toArray, List.getElem_cons_succ, List.getElem_cons_zero, Act.put, List.setIfInBounds_toArray, List.set_cons_zero, List.set_cons_succ])); ((refine wpAnyIn_take (i := 14) (v := ?_) rfl rfl (by kernel_rfl) (by kernel_rfl) (by kernel_rfl) (fun _ _ _ h => h) ⟨Or.inl ⟨by rfl, ?_⟩, fun _ => rfl⟩ ?_; rotate_left; (focus (intro w; go_simp; try (with_reducible rfl))); try simp only [List.getElem_toArray, List.getElem_cons_succ, List.getElem_cons_zero, Act.put, List.setIfInBounds_toArray, List.set_cons_zero, List.set_cons_succ]); (refine wpAnyIn_take (i := 15) (v := ?_) rfl rfl (by kernel_rfl) (by kernel_rfl) (by kernel_rfl) (fun _ _ _ h => h) ⟨Or.inl ⟨by rfl, ?_⟩, fun _ => rfl⟩ ?_; rotate_left; (focus (intro w; go_simp; try (with_reducible rfl))); try simp only [List.getElem_toArray, List.getElem_cons_succ, List.getElem_cons_zero, Act.put, List.setIfInBounds_toArray, List.set_cons_zero, List.set_cons_succ]); refine wpAnyIn_done (by kernel_rfl) ?_ _; gi_wp2; gi_meet; exact .inr ⟨rfl, ⟨.inl ⟨xs, rfl, by have h := HJ3.out; rw [← HTK.out, HD.out] at h; exact h⟩⟩⟩))); (focus ((go_simp; (refine hK _ _ ?_; clear hK K; try simp only [List.getElem_toArray, List.getElem_cons_succ, List.getElem_cons_zero, Act.put, List.setIfInBounds_toArray, List.set_cons_zero, List.set_cons_succ])); (refine wpAnyIn_ready (rs := [9]) (by kernel_rfl) (by simp) ?_; refine AllReadyIn.cons rfl (fun K hK => ?_) AllReadyIn.nil); (go_simp; (refine hK _ _ ?_; clear hK K; try simp only [List.getElem_toArray, List.getElem_cons_succ, List.getElem_cons_zero, Act.put, List.setIfInBounds_toArray, List.set_cons_zero, List.set_cons_succ])); ((refine wpAnyIn_take (i := 14) (v := ?_) rfl rfl (by kernel_rfl) (by kernel_rfl) (by kernel_rfl) (fun _ _ _ h => h) ⟨Or.inl ⟨by rfl, ?_⟩, fun _ => rfl⟩ ?_; rotate_left; (focus (intro w; go_simp; try (with_reducible rfl))); try simp only [List.getElem_toArray, List.getElem_cons_succ, List.getElem_cons_zero, Act.put, List.setIfInBounds_toArray, List.set_cons_zero, List.set_cons_succ]); (refine wpAnyIn_take (i := 15) (v := ?_) rfl rfl (by kernel_rfl) (by kernel_rfl) (by kernel_rfl) (fun _ _ _ h => h) ⟨Or.inl ⟨by rfl, ?_⟩, fun _ => rfl⟩ ?_; rotate_left; (focus (intro w; go_simp; try (with_reducible rfl))); try simp only [List.getElem_toArray, List.getElem_cons_succ, List.getElem_cons_zero, Act.put, List.setIfInBounds_toArray, List.set_cons_zero, List.set_cons_succ]); refine wpAnyIn_done (by kernel_rfl) ?_ _; gi_wp2; gi_meet; exact .inr ⟨rfl, ⟨.inl ⟨xs, rfl, by have h := HJ3.out; rw [← HTK.out, HD.out] at h; exact h⟩⟩⟩))))))); (focus (have HJX3 := Sd.mk hJx3; clear hJx3; (refine hK _ _ ?_; clear hK K; try simp only [List.getElem_toArray, List.getElem_cons_succ, List.getElem_cons_zero, Act.put, List.setIfInBounds_toArray, List.set_cons_zero, List.set_cons_succ]); (refine wpAnyIn_take (i := 7) (v := ?_) rfl rfl (by kernel_rfl) (by kernel_rfl) (by kernel_rfl) (fun _ _ _ h => h) ⟨Or.inl ⟨by rfl, ?_⟩, fun _ => rfl⟩ ?_; rotate_left; (focus (intro w; go_simp; try (with_reducible rfl))); try simp only [List.getElem_toArray, List.getElem_cons_succ, List.getElem_cons_zero, Act.put, List.setIfInBounds_toArray, List.set_cons_zero, List.set_cons_succ]); (refine wpAnyIn_take (i := 8) (v := ?_) rfl rfl (by kernel_rfl) (by kernel_rfl) (by kernel_rfl) (fun _ _ _ h => h) ⟨Or.inl ⟨by rfl, ?_⟩, fun _ => rfl⟩ ?_; rotate_left; (focus (intro w; go_simp; try (with_reducible rfl))); try simp only [List.getElem_toArray, List.getElem_cons_succ, List.getElem_cons_zero, Act.put, List.setIfInBounds_toArray, List.set_cons_zero, List.set_cons_succ]); (refine wpAnyIn_take (i := 9) (v := undef) rfl rfl (by kernel_rfl) (by kernel_rfl) (by kernel_rfl) (fun _ _ _ h => h) ⟨Or.inr ⟨by rfl, rfl⟩, fun _ => rfl⟩ ?_; try simp only [List.getElem_toArray, List.getElem_cons_succ, List.getElem_cons_zero, Act.put, List.setIfInBounds_toArray, List.set_cons_zero, List.set_cons_succ]); (refine wpAnyIn_take (i := 10) (v := undef) rfl rfl (by kernel_rfl) (by kernel_rfl) (by kernel_rfl) (fun _ _ _ h => h) ⟨Or.inr ⟨by rfl, rfl⟩, fun _ => rfl⟩ ?_; try simp only [List.getElem_toArray, List.getElem_cons_succ, List.getElem_cons_zero, Act.put, List.setIfInBounds_toArray, List.set_cons_zero, List.set_cons_succ]); (refine wpAnyIn_take (i := 11) (v := undef) rfl rfl (by kernel_rfl) (by kernel_rfl) (by kernel_rfl) (fun _ _ _ h => h) ⟨Or.inr ⟨by rfl, rfl⟩, fun _ => rfl⟩ ?_; try simp only [List.getElem_toArray, List.getElem_cons_succ, List.getElem_cons_zero, Act.put, List.setIfInBounds_toArray, List.set_cons_zero, List.set_cons_succ]); (refine wpAnyIn_take (i := 12) (v := undef) rfl rfl (by kernel_rfl) (by kernel_rfl) (by kernel_rfl) (fun _ _ _ h => h) ⟨Or.inr ⟨by rfl, rfl⟩, fun _ => rfl⟩ ?_; try simp only [List.getElem_toArray, List.getElem_cons_succ, List.getElem_cons_zero, Act.put, List.setIfInBounds_toArray, List.set_cons_zero, List.set_cons_succ]); (refine wpAnyIn_take (i := 13) (v := undef) rfl rfl (by kernel_rfl) (by kernel_rfl) (by kernel_rfl) (fun _ _ _ h => h) ⟨Or.inr ⟨by rfl, rfl⟩, fun _ => rfl⟩ ?_; try simp only [List.getElem_toArray, List.getElem_cons_succ, List.getElem_cons_zero, Act.put, List.setIfInBounds_toArray, List.set_cons_zero, List.set_cons_succ]); (refine wpAnyIn_take (i := 14) (v := undef) rfl rfl (by kernel_rfl) (by kernel_rfl) (by kernel_rfl) (fun _ _ _ h => h) ⟨Or.inr ⟨by rfl, rfl⟩, fun _ => rfl⟩ ?_; try simp only [List.getElem_toArray, List.getElem_cons_succ, List.getElem_cons_zero, Act.put, List.setIfInBounds_toArray, List.set_cons_zero, List.set_cons_succ]); (refine wpAnyIn_take (i := 15) (v := ?_) rfl rfl (by kernel_rfl) (by kernel_rfl) (by kernel_rfl) (fun _ _ _ h => h) ⟨Or.inl ⟨by rfl, ?_⟩, fun _ => rfl⟩ ?_; rotate_left; (focus (intro w; go_simp; try (with_reducible rfl))); try simp only [List.getElem_toArray, List.getElem_cons_succ, List.getElem_cons_zero, Act.put, List.setIfInBounds_toArray, List.set_cons_zero, List.set_cons_succ]); refine wpAnyIn_done (by kernel_rfl) ?_ _; gi_wp2; gi_meet; exact .inr ⟨rfl, ⟨.inr ⟨xs.take (k + 1), List.take_prefix _ _, by rw [HTK.out]; exact HJX3.out⟩⟩⟩)))
        · have kr : (s'.toList == f.root.toList) = false := by rw [Rp.str_beq]; exact decide_eq_false er
          have krn : (s'.toList != f.root.toList) = true := by rw [bne, kr]; rfl
          obtain ⟨x, r, h1, h2, h3⟩ := HUP.out.next er
          have HD := Sd.mk (show f.root ≠ s' ∧ ndAt f.nodes s' = some x ∧ Up f x.b.just.block (xs.drop (k + 1)) from ⟨fun e => er e.symm, h2, by rw [← List.drop_drop, h1]; exact h3⟩)
          clear er h1 h2 h3
          refine wpIn_region_any mixed ?_
          change wpAnyIn _ _ _ _ _ _ _ _ _ (World.drew _)
          (refine wpAnyIn_ready (rs := [0, 1]) (by kernel_rfl) (by simp) ?_; refine AllReadyIn.cons rfl (fun K hK => ?_) (AllReadyIn.cons rfl (fun K hK => ?_) AllReadyIn.nil))
          · (go_simp; (refine hK _ _ ?_; clear hK K; try simp only [List.getElem_toArray, List.getElem_cons_succ, List.getElem_cons_zero, Act.put, List.setIfInBounds_toArray, List.set_cons_zero, List.set_cons_succ]))
            (refine wpAnyIn_ready (rs := [1]) (by kernel_rfl) (by simp) ?_; refine AllReadyIn.cons rfl (fun K hK => ?_) AllReadyIn.nil)
            (go_simp; (refine hK _ _ ?_; clear hK K; try simp only [List.getElem_toArray, List.getElem_cons_succ, List.getElem_cons_zero, Act.put, List.setIfInBounds_toArray, List.set_cons_zero, List.set_cons_succ]))
            (((refine wpAnyIn_ready (rs := [2]) (by kernel_rfl) (by simp) ?_; refine AllReadyIn.cons rfl (fun K hK => ?_) AllReadyIn.nil); go_simp; gi_at_call 40; refine (HH.out _ _ HU.out.bel.drew true HS.out).mono ?_; rintro e w1 ⟨rfl, hb⟩; have HB := Sd.mk hb; clear hb; (refine hK _ _ ?_; clear hK K; try simp only [List.getElem_toArray, List.getElem_cons_succ, List.getElem_cons_zero, Act.put, List.setIfInBounds_toArray, List.set_cons_zero, List.set_cons_succ]); (refine wpAnyIn_take (i := 3) (v := ?_) rfl rfl (by kernel_rfl) (by kernel_rfl) (by kernel_rfl) (fun _ _ _ h => h) ⟨Or.inl ⟨by rfl, ?_⟩, fun _ => rfl⟩ ?_; rotate_left; (focus (intro w; go_simp; try (with_reducible rfl))); try simp only [List.getElem_toArray, List.getElem_cons_succ, List.getElem_cons_zero, Act.put, List.setIfInBounds_toArray, List.set_cons_zero, List.set_cons_succ])); (refine wpAnyIn_take (i := 4) (v := ?_) rfl rfl (by kernel_rfl) (by kernel_rfl) (by kernel_rfl) (fun _ _ _ h => h) ⟨Or.inl ⟨by rfl, ?_⟩, fun _ => rfl⟩ ?_; rotate_left; (focus (intro w; go_simp; try (with_reducible rfl))); try simp only [List.getElem_toArray, List.getElem_cons_succ, List.getElem_cons_zero, Act.put, List.setIfInBounds_toArray, List.set_cons_zero, List.set_cons_succ]); have HU1 := Sd.mk ((HU.out.below HN1.out (below_drew' (Below.refl _ _))).below HN1.out HB.out); have cf1 := blk_at HU1.out.ef 0 _ rfl; have ch1 := blk_at HU1.out.eh 0 _ rfl; (refine wpAnyIn_ready (rs := [5]) (by kernel_rfl) (by simp) ?_; refine AllReadyIn.cons rfl (fun K hK => ?_) AllReadyIn.nil); (go_simp; (refine hK _ _ ?_; clear hK K; try simp only [List.getElem_toArray, List.getElem_cons_succ, List.getElem_cons_zero, Act.put, List.setIfInBounds_toArray, List.set_cons_zero, List.set_cons_succ])); obtain ⟨fn, tmps, assign, body, hy, hR⟩ := HY.out (xs.take k) s' w1 (HJ.out _ _ _ HJ0.out (Tn.below (below_then (below_drew' (Below.refl _ _)) HB.out))) (by have := HXL.out; rw [List.length_take]; omega); (refine wpAnyIn_ready (rs := [6]) (by kernel_rfl) (by simp) ?_; refine AllReadyIn.cons rfl (fun K hK => ?_) AllReadyIn.nil); go_simp; refine hR.mono ?_; clear hy hR cf1 ch1; rintro e w3 (⟨rfl, hJ3, hK3⟩ | ⟨rfl, hJx3⟩); (focus (have HU3 := Sd.mk (HU1.out.kept hK3); have HN3 := Sd.mk (Nat.le_trans HN1.out (Nat.le_trans HB.out.size hK3.sz)); have HJ3 := Sd.mk hJ3; clear hJ3 hK3; have cf3 := blk_at HU3.out.ef 0 _ rfl; have ch3 := blk_at HU3.out.eh 0 _ rfl; obtain ⟨m9, ov9, pr9, rs9, hx9, -⟩ := (HFW.out.below (by rw [HN.out.1]; exact HU3.out.bel) : Fw w0 g f w3).ex; have cr3 := blk_at hx9 0 _ rfl; clear hx9; (refine hK _ _ ?_; clear hK K; try simp only [List.getElem_toArray, List.getElem_cons_succ, List.getElem_cons_zero, Act.put, List.setIfInBounds_toArray, List.set_cons_zero, List.set_cons_succ]); (refine wpAnyIn_take (i := 7) (v := ?_) rfl rfl (by kernel_rfl) (by kernel_rfl) (by kernel_rfl) (fun _ _ _ h => h) ⟨Or.inl ⟨by rfl, ?_⟩, fun _ => rfl⟩ ?_; rotate_left; (focus (intro w; go_simp; try (with_reducible rfl))); try simp only [List.getElem_toArray, List.getElem_cons_succ, List.getElem_cons_zero, Act.put, List.setIfInBounds_toArray, List.set_cons_zero, List.set_cons_succ]); (refine wpAnyIn_take (i := 8) (v := ?_) rfl rfl (by kernel_rfl) (by kernel_rfl) (by kernel_rfl) (fun _ _ _ h => h) ⟨Or.inl ⟨by rfl, ?_⟩, fun _ => rfl⟩ ?_; rotate_left; (focus (intro w; go_simp; try (with_reducible rfl))); try simp only [List.getElem_toArray, List.getElem_cons_succ, List.getElem_cons_zero, Act.put, List.setIfInBounds_toArray, List.set_cons_zero, List.set_cons_succ]); (refine wpAnyIn_ready (rs := [9, 10]) (by kernel_rfl) (by simp) ?_; refine AllReadyIn.cons rfl (fun K hK => ?_) (AllReadyIn.cons rfl (fun K hK => ?_) AllReadyIn.nil)); (focus ((go_simp; (refine hK _ _ ?_; clear hK K; try simp only [List.getElem_toArray, List.getElem_cons_succ, List.getElem_cons_zero, Act.put, List.setIfInBounds_toArray, List.set_cons_zero, List.set_cons_succ])); (refine wpAnyIn_ready (rs := [10]) (by kernel_rfl) (by simp) ?_; refine AllReadyIn.cons rfl (fun K hK => ?_) AllReadyIn.nil); (go_simp; (refine hK _ _ ?_; clear hK K; try simp only [List.getElem_toArray, List.getElem_cons_succ, List.getElem_cons_zero, Act.put, List.setIfInBounds_toArray, List.set_cons_zero, List.set_cons_succ])); (refine wpAnyIn_take (i := 11) (v := ?_) rfl rfl (by kernel_rfl) (by kernel_rfl) (by kernel_rfl) (fun _ _ _ h => h) ⟨Or.inl ⟨by rfl, ?_⟩, fun _ => rfl⟩ ?_; rotate_left; (focus (intro w; go_simp; try (with_reducible rfl))); try simp only [List.getElem_toArray, List.getElem_cons_succ, List.getElem_cons_zero, Act.put, List.setIfInBounds_toArray, List.set_cons_zero, List.set_cons_succ]); (refine wpAnyIn_take (i := 12) (v := ?_) rfl rfl (by kernel_rfl) (by kernel_rfl) (by kernel_rfl) (fun _ _ _ h => h) ⟨Or.inl ⟨by rfl, ?_⟩, fun _ => rfl⟩ ?_; rotate_left; (focus (intro w; go_simp; try (with_reducible rfl))); try simp only [List.getElem_toArray, List.getElem_cons_succ, List.getElem_cons_zero, Act.put, List.setIfInBounds_toArray, List.set_cons_zero, List.set_cons_succ]); (refine wpAnyIn_ready (rs := [13]) (by kernel_rfl) (by simp) ?_; refine AllReadyIn.cons rfl (fun K hK => ?_) AllReadyIn.nil); (go_simp; (refine hK _ _ ?_; clear hK K; try simp only [List.getElem_toArray, List.getElem_cons_succ, List.getElem_cons_zero, Act.put, List.setIfInBounds_toArray, List.set_cons_zero, List.set_cons_succ])); ((refine wpAnyIn_take (i := 14) (v := ?_) rfl rfl (by kernel_rfl) (by kernel_rfl) (by kernel_rfl) (fun _ _ _ h => h) ⟨Or.inl ⟨by rfl, ?_⟩, fun _ => rfl⟩ ?_; rotate_left; (focus (intro w; go_simp; try (with_reducible rfl))); try simp only [List.getElem_toArray, List.getElem_cons_succ, List.getElem_cons_zero, Act.put, List.setIfInBounds_toArray, List.set_cons_zero, List.set_cons_succ]); (refine wpAnyIn_take (i := 15) (v := ?_) rfl rfl (by kernel_rfl) (by kernel_rfl) (by kernel_rfl) (fun _ _ _ h => h) ⟨Or.inl ⟨by rfl, ?_⟩, fun _ => rfl⟩ ?_; rotate_left; (focus (intro w; go_simp; try (with_reducible rfl))); try simp only [List.getElem_toArray, List.getElem_cons_succ, List.getElem_cons_zero, Act.put, List.setIfInBounds_toArray, List.set_cons_zero, List.set_cons_succ]); refine wpAnyIn_done (by kernel_rfl) ?_ _; gi_wp2; gi_meet; exact .inl ⟨x, rfl, ⟨HD.out.1, HD.out.2.1, HD.out.2.2, hkl, by rw [HTK.out]; exact HJ3.out, HU3.out, HN3.out⟩⟩))); (focus ((go_simp; (refine hK _ _ ?_; clear hK K; try simp only [List.getElem_toArray, List.getElem_cons_succ, List.getElem_cons_zero, Act.put, List.setIfInBounds_toArray, List.set_cons_zero, List.set_cons_succ])); (refine wpAnyIn_take (i := 11) (v := ?_) rfl rfl (by kernel_rfl) (by kernel_rfl) (by kernel_rfl) (fun _ _ _ h => h) ⟨Or.inl ⟨by rfl, ?_⟩, fun _ => rfl⟩ ?_; rotate_left; (focus (intro w; go_simp; try (with_reducible rfl))); try simp only [List.getElem_toArray, List.getElem_cons_succ, List.getElem_cons_zero, Act.put, List.setIfInBounds_toArray, List.set_cons_zero, List.set_cons_succ]); (refine wpAnyIn_take (i := 12) (v := ?_) rfl rfl (by kernel_rfl) (by kernel_rfl) (by kernel_rfl) (fun _ _ _ h => h) ⟨Or.inl ⟨by rfl, ?_⟩, fun _ => rfl⟩ ?_; rotate_left; (focus (intro w; go_simp; try (with_reducible rfl))); try simp only [List.getElem_toArray, List.getElem_cons_succ, List.getElem_cons_zero, Act.put, List.setIfInBounds_toArray, List.set_cons_zero, List.set_cons_succ]); (refine wpAnyIn_ready (rs := [9, 13]) (by kernel_rfl) (by simp) ?_; refine AllReadyIn.cons rfl (fun K hK => ?_) (AllReadyIn.cons rfl (fun K hK => ?_) AllReadyIn.nil)); (focus ((go_simp; (refine hK _ _ ?_; clear hK K; try simp only [List.getElem_toArray, List.getElem_cons_succ, List.getElem_cons_zero, Act.put, List.setIfInBounds_toArray, List.set_cons_zero, List.set_cons_succ])); (refine wpAnyIn_ready (rs := [13]) (by kernel_rfl) (by simp) ?_; refine AllReadyIn.cons rfl (fun K hK => ?_) AllReadyIn.nil); (go_simp; (refine hK _ _ ?_; clear hK K; try simp only [List.getElem_toArray, List.getElem_cons_succ, List.getElem_cons_zero, Act.put, List.setIfInBounds_toArray, List.set_cons_zero, List.set_cons_succ])); ((refine wpAnyIn_take (i := 14) (v := ?_) rfl rfl (by kernel_rfl) (by kernel_rfl) (by kernel_rfl) (fun _ _ _ h => h) ⟨Or.inl ⟨by rfl, ?_⟩, fun _ => rfl⟩ ?_; rotate_left; (focus (intro w; go_simp; try (with_reducible rfl))); try simp only [List.getElem_toArray, List.getElem_cons_succ, List.getElem_cons_zero, Act.put, List.setIfInBounds_toArray, List.set_cons_zero, List.set_cons_succ]); (refine wpAnyIn_take (i := 15) (v := ?_) rfl rfl (by kernel_rfl) (by kernel_rfl) (by kernel_rfl) (fun _ _ _ h => h) ⟨Or.inl ⟨by rfl, ?_⟩, fun _ => rfl⟩ ?_; rotate_left; (focus (intro w; go_simp; try (with_reducible rfl))); try simp only [List.getElem_toArray, List.getElem_cons_succ, List.getElem_cons_zero, Act.put, List.setIfInBounds_toArray, List.set_cons_zero, List.set_cons_succ]); refine wpAnyIn_done (by kernel_rfl) ?_ _; gi_wp2; gi_meet; exact .inl ⟨x, rfl, ⟨HD.out.1, HD.out.2.1, HD.out.2.2, hkl, by rw [HTK.out]; exact HJ3.out, HU3.out, HN3.out⟩⟩))); (focus ((go_simp; (refine hK _ _ ?_; clear hK K; try simp only [List.getElem_toArray, List.getElem_cons_succ, List.getElem_cons_zero, Act.put, List.setIfInBounds_toArray, List.set_cons_zero, List.set_cons_succ])); (refine wpAnyIn_ready (rs := [9]) (by kernel_rfl) (by simp) ?_; refine AllReadyIn.cons rfl (fun K hK => ?_) AllReadyIn.nil); (go_simp; (refine hK _ _ ?_; clear hK K; try simp only [List.getElem_toArray, List.getElem_cons_succ, List.getElem_cons_zero, Act.put, List.setIfInBounds_toArray, List.set_cons_zero, List.set_cons_succ])); ((refine wpAnyIn_take (i := 14) (v := ?_) rfl rfl (by kernel_rfl) (by kernel_rfl) (by kernel_rfl) (fun _ _ _ h => h) ⟨Or.inl ⟨by rfl, ?_⟩, fun _ => rfl⟩ ?_; rotate_left; (focus (intro w; go_simp; try (with_reducible rfl))); try simp only [List.getElem_toArray, List.getElem_cons_succ, List.getElem_cons_zero, Act.put, List.setIfInBounds_toArray, List.set_cons_zero, List.set_cons_succ]); (refine wpAnyIn_take (i := 15) (v := ?_) rfl rfl (by kernel_rfl) (by kernel_rfl) (by kernel_rfl) (fun _ _ _ h => h) ⟨Or.inl ⟨by rfl, ?_⟩, fun _ => rfl⟩ ?_; rotate_left; (focus (intro w; go_simp; try (with_reducible rfl))); try simp only [List.getElem_toArray, List.getElem_cons_succ, List.getElem_cons_zero, Act.put, List.setIfInBounds_toArray, List.set_cons_zero, List.set_cons_succ]); refine wpAnyIn_done (by kernel_rfl) ?_ _; gi_wp2; gi_meet; exact .inl ⟨x, rfl, ⟨HD.out.1, HD.out.2.1, HD.out.2.2, hkl, by rw [HTK.out]; exact HJ3.out, HU3.out, HN3.out⟩⟩))))))); (focus (have HJX3 := Sd.mk hJx3; clear hJx3; (refine hK _ _ ?_; clear hK K; try simp only [List.getElem_toArray, List.getElem_cons_succ, List.getElem_cons_zero, Act.put, List.setIfInBounds_toArray, List.set_cons_zero, List.set_cons_succ]); (refine wpAnyIn_take (i := 7) (v := ?_) rfl rfl (by kernel_rfl) (by kernel_rfl) (by kernel_rfl) (fun _ _ _ h => h) ⟨Or.inl ⟨by rfl, ?_⟩, fun _ => rfl⟩ ?_; rotate_left; (focus (intro w; go_simp; try (with_reducible rfl))); try simp only [List.getElem_toArray, List.getElem_cons_succ, List.getElem_cons_zero, Act.put, List.setIfInBounds_toArray, List.set_cons_zero, List.set_cons_succ]); (refine wpAnyIn_take (i := 8) (v := ?_) rfl rfl (by kernel_rfl) (by kernel_rfl) (by kernel_rfl) (fun _ _ _ h => h) ⟨Or.inl ⟨by rfl, ?_⟩, fun _ => rfl⟩ ?_; rotate_left; (focus (intro w; go_simp; try (with_reducible rfl))); try simp only [List.getElem_toArray, List.getElem_cons_succ, List.getElem_cons_zero, Act.put, List.setIfInBounds_toArray, List.set_cons_zero, List.set_cons_succ]); (refine wpAnyIn_take (i := 9) (v := undef) rfl rfl (by kernel_rfl) (by kernel_rfl) (by kernel_rfl) (fun _ _ _ h => h) ⟨Or.inr ⟨by rfl, rfl⟩, fun _ => rfl⟩ ?_; try simp only [List.getElem_toArray, List.getElem_cons_succ, List.getElem_cons_zero, Act.put, List.setIfInBounds_toArray, List.set_cons_zero, List.set_cons_succ]); (refine wpAnyIn_take (i := 10) (v := undef) rfl rfl (by kernel_rfl) (by kernel_rfl) (by kernel_rfl) (fun _ _ _ h => h) ⟨Or.inr ⟨by rfl, rfl⟩, fun _ => rfl⟩ ?_; try simp only [List.getElem_toArray, List.getElem_cons_succ, List.getElem_cons_zero, Act.put, List.setIfInBounds_toArray, List.set_cons_zero, List.set_cons_succ]); (refine wpAnyIn_take (i := 11) (v := undef) rfl rfl (by kernel_rfl) (by kernel_rfl) (by kernel_rfl) (fun _ _ _ h => h) ⟨Or.inr ⟨by rfl, rfl⟩, fun _ => rfl⟩ ?_; try simp only [List.getElem_toArray, List.getElem_cons_succ, List.getElem_cons_zero, Act.put, List.setIfInBounds_toArray, List.set_cons_zero, List.set_cons_succ]); (refine wpAnyIn_take (i := 12) (v := undef) rfl rfl (by kernel_rfl) (by kernel_rfl) (by kernel_rfl) (fun _ _ _ h => h) ⟨Or.inr ⟨by rfl, rfl⟩, fun _ => rfl⟩ ?_; try simp only [List.getElem_toArray, List.getElem_cons_succ, List.getElem_cons_zero, Act.put, List.setIfInBounds_toArray, List.set_cons_zero, List.set_cons_succ]); (refine wpAnyIn_take (i := 13) (v := undef) rfl rfl (by kernel_rfl) (by kernel_rfl) (by kernel_rfl) (fun _ _ _ h => h) ⟨Or.inr ⟨by rfl, rfl⟩, fun _ => rfl⟩ ?_; try simp only [List.getElem_toArray, List.getElem_cons_succ, List.getElem_cons_zero, Act.put, List.setIfInBounds_toArray, List.set_cons_zero, List.set_cons_succ]); (refine wpAnyIn_take (i := 14) (v := undef) rfl rfl (by kernel_rfl) (by kernel_rfl) (by kernel_rfl) (fun _ _ _ h => h) ⟨Or.inr ⟨by rfl, rfl⟩, fun _ => rfl⟩ ?_; try simp only [List.getElem_toArray, List.getElem_cons_succ, List.getElem_cons_zero, Act.put, List.setIfInBounds_toArray, List.set_cons_zero, List.set_cons_succ]); (refine wpAnyIn_take (i := 15) (v := ?_) rfl rfl (by kernel_rfl) (by kernel_rfl) (by kernel_rfl) (fun _ _ _ h => h) ⟨Or.inl ⟨by rfl, ?_⟩, fun _ => rfl⟩ ?_; rotate_left; (focus (intro w; go_simp; try (with_reducible rfl))); try simp only [List.getElem_toArray, List.getElem_cons_succ, List.getElem_cons_zero, Act.put, List.setIfInBounds_toArray, List.set_cons_zero, List.set_cons_succ]); refine wpAnyIn_done (by kernel_rfl) ?_ _; gi_wp2; gi_meet; exact .inr ⟨rfl, ⟨.inr ⟨xs.take (k + 1), List.take_prefix _ _, by rw [HTK.out]; exact HJX3.out⟩⟩⟩)))
          · (go_simp; (refine hK _ _ ?_; clear hK K; try simp only [List.getElem_toArray, List.getElem_cons_succ, List.getElem_cons_zero, Act.put, List.setIfInBounds_toArray, List.set_cons_zero, List.set_cons_succ]))
            (refine wpAnyIn_ready (rs := [0]) (by kernel_rfl) (by simp) ?_; refine AllReadyIn.cons rfl (fun K hK => ?_) AllReadyIn.nil)
            (go_simp; (refine hK _ _ ?_; clear hK K; try simp only [List.getElem_toArray, List.getElem_cons_succ, List.getElem_cons_zero, Act.put, List.setIfInBounds_toArray, List.set_cons_zero, List.set_cons_succ]))
            (((refine wpAnyIn_ready (rs := [2]) (by kernel_rfl) (by simp) ?_; refine AllReadyIn.cons rfl (fun K hK => ?_) AllReadyIn.nil); go_simp; gi_at_call 40; refine (HH.out _ _ HU.out.bel.drew true HS.out).mono ?_; rintro e w1 ⟨rfl, hb⟩; have HB := Sd.mk hb; clear hb; (refine hK _ _ ?_; clear hK K; try simp only [List.getElem_toArray, List.getElem_cons_succ, List.getElem_cons_zero, Act.put, List.setIfInBounds_toArray, List.set_cons_zero, List.set_cons_succ]); (refine wpAnyIn_take (i := 3) (v := ?_) rfl rfl (by kernel_rfl) (by kernel_rfl) (by kernel_rfl) (fun _ _ _ h => h) ⟨Or.inl ⟨by rfl, ?_⟩, fun _ => rfl⟩ ?_; rotate_left; (focus (intro w; go_simp; try (with_reducible rfl))); try simp only [List.getElem_toArray, List.getElem_cons_succ, List.getElem_cons_zero, Act.put, List.setIfInBounds_toArray, List.set_cons_zero, List.set_cons_succ])); (refine wpAnyIn_take (i := 4) (v := ?_) rfl rfl (by kernel_rfl) (by kernel_rfl) (by kernel_rfl) (fun _ _ _ h => h) ⟨Or.inl ⟨by rfl, ?_⟩, fun _ => rfl⟩ ?_; rotate_left; (focus (intro w; go_simp; try (with_reducible rfl))); try simp only [List.getElem_toArray, List.getElem_cons_succ, List.getElem_cons_zero, Act.put, List.setIfInBounds_toArray, List.set_cons_zero, List.set_cons_succ]); have HU1 := Sd.mk ((HU.out.below HN1.out (below_drew' (Below.refl _ _))).below HN1.out HB.out); have cf1 := blk_at HU1.out.ef 0 _ rfl; have ch1 := blk_at HU1.out.eh 0 _ rfl; (refine wpAnyIn_ready (rs := [5]) (by kernel_rfl) (by simp) ?_; refine AllReadyIn.cons rfl (fun K hK => ?_) AllReadyIn.nil); (go_simp; (refine hK _ _ ?_; clear hK K; try simp only [List.getElem_toArray, List.getElem_cons_succ, List.getElem_cons_zero, Act.put, List.setIfInBounds_toArray, List.set_cons_zero, List.set_cons_succ])); obtain ⟨fn, tmps, assign, body, hy, hR⟩ := HY.out (xs.take k) s' w1 (HJ.out _ _ _ HJ0.out (Tn.below (below_then (below_drew' (Below.refl _ _)) HB.out))) (by have := HXL.out; rw [List.length_take]; omega); (refine wpAnyIn_ready (rs := [6]) (by kernel_rfl) (by simp) ?_; refine AllReadyIn.cons rfl (fun K hK => ?_) AllReadyIn.nil); go_simp; refine hR.mono ?_; clear hy hR cf1 ch1; rintro e w3 (⟨rfl, hJ3, hK3⟩ | ⟨rfl, hJx3⟩); (focus (have HU3 := Sd.mk (HU1.out.kept hK3); have HN3 := Sd.mk (Nat.le_trans HN1.out (Nat.le_trans HB.out.size hK3.sz)); have HJ3 := Sd.mk hJ3; clear hJ3 hK3; have cf3 := blk_at HU3.out.ef 0 _ rfl; have ch3 := blk_at HU3.out.eh 0 _ rfl; obtain ⟨m9, ov9, pr9, rs9, hx9, -⟩ := (HFW.out.below (by rw [HN.out.1]; exact HU3.out.bel) : Fw w0 g f w3).ex; have cr3 := blk_at hx9 0 _ rfl; clear hx9; (refine hK _ _ ?_; clear hK K; try simp only [List.getElem_toArray, List.getElem_cons_succ, List.getElem_cons_zero, Act.put, List.setIfInBounds_toArray, List.set_cons_zero, List.set_cons_succ]); (refine wpAnyIn_take (i := 7) (v := ?_) rfl rfl (by kernel_rfl) (by kernel_rfl) (by kernel_rfl) (fun _ _ _ h => h) ⟨Or.inl ⟨by rfl, ?_⟩, fun _ => rfl⟩ ?_; rotate_left; (focus (intro w; go_simp; try (with_reducible rfl))); try simp only [List.getElem_toArray, List.getElem_cons_succ, List.getElem_cons_zero, Act.put, List.setIfInBounds_toArray, List.set_cons_zero, List.set_cons_succ]); (refine wpAnyIn_take (i := 8) (v := ?_) rfl rfl (by kernel_rfl) (by kernel_rfl) (by kernel_rfl) (fun _ _ _ h => h) ⟨Or.inl ⟨by rfl, ?_⟩, fun _ => rfl⟩ ?_; rotate_left; (focus (intro w; go_simp; try (with_reducible rfl))); try simp only [List.getElem_toArray, List.getElem_cons_succ, List.getElem_cons_zero, Act.put, List.setIfInBounds_toArray, List.set_cons_zero, List.set_cons_succ]); (refine wpAnyIn_ready (rs := [9, 10]) (by kernel_rfl) (by simp) ?_; refine AllReadyIn.cons rfl (fun K hK => ?_) (AllReadyIn.cons rfl (fun K hK => ?_) AllReadyIn.nil)); (focus ((go_simp; (refine hK _ _ ?_; clear hK K; try simp only [List.getElem_toArray, List.getElem_cons_succ, List.getElem_cons_zero, Act.put, List.setIfInBounds_toArray, List.set_cons_zero, List.set_cons_succ])); (refine wpAnyIn_ready (rs := [10]) (by kernel_rfl) (by simp) ?_; refine AllReadyIn.cons rfl (fun K hK => ?_) AllReadyIn.nil); (go_simp; (refine hK _ _ ?_; clear hK K; try simp only [List.getElem_toArray, List.getElem_cons_succ, List.getElem_cons_zero, Act.put, List.setIfInBounds_toArray, List.set_cons_zero, List.set_cons_succ])); (refine wpAnyIn_take (i := 11) (v := ?_) rfl rfl (by kernel_rfl) (by kernel_rfl) (by kernel_rfl) (fun _ _ _ h => h) ⟨Or.inl ⟨by rfl, ?_⟩, fun _ => rfl⟩ ?_; rotate_left; (focus (intro w; go_simp; try (with_reducible rfl))); try simp only [List.getElem_toArray, List.getElem_cons_succ, List.getElem_cons_zero, Act.put, List.setIfInBounds_toArray, List.set_cons_zero, List.set_cons_succ]); (refine wpAnyIn_take (i := 12) (v := ?_) rfl rfl (by kernel_rfl) (by kernel_rfl) (by kernel_rfl) (fun _ _ _ h => h) ⟨Or.inl ⟨by rfl, ?_⟩, fun _ => rfl⟩ ?_; rotate_left; (focus (intro w; go_simp; try (with_reducible rfl))); try simp only [List.getElem_toArray, List.getElem_cons_succ, List.getElem_cons_zero, Act.put, List.setIfInBounds_toArray, List.set_cons_zero, List.set_cons_succ]); (refine wpAnyIn_ready (rs := [13]) (by kernel_rfl) (by simp) ?_; refine AllReadyIn.cons rfl (fun K hK => ?_) AllReadyIn.nil); (go_simp; (refine hK _ _ ?_; clear hK K; try simp only [List.getElem_toArray, List.getElem_cons_succ, List.getElem_cons_zero, Act.put, List.setIfInBounds_toArray, List.set_cons_zero, List.set_cons_succ])); ((refine wpAnyIn_take (i := 14) (v := ?_) rfl rfl (by kernel_rfl) (by kernel_rfl) (by kernel_rfl) (fun _ _ _ h => h) ⟨Or.inl ⟨by rfl, ?_⟩, fun _ => rfl⟩ ?_; rotate_left; (focus (intro w; go_simp; try (with_reducible rfl))); try simp only [List.getElem_toArray, List.getElem_cons_succ, List.getElem_cons_zero, Act.put, List.setIfInBounds_toArray, List.set_cons_zero, List.set_cons_succ]); (refine wpAnyIn_take (i := 15) (v := ?_) rfl rfl (by kernel_rfl) (by kernel_rfl) (by kernel_rfl) (fun _ _ _ h => h) ⟨Or.inl ⟨by rfl, ?_⟩, fun _ => rfl⟩ ?_; rotate_left; (focus (intro w; go_simp; try (with_reducible rfl))); try simp only [List.getElem_toArray, List.getElem_cons_succ, List.getElem_cons_zero, Act.put, List.setIfInBounds_toArray, List.set_cons_zero, List.set_cons_succ]); refine wpAnyIn_done (by kernel_rfl) ?_ _; gi_wp2; gi_meet; exact .inl ⟨x, rfl, ⟨HD.out.1, HD.out.2.1, HD.out.2.2, hkl, by rw [HTK.out]; exact HJ3.out, HU3.out, HN3.out⟩⟩))); (focus ((go_simp; (refine hK _ _ ?_; clear hK K; try simp only [List.getElem_toArray, List.getElem_cons_succ, List.getElem_cons_zero, Act.put, List.setIfInBounds_toArray, List.set_cons_zero, List.set_cons_succ])); (refine wpAnyIn_take (i := 11) (v := ?_) rfl rfl (by kernel_rfl) (by kernel_rfl) (by kernel_rfl) (fun _ _ _ h => h) ⟨Or.inl ⟨by rfl, ?_⟩, fun _ => rfl⟩ ?_; rotate_left; (focus (intro w; go_simp; try (with_reducible rfl))); try simp only [List.getElem_toArray, List.getElem_cons_succ, List.getElem_cons_zero, Act.put, List.setIfInBounds_toArray, List.set_cons_zero, List.set_cons_succ]); (refine wpAnyIn_take (i := 12) (v := ?_) rfl rfl (by kernel_rfl) (by kernel_rfl) (by kernel_rfl) (fun _ _ _ h => h) ⟨Or.inl ⟨by rfl, ?_⟩, fun _ => rfl⟩ ?_; rotate_left; (focus (intro w; go_simp; try (with_reducible rfl))); try simp only [List.getElem_toArray, List.getElem_cons_succ, List.getElem_cons_zero, Act.put, List.setIfInBounds_toArray, List.set_cons_zero, List.set_cons_succ]); (refine wpAnyIn_ready (rs := [9, 13]) (by kernel_rfl) (by simp) ?_; refine AllReadyIn.cons rfl (fun K hK => ?_) (AllReadyIn.cons rfl (fun K hK => ?_) AllReadyIn.nil)); (focus ((go_simp; (refine hK _ _ ?_; clear hK K; try simp only [List.getElem_toArray, List.getElem_cons_succ, List.getElem_cons_zero, Act.put, List.setIfInBounds_toArray, List.set_cons_zero, List.set_cons_succ])); (refine wpAnyIn_ready (rs := [13]) (by kernel_rfl) (by simp) ?_; refine AllReadyIn.cons rfl (fun K hK => ?_) AllReadyIn.nil); (go_simp; (refine hK _ _ ?_; clear hK K; try simp only [List.getElem_toArray, List.getElem_cons_succ, List.getElem_cons_zero, Act.put, List.setIfInBounds_toArray, List.set_cons_zero, List.set_cons_succ])); ((refine wpAnyIn_take (i := 14) (v := ?_) rfl rfl (by kernel_rfl) (by kernel_rfl) (by kernel_rfl) (fun _ _ _ h => h) ⟨Or.inl ⟨by rfl, ?_⟩, fun _ => rfl⟩ ?_; rotate_left; (focus (intro w; go_simp; try (with_reducible rfl))); try simp only [List.getElem_toArray, List.getElem_cons_succ, List.getElem_cons_zero, Act.put, List.setIfInBounds_toArray, List.set_cons_zero, List.set_cons_succ]); (refine wpAnyIn_take (i := 15) (v := ?_) rfl rfl (by kernel_rfl) (by kernel_rfl) (by kernel_rfl) (fun _ _ _ h => h) ⟨Or.inl ⟨by rfl, ?_⟩, fun _ => rfl⟩ ?_; rotate_left; (focus (intro w; go_simp; try (with_reducible rfl))); try simp only [List.getElem_toArray, List.getElem_cons_succ, List.getElem_cons_zero, Act.put, List.setIfInBounds_toArray, List.set_cons_zero, List.set_cons_succ]); refine wpAnyIn_done (by kernel_rfl) ?_ _; gi_wp2; gi_meet; exact .inl ⟨x, rfl, ⟨HD.out.1, HD.out.2.1, HD.out.2.2, hkl, by rw [HTK.out]; exact HJ3.out, HU3.out, HN3.out⟩⟩))); (focus ((go_simp; (refine hK _ _ ?_; clear hK K; try simp only [List.getElem_toArray, List.getElem_cons_succ, List.getElem_cons_zero, Act.put, List.setIfInBounds_toArray, List.set_cons_zero, List.set_cons_succ])); (refine wpAnyIn_ready (rs := [9]) (by kernel_rfl) (by simp) ?_; refine AllReadyIn.cons rfl (fun K hK => ?_) AllReadyIn.nil); (go_simp; (refine hK _ _ ?_; clear hK K; try simp only [List.getElem_toArray, List.getElem_cons_succ, List.getElem_cons_zero, Act.put, List.setIfInBounds_toArray, List.set_cons_zero, List.set_cons_succ])); ((refine wpAnyIn_take (i := 14) (v := ?_) rfl rfl (by kernel_rfl) (by kernel_rfl) (by kernel_rfl) (fun _ _ _ h => h) ⟨Or.inl ⟨by rfl, ?_⟩, fun _ => rfl⟩ ?_; rotate_left; (focus (intro w; go_simp; try (with_reducible rfl))); try simp only [List.getElem_toArray, List.getElem_cons_succ, List.getElem_cons_zero, Act.put, List.setIfInBounds_toArray, List.set_cons_zero, List.set_cons_succ]); (refine wpAnyIn_take (i := 15) (v := ?_) rfl rfl (by kernel_rfl) (by kernel_rfl) (by kernel_rfl) (fun _ _ _ h => h) ⟨Or.inl ⟨by rfl, ?_⟩, fun _ => rfl⟩ ?_; rotate_left; (focus (intro w; go_simp; try (with_reducible rfl))); try simp only [List.getElem_toArray, List.getElem_cons_succ, List.getElem_cons_zero, Act.put, List.setIfInBounds_toArray, List.set_cons_zero, List.set_cons_succ]); refine wpAnyIn_done (by kernel_rfl) ?_ _; gi_wp2; gi_meet; exact .inl ⟨x, rfl, ⟨HD.out.1, HD.out.2.1, HD.out.2.2, hkl, by rw [HTK.out]; exact HJ3.out, HU3.out, HN3.out⟩⟩))))))); (focus (have HJX3 := Sd.mk hJx3; clear hJx3; (refine hK _ _ ?_; clear hK K; try simp only [List.getElem_toArray, List.getElem_cons_succ, List.getElem_cons_zero, Act.put, List.setIfInBounds_toArray, List.set_cons_zero, List.set_cons_succ]); (refine wpAnyIn_take (i := 7) (v := ?_) rfl rfl (by kernel_rfl) (by kernel_rfl) (by kernel_rfl) (fun _ _ _ h => h) ⟨Or.inl ⟨by rfl, ?_⟩, fun _ => rfl⟩ ?_; rotate_left; (focus (intro w; go_simp; try (with_reducible rfl))); try simp only [List.getElem_toArray, List.getElem_cons_succ, List.getElem_cons_zero, Act.put, List.setIfInBounds_toArray, List.set_cons_zero, List.set_cons_succ]); (refine wpAnyIn_take (i := 8) (v := ?_) rfl rfl (by kernel_rfl) (by kernel_rfl) (by kernel_rfl) (fun _ _ _ h => h) ⟨Or.inl ⟨by rfl, ?_⟩, fun _ => rfl⟩ ?_; rotate_left; (focus (intro w; go_simp; try (with_reducible rfl))); try simp only [List.getElem_toArray, List.getElem_cons_succ, List.getElem_cons_zero, Act.put, List.setIfInBounds_toArray, List.set_cons_zero, List.set_cons_succ]); (refine wpAnyIn_take (i := 9) (v := undef) rfl rfl (by kernel_rfl) (by kernel_rfl) (by kernel_rfl) (fun _ _ _ h => h) ⟨Or.inr ⟨by rfl, rfl⟩, fun _ => rfl⟩ ?_; try simp only [List.getElem_toArray, List.getElem_cons_succ, List.getElem_cons_zero, Act.put, List.setIfInBounds_toArray, List.set_cons_zero, List.set_cons_succ]); (refine wpAnyIn_take (i := 10) (v := undef) rfl rfl (by kernel_rfl) (by kernel_rfl) (by kernel_rfl) (fun _ _ _ h => h) ⟨Or.inr ⟨by rfl, rfl⟩, fun _ => rfl⟩ ?_; try simp only [List.getElem_toArray, List.getElem_cons_succ, List.getElem_cons_zero, Act.put, List.setIfInBounds_toArray, List.set_cons_zero, List.set_cons_succ]); (refine wpAnyIn_take (i := 11) (v := undef) rfl rfl (by kernel_rfl) (by kernel_rfl) (by kernel_rfl) (fun _ _ _ h => h) ⟨Or.inr ⟨by rfl, rfl⟩, fun _ => rfl⟩ ?_; try simp only [List.getElem_toArray, List.getElem_cons_succ, List.getElem_cons_zero, Act.put, List.setIfInBounds_toArray, List.set_cons_zero, List.set_cons_succ]); (refine wpAnyIn_take (i := 12) (v := undef) rfl rfl (by kernel_rfl) (by kernel_rfl) (by kernel_rfl) (fun _ _ _ h => h) ⟨Or.inr ⟨by rfl, rfl⟩, fun _ => rfl⟩ ?_; try simp only [List.getElem_toArray, List.getElem_cons_succ, List.getElem_cons_zero, Act.put, List.setIfInBounds_toArray, List.set_cons_zero, List.set_cons_succ]); (refine wpAnyIn_take (i := 13) (v := undef) rfl rfl (by kernel_rfl) (by kernel_rfl) (by kernel_rfl) (fun _ _ _ h => h) ⟨Or.inr ⟨by rfl, rfl⟩, fun _ => rfl⟩ ?_; try simp only [List.getElem_toArray, List.getElem_cons_succ, List.getElem_cons_zero, Act.put, List.setIfInBounds_toArray, List.set_cons_zero, List.set_cons_succ]); (refine wpAnyIn_take (i := 14) (v := undef) rfl rfl (by kernel_rfl) (by kernel_rfl) (by kernel_rfl) (fun _ _ _ h => h) ⟨Or.inr ⟨by rfl, rfl⟩, fun _ => rfl⟩ ?_; try simp only [List.getElem_toArray, List.getElem_cons_succ, List.getElem_cons_zero, Act.put, List.setIfInBounds_toArray, List.set_cons_zero, List.set_cons_succ]); (refine wpAnyIn_take (i := 15) (v := ?_) rfl rfl (by kernel_rfl) (by kernel_rfl) (by kernel_rfl) (fun _ _ _ h => h) ⟨Or.inl ⟨by rfl, ?_⟩, fun _ => rfl⟩ ?_; rotate_left; (focus (intro w; go_simp; try (with_reducible rfl))); try simp only [List.getElem_toArray, List.getElem_cons_succ, List.getElem_cons_zero, Act.put, List.setIfInBounds_toArray, List.set_cons_zero, List.set_cons_succ]); refine wpAnyIn_done (by kernel_rfl) ?_ _; gi_wp2; gi_meet; exact .inr ⟨rfl, ⟨.inr ⟨xs.take (k + 1), List.take_prefix _ _, by rw [HTK.out]; exact HJX3.out⟩⟩⟩)))
    case rest =>
      clear HC HJ0 HU HN1 HH
      rcases hcut with ⟨x, rfl, HD⟩ | ⟨rfl, HE⟩
      · obtain ⟨d1, d2, d3, d4, d5, d6, d7⟩ := HD.out
        have HD2 := Sd.mk (And.intro d1 (And.intro d3 (And.intro d5 (And.intro d6 d7))))
        have hfx := HFW.out.below (show RowKit.Below Ws.heap.size Ws wc by rw [HN.out.1]; exact d6.bel)
        obtain ⟨m9, ov9, r9, hg9, hw9, hl9⟩ := lk1 (hfx.below (below_drew' (Below.refl _ _))) HSZ.out d2
        unfold nodeV at hl9
        have hfn := fun W => field_node x.b.view x.b.prop x.b.just.view x.b.just.block r9.sa r9.sn r9.sc r9.a x.b.batch.length r9.c x.ht W
        have cf := blk_at d6.ef 0 _ rfl
        have ch := blk_at d6.eh 0 _ rfl
        have chz := blk_frz d6.eh 0
        have cm := blk_at hg9 2 _ rfl
        have HPS := Sd.mk (HZ.out.2 x (ndAt_some d2).1)
        clear d1 d2 d3 d5 d6 d7 HD hfx hg9 hw9
        gi_wp2
        gi_region_with ((gi_at_call 28; refine (callsIn_wide.2 (Blk.parent_any _ _ _ _ _ _ _)).mono ?_; rintro e w1 ⟨rfl, hb⟩; have HU8 := Sd.mk ((HD2.out.2.2.2.1.below HD2.out.2.2.2.2 (below_drew' (Below.refl _ _))).below HD2.out.2.2.2.2 hb); have HB := Sd.mk hb; clear hb; have c8 := blk_at HU8.out.eh 0 _ rfl; have f8 := blk_frz HU8.out.eh 0))
        all_goals (gi_wp2; gi_roundg (gk - 1); (case measure => omega); (case rel => exact ⟨k + 1, x.b.just.block, by omega, HPS, ⟨.inr HD2.out.2.1⟩, ⟨HJ.out _ _ _ HD2.out.2.2.1 (Tn.set (below_then (below_drew' (Below.refl _ _)) HB.out) x.b.just.block)⟩, ⟨HU8.out.set HN.out.2.2.1 HN.out.2.2.2 x.b.just.block⟩, ⟨by have := HB.out.size; have := HD2.out.2.2.2.2; simp [World.setCell]; simp at *; omega⟩⟩))
      · gi_wp2
        go_end0
        exact ⟨⟨_, rfl⟩, HE.out⟩
-- L1>
end Go.Proofs.Ytnomgkmeomlccaa.Fst

/- forest.Orphans, Len, Missing; slices.Contains of strings; awake of layer 7: walked. -/
import Derived.Test.YtnomgkmeomlccaaForN
import Derived.Test.YtnomgkmeomlccaaWtx
set_option linter.unusedVariables false
set_option linter.unusedSimpArgs false
namespace Go.Proofs.Ytnomgkmeomlccaa.Fst
open Go.RowKit Go.Sort Rd Api Own Mv App Num Dig
open Blk (Block Rq rqN fR digB coreB)
open Kee (Bk fB bkK Wk wk_at)
open Wtx (fS info_str)

theorem fS_one : ∀ x : ByteArray, ∀ u ∈ fS x, u.oneCell' = true := fun _ _ hu => by simp [fS] at hu; subst hu; rfl
def strN : Rk ByteArray where
  sz := 1
  K := fun _ x cs => cs = fS x
  len := fun h => by rw [h]; rfl
  keep := fun _ h => h
/-- a row of strings of the call's own -/
structure So (w : World) (v : Value) (l : List ByteArray) (W : World) : Prop where
  own : OwnR fS 1 W w.heap.size 9 v l
  bel : RowKit.Below w.heap.size w W
theorem So.below {w W W1 : World} {v : Value} {l : List ByteArray} (h : So w v l W) (hb : RowKit.Below W.heap.size W W1) : So w v l W1 := ⟨h.own.below hb, below_then h.bel hb⟩
theorem own_str {W : World} {base : Nat} {v : Value} {l : List ByteArray} (h : OwnR fS 1 W base 9 v l) : ∃ A c, v = .slice A l.length c ∧ Sl strN W A c l := OwnR.reads (d := strN) (f := fS) (n := 1) (fun _ _ => rfl) (fun _ => rfl) rfl h
theorem so_nil (W : World) : So W (.slice none 0 0) [] W := ⟨OwnR.nil _ _ _ _ _, Below.refl _ _⟩
theorem strN_at {W : World} {A : Option Addr} {l : List ByteArray} (h : Row strN W A l) {i : Nat} {x : ByteArray} (hx : l[i]? = some x) : ∃ g o, A = some ⟨g, o, none⟩ ∧ W.cell? ⟨g, o + i, none⟩ = some (.string x) := by
  obtain ⟨g, o, cs, hA, rfl, hc⟩ := h i x hx
  have := hc 0 _ rfl
  rw [show o + i * strN.sz + 0 = o + i by show o + i * 1 + 0 = o + i; omega] at this
  exact ⟨g, o, hA, this⟩
/-- the orphans' row -/
theorem fw_row {w0 W : World} {g : Nat} {f : Fo} (h : Fw w0 g f W) : ∃ m A c rs, W.heap[g]? = some (.cells #[.string f.root, .int .i64 f.height, .map (some m), .slice A f.orph.length c] 117 (0, 0)) ∧ Sl bkK W A c rs ∧ All2 (Bw w0) rs f.orph := by
  obtain ⟨m, ov, prs, rs, h1, h2, h3, h4, h5, h6, h7⟩ := h.ex
  obtain ⟨A, c, rfl, hs⟩ := Kee.own_bk h5
  rw [h7.len] at h1
  exact ⟨m, A, c, rs, h1, hs, h7⟩
-- <L1
set_option maxHeartbeats 4000000 in
set_option maxRecDepth 100000 in
theorem orphans_any {w0 W : World} {g : Nat} {f : Fo} (hf : Fw w0 g f W) (h8 : f.orph.length ≤ 1000) (n : Nat) (hn : f.orph.length = n) :
    Calls Try.prog 37 #[.pointer (some ⟨g, 0, none⟩)] W fun e w' => ∃ A c, e = .returned (.slice A n c) ∧ So W (.slice A n c) (f.orph.map digB) w' := by
  obtain ⟨m, A, c, rs, hg, hs, ha⟩ := fw_row hf
  rw [hn] at hg
  have c3 := blk_at hg 3 _ rfl
  have HN := Sd.mk hn
  have HF := Sd.mk hf
  have HS := Sd.mk hs
  have HA := Sd.mk ha
  have nc := Nat.le_trans hs.le hs.cap
  rw [ha.len, hn] at nc
  rw [hn] at h8
  clear hf hg hs ha hn
  go_enter Try.func37, Try.ntmps37
  go_wp2
  go_loopg [3, 11] n (fun gk v3 v11 wr => ∃ i, i + gk = n ∧ v11 = .int .i64 (i : Nat) ∧ Sd (So W v3 ((f.orph.take i).map digB) wr))
  case atStart => exact ⟨0, by omega, rfl, ⟨so_nil W⟩⟩
  case round =>
    clear c3
    obtain ⟨i, hi, rfl, HO⟩ := hrel
    by_cases hlt : i < n
    · have hii : (i : Int) < n := by omega
      obtain ⟨x, hx⟩ : ∃ x, f.orph[i]? = some x := ⟨f.orph[i]'(by rw [HN.out]; exact hlt), List.getElem?_eq_getElem _⟩
      obtain ⟨r, hr⟩ : ∃ r, rs[i]? = some r := ⟨rs[i]'(by rw [HA.out.len, HN.out]; exact hlt), List.getElem?_eq_getElem _⟩
      have HW := Sd.mk (HA.out.get hr hx)
      obtain ⟨b1, o1, rfl, p0, p1, p2, p3, p4, p5⟩ := wk_at HS.out.row hr HW.out.wk
      have p0 := cell_below HO.out.bel p0
      have p1 := cell_below HO.out.bel p1
      have p2 := cell_below HO.out.bel p2
      have p3 := cell_below HO.out.bel p3
      have p4 := cell_below HO.out.bel p4
      have p5 := cell_below HO.out.bel p5
      obtain ⟨d, hd⟩ : ∃ d, digB x = d := ⟨_, rfl⟩
      have HDG := Sd.mk (fun W1 (hb : RowKit.Below W.heap.size W W1) => Blk.dig_any W1 x r.sa r.sn r.sc r.a x.batch.length r.c (HW.out.wk.sl.below (below_then HF.out.bel hb)) rfl d hd (by have := HW.out.sz; omega))
      have HTK := Sd.mk (show (f.orph.take (i + 1)).map digB = (f.orph.take i).map digB ++ [d] by rw [List.take_add_one, hx, List.map_append, ← hd]; rfl)
      have HTL := Sd.mk (show ((f.orph.take i).map digB).length = i by rw [List.length_map, List.length_take, HN.out]; omega)
      obtain ⟨out, hout⟩ : ∃ out, (f.orph.take i).map digB = out := ⟨_, rfl⟩
      rw [hout] at HTK HTL HO
      obtain ⟨A3, c3, rfl⟩ := OwnR.slice HO.out.own
      rw [HTL.out] at HO ⊢
      clear hx hr hd hout
      have b1' := below_one wr (.cells #[.int .i64 x.view, .int .i64 x.prop, .int .i64 x.just.view, .string x.just.block, .slice r.sa r.sn r.sc, .slice r.a x.batch.length r.c] 42)
      have HO1 := Sd.mk (HO.out.below b1')
      have E1 := Sd.mk (blk_new wr (.cells #[.int .i64 x.view, .int .i64 x.prop, .int .i64 x.just.view, .string x.just.block, .slice r.sa r.sn r.sc, .slice r.a x.batch.length r.c] 42))
      clear b1'
      go_upto_region 5 with (fail)
      clear p0 p1 p2 p3 p4 p5 HO
      generalize wr.heap.size = g5 at E1 ⊢
      generalize wr.alloc _ = W5 at E1 HO1 ⊢
      have q0 := blk_at E1.out 0 _ rfl
      have q1 := blk_at E1.out 1 _ rfl
      have q2 := blk_at E1.out 2 _ rfl
      have q3 := blk_at E1.out 3 _ rfl
      have q4 := blk_at E1.out 4 _ rfl
      have q5 := blk_at E1.out 5 _ rfl
      go_wp2_with (first
        | (go_at_call 26; (with_reducible refine (HDG.out _ HO1.out.bel).mono ?_); rintro e w6 ⟨rfl, hb⟩; have HO6 := Sd.mk (HO1.out.below hb); clear hb)
        | (at_builtin; refine append_one (f := fS) (n := 1) (fun _ => rfl) fS_one W.heap.size rfl (.tmp 15) (.tmp 18) 49 9 (.string ByteArray.empty) 16 rfl Try.underlying49 info_str rfl (by decide) (.slice A3 i c3) out d rfl rfl HO6.out.own HO6.out.bel HO6.out.bel.size (by rw [HTL.out]; omega) (by rw [HTL.out]; omega) ?_; intro v9 w9 hown hbel hgr; have HO9 := Sd.mk (So.mk hown hbel); clear hown hbel hgr))
      go_roundg (gk - 1)
      case measure => omega
      case rel => exact ⟨i + 1, by omega, by go_num, ⟨by rw [HTK.out]; exact HO9.out⟩⟩
    · have hii : decide (i < n) = false := decide_eq_false (by omega)
      have hii2 : decide ((i : Int) < (n : Int)) = false := decide_eq_false (by omega)
      have HO2 := Sd.mk (show So W u3 (f.orph.map digB) wr by have h := HO.out; rwa [List.take_of_length_le (by rw [HN.out]; omega)] at h)
      obtain ⟨A3, c3, rfl⟩ := OwnR.slice HO2.out.own
      have HTL := Sd.mk (show (f.orph.map digB).length = n by rw [List.length_map]; exact HN.out)
      rw [HTL.out] at HO2 ⊢
      go_wp2
      go_ret
      exact ⟨_, _, rfl, HO2.out⟩
set_option maxHeartbeats 1000000 in
theorem len_any {w0 W : World} {g : Nat} {f : Fo} (hf : Fw w0 g f W) (n : Nat) (hn : f.nodes.length = n) :
    Calls Try.prog 38 #[.pointer (some ⟨g, 0, none⟩)] W fun e w' => e = .returned (.int .i64 n) ∧ w' = W := by
  obtain ⟨m, ov, prs, rs, h1, -⟩ := hf.ex
  obtain ⟨es, ck, hm, hes⟩ := len_nodes hf h1 W (Below.refl _ _)
  rw [hn] at hes
  have hlen : ∀ ty, (Builtin.len_ #[115] ty #[.map (some m)]).run Try.prog W = .ok (goInt es.size) W := (fun ty => run_len_map W 115 ty m es ck (by rw [Try.underlying115]; kernel_rfl) hm)
  rw [hes] at hlen
  have c2 := blk_at h1 2 _ rfl
  clear hf hm hes h1 hn
  go_enter Try.func38, Try.ntmps38
  go_wp2
  go_ret
  exact ⟨rfl, rfl⟩
/-- is it among these? -/
def amg (l : List ByteArray) (s : ByteArray) : Bool := l.any (fun y => decide (s = y))
theorem amg_yes {l : List ByteArray} {s : ByteArray} {i : Nat} (h : l[i]? = some s) : amg l s = true := by
  unfold amg
  rw [List.any_eq_true]
  exact ⟨s, List.mem_of_getElem? h, decide_eq_true rfl⟩
theorem amg_no {l : List ByteArray} {s : ByteArray} (h : ∀ (j : Nat) (y : ByteArray), l[j]? = some y → s ≠ y) : amg l s = false := by
  unfold amg
  rw [List.any_eq_false]
  intro y hy
  obtain ⟨j, hj⟩ := List.getElem?_of_mem hy
  simpa using h j y hj
set_option maxHeartbeats 4000000 in
set_option maxRecDepth 100000 in
theorem sindex_any (w : World) (A : Option Addr) (c : Nat) (l : List ByteArray) (h : Sl strN w A c l) (n : Nat) (hn : n = l.length) (s : ByteArray) :
    Calls Try.prog 118 #[.slice A n c, .string s] w fun e w' => (∃ q : Int, e = .returned (.int .i64 q) ∧ decide (0 ≤ q) = amg l s) ∧ w' = w := by
  have HS := Sd.mk h
  have HN := Sd.mk hn
  have nc := Nat.le_trans h.le h.cap
  rw [← hn] at nc
  clear h hn
  go_enter Try.func118, Try.ntmps118
  go_wp2
  go_loopg [8] n (fun gk v8 wr => ∃ i, i + gk = n ∧ v8 = .int .i64 (i : Nat) ∧ Sd (∀ (j : Nat) (y : ByteArray), j < i → l[j]? = some y → s ≠ y) ∧ wr = w)
  case atStart => exact ⟨0, by omega, rfl, ⟨fun j y hj => by omega⟩, rfl⟩
  case round =>
    obtain ⟨i, hi, rfl, HD, rfl⟩ := hrel
    by_cases hlt : i < n
    · have hii : (i : Int) < n := by omega
      obtain ⟨y, hy⟩ : ∃ y, l[i]? = some y := ⟨l[i]'(by rw [← HN.out]; exact hlt), List.getElem?_eq_getElem _⟩
      obtain ⟨g1, o1, rfl, p0⟩ := strN_at HS.out.row hy
      rcases Decidable.em (s = y) with e | e
      · have he : (s.toList == y.toList) = true := by rw [Rp.str_beq]; exact decide_eq_true e
        have HE := Sd.mk (show decide ((0 : Int) ≤ (i : Int)) = amg l s by rw [amg_yes (e ▸ hy)]; exact decide_eq_true (by omega))
        clear e hy
        go_wp2
        go_ret
        exact ⟨⟨_, rfl, HE.out⟩, rfl⟩
      · have he : (s.toList == y.toList) = false := by rw [Rp.str_beq]; exact decide_eq_false e
        have HD2 := Sd.mk (show ∀ (j : Nat) (z : ByteArray), j < i + 1 → l[j]? = some z → s ≠ z from fun j z hj hz => by
          rcases Nat.lt_or_ge j i with e2 | e2
          · exact HD.out j z e2 hz
          · rw [show j = i by omega, hy] at hz
            cases Option.some.inj hz
            exact e)
        clear e hy
        go_wp2
        go_roundg (gk - 1)
        case measure => omega
        case rel => exact ⟨i + 1, by omega, by go_num, HD2, rfl⟩
    · have hii : decide (i < n) = false := decide_eq_false (by omega)
      have hii2 : decide ((i : Int) < (n : Int)) = false := decide_eq_false (by omega)
      have HE := Sd.mk (show decide ((0 : Int) ≤ -1) = amg l s by rw [amg_no (fun j y hj => HD.out j y (by have := (List.getElem?_eq_some_iff.1 hj).1; rw [← HN.out] at this; omega) hj)]; rfl)
      go_wp2
      go_ret
      exact ⟨⟨_, rfl, HE.out⟩, rfl⟩
set_option maxHeartbeats 1000000 in
theorem scontains_any (w : World) (A : Option Addr) (c : Nat) (l : List ByteArray) (h : Sl strN w A c l) (n : Nat) (hn : n = l.length) (s : ByteArray) (r : Bool) (hr : amg l s = r) :
    Calls Try.prog 77 #[.slice A n c, .string s] w fun e w' => e = .returned (.bool r) ∧ w' = w := by
  have HI := Sd.mk (sindex_any w A c l h n hn s)
  rw [hr] at HI
  clear h hn hr
  go_enter Try.func77, Try.ntmps77
  go_wp2_with (first
    | (go_at_call 118; (with_reducible refine HI.out.mono ?_); rintro e w1 ⟨⟨q, rfl, hq⟩, rfl⟩; have HQ := Sd.mk hq; clear hq))
  go_ret
  exact ⟨congrArg (fun z => Ending.returned (.bool z)) HQ.out, rfl⟩
/-- what orphans want -/
def mst (f : Fo) (out : List ByteArray) (b : Block) : List ByteArray := if f.hasO b.just.block || amg out b.just.block then out else out ++ [b.just.block]
def mss (f : Fo) (l : List Block) : List ByteArray := l.foldl (mst f) []
theorem mss_take {f : Fo} {l : List Block} {i : Nat} {b : Block} (h : l[i]? = some b) : mss f (l.take (i + 1)) = mst f (mss f (l.take i)) b := by
  rw [List.take_add_one, h]
  simp [mss]
theorem mst_len (f : Fo) (out : List ByteArray) (b : Block) : (mst f out b).length ≤ out.length + 1 := by
  unfold mst
  split
  · omega
  · rw [List.length_append]; exact Nat.le_refl _
theorem mss_len (f : Fo) (l : List Block) : (mss f l).length ≤ l.length :=
  Kee.snoc_ind (P := fun l => (mss f l).length ≤ l.length) (Nat.le_refl _) (fun l x ih => by
    have : mss f (l ++ [x]) = mst f (mss f l) x := by simp [mss]
    rw [this, List.length_append]
    have := mst_len f (mss f l) x
    show _ ≤ l.length + 1
    omega) _ l rfl
set_option maxHeartbeats 4000000 in
set_option maxRecDepth 100000 in
theorem missing_any {w0 W : World} {g : Nat} {f : Fo} (hf : Fw w0 g f W) (h8 : f.orph.length ≤ 1000) (k : Nat) (hk : (mss f f.orph).length = k) :
    Calls Try.prog 39 #[.pointer (some ⟨g, 0, none⟩)] W fun e w' => ∃ A c, e = .returned (.slice A k c) ∧ So W (.slice A k c) (mss f f.orph) w' := by
  obtain ⟨m, A, c, rs, hg, hs, ha⟩ := fw_row hf
  obtain ⟨n, hn⟩ : ∃ n, f.orph.length = n := ⟨_, rfl⟩
  rw [hn] at hg
  have c3 := blk_at hg 3 _ rfl
  have HN := Sd.mk hn
  have HK := Sd.mk hk
  have HF := Sd.mk hf
  have HS := Sd.mk hs
  have HA := Sd.mk ha
  have nc := Nat.le_trans hs.le hs.cap
  rw [ha.len, hn] at nc
  rw [hn] at h8
  clear hf hg hs ha hn hk
  go_enter Try.func39, Try.ntmps39
  go_wp2
  go_loopg [3, 12] n (fun gk v3 v12 wr => ∃ i, i + gk = n ∧ v12 = .int .i64 (i : Nat) ∧ Sd (So W v3 (mss f (f.orph.take i)) wr))
  case atStart => exact ⟨0, by omega, rfl, ⟨so_nil W⟩⟩
  case round =>
    clear c3
    obtain ⟨i, hi, rfl, HO⟩ := hrel
    by_cases hlt : i < n
    · have hii : (i : Int) < n := by omega
      obtain ⟨x, hx⟩ : ∃ x, f.orph[i]? = some x := ⟨f.orph[i]'(by rw [HN.out]; exact hlt), List.getElem?_eq_getElem _⟩
      obtain ⟨r, hr⟩ : ∃ r, rs[i]? = some r := ⟨rs[i]'(by rw [HA.out.len, HN.out]; exact hlt), List.getElem?_eq_getElem _⟩
      have HW := Sd.mk (HA.out.get hr hx)
      obtain ⟨b1, o1, rfl, p0, p1, p2, p3, p4, p5⟩ := wk_at HS.out.row hr HW.out.wk
      have p0 := cell_below HO.out.bel p0
      have p1 := cell_below HO.out.bel p1
      have p2 := cell_below HO.out.bel p2
      have p3 := cell_below HO.out.bel p3
      have p4 := cell_below HO.out.bel p4
      have p5 := cell_below HO.out.bel p5
      obtain ⟨out, hout⟩ : ∃ out, mss f (f.orph.take i) = out := ⟨_, rfl⟩
      have HTK := Sd.mk (show mss f (f.orph.take (i + 1)) = if f.hasO x.just.block || amg out x.just.block then out else out ++ [x.just.block] by rw [mss_take hx, hout]; rfl)
      obtain ⟨ho, hho⟩ : ∃ z, f.hasO x.just.block = z := ⟨_, rfl⟩
      obtain ⟨am, ham⟩ : ∃ z, amg out x.just.block = z := ⟨_, rfl⟩
      have HJ := just_le HW.out.sz
      have HOR := Sd.mk (fun W1 (hb : RowKit.Below W.heap.size W W1) => orphan_any (HF.out.below hb) x.just.block ho hho)
      rw [hho, ham] at HTK
      have HTL := Sd.mk (show out.length ≤ i by rw [← hout]; have := mss_len f (f.orph.take i); rw [List.length_take] at this; omega)
      rw [hout] at HO
      obtain ⟨A3, c3, e3, hs3⟩ := own_str HO.out.own
      subst e3
      obtain ⟨t, ht⟩ : ∃ t, out.length = t := ⟨_, rfl⟩
      rw [ht] at HO HTL ⊢
      have HTT := Sd.mk ht
      have ht1 : t ≤ 1000 := by have := HTL.out; omega
      have HCO := Sd.mk (fun W1 (hb : RowKit.Below wr.heap.size wr W1) => scontains_any W1 A3 c3 out (hs3.below hb) t ht.symm x.just.block am ham)
      clear hx hr hho ham hout ht hs3 HJ
      have b1' := below_one wr (.cells #[.int .i64 x.view, .int .i64 x.prop, .int .i64 x.just.view, .string x.just.block, .slice r.sa r.sn r.sc, .slice r.a x.batch.length r.c] 42)
      have HO1 := Sd.mk (HO.out.below b1')
      have HB1 := Sd.mk b1'
      have E1 := Sd.mk (blk_new wr (.cells #[.int .i64 x.view, .int .i64 x.prop, .int .i64 x.just.view, .string x.just.block, .slice r.sa r.sn r.sc, .slice r.a x.batch.length r.c] 42))
      clear b1'
      go_upto_region 5 with (fail)
      clear p0 p1 p2 p3 p4 p5 HO
      generalize wr.heap.size = g5 at E1 ⊢
      generalize wr.alloc _ = W5 at E1 HO1 HB1 ⊢
      have q0 := blk_at E1.out 0 _ rfl
      have q1 := blk_at E1.out 1 _ rfl
      have q2 := blk_at E1.out 2 _ rfl
      have q3 := blk_at E1.out 3 _ rfl
      have q4 := blk_at E1.out 4 _ rfl
      have q5 := blk_at E1.out 5 _ rfl
      go_upto_region 6 with (first
        | (go_at_call 28; (with_reducible refine (Blk.parent_any _ _ _ _ _ _ _).mono ?_); rintro e w5 ⟨rfl, hb⟩; have HO5 := Sd.mk (HO1.out.below hb); have HB5 := Sd.mk (below_then HB1.out hb); clear hb))
      clear q0 q1 q2 q3 q4 q5 E1 HO1 HB1
      cases ho with
      | true =>
        have HT2 := Sd.mk (show mss f (f.orph.take (i + 1)) = out from HTK.out)
        clear HTK HCO
        go_wp2_with (first
          | (go_at_call 74; (with_reducible refine (HOR.out _ HO5.out.bel).mono ?_); rintro e w6 ⟨rfl, hb⟩; have HO6 := Sd.mk (HO5.out.below hb); clear hb))
        go_roundg (gk - 1)
        case measure => omega
        case rel => exact ⟨i + 1, by omega, by go_num, ⟨by rw [HT2.out]; exact HO6.out⟩⟩
      | false =>
        cases am with
        | true =>
          have HT2 := Sd.mk (show mss f (f.orph.take (i + 1)) = out from HTK.out)
          clear HTK
          go_wp2_with (first
            | (go_at_call 74; (with_reducible refine (HOR.out _ HO5.out.bel).mono ?_); rintro e w6 ⟨rfl, hb⟩; have HO6 := Sd.mk (HO5.out.below hb); have HB6 := Sd.mk (below_then HB5.out hb); clear hb)
            | (go_at_call 77; (with_reducible refine (HCO.out _ HB6.out).mono ?_); rintro e w7 ⟨rfl, rfl⟩))
          go_roundg (gk - 1)
          case measure => omega
          case rel => exact ⟨i + 1, by omega, by go_num, ⟨by rw [HT2.out]; exact HO6.out⟩⟩
        | false =>
          have HT2 := Sd.mk (show mss f (f.orph.take (i + 1)) = out ++ [x.just.block] from HTK.out)
          clear HTK
          go_wp2_with (first
            | (go_at_call 74; (with_reducible refine (HOR.out _ HO5.out.bel).mono ?_); rintro e w6 ⟨rfl, hb⟩; have HO6 := Sd.mk (HO5.out.below hb); have HB6 := Sd.mk (below_then HB5.out hb); clear hb)
            | (go_at_call 77; (with_reducible refine (HCO.out _ HB6.out).mono ?_); rintro e w7 ⟨rfl, rfl⟩)
            | (at_builtin; refine append_one (f := fS) (n := 1) (fun _ => rfl) fS_one W.heap.size rfl (.tmp 28) (.tmp 30) 49 9 (.string ByteArray.empty) 16 rfl Try.underlying49 info_str rfl (by decide) (.slice A3 t c3) out x.just.block rfl rfl HO6.out.own HO6.out.bel HO6.out.bel.size (by rw [HTT.out]; omega) (by rw [HTT.out]; omega) ?_; intro v9 w9 hown hbel hgr; have HO9 := Sd.mk (So.mk hown hbel); clear hown hbel hgr))
          go_roundg (gk - 1)
          case measure => omega
          case rel => exact ⟨i + 1, by omega, by go_num, ⟨by rw [HT2.out]; exact HO9.out⟩⟩
    · have hii : decide (i < n) = false := decide_eq_false (by omega)
      have hii2 : decide ((i : Int) < (n : Int)) = false := decide_eq_false (by omega)
      have HO2 := Sd.mk (show So W u3 (mss f f.orph) wr by have h := HO.out; rwa [List.take_of_length_le (by rw [HN.out]; omega)] at h)
      obtain ⟨A3, c3, rfl⟩ := OwnR.slice HO2.out.own
      rw [HK.out] at HO2 ⊢
      go_wp2
      go_ret
      exact ⟨_, _, rfl, HO2.out⟩
/-- the zero block -/
def ZB : Block := ⟨0, 0, ⟨0, ⟨#[]⟩, []⟩, []⟩
theorem zb_ne : digB ZB ≠ Crt.FB := by decide +kernel
theorem fb_ne : (⟨#[]⟩ : ByteArray) ≠ Crt.FB := by decide +kernel
theorem put_zb : F0.put ZB = (0, ⟨Crt.FB, 0, [], [ZB]⟩) := by
  have h1 : F0.has (digB ZB) = false := by unfold Fo.has; rw [decide_eq_false (show ¬ digB ZB = F0.root from zb_ne)]; rfl
  have h2 : F0.hasO (digB ZB) = false := rfl
  have h3 : F0.has ZB.just.block = false := by unfold Fo.has; rw [decide_eq_false (show ¬ ZB.just.block = F0.root from fb_ne)]; rfl
  unfold Fo.put
  rw [h1, h2, h3]
  rfl
theorem zb_bw (W : World) : Bw W ⟨0, 0, 0, ⟨#[]⟩, none, 0, 0, none, 0, 0⟩ ZB := ⟨⟨rfl, rfl, rfl, rfl, rfl, ⟨Nat.le_refl _, (show (0 : Nat) ≤ 9223372036854775807 by omega), fun i x hx => by simp [ZB] at hx⟩⟩, by decide +kernel⟩
set_option maxHeartbeats 4000000 in
set_option maxRecDepth 100000 in
theorem awake7_any (w : World) : Calls Try.prog 34 #[] w fun e w' => e = .returned (.bool true) ∧ RowKit.Below w.heap.size w w' := by
  have HPU := Sd.mk (fun (W1 : World) (g : Nat) (h : Fw w g F0 W1) => put_any h ok_0 ZB _ (zb_bw w))
  have HOR := Sd.mk (fun (W1 : World) (g : Nat) (h : Fw w g ⟨Crt.FB, 0, [], [ZB]⟩ W1) => orphans_any h (show 1 ≤ 1000 by omega) 1 rfl)
  rw [put_zb] at HPU
  go_enter Try.func34, Try.ntmps34
  go_wp2_with (first
    | (go_at_call 35; (with_reducible refine (new_any _).mono ?_); rintro e w1 ⟨g, rfl, hf, hb⟩; have HF1 := Sd.mk hf; clear hf hb)
    | (go_at_call 36; refine (HPU.out _ _ HF1.out).mono ?_; rintro e w2 ⟨rfl, hf, hr⟩; have HF2 := Sd.mk hf; clear hf hr)
    | (go_at_call 37; (with_reducible refine (HOR.out _ _ HF2.out).mono ?_); rintro e w3 ⟨A, c, rfl, ho⟩; have HF3 := Sd.mk (HF2.out.below ho.bel); clear ho))
  go_ret
  exact ⟨rfl, HF3.out.bel⟩
-- L1>
end Go.Proofs.Ytnomgkmeomlccaa.Fst

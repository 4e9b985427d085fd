/- A tally: Add: walked. -/
import Derived.Test.YtdmdfpbklflijaaTalA
import Derived.Deep.RegionLaw
import Derived.Deep.CutRange
import Derived.Test.YtdmdfpbklflijaaCnt
set_option linter.unusedVariables false
set_option linter.unusedSimpArgs false
namespace Go.Proofs.Ytdmdfpbklflijaa.Tal
open Go.RowKit Go.Sort Rd Api Own Mv App Mk Num Dig Mac

/-- what a tally's calls leave as it is: they write blocks of these types alone -/
structure Kp (K : World → Prop) : Prop where
  below : ∀ {W W1 : World}, K W → RowKit.Below W.heap.size W W1 → K W1
  set : ∀ {W : World} {k : Nat} {cs : Array Value} {t : TypeId} (j : Nat) (u : Value), K W → W.heap[k]? = some (.cells cs t (0, 0)) → (t = 111 ∨ t = 24 ∧ ∃ W0 : World, K W0 ∧ W0.heap.size ≤ k) → K (W.setCell ⟨k, j, none⟩ u)
  grow : ∀ {W W1 : World} {row : Option Nat}, K W → W.grownBy W1 row → (∀ k, row = some k → ∃ cs, W.heap[k]? = some (.cells cs 113 (0, 0))) → K W1
theorem kp_true : Kp (fun _ => True) := ⟨fun _ _ => trivial, fun _ _ _ _ _ => trivial, fun _ _ _ => trivial⟩
theorem own_type {α : Type} {f : α → List Value} {n : Nat} {W : World} {base : Nat} {e : TypeId} {v : Value} {xs : List α} (h : OwnR f n W base e v xs) : ∀ k, v.ownBlock = some k → ∃ cs, W.heap[k]? = some (.cells cs e (0, 0)) := by
  intro k hk
  rcases h.2 with ⟨rfl, _⟩ | ⟨g, cap, cur, rfl, _, hg, _⟩
  · simp [Value.ownBlock] at hk
  · simp [Value.ownBlock] at hk; subst hk; exact ⟨_, hg⟩
/-- a tally that the law has made: all that it writes is the law's own -/
structure Tb (K : World → Prop) (w0 : World) (g : Nat) (seed : ByteArray) (tn n below : Int) (v : Value) (vs : List Vt) (W : World) : Prop where
  ty : Ty g seed tn n below v vs W
  ge : w0.heap.size ≤ g
  row : ∀ k, v.ownBlock = some k → w0.heap.size ≤ k
  bel : RowKit.Below w0.heap.size w0 W
  kp : Kp K
  k : K W
theorem Tb.below {K : World → Prop} {w0 : World} {g : Nat} {seed : ByteArray} {tn n below : Int} {v : Value} {vs : List Vt} {W W1 : World} (h : Tb K w0 g seed tn n below v vs W) (hb : RowKit.Below W.heap.size W W1) : Tb K w0 g seed tn n below v vs W1 := ⟨h.ty.below hb, h.ge, h.row, below_then h.bel hb, h.kp, h.kp.below h.k hb⟩
/-- one more vote, and the result's cell -/
theorem Tb.push {K : World → Prop} {w0 : World} {g : Nat} {seed : ByteArray} {tn n below : Int} {v : Value} {vs : List Vt} {W w6 : World} (h : Tb K w0 g seed tn n below v vs W) {N : Nat} (hN : w0.heap.size ≤ N) {y : Vt} {v6 : Value} (hown : OwnR fV 4 w6 0 113 v6 (vs ++ [y])) (hg : W.grownBy w6 v.ownBlock) (hob : v6.ownBlock = v.ownBlock ∨ v6.ownBlock = some N) :
    Tb K w0 g seed tn n below v6 (vs ++ [y]) (w6.setCell ⟨g, 4, none⟩ v6) := by
  have r6 := blk_grown h.ty.blk hg (OwnR.blk h.ty.own h.ty.blk (by decide))
  refine ⟨⟨(blk_set3 r6 4 v6).trans rfl, OwnR.grown hown (row := some g) ⟨rfl, rfl, rfl, by simp [World.setCell], fun k hk hr => heap_set _ _ _ _ k (fun e => hr (by rw [e]))⟩ (.inr (OwnR.blk hown r6 (by decide)))⟩, h.ge, fun k hk => ?_, (below_grown h.bel hg h.bel.size h.row).setCell (p := ⟨g, 4, none⟩) h.ge _, h.kp, h.kp.set 4 v6 (h.kp.grow h.k hg (own_type h.ty.own)) r6 (.inl rfl)⟩
  rcases hob with e | e
  · exact h.row k (e ▸ hk)
  · rw [hk] at e; have := Option.some.inj e; omega
theorem info_vote : ((Try.prog).info? 113).map (fun i => (i.zero, i.size, i.bytes)) = some (some (.agg #[.int .i64 0, .string ByteArray.empty, .int .i64 0, .slice none 0 0]), 4, 56) := by kernel_rfl
def zcert : Value := .agg #[.int .i64 0, .string { data := #[] }, .slice none 0 0]
def rblk : Obj := .cells #[.int .i64 0, .string { data := #[] }, .slice none 0 0] 24
/-- amid Add -/
structure Ae (K : World → Prop) (w0 : World) (g : Nat) (seed : ByteArray) (tn n below : Int) (v : Value) (vs : List Vt) (Br : Nat) (W : World) : Prop where
  tb : Tb K w0 g seed tn n below v vs W
  res : W.heap[Br]? = some (.cells #[.int .i64 0, .string { data := #[] }, .slice none 0 0] 24 (0, 0))
  br : w0.heap.size ≤ Br
  od : ∃ W0 : World, K W0 ∧ W0.heap.size ≤ Br
theorem Ae.below {K : World → Prop} {w0 : World} {g : Nat} {seed : ByteArray} {tn n below : Int} {v : Value} {vs : List Vt} {Br : Nat} {W W1 : World} (h : Ae K w0 g seed tn n below v vs Br W) (hb : RowKit.Below W.heap.size W W1) : Ae K w0 g seed tn n below v vs Br W1 := ⟨h.tb.below hb, blk_keep h.res hb, h.br, h.od⟩
structure Ad (K : World → Prop) (w0 : World) (g : Nat) (seed : ByteArray) (tn n below : Int) (v : Value) (vs : List Vt) (y : Vt) (Br Bv : Nat) (W : World) : Prop where
  ae : Ae K w0 g seed tn n below v vs Br W
  vb : W.heap[Bv]? = some (.cells #[.int .i64 y.v, .string y.b, .int .i64 y.s.f, .slice y.s.a y.s.n y.s.c] 113 (0, 0))
theorem Ad.below {K : World → Prop} {w0 : World} {g : Nat} {seed : ByteArray} {tn n below : Int} {v : Value} {vs : List Vt} {y : Vt} {Br Bv : Nat} {W W1 : World} (h : Ad K w0 g seed tn n below v vs y Br Bv W) (hb : RowKit.Below W.heap.size W W1) : Ad K w0 g seed tn n below v vs y Br Bv W1 := ⟨h.ae.below hb, blk_keep h.vb hb⟩
theorem Ae.push {K : World → Prop} {w0 : World} {g : Nat} {seed : ByteArray} {tn n below : Int} {v : Value} {vs : List Vt} {Br : Nat} {W w6 : World} (h : Ae K w0 g seed tn n below v vs Br W) {N : Nat} (hN : w0.heap.size ≤ N) {y : Vt} {v6 : Value} (hown : OwnR fV 4 w6 0 113 v6 (vs ++ [y])) (hg : W.grownBy w6 v.ownBlock) (hob : v6.ownBlock = v.ownBlock ∨ v6.ownBlock = some N) :
    Ae K w0 g seed tn n below v6 (vs ++ [y]) Br (w6.setCell ⟨g, 4, none⟩ v6) := by
  have e1 : Br ≠ g := fun e => by have h1 := h.tb.ty.blk; rw [← e, h.res] at h1; simp at h1
  exact ⟨h.tb.push hN hown hg hob, (heap_set _ _ _ _ _ e1).trans (blk_grown h.res hg (OwnR.blk h.tb.ty.own h.res (by decide))), h.br, h.od⟩
/-- the contract of takes, in one word -/
def Takes (g : Nat) (y : Vt) (r : Bool) (W : World) : Prop := Calls Try.prog 69 #[.pointer (some ⟨g, 0, none⟩), .agg #[.int .i64 y.v, .string y.b, .int .i64 y.s.f, .slice y.s.a y.s.n y.s.c]] W fun e w' => e = .returned (.bool r) ∧ RowKit.Below W.heap.size W w'
theorem ad_start {K : World → Prop} {w0 : World} {g : Nat} {seed : ByteArray} {tn n below : Int} {v : Value} {vs : List Vt} {W : World} (h : Tb K w0 g seed tn n below v vs W) (y : Vt) : Ad K w0 g seed tn n below v vs y (W.heap.size + 1) (W.heap.size + 1 + 1) (((W.alloc (.cells #[.int .i64 y.s.f, .slice y.s.a y.s.n y.s.c] 39)).alloc (.cells #[.int .i64 0, .string { data := #[] }, .slice none 0 0] 24)).alloc (.cells #[.int .i64 y.v, .string y.b, .int .i64 y.s.f, .slice y.s.a y.s.n y.s.c] 113)) ∧ RowKit.Below W.heap.size W (((W.alloc (.cells #[.int .i64 y.s.f, .slice y.s.a y.s.n y.s.c] 39)).alloc (.cells #[.int .i64 0, .string { data := #[] }, .slice none 0 0] 24)).alloc (.cells #[.int .i64 y.v, .string y.b, .int .i64 y.s.f, .slice y.s.a y.s.n y.s.c] 113)) := by
  have b1 := below_one W (.cells #[.int .i64 y.s.f, .slice y.s.a y.s.n y.s.c] 39)
  have b2 := below_then b1 (below_one _ (.cells #[.int .i64 0, .string { data := #[] }, .slice none 0 0] 24))
  have b3 := below_then b2 (below_one _ (.cells #[.int .i64 y.v, .string y.b, .int .i64 y.s.f, .slice y.s.a y.s.n y.s.c] 113))
  exact ⟨⟨⟨h.below b3, blk_keep (blk_new1 _ _ _) (below_one _ _), by have := h.bel.size; omega, ⟨W, h.k, by omega⟩⟩, blk_new2 _ _ _ _⟩, b3⟩
/-- what is told: the cells of the result -/
def fin3 (Br : Nat) (W : World) (a b c : Value) : World := ((W.setCell ⟨Br, 0, none⟩ a).setCell ⟨Br, 1, none⟩ b).setCell ⟨Br, 2, none⟩ c
theorem fin3_cells {Br : Nat} {W : World} {x y z : Value} (h : W.heap[Br]? = some (.cells #[x, y, z] 24 (0, 0))) (a b c : Value) : (fin3 Br W a b c).cell? ⟨Br, 0, none⟩ = some a ∧ (fin3 Br W a b c).cell? ⟨Br, 1, none⟩ = some b ∧ (fin3 Br W a b c).cell? ⟨Br, 2, none⟩ = some c := by
  have X8 : (fin3 Br W a b c).heap[Br]? = some (.cells #[a, b, c] 24 (0, 0)) := (blk_set3 (blk_set3 (blk_set3 h 0 _) 1 _) 2 _).trans rfl
  exact ⟨blk_at X8 0 _ rfl, blk_at X8 1 _ rfl, blk_at X8 2 _ rfl⟩
theorem fin3_other (Br : Nat) (W : World) (a b c : Value) {k : Nat} (hk : k ≠ Br) : (fin3 Br W a b c).heap[k]? = W.heap[k]? := (heap_set _ _ _ _ _ hk).trans ((heap_set _ _ _ _ _ hk).trans (heap_set _ _ _ _ _ hk))
theorem Ae.fin {K : World → Prop} {w0 : World} {g : Nat} {seed : ByteArray} {tn n below : Int} {v : Value} {vs : List Vt} {Br : Nat} {W : World} (h : Ae K w0 g seed tn n below v vs Br W) (a b c : Value) : Tb K w0 g seed tn n below v vs (fin3 Br W a b c) := by
  have hne : g ≠ Br := fun e => by have h1 := h.tb.ty.blk; rw [e, h.res] at h1; simp at h1
  refine ⟨⟨(fin3_other Br W a b c hne).trans h.tb.ty.blk, OwnR.grown h.tb.ty.own (row := some Br) ⟨rfl, rfl, rfl, by simp [fin3, World.setCell], fun k hk hr => fin3_other Br W a b c (fun e => hr (by rw [e]))⟩ (.inr (OwnR.blk h.tb.ty.own h.res (by decide)))⟩, h.tb.ge, h.tb.row, ?_, h.tb.kp, ?_⟩
  · exact ((h.tb.bel.setCell (p := ⟨Br, 0, none⟩) h.br _).setCell (p := ⟨Br, 1, none⟩) h.br _).setCell (p := ⟨Br, 2, none⟩) h.br _
  · exact h.tb.kp.set 2 c (h.tb.kp.set 1 b (h.tb.kp.set 0 a h.tb.k h.res (.inr ⟨rfl, h.od⟩)) (blk_set3 h.res 0 a) (.inr ⟨rfl, h.od⟩)) (blk_set3 (blk_set3 h.res 0 a) 1 b) (.inr ⟨rfl, h.od⟩)
set_option maxHeartbeats 8000000 in
set_option maxRecDepth 100000 in
theorem add_no {K : World → Prop} {w0 : World} {g : Nat} {seed : ByteArray} {tn n below : Int} {v : Value} {vs : List Vt} {W : World} (h : Tb K w0 g seed tn n below v vs W) (y : Vt) (ht : ∀ W1, RowKit.Below W.heap.size W W1 → Takes g y false W1) :
    Calls Try.prog 33 #[.pointer (some ⟨g, 0, none⟩), .int .i64 y.v, .string y.b, .agg #[.int .i64 y.s.f, .slice y.s.a y.s.n y.s.c]] W fun e w' => e = .returned (.tuple #[zcert, .bool false]) ∧ Tb K w0 g seed tn n below v vs w' := by
  have H := Sd.mk h
  have HT := Sd.mk ht
  clear h ht
  go_enter Try.func33, Try.ntmps33
  go_upto_region 2 with (fail)
  obtain ⟨hA, hB⟩ := ad_start H.out y
  have HA := Sd.mk hA
  have HTK := Sd.mk (HT.out _ hB)
  clear hA hB HT H
  generalize W.heap.size + 1 + 1 = Bv at HA ⊢
  generalize W.heap.size + 1 = Br at HA ⊢
  generalize World.alloc _ _ = W3 at HA HTK ⊢
  have v0 := blk_at HA.out.vb 0 _ rfl
  have v1 := blk_at HA.out.vb 1 _ rfl
  have v2 := blk_at HA.out.vb 2 _ rfl
  have v3 := blk_at HA.out.vb 3 _ rfl
  have HTK2 := Sd.mk (show Calls Try.prog 69 #[.pointer (some ⟨g, 0, none⟩), .agg #[.int .i64 y.v, .string y.b, .int .i64 y.s.f, .slice y.s.a y.s.n y.s.c]] W3 fun e w' => e = .returned (.bool false) ∧ RowKit.Below W3.heap.size W3 w' from HTK.out)
  clear HTK
  go_wp2_with (first
    | (go_at_call 69; (with_reducible refine HTK2.out.mono ?_); rintro e w4 ⟨rfl, hb4⟩; have HA4 := Sd.mk ((HA.out.below hb4).ae); have a0 := blk_at HA4.out.res 0 _ rfl; have a1 := blk_at HA4.out.res 1 _ rfl; have a2 := blk_at HA4.out.res 2 _ rfl; have f0 := blk_frz HA4.out.res 0; have f1 := blk_frz HA4.out.res 1; have f2 := blk_frz HA4.out.res 2; clear hb4 HA HTK2 v0 v1 v2 v3))
  obtain ⟨y0, y1, y2⟩ := fin3_cells HA4.out.res (.int .i64 0) (.string { data := #[] }) (.slice none 0 0)
  have HF := Sd.mk (HA4.out.fin (.int .i64 0) (.string { data := #[] }) (.slice none 0 0))
  clear a0 a1 a2 f0 f1 f2 HA4
  change bodyPost _ _ _ _ _ (fin3 Br w4 (.int .i64 0) (.string { data := #[] }) (.slice none 0 0))
  generalize fin3 Br w4 _ _ _ = w9 at y0 y1 y2 HF ⊢
  exact bodyPost_ret (v := .tuple #[zcert, .bool false]) (by simp [results, Try.results33, go_sem, y0, y1, y2, zcert]) rfl ⟨rfl, HF.out⟩
theorem raw_ne {W : World} {Br b t : Nat} {f : Int} {a : Option Addr} {n c : Nat} (h : W.heap[Br]? = some (.cells #[.int .i64 0, .string { data := #[] }, .slice none 0 0] 24 (0, 0))) (h0 : W.cell? ⟨b, t, none⟩ = some (.int .i64 f)) (h1 : W.cell? ⟨b, t + 1, none⟩ = some (.slice a n c)) : b ≠ Br := by
  rintro rfl
  unfold World.cell? at h0 h1
  rw [h] at h0 h1
  match t, h0, h1 with
  | 0, h0, h1 => simp at h1
  | 1, h0, h1 => simp at h0
  | 2, h0, h1 => simp at h0
  | t + 3, h0, h1 => simp at h0
theorem raw_fin {W : World} {Br : Nat} (h : W.heap[Br]? = some (.cells #[.int .i64 0, .string { data := #[] }, .slice none 0 0] 24 (0, 0))) {A : Option Addr} {c : Nat} {r : List Raw} (hs : Sl rawK W A c r) (x y z : Value) : Sl rawK (fin3 Br W x y z) A c r := by
  refine ⟨hs.le, hs.cap, fun i e he => ?_⟩
  obtain ⟨b, o, hA, h0, h1⟩ := raw_at hs.row he
  have hne := raw_ne h h0 h1
  have keep : ∀ t, (fin3 Br W x y z).cell? ⟨b, t, none⟩ = W.cell? ⟨b, t, none⟩ := fun t => by
    unfold World.cell?
    rw [fin3_other Br W x y z hne]
  refine ⟨b, o, fS e, hA, rfl, fun t u hu => ?_⟩
  show (fin3 Br W x y z).cell? ⟨b, o + i * 2 + t, none⟩ = some u
  rw [keep]
  match t, hu with
  | 0, hu => simp only [fS, List.getElem?_cons_zero, Option.some.injEq] at hu; subst hu; exact h0
  | 1, hu => simp only [fS, List.getElem?_cons_succ, List.getElem?_cons_zero, Option.some.injEq] at hu; subst hu; exact h1
  | t + 2, hu => simp [fS] at hu
theorem own_raw {W : World} {B : Nat} {v : Value} {l : List Raw} (h : OwnR fS 2 W B 39 v l) : ∃ A c, v = .slice A l.length c ∧ Sl2 W A c l := by
  obtain ⟨A, c, hv, hs⟩ := OwnR.reads (d := rawK) (f := fS) (n := 2) (fun _ _ => rfl) (fun _ => rfl) rfl h
  refine ⟨A, c, hv, ⟨hs.le, hs.cap, hs.row, fun hA => ?_⟩⟩
  subst hA
  rcases h.2 with ⟨h1, _⟩ | ⟨g, cap, cur, h1, _⟩
  · rw [hv] at h1; simp at h1; exact h1.2
  · rw [hv] at h1; simp at h1
set_option maxHeartbeats 8000000 in
set_option maxRecDepth 100000 in
theorem add_few {K : World → Prop} {w0 : World} {g : Nat} {seed : ByteArray} {tn below : Int} {v : Value} {vs : List Vt} {W : World} (n : Nat) (n1 : 1 ≤ n) (n7 : n ≤ 7) (h : Tb K w0 g seed tn n below v vs W) (hl : vs.length ≤ 900) (y : Vt) (ht : ∀ W1, RowKit.Below W.heap.size W W1 → Takes g y true W1) (k : Nat) (hk : (ofF (vs ++ [y]) y.v y.b).length = k) (q : Nat) (hq : q = n - Gat.fl n) (hkq : k ≠ q) :
    Calls Try.prog 33 #[.pointer (some ⟨g, 0, none⟩), .int .i64 y.v, .string y.b, .agg #[.int .i64 y.s.f, .slice y.s.a y.s.n y.s.c]] W fun e w' => e = .returned (.tuple #[zcert, .bool false]) ∧ ∃ v', Tb K w0 g seed tn n below v' (vs ++ [y]) w' := by
  have H := Sd.mk h
  have HT := Sd.mk ht
  have HK := Sd.mk hk
  have HQ := Sd.mk hq
  have hkl : k ≤ 901 := by rw [← hk]; have := ofF_le (vs ++ [y]) y.v y.b; rw [List.length_append] at this; simp at this; omega
  clear h ht hk hq
  go_enter Try.func33, Try.ntmps33
  go_upto_region 2 with (fail)
  obtain ⟨hA, hB⟩ := ad_start H.out y
  have HA := Sd.mk hA
  have HTK := Sd.mk (HT.out _ hB)
  clear hA hB HT H
  generalize W.heap.size + 1 + 1 = Bv at HA ⊢
  generalize W.heap.size + 1 = Br at HA ⊢
  generalize World.alloc _ _ = W3 at HA HTK ⊢
  have v0 := blk_at HA.out.vb 0 _ rfl
  have v1 := blk_at HA.out.vb 1 _ rfl
  have v2 := blk_at HA.out.vb 2 _ rfl
  have v3 := blk_at HA.out.vb 3 _ rfl
  have HTK2 := Sd.mk (show Calls Try.prog 69 #[.pointer (some ⟨g, 0, none⟩), .agg #[.int .i64 y.v, .string y.b, .int .i64 y.s.f, .slice y.s.a y.s.n y.s.c]] W3 fun e w' => e = .returned (.bool true) ∧ RowKit.Below W3.heap.size W3 w' from HTK.out)
  clear HTK
  go_upto_region 4 with (first
    | (go_at_call 69; (with_reducible refine HTK2.out.mono ?_); rintro e w4 ⟨rfl, hb4⟩; have HA4 := Sd.mk (HA.out.below hb4); clear hb4 HA HTK2 v0 v1 v2 v3))
  obtain ⟨A1, c1, rfl, hs1⟩ := own_vt HA4.out.ae.tb.ty.own
  obtain ⟨m, hm⟩ : ∃ m, m = vs.length := ⟨_, rfl⟩
  have HM := Sd.mk hm
  rw [← hm] at HA4 hl
  clear hs1 hm
  have v0 := blk_at HA4.out.vb 0 _ rfl
  have v1 := blk_at HA4.out.vb 1 _ rfl
  have v2 := blk_at HA4.out.vb 2 _ rfl
  have v3 := blk_at HA4.out.vb 3 _ rfl
  have g4 := blk_at HA4.out.ae.tb.ty.blk 4 _ rfl
  go_cut [9] from 21 to 31 (fun v9 wx => v9 = .bool false ∧ ∃ A6 q6, Sd (Ae K w0 g seed tn n below (.slice A6 (m + 1) q6) (vs ++ [y]) Br wx))
  case first =>
    have HD := Sd.mk (HA4.out.ae.below (below_drew' (Below.refl w4.heap.size w4)))
    have ga : ∀ o, (w4.alloc o).cell? ⟨g, 4, none⟩ = some (.slice A1 m c1) := fun o => cell_below (below_one w4 o) g4
    go_region_law (first
      | (refine step_append_at (f := fV) (n := 4) (fun _ => rfl) fV_one rfl (.tmp 25) (.tmp 27) 109 113 (.agg #[.int .i64 0, .string ByteArray.empty, .int .i64 0, .slice none 0 0]) 56 rfl Try.underlying109 info_vote rfl (by decide) (.slice A1 m c1) vs y rfl rfl HD.out.tb.ty.own (by rw [← HM.out]; omega) (by rw [← HM.out]; omega) ?_; intro v6 w6 hown hgrow hob; obtain ⟨A6, q6, rfl⟩ := OwnR.slice hown; have hl6 : (vs ++ [y]).length = m + 1 := (by rw [List.length_append, ← HM.out]; rfl); rw [hl6] at hown hob ⊢; have r6 := blk_grown HD.out.tb.ty.blk hgrow (OwnR.blk HD.out.tb.ty.own HD.out.tb.ty.blk (by decide)); have c6 := blk_at r6 4 _ rfl; have f6 := blk_frz r6 4; have HL6 := Sd.mk (HD.out.push (by have := HD.out.tb.bel.size; omega) hown hgrow hob); clear hown hgrow hob hl6)
      | fail)
    all_goals
      clear c6 f6 r6 v0 v1 v2 v3 g4 ga HD HA4
      generalize w6.setCell _ _ = W7 at HL6 ⊢
      go_wp2
      go_meet
      exact ⟨rfl, _, _, HL6⟩
  case rest =>
    clear v0 v1 v2 v3 g4 HA4
    obtain ⟨rfl, A6, q6, HL6⟩ := hcut
    have HOF := Sd.mk (of_any HL6.out.tb.ty (by rw [List.length_append, ← HM.out]; simp; omega) y.v y.b)
    go_upto_region 6 with (first
      | (go_at_call 70; (with_reducible refine HOF.out.mono ?_); rintro e w7 ⟨v', rfl, ho⟩; obtain ⟨A8, q8, rfl⟩ := OwnR.slice ho.own; rw [HK.out] at ho ⊢; have HO7 := Sd.mk ho; have HL7 := Sd.mk (HL6.out.below ho.bel); clear ho))
    clear HOF HL6
    have g2 := blk_at HL7.out.tb.ty.blk 2 _ rfl
    have hq7 : q ≤ 7 := by have := HQ.out; omega
    have dk : ((k : Int) != (q : Int)) = true := by rw [bne_iff_ne]; omega
    have dk2 : (k != q) = true := by rw [bne_iff_ne]; exact hkq
    have a0 := blk_at HL7.out.res 0 _ rfl
    have a1 := blk_at HL7.out.res 1 _ rfl
    have a2 := blk_at HL7.out.res 2 _ rfl
    have f0 := blk_frz HL7.out.res 0
    have f1 := blk_frz HL7.out.res 1
    have f2 := blk_frz HL7.out.res 2
    clear HO7
    go_wp2_with (first
      | (go_at_call 54; (with_reducible refine (Gat.quorum_any _ n n1 (by omega) q HQ.out).mono ?_); rintro e w8 ⟨rfl, hw8⟩; obtain rfl := hw8.symm))
    obtain ⟨y0, y1, y2⟩ := fin3_cells HL7.out.res (.int .i64 0) (.string { data := #[] }) (.slice none 0 0)
    have HF := Sd.mk (HL7.out.fin (.int .i64 0) (.string { data := #[] }) (.slice none 0 0))
    clear a0 a1 a2 f0 f1 f2 HL7 g2
    change bodyPost _ _ _ _ _ (fin3 Br w7 (.int .i64 0) (.string { data := #[] }) (.slice none 0 0))
    generalize fin3 Br w7 _ _ _ = w9 at y0 y1 y2 HF ⊢
    exact bodyPost_ret (v := .tuple #[zcert, .bool false]) (by simp [results, Try.results33, go_sem, y0, y1, y2, zcert]) rfl ⟨rfl, _, HF.out⟩
set_option maxHeartbeats 8000000 in
set_option maxRecDepth 100000 in
theorem add_full {K : World → Prop} {w0 : World} {g : Nat} {seed : ByteArray} {tn below : Int} {v : Value} {vs : List Vt} {W : World} (n : Nat) (n1 : 1 ≤ n) (n7 : n ≤ 7) (h : Tb K w0 g seed tn n below v vs W) (hl : vs.length ≤ 900) (y : Vt) (ht : ∀ W1, RowKit.Below W.heap.size W W1 → Takes g y true W1) (k : Nat) (hk : (ofF (vs ++ [y]) y.v y.b).length = k) (q : Nat) (hq : q = n - Gat.fl n) (hkq : k = q) :
    Calls Try.prog 33 #[.pointer (some ⟨g, 0, none⟩), .int .i64 y.v, .string y.b, .agg #[.int .i64 y.s.f, .slice y.s.a y.s.n y.s.c]] W fun e w' => ∃ v' A' k' c' r, e = .returned (.tuple #[.agg #[.int .i64 y.v, .string y.b, .slice A' k' c'], .bool true]) ∧ k' = r.length ∧ Sl rawK w' A' c' r ∧ Made (ofF (vs ++ [y]) y.v y.b) r ∧ Tb K w0 g seed tn n below v' (vs ++ [y]) w' := by
  have H := Sd.mk h
  have HT := Sd.mk ht
  have HK := Sd.mk hk
  have HQ := Sd.mk hq
  have hkl : k ≤ 901 := by rw [← hk]; have := ofF_le (vs ++ [y]) y.v y.b; rw [List.length_append] at this; simp at this; omega
  clear h ht hk hq
  go_enter Try.func33, Try.ntmps33
  go_upto_region 2 with (fail)
  obtain ⟨hA, hB⟩ := ad_start H.out y
  have HA := Sd.mk hA
  have HTK := Sd.mk (HT.out _ hB)
  clear hA hB HT H
  generalize W.heap.size + 1 + 1 = Bv at HA ⊢
  generalize W.heap.size + 1 = Br at HA ⊢
  generalize World.alloc _ _ = W3 at HA HTK ⊢
  have v0 := blk_at HA.out.vb 0 _ rfl
  have v1 := blk_at HA.out.vb 1 _ rfl
  have v2 := blk_at HA.out.vb 2 _ rfl
  have v3 := blk_at HA.out.vb 3 _ rfl
  have HTK2 := Sd.mk (show Calls Try.prog 69 #[.pointer (some ⟨g, 0, none⟩), .agg #[.int .i64 y.v, .string y.b, .int .i64 y.s.f, .slice y.s.a y.s.n y.s.c]] W3 fun e w' => e = .returned (.bool true) ∧ RowKit.Below W3.heap.size W3 w' from HTK.out)
  clear HTK
  go_upto_region 4 with (first
    | (go_at_call 69; (with_reducible refine HTK2.out.mono ?_); rintro e w4 ⟨rfl, hb4⟩; have HA4 := Sd.mk (HA.out.below hb4); clear hb4 HA HTK2 v0 v1 v2 v3))
  obtain ⟨A1, c1, rfl, hs1⟩ := own_vt HA4.out.ae.tb.ty.own
  obtain ⟨m, hm⟩ : ∃ m, m = vs.length := ⟨_, rfl⟩
  have HM := Sd.mk hm
  rw [← hm] at HA4 hl
  clear hs1 hm
  have v0 := blk_at HA4.out.vb 0 _ rfl
  have v1 := blk_at HA4.out.vb 1 _ rfl
  have v2 := blk_at HA4.out.vb 2 _ rfl
  have v3 := blk_at HA4.out.vb 3 _ rfl
  have g4 := blk_at HA4.out.ae.tb.ty.blk 4 _ rfl
  go_cut [9] from 21 to 31 (fun v9 wx => v9 = .bool false ∧ ∃ A6 q6, Sd (Ae K w0 g seed tn n below (.slice A6 (m + 1) q6) (vs ++ [y]) Br wx))
  case first =>
    have HD := Sd.mk (HA4.out.ae.below (below_drew' (Below.refl w4.heap.size w4)))
    have ga : ∀ o, (w4.alloc o).cell? ⟨g, 4, none⟩ = some (.slice A1 m c1) := fun o => cell_below (below_one w4 o) g4
    go_region_law (first
      | (refine step_append_at (f := fV) (n := 4) (fun _ => rfl) fV_one rfl (.tmp 25) (.tmp 27) 109 113 (.agg #[.int .i64 0, .string ByteArray.empty, .int .i64 0, .slice none 0 0]) 56 rfl Try.underlying109 info_vote rfl (by decide) (.slice A1 m c1) vs y rfl rfl HD.out.tb.ty.own (by rw [← HM.out]; omega) (by rw [← HM.out]; omega) ?_; intro v6 w6 hown hgrow hob; obtain ⟨A6, q6, rfl⟩ := OwnR.slice hown; have hl6 : (vs ++ [y]).length = m + 1 := (by rw [List.length_append, ← HM.out]; rfl); rw [hl6] at hown hob ⊢; have r6 := blk_grown HD.out.tb.ty.blk hgrow (OwnR.blk HD.out.tb.ty.own HD.out.tb.ty.blk (by decide)); have c6 := blk_at r6 4 _ rfl; have f6 := blk_frz r6 4; have HL6 := Sd.mk (HD.out.push (by have := HD.out.tb.bel.size; omega) hown hgrow hob); clear hown hgrow hob hl6)
      | fail)
    all_goals
      clear c6 f6 r6 v0 v1 v2 v3 g4 ga HD HA4
      generalize w6.setCell _ _ = W7 at HL6 ⊢
      go_wp2
      go_meet
      exact ⟨rfl, _, _, HL6⟩
  case rest =>
    clear v0 v1 v2 v3 g4 HA4
    obtain ⟨rfl, A6, q6, HL6⟩ := hcut
    have HOF := Sd.mk (of_any HL6.out.tb.ty (by rw [List.length_append, ← HM.out]; simp; omega) y.v y.b)
    go_upto_region 6 with (first
      | (go_at_call 70; (with_reducible refine HOF.out.mono ?_); rintro e w7 ⟨v', rfl, ho⟩; obtain ⟨A8, q8, rfl⟩ := OwnR.slice ho.own; rw [HK.out] at ho ⊢; have HO7 := Sd.mk ho; have HL7 := Sd.mk (HL6.out.below ho.bel); clear ho))
    clear HOF HL6
    have g2 := blk_at HL7.out.tb.ty.blk 2 _ rfl
    have hq7 : q ≤ 7 := by have := HQ.out; omega
    subst hkq
    obtain ⟨A9, c9, hv9, hs9⟩ := own_raw HO7.out.own
    rw [HK.out] at hv9
    simp only [Value.slice.injEq] at hv9
    obtain ⟨rfl, -, rfl⟩ := hv9
    have HMK := Sd.mk (make_any w7 y.v y.b A8 q8 _ hs9 k HK.out.symm (by omega))
    clear hs9
    clear HO7
    go_upto_region 8 with (first
      | (go_at_call 54; (with_reducible refine (Gat.quorum_any _ n n1 (by omega) k HQ.out).mono ?_); rintro e w8 ⟨rfl, hw8⟩; obtain rfl := hw8.symm))
    clear g2
    go_wp2_with (first
      | (go_at_call 25; (with_reducible refine HMK.out.mono ?_); rintro e w8 ⟨A', k', c', r, rfl, hk', hsl, -, hmd, hb8⟩; have HK' := Sd.mk hk'; have HSL := Sd.mk hsl; have HMD := Sd.mk hmd; have HL8 := Sd.mk (HL7.out.below hb8); have a0 := blk_at HL8.out.res 0 _ rfl; have a1 := blk_at HL8.out.res 1 _ rfl; have a2 := blk_at HL8.out.res 2 _ rfl; have f0 := blk_frz HL8.out.res 0; have f1 := blk_frz HL8.out.res 1; have f2 := blk_frz HL8.out.res 2; clear hk' hsl hmd hb8))
    obtain ⟨y0, y1, y2⟩ := fin3_cells HL8.out.res (.int .i64 y.v) (.string y.b) (.slice A' k' c')
    have HF := Sd.mk (HL8.out.fin (.int .i64 y.v) (.string y.b) (.slice A' k' c'))
    have HRW := Sd.mk (show Sl rawK (fin3 Br w8 (.int .i64 y.v) (.string y.b) (.slice A' k' c')) A' c' r from raw_fin HL8.out.res HSL.out _ _ _)
    clear a0 a1 a2 f0 f1 f2 HL8 HL7 HSL
    change bodyPost _ _ _ _ _ (fin3 Br w8 (.int .i64 y.v) (.string y.b) (.slice A' k' c'))
    generalize fin3 Br w8 _ _ _ = w9 at y0 y1 y2 HF HRW ⊢
    exact bodyPost_ret (v := .tuple #[.agg #[.int .i64 y.v, .string y.b, .slice A' k' c'], .bool true]) (by simp [results, Try.results33, go_sem, y0, y1, y2]) rfl ⟨_, A', k', c', r, rfl, HK'.out, HRW.out, HMD.out, HF.out⟩
end Go.Proofs.Ytdmdfpbklflijaa.Tal

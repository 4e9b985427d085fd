/- A ledger in a world: what stays, what is appended; plain laws. -/
import Derived.Test.YtgleoeiiiadanaaLedA
set_option linter.unusedVariables false
set_option linter.unusedSimpArgs false
namespace Go.Proofs.Ytgleoeiiiadanaa.Led
open Go.RowKit Rd Api Own Mv Num Dig Wtx

/-- Blocks that are none of S's stay. -/
structure Fr (S : Nat → Prop) (W W' : World) : Prop where
  os : W'.os = W.os
  tape : W'.tape = W.tape
  output : W'.output = W.output
  size : W.heap.size ≤ W'.heap.size
  blk : ∀ k, k < W.heap.size → ¬ S k → W'.heap[k]? = W.heap[k]?
theorem Fr.refl (S : Nat → Prop) (W : World) : Fr S W W := ⟨rfl, rfl, rfl, Nat.le_refl _, fun _ _ _ => rfl⟩
theorem Fr.trans {S : Nat → Prop} {W W1 W2 : World} (h : Fr S W W1) (k : Fr S W1 W2) : Fr S W W2 :=
  ⟨k.os.trans h.os, k.tape.trans h.tape, k.output.trans h.output, Nat.le_trans h.size k.size, fun i hi hs => (k.blk i (Nat.lt_of_lt_of_le hi h.size) hs).trans (h.blk i hi hs)⟩
theorem Fr.below {S : Nat → Prop} {W W1 : World} (h : Below W.heap.size W W1) : Fr S W W1 := ⟨h.os, h.tape, h.output, h.size, fun k hk _ => h.block k hk⟩
theorem Fr.toBelow {S : Nat → Prop} {B : Nat} {W W1 : World} (h : Fr S W W1) (hS : ∀ k, k < B → ¬ S k) (hB : B ≤ W.heap.size) : Below B W W1 := ⟨h.os, h.tape, h.output, h.size, fun k hk => h.blk k (by omega) (hS k hk)⟩
theorem Fr.drew {S : Nat → Prop} {W W1 : World} (h : Fr S W W1) : Fr S W W1.drew := ⟨h.os, h.tape, h.output, h.size, h.blk⟩
theorem Fr.drewN {S : Nat → Prop} {W W1 : World} (h : Fr S W W1) (n : Nat) : Fr S W (W1.drewN n) := ⟨h.os, h.tape, h.output, h.size, h.blk⟩
theorem Fr.set {S : Nat → Prop} {W W1 : World} (h : Fr S W W1) (k j : Nat) (u : Value) (hk : S k) : Fr S W (W1.setCell ⟨k, j, none⟩ u) :=
  ⟨h.os, h.tape, h.output, by have := h.size; simpa [World.setCell] using this, fun i hi hs => (heap_set _ k j u i (fun e => hs (e ▸ hk))).trans (h.blk i hi hs)⟩
theorem Fr.grown {S : Nat → Prop} {W W1 W2 : World} (h : Fr S W W1) {row : Option Nat} (hg : W1.grownBy W2 row) (hr : ∀ k, row = some k → S k) : Fr S W W2 :=
  ⟨hg.os.trans h.os, hg.tape.trans h.tape, hg.output.trans h.output, Nat.le_trans h.size hg.size, fun i hi hs => (hg.block i (Nat.lt_of_lt_of_le hi h.size) (fun e => hs (hr i e.symm))).trans (h.blk i hi hs)⟩
theorem Fr.wider {S S' : Nat → Prop} {W W1 : World} (h : Fr S W W1) (hS : ∀ k, k < W.heap.size → S k → S' k) : Fr S' W W1 := ⟨h.os, h.tape, h.output, h.size, fun k hk hs => h.blk k hk (fun e => hs (hS k hk e))⟩
/-- A row of one's own, of a block that stays. -/
theorem own_same {α : Type} {f : α → List Value} {n B : Nat} {W W1 : World} {e : TypeId} {v : Value} {xs : List α} (h : OwnR f n W B e v xs) (hk : ∀ k, v.ownBlock = some k → W1.heap[k]? = W.heap[k]?) : OwnR f n W1 B e v xs := by
  refine ⟨h.1, ?_⟩
  rcases h.2 with h2 | ⟨g, cap, cur, rfl, hb, hh, r⟩
  · exact .inl h2
  · exact .inr ⟨g, cap, cur, rfl, hb, (hk g rfl).trans hh, r⟩
theorem own_lt {α : Type} {f : α → List Value} {n B : Nat} {W : World} {e : TypeId} {v : Value} {xs : List α} (h : OwnR f n W B e v xs) {k : Nat} (hk : v.ownBlock = some k) : k < W.heap.size := (OwnR.ge h hk).2
theorem own_base {α : Type} {f : α → List Value} {n B : Nat} {W : World} {e : TypeId} {v : Value} {xs : List α} (h : OwnR f n W B e v xs) : OwnR f n W 0 e v xs := by
  refine ⟨h.1, ?_⟩
  rcases h.2 with h2 | ⟨g, cap, cur, hv, hb, r⟩
  · exact .inl h2
  · exact .inr ⟨g, cap, cur, hv, Nat.zero_le _, r⟩
/-- rows of unlike kinds are unlike blocks -/
theorem own_apart {α β : Type} {f : α → List Value} {f2 : β → List Value} {n n2 B B2 : Nat} {W : World} {e e2 : TypeId} {v v2 : Value} {xs : List α} {ys : List β} (h : OwnR f n W B e v xs) (h2 : OwnR f2 n2 W B2 e2 v2 ys) (he : e ≠ e2) {k : Nat} (hk : v.ownBlock = some k) : v2.ownBlock ≠ some k := by
  rcases h.2 with ⟨rfl, _⟩ | ⟨g, cap, cur, rfl, _, hh, _⟩
  · simp [Value.ownBlock] at hk
  · simp only [Value.ownBlock, Option.some.injEq] at hk
    subst hk
    exact OwnR.blk h2 hh (fun e3 => he e3.symm)

/-- a string, without its bounds -/
def strN : Rk ByteArray where
  sz := 1
  K := fun _ s cs => cs = [.string s]
  len := fun h => by rw [h]; rfl
  keep := fun _ h => h
theorem strN_at {w : World} {A : Option Addr} {l : List ByteArray} (h : Row strN w A l) {i : Nat} (hi : i < l.length) : ∃ b o, A = some ⟨b, o, none⟩ ∧ w.cell? ⟨b, o + i, none⟩ = some (.string l[i]) := by
  obtain ⟨b, o, cs, hA, rfl, hc⟩ := h i l[i] (List.getElem?_eq_getElem hi)
  have := hc 0 _ rfl
  simp only [strN, Nat.mul_one, Nat.add_zero] at this
  exact ⟨b, o, hA, this⟩
def rqN : Rk Rq where
  sz := 3
  K := fun _ x cs => cs = fR x
  len := fun h => by rw [h]; rfl
  keep := fun _ h => h
theorem rqN_at {w : World} {A : Option Addr} {l : List Rq} (h : Row rqN w A l) {i : Nat} (hi : i < l.length) : ∃ b o, A = some ⟨b, o, none⟩ ∧ w.cell? ⟨b, o + i * 3, none⟩ = some (.int .i64 l[i].c) ∧ w.cell? ⟨b, o + i * 3 + 1, none⟩ = some (.int .i64 l[i].s) ∧ w.cell? ⟨b, o + i * 3 + 2, none⟩ = some (.string l[i].b) := by
  obtain ⟨b, o, cs, hA, rfl, hc⟩ := h i l[i] (List.getElem?_eq_getElem hi)
  exact ⟨b, o, hA, hc 0 _ rfl, hc 1 _ rfl, hc 2 _ rfl⟩
def LEDGER : ByteArray := ⟨#[108, 101, 100, 103, 101, 114]⟩
def E69 : ByteArray := ⟨#[69]⟩
def stp (h : ByteArray) (r : Rq) : ByteArray := sum ((E69 ++ h) ++ reqb r.c r.s r.b)
def dgst (l : List Rq) : ByteArray := l.foldl stp (sum LEDGER)
def digs (l : List Rq) : List ByteArray := (List.range (l.length + 1)).map fun i => dgst (l.take i)
theorem dgst_size (l : List Rq) : (dgst l).size = 32 := by
  unfold dgst
  rcases List.eq_nil_or_concat l with rfl | ⟨m, x, rfl⟩
  · exact sum_size _
  · simp [stp, sum_size]
theorem digs_length (l : List Rq) : (digs l).length = l.length + 1 := by simp [digs]
theorem digs_at (l : List Rq) {i : Nat} (hi : i ≤ l.length) : (digs l)[i]? = some (dgst (l.take i)) := by
  unfold digs
  rw [List.getElem?_map, List.getElem?_range (by omega)]
  rfl
theorem digs_snoc (l : List Rq) (r : Rq) : digs (l ++ [r]) = digs l ++ [stp (dgst l) r] := by
  apply List.ext_getElem?
  intro i
  rcases Nat.lt_trichotomy i (l.length + 1) with h | h | h
  · rw [digs_at _ (by simp; omega), List.getElem?_append_left (by rw [digs_length]; omega), digs_at _ (by omega), List.take_append_of_le_length (by omega)]
  · subst h
    rw [digs_at _ (by simp), List.getElem?_append_right (by rw [digs_length]; omega), digs_length]
    rw [List.take_of_length_le (by simp)]
    simp [dgst]
  · rw [List.getElem?_eq_none (by rw [digs_length]; simp; omega), List.getElem?_eq_none (by simp [digs_length]; omega)]

def fI (x : Int) : List Value := [.int .i64 x]
/-- a ledger, in blocks of S's -/
structure Led (S : Nat → Prop) (g b : Nat) (ve vd : Value) (xs : List Rq) (W : World) : Prop where
  blk : W.heap[g]? = some (.cells #[ve, vd, .map (some b)] 89 (0, 0))
  own : OwnR fR 3 W 0 60 ve xs
  dig : OwnR fS 1 W 0 9 vd (digs xs)
  map : Mp b xs W
  nd : Nd xs
  fine : ∀ x ∈ xs, Fine x
  sg : S g
  sb : S b
  se : ∀ k, ve.ownBlock = some k → S k
  sd : ∀ k, vd.ownBlock = some k → S k
theorem mp_lt {b : Nat} {l : List Rq} {W : World} (h : Mp b l W) : b < W.heap.size := by obtain ⟨es, ck, h, _⟩ := h.h; exact blk_lt' h
/-- It stays where its blocks stay. -/
theorem Led.same {S S' : Nat → Prop} {g b : Nat} {ve vd : Value} {xs : List Rq} {W W1 : World} (h : Led S g b ve vd xs W) (hk : ∀ k, k < W.heap.size → S k → W1.heap[k]? = W.heap[k]?) (hS : ∀ k, k < W.heap.size → S k → S' k) : Led S' g b ve vd xs W1 where
  blk := (hk g (blk_lt' h.blk) h.sg).trans h.blk
  own := own_same h.own (fun k e => hk k (own_lt h.own e) (h.se k e))
  dig := own_same h.dig (fun k e => hk k (own_lt h.dig e) (h.sd k e))
  map := ⟨by obtain ⟨es, ck, h1, r⟩ := h.map.h; exact ⟨es, ck, (hk b (blk_lt' h1) h.sb).trans h1, r⟩⟩
  nd := h.nd
  fine := h.fine
  sg := hS g (blk_lt' h.blk) h.sg
  sb := hS b (mp_lt h.map) h.sb
  se := fun k e => hS k (own_lt h.own e) (h.se k e)
  sd := fun k e => hS k (own_lt h.dig e) (h.sd k e)
theorem Led.below {S : Nat → Prop} {g b : Nat} {ve vd : Value} {xs : List Rq} {W W1 : World} (h : Led S g b ve vd xs W) (hb : Below W.heap.size W W1) : Led S g b ve vd xs W1 := h.same (fun k hk _ => hb.block k hk) (fun _ _ s => s)
theorem Led.fr {S S' : Nat → Prop} {g b : Nat} {ve vd : Value} {xs : List Rq} {W W1 : World} (h : Led S g b ve vd xs W) (hf : Fr S' W W1) (hd : ∀ k, k < W.heap.size → S k → ¬ S' k) : Led S g b ve vd xs W1 := h.same (fun k hk s => hf.blk k hk (hd k hk s)) (fun _ _ s => s)
theorem Led.drew {S : Nat → Prop} {g b : Nat} {ve vd : Value} {xs : List Rq} {W : World} (h : Led S g b ve vd xs W) : Led S g b ve vd xs W.drew := h.below ⟨rfl, rfl, rfl, Nat.le_refl _, fun _ _ => rfl⟩
theorem Led.wider {S S' : Nat → Prop} {g b : Nat} {ve vd : Value} {xs : List Rq} {W : World} (h : Led S g b ve vd xs W) (hS : ∀ k, k < W.heap.size → S k → S' k) : Led S' g b ve vd xs W := h.same (fun _ _ _ => rfl) hS

/-- what is applied; where it is then -/
def ins (xs : List Rq) (r : Rq) : List Rq := match idx xs r.c r.s with | some _ => xs | none => xs ++ [r]
def pos (xs : List Rq) (r : Rq) : Nat := (idx xs r.c r.s).getD xs.length
def insAll (xs l : List Rq) : List Rq := l.foldl ins xs
def posAll : List Rq → List Rq → List Int
  | _, [] => []
  | xs, r :: t => (pos xs r : Int) :: posAll (ins xs r) t
theorem insAll_snoc (xs l : List Rq) (r : Rq) : insAll xs (l ++ [r]) = ins (insAll xs l) r := by simp [insAll]
theorem insAll_app (xs l k : List Rq) : insAll xs (l ++ k) = insAll (insAll xs l) k := by simp [insAll]
theorem posAll_app : ∀ (xs l k : List Rq), posAll xs (l ++ k) = posAll xs l ++ posAll (insAll xs l) k
  | _, [], _ => rfl
  | xs, r :: l, k => by
    show _ :: posAll (ins xs r) (l ++ k) = _
    rw [posAll_app (ins xs r) l k]
    rfl
theorem posAll_snoc (xs l : List Rq) (r : Rq) : posAll xs (l ++ [r]) = posAll xs l ++ [((pos (insAll xs l) r : Nat) : Int)] := by
  rw [posAll_app]; rfl
theorem posAll_length : ∀ (xs l : List Rq), (posAll xs l).length = l.length
  | _, [] => rfl
  | xs, r :: l => by simp [posAll, posAll_length]
theorem ins_length (xs : List Rq) (r : Rq) : xs.length ≤ (ins xs r).length ∧ (ins xs r).length ≤ xs.length + 1 := by unfold ins; split <;> simp
theorem insAll_length : ∀ (l xs : List Rq), xs.length ≤ (insAll xs l).length ∧ (insAll xs l).length ≤ xs.length + l.length
  | [], xs => by simp [insAll]
  | r :: l, xs => by
    have h1 := insAll_length l (ins xs r)
    have h2 := ins_length xs r
    unfold insAll at h1 ⊢
    simp only [List.foldl_cons, List.length_cons]
    omega

/-! ### append of one, with what became of the row's block -/
section
variable {P : Program} {ops : Array Oper} {rest : List Oper} {o : Oper} {a : Act} {Q : Exit → Act → World → Prop}
theorem append_at {α : Type} {f : α → List Value} {n : Nat} (hn : ∀ x, (f x).length = n) (h1 : ∀ x, ∀ u ∈ f x, u.oneCell' = true) {W : World} (hgd : o.guard = none) (s x : Operand) (t e : TypeId) (z : Value) (bytes : Nat)
    (ho : o.op = .call { callee := .builtin .append, args := #[s, x], argTypes := #[t, t] })
    (ht : P.underlying t = some (.slice e)) (hinfo : (P.info? e).map (fun i => (i.zero, i.size, i.bytes)) = some (some z, n, bytes)) (hz : z.cells.size = n) (hn0 : 0 < n)
    (v : Value) (xs : List α) (y : α) (hs : a.eval s = v) (hx : a.eval x = .slice (some ⟨W.heap.size, 0, none⟩) 1 1)
    (HO : OwnR f n W 0 e v xs) (hl : (xs.length + 1) * bytes ≤ 140737488355328) (hl2 : xs.length + 1 ≤ 9223372036854775807)
    (h : ∀ v1 w1, OwnR f n w1 0 e v1 (xs ++ [y]) → W.grownBy w1 v.ownBlock → (v1.ownBlock = v.ownBlock ∨ v1.ownBlock = some (W.heap.size + 1)) → wpList P ops Q rest (a.put o.dst v1) w1) :
    wpList P ops Q (o :: rest) a (W.alloc (.cells (f y).toArray e)) := by
  obtain ⟨i0, hi, hzz⟩ := Option.map_eq_some_iff.1 hinfo
  simp only [Prod.mk.injEq] at hzz
  obtain ⟨hz0, hz1, hz2⟩ := hzz
  have HO2 := OwnR.below HO (below_one W (.cells (f y).toArray e))
  refine wpList_append_own_at (W.alloc (.cells (f y).toArray e)) hgd s x t ho 0 e i0 z n bytes ht hi hz0 hz1 hz2 hz hn0 v xs.length (flat f xs) hs HO2 ⟨W.heap.size, 0, none⟩ 1 1 (f y) hx (by rw [hn]; omega)
    (fun j u hu => ?_) (h1 y) (by unfold maxLen; omega) hl (by simp) ?_
  · rw [add_flat, Nat.zero_add]
    exact blk_at (blk_new W _) j u (by simpa using hu)
  · intro v1 w1 hown hg _ hb
    refine h v1 w1 (by unfold OwnR; rw [flat_append]; simpa using hown) ?_ (by simpa using hb)
    exact ⟨hg.os, hg.tape, hg.output, by have := hg.size; simp at this; omega, fun k hk hr => (hg.block k (by simp; omega) hr).trans ((below_one W _).block k hk)⟩
theorem step_append_at {E : Prop} {K : Act → World → Prop} {α : Type} {f : α → List Value} {n : Nat} (hn : ∀ x, (f x).length = n) (h1 : ∀ x, ∀ u ∈ f x, u.oneCell' = true) {W : World} (hgd : o.guard = none) (s x : Operand) (t e : TypeId) (z : Value) (bytes : Nat)
    (ho : o.op = .call { callee := .builtin .append, args := #[s, x], argTypes := #[t, t] })
    (ht : P.underlying t = some (.slice e)) (hinfo : (P.info? e).map (fun i => (i.zero, i.size, i.bytes)) = some (some z, n, bytes)) (hz : z.cells.size = n) (hn0 : 0 < n)
    (v : Value) (xs : List α) (y : α) (hs : a.eval s = v) (hx : a.eval x = .slice (some ⟨W.heap.size, 0, none⟩) 1 1)
    (HO : OwnR f n W 0 e v xs) (hl : (xs.length + 1) * bytes ≤ 140737488355328) (hl2 : xs.length + 1 ≤ 9223372036854775807)
    (h : ∀ v1 w1, OwnR f n w1 0 e v1 (xs ++ [y]) → W.grownBy w1 v.ownBlock → (v1.ownBlock = v.ownBlock ∨ v1.ownBlock = some (W.heap.size + 1)) → K (a.put o.dst v1) w1) :
    if Region.wanted o (yielded ops a.tmps) = true then Oper.wp P o a (W.alloc (.cells (f y).toArray e)) K Q else E := by
  have hw : Region.wanted o (yielded ops a.tmps) = true := by simp [Region.wanted, hgd]
  rw [if_pos hw]
  obtain ⟨i0, hi, hzz⟩ := Option.map_eq_some_iff.1 hinfo
  simp only [Prod.mk.injEq] at hzz
  obtain ⟨hz0, hz1, hz2⟩ := hzz
  have HO2 := OwnR.below HO (below_one W (.cells (f y).toArray e))
  obtain ⟨v', w', hr, hown, hg, -, hb⟩ := run_append_own_at (P := P) (W.alloc (.cells (f y).toArray e)) 0 t o.type e i0 z n bytes ht hi hz0 hz1 hz2 hz hn0 v xs.length (flat f xs) HO2 ⟨W.heap.size, 0, none⟩ 1 1 (f y) (by rw [hn]; omega)
    (fun j u hu => by rw [add_flat, Nat.zero_add]; exact blk_at (blk_new W _) j u (by simpa using hu)) (h1 y) (by unfold maxLen; omega) hl (by simp)
  unfold Oper.wp execOp
  simp only [ho, resolve, invoke, builtin, Sem.run_bind, Sem.run_pure, Result.andThen_ok, List.map_toArray, List.map_cons, List.map_nil, hs, hx, hr]
  refine h v' w' (by unfold OwnR; rw [flat_append]; simpa using hown) ?_ (by simpa using hb)
  exact ⟨hg.os, hg.tape, hg.output, by have := hg.size; simp at this; omega, fun k hk hr => (hg.block k (by simp; omega) hr).trans ((below_one W _).block k hk)⟩
end
/-- a ledger amid a step: the map, the entries, the digests go one by one -/
structure L3 (S : Nat → Prop) (g b : Nat) (ve vd : Value) (xs ys : List Rq) (zs : List ByteArray) (W : World) : Prop where
  blk : W.heap[g]? = some (.cells #[ve, vd, .map (some b)] 89 (0, 0))
  own : OwnR fR 3 W 0 60 ve ys
  dig : OwnR fS 1 W 0 9 vd zs
  map : Mp b xs W
  sg : S g
  sb : S b
  se : ∀ k, ve.ownBlock = some k → S k
  sd : ∀ k, vd.ownBlock = some k → S k
theorem Led.l3 {S : Nat → Prop} {g b : Nat} {ve vd : Value} {xs : List Rq} {W : World} (h : Led S g b ve vd xs W) : L3 S g b ve vd xs xs (digs xs) W := ⟨h.blk, h.own, h.dig, h.map, h.sg, h.sb, h.se, h.sd⟩
theorem L3.led {S : Nat → Prop} {g b : Nat} {ve vd : Value} {xs : List Rq} {W : World} (h : L3 S g b ve vd xs xs (digs xs) W) (hn : Nd xs) (hf : ∀ x ∈ xs, Fine x) : Led S g b ve vd xs W := ⟨h.blk, h.own, h.dig, h.map, hn, hf, h.sg, h.sb, h.se, h.sd⟩
section
variable {S : Nat → Prop} {g b : Nat} {ve vd v1 : Value} {xs ys ys' : List Rq} {zs zs' : List ByteArray} {W W1 : World}
theorem L3.below (h : L3 S g b ve vd xs ys zs W) (hb : Below W.heap.size W W1) : L3 S g b ve vd xs ys zs W1 :=
  ⟨blk_keep h.blk hb, OwnR.below h.own hb, OwnR.below h.dig hb, (mv_mp _ _).below h.map hb, h.sg, h.sb, h.se, h.sd⟩
theorem L3.drew (h : L3 S g b ve vd xs ys zs W) : L3 S g b ve vd xs ys zs W.drew := h.below ⟨rfl, rfl, rfl, Nat.le_refl _, fun _ _ => rfl⟩
/-- the map's block is none of the cells -/
theorem L3.gb (h : L3 S g b ve vd xs ys zs W) : b ≠ g := by
  obtain ⟨es, ck, h1, _⟩ := h.map.h
  rintro rfl
  rw [h.blk] at h1
  cases h1
theorem own_map {α : Type} {f : α → List Value} {n B : Nat} {e : TypeId} {v : Value} {l : List α} {b : Nat} {xs : List Rq} (h : OwnR f n W B e v l) (hm : Mp b xs W) : v.ownBlock ≠ some b := by
  obtain ⟨es, ck, h1, _⟩ := hm.h
  rcases h.2 with ⟨rfl, _⟩ | ⟨g, cap, cur, rfl, _, hh, _⟩
  · simp [Value.ownBlock]
  · intro e
    simp only [Value.ownBlock, Option.some.injEq] at e
    subst e
    rw [hh] at h1
    cases h1
theorem L3.push (h : L3 S g b ve vd xs ys zs W) (hm : Mp b ys' W1) (hg : W.grownBy W1 (some b)) : L3 S g b ve vd ys' ys zs W1 :=
  ⟨blk_grown h.blk hg (fun e => h.gb (Option.some.inj e)), OwnR.grown h.own hg (.inr (own_map h.own h.map)), OwnR.grown h.dig hg (.inr (own_map h.dig h.map)), hm, h.sg, h.sb, h.se, h.sd⟩
theorem set_same {g j : Nat} {u : Value} (W : World) {k : Nat} (hk : k ≠ g) : (W.setCell ⟨g, j, none⟩ u).heap[k]? = W.heap[k]? := heap_set W g j u k hk
theorem L3.entry (h : L3 S g b ve vd xs ys zs W) (ho : OwnR fR 3 W1 0 60 v1 ys') (hg : W.grownBy W1 ve.ownBlock) (hb : v1.ownBlock = ve.ownBlock ∨ v1.ownBlock = some (W.heap.size + 1)) (hS : ∀ k, W.heap.size ≤ k → S k) :
    L3 S g b v1 vd xs ys' zs (W1.setCell ⟨g, 0, none⟩ v1) := by
  have hgv : ve.ownBlock ≠ some g := OwnR.blk h.own h.blk (by decide)
  have hb1 := blk_grown h.blk hg hgv
  have hm := mp_grown h.map hg (own_map h.own h.map)
  have hd : OwnR fS 1 W1 0 9 vd zs := OwnR.grown h.dig hg (by
    cases hv : vd.ownBlock with
    | none => exact .inl rfl
    | some k => exact .inr (fun e => own_apart h.dig h.own (by decide) hv e.symm))
  refine ⟨(blk_set3 hb1 0 _).trans rfl, own_same ho (fun k e => set_same _ (fun e2 => OwnR.blk ho hb1 (by decide) (e2 ▸ e))), own_same hd (fun k e => set_same _ (fun e2 => OwnR.blk hd hb1 (by decide) (e2 ▸ e))), mp_grown hm (row := some g) ⟨rfl, rfl, rfl, by simp [World.setCell], fun i hi hr => heap_set _ _ _ _ i (fun e => hr (by rw [e]))⟩ (fun e => h.gb (Option.some.inj e).symm), h.sg, h.sb, ?_, h.sd⟩
  intro k hk
  rcases hb with e | e
  · exact h.se k (e ▸ hk)
  · rw [hk] at e; exact hS k (by have := Option.some.inj e; omega)
theorem L3.digest (h : L3 S g b ve vd xs ys zs W) (ho : OwnR fS 1 W1 0 9 v1 zs') (hg : W.grownBy W1 vd.ownBlock) (hb : v1.ownBlock = vd.ownBlock ∨ v1.ownBlock = some (W.heap.size + 1)) (hS : ∀ k, W.heap.size ≤ k → S k) :
    L3 S g b ve v1 xs ys zs' (W1.setCell ⟨g, 1, none⟩ v1) := by
  have hgv : vd.ownBlock ≠ some g := OwnR.blk h.dig h.blk (by decide)
  have hb1 := blk_grown h.blk hg hgv
  have hm := mp_grown h.map hg (own_map h.dig h.map)
  have hd : OwnR fR 3 W1 0 60 ve ys := OwnR.grown h.own hg (by
    cases hv : ve.ownBlock with
    | none => exact .inl rfl
    | some k => exact .inr (fun e => own_apart h.own h.dig (by decide) hv e.symm))
  refine ⟨(blk_set3 hb1 1 _).trans rfl, own_same hd (fun k e => set_same _ (fun e2 => OwnR.blk hd hb1 (by decide) (e2 ▸ e))), own_same ho (fun k e => set_same _ (fun e2 => OwnR.blk ho hb1 (by decide) (e2 ▸ e))), mp_grown hm (row := some g) ⟨rfl, rfl, rfl, by simp [World.setCell], fun i hi hr => heap_set _ _ _ _ i (fun e => hr (by rw [e]))⟩ (fun e => h.gb (Option.some.inj e).symm), h.sg, h.sb, h.se, ?_⟩
  intro k hk
  rcases hb with e | e
  · exact h.sd k (e ▸ hk)
  · rw [hk] at e; exact hS k (by have := Option.some.inj e; omega)
end
theorem info_req : ((Try.prog).info? 60).map (fun i => (i.zero, i.size, i.bytes)) = some (some (.agg #[.int .i64 0, .int .i64 0, .string ByteArray.empty]), 3, 32) := by kernel_rfl
theorem info_int : ((Try.prog).info? 3).map (fun i => (i.zero, i.size, i.bytes)) = some (some (.int .i64 0), 1, 8) := by kernel_rfl
/-- a slice of one, just made -/
theorem own_built {α : Type} {f : α → List Value} {n : Nat} (hn : ∀ x, (f x).length = n) (W : World) (e : TypeId) (y : α) : OwnR f n (W.alloc (.cells (f y).toArray e)) 0 e (.slice (some ⟨W.heap.size, 0, none⟩) 1 1) [y] :=
  ⟨by simp [flat, hn], .inr ⟨W.heap.size, 1, (f y).toArray, rfl, Nat.zero_le _, blk_new W _, Nat.le_refl _, by unfold maxLen; omega, by simp [hn], by simp only [flat, List.flatMap_cons, List.flatMap_nil, List.append_nil]; exact List.take_of_length_le (by rw [hn]; simp)⟩⟩
end Go.Proofs.Ytgleoeiiiadanaa.Led

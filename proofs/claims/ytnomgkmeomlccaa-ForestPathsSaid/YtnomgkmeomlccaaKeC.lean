/- A chain without blocks: New, Last; awake of layer 11: walked. A forest's chain of blocks as it is told: plain. Blocks as they lie: what is kept of them. -/
import Derived.Test.YtnomgkmeomlccaaLawBD
import Derived.LoopTactic
import Derived.Test.YtnomgkmeomlccaaMkOh
set_option linter.unusedVariables false
set_option linter.unusedSimpArgs false
namespace Go.Proofs.Ytnomgkmeomlccaa.Kee
open Go.RowKit Go.Sort Rd Api Own Mv App Num Dig

set_option maxHeartbeats 4000000 in
set_option maxRecDepth 100000 in
theorem new_any (w : World) : Calls Try.prog 13 #[] w fun e w' => ∃ g b, e = .returned (.pointer (some ⟨g, 0, none⟩)) ∧ w'.heap[g]? = some (.cells #[.slice none 0 0, .slice none 0 0, .map (some b)] 100 (0, 0)) ∧ w'.heap[b]? = some (.map #[] 0) ∧ w.heap.size ≤ b ∧ w.heap.size ≤ g ∧ RowKit.Below w.heap.size w w' := by
  have hmm := @run_makeMap Try.prog
  go_enter Try.func13, Try.ntmps13
  go_wp2
  go_ret
  exact ⟨w.heap.size + 1, w.heap.size, rfl, blk_new1 _ _ _, blk_keep (blk_new w _) (below_one _ _), Nat.le_refl _, by omega, below_then (below_one w _) (below_one _ _)⟩
set_option maxHeartbeats 4000000 in
set_option maxRecDepth 100000 in
theorem last_none (w : World) (g b : Nat) (h : w.heap[g]? = some (.cells #[.slice none 0 0, .slice none 0 0, .map (some b)] 100 (0, 0))) (d : ByteArray) (hd : Crt.FB = d) : Calls Try.prog 58 #[.pointer (some ⟨g, 0, none⟩)] w fun e w' => e = .returned (.string d) ∧ RowKit.Below w.heap.size w w' := by
  have c1 := blk_at h 1 _ rfl
  have HD := Sd.mk hd
  clear h hd
  go_enter Try.func58, Try.ntmps58
  go_wp2_with (first
    | (go_at_call 29; (with_reducible refine (Blk.first_any _ d HD.out).mono ?_); rintro e w1 ⟨rfl, hb⟩; have HB := Sd.mk hb; clear hb))
  go_ret
  exact ⟨rfl, HB.out⟩
set_option maxHeartbeats 4000000 in
set_option maxRecDepth 100000 in
theorem awake_any (w : World) : Calls Try.prog 11 #[] w fun e w' => e = .returned (.bool true) ∧ RowKit.Below w.heap.size w w' := by
  obtain ⟨d, hd⟩ : ∃ d, Crt.FB = d := ⟨_, rfl⟩
  have HD := Sd.mk hd
  clear hd
  go_enter Try.func11, Try.ntmps11
  go_wp2_with (first
    | (go_at_call 13; (with_reducible refine (new_any _).mono ?_); rintro e w1 ⟨g, b, rfl, hg, hm, -, -, hb⟩; (first | (have HB2 := Sd.mk (below_then HB1.out hb); have HL := Sd.mk (last_none _ g b hg d HD.out)) | (have HB1 := Sd.mk hb)); clear hb hg hm)
    | (go_at_call 58; (with_reducible refine HL.out.mono ?_); rintro e w3 ⟨rfl, hb⟩; have HB3 := Sd.mk (below_then HB2.out hb); clear hb)
    | (go_at_call 30; (with_reducible refine (Crt.reffirst_any _ d HD.out).mono ?_); rintro e w4 ⟨rfl, hb⟩; have HB4 := Sd.mk (below_then HB3.out hb); clear hb))
  go_ret
  exact ⟨rfl, HB4.out⟩
end Go.Proofs.Ytnomgkmeomlccaa.Kee
set_option linter.unusedVariables false
set_option linter.unusedSimpArgs false
namespace Go.Proofs.Ytnomgkmeomlccaa.Kee
open Go.RowKit Rd Api Own Mv App Num Dig
open Blk (Block Rq digB coreB batchB)

/-- what the next block stands on: the block of a place, or the first one -/
def tp (out : List Block) : Nat → Int × ByteArray
  | 0 => (0, Crt.FB)
  | k + 1 => match out[k]? with
    | none => (0, Crt.FB)
    | some p => (p.view, digB p)
theorem tp_zero (out : List Block) : tp out 0 = (0, Crt.FB) := rfl
theorem tp_succ {out : List Block} {k : Nat} {p : Block} (h : out[k]? = some p) : tp out (k + 1) = (p.view, digB p) := by simp only [tp, h]
theorem tp_size (out : List Block) (k : Nat) : (tp out k).2.size = 32 := by
  unfold tp
  cases k with
  | zero => exact Crt.FB_size
  | succ k =>
    dsimp only
    cases out[k]? with
    | none => exact Crt.FB_size
    | some p => exact Blk.digB_size p
/-- what is told of a block: its view's step, its parent's place, its request's client -/
abbrev Tl := Int × Int × Int
def plc (i : Nat) (p : Tl) : Nat := (p.2.1 % ((i : Int) + 1)).toNat
theorem plc_le (i : Nat) (p : Tl) : plc i p ≤ i := by
  have h1 := Int.emod_nonneg p.2.1 (b := (i : Int) + 1) (by omega)
  have h2 := Int.emod_lt_of_pos p.2.1 (b := (i : Int) + 1) (by omega)
  unfold plc
  omega
/-- a block on another one's view and digest -/
def nxt (t : Int × ByteArray) (i : Nat) (p : Tl) : Block := ⟨t.1 + 1 + p.1 % 4, 0, ⟨t.1, t.2, []⟩, [⟨p.2.2 % 4, 1 + (i : Int), Rp.ET⟩]⟩
def nx (out : List Block) (p : Tl) : Block := nxt (tp out (plc out.length p)) out.length p
def chn (l : List Tl) : List Block := l.foldl (fun out p => out ++ [nx out p]) []
theorem chn_snoc (l : List Tl) (p : Tl) : chn (l ++ [p]) = chn l ++ [nx (chn l) p] := by simp [chn]
theorem chn_take {l : List Tl} {i : Nat} {p : Tl} (h : l[i]? = some p) : chn (l.take (i + 1)) = chn (l.take i) ++ [nx (chn (l.take i)) p] := by
  rw [List.take_add_one, h]; exact chn_snoc _ _
theorem snoc_ind {α : Type} {P : List α → Prop} (h0 : P []) (h1 : ∀ l x, P l → P (l ++ [x])) : ∀ (n : Nat) (l : List α), l.length = n → P l
  | 0, l, hl => by
    obtain rfl := List.eq_nil_of_length_eq_zero hl
    exact h0
  | n + 1, l, hl => by
    obtain ⟨l', t, rfl⟩ : ∃ l' t, l = l' ++ [t] := ⟨l.dropLast, l.getLast (by intro e; rw [e] at hl; cases hl), (List.dropLast_concat_getLast _).symm⟩
    exact h1 l' t (snoc_ind h0 h1 n l' (by simpa using hl))
theorem chn_len (l : List Tl) : (chn l).length = l.length :=
  snoc_ind (P := fun l => (chn l).length = l.length) rfl (fun l x ih => by rw [chn_snoc, List.length_append, List.length_append, ih]; rfl) _ l rfl
theorem nx_size (out : List Block) (p : Tl) : (coreB (nx out p)).size ≤ 1000 := by
  have h1 := Blk.rqsB_few (nx out p).batch (num4 ((nx out p).batch.length : Int)) (fun t ht => by
    rw [show (nx out p).batch = [⟨p.2.2 % 4, 1 + (out.length : Int), Rp.ET⟩] from rfl, List.mem_singleton] at ht
    subst ht; exact Nat.zero_le _)
  have h2 : (nx out p).just.block.size = 32 := tp_size out _
  have h3 : (nx out p).batch.length = 1 := rfl
  unfold coreB batchB
  rw [Rp.app_size, Rp.app_size, Rp.app_size, Rp.app_size, num4_size, num4_size, num4_size]
  rw [num4_size] at h1
  omega
/-- one of a chain's blocks -/
theorem chn_at (l : List Tl) : ∀ (i : Nat) (p : Tl), l[i]? = some p → (chn l)[i]? = some (nx (chn (l.take i)) p) :=
  snoc_ind (P := fun l => ∀ (i : Nat) (p : Tl), l[i]? = some p → (chn l)[i]? = some (nx (chn (l.take i)) p)) (fun i p h => by simp at h) (fun l x ih i p h => by
    rw [chn_snoc]
    rcases Nat.lt_or_ge i l.length with e | e
    · rw [List.getElem?_append_left e] at h
      rw [List.getElem?_append_left (by rw [chn_len]; exact e), List.take_append_of_le_length (by omega)]
      exact ih i p h
    · have hi := (List.getElem?_eq_some_iff.1 h).1
      rw [List.length_append] at hi
      simp at hi
      obtain rfl : i = l.length := by omega
      rw [List.getElem?_append_right (Nat.le_refl _)] at h
      simp at h
      subst h
      rw [List.getElem?_append_right (by rw [chn_len]; exact Nat.le_refl _), chn_len]
      simp) _ l rfl
theorem chn_of {l : List Tl} {b : Block} (h : b ∈ chn l) : ∃ (i : Nat) (p : Tl), l[i]? = some p ∧ (chn l)[i]? = some b ∧ b = nx (chn (l.take i)) p := by
  obtain ⟨i, hi⟩ := List.getElem?_of_mem h
  have hlt := (List.getElem?_eq_some_iff.1 hi).1
  rw [chn_len] at hlt
  have := chn_at l i l[i] (List.getElem?_eq_getElem hlt)
  exact ⟨i, l[i], List.getElem?_eq_getElem hlt, hi, by rw [this] at hi; exact (Option.some.inj hi).symm⟩
theorem chn_size {l : List Tl} {b : Block} (h : b ∈ chn l) : (coreB b).size ≤ 1000 := by
  obtain ⟨i, p, -, -, rfl⟩ := chn_of h
  exact nx_size _ _
/-- the views stay small -/
theorem chn_view (l : List Tl) : ∀ b ∈ chn l, 1 ≤ b.view ∧ b.view ≤ 4 * (l.length : Int) ∧ 0 ≤ b.just.view ∧ b.just.view < b.view :=
  snoc_ind (P := fun l => ∀ b ∈ chn l, 1 ≤ b.view ∧ b.view ≤ 4 * (l.length : Int) ∧ 0 ≤ b.just.view ∧ b.just.view < b.view) (fun b h => by simp [chn] at h) (fun l x ih b h => by
    rw [chn_snoc] at h
    have hl : ((l ++ [x]).length : Int) = (l.length : Int) + 1 := by simp
    rw [hl]
    rcases List.mem_append.1 h with e | e
    · have := ih b e; omega
    · rw [List.mem_singleton] at e
      subst e
      have h1 := Int.emod_nonneg x.1 (b := 4) (by omega)
      have h2 := Int.emod_lt_of_pos x.1 (b := 4) (by omega)
      have h3 : 0 ≤ (tp (chn l) (plc (chn l).length x)).1 ∧ (tp (chn l) (plc (chn l).length x)).1 ≤ 4 * (l.length : Int) := by
        cases hk : plc (chn l).length x with
        | zero => exact ⟨Int.le_refl _, by rw [tp_zero]; show (0 : Int) ≤ _; omega⟩
        | succ k =>
          have hkl := plc_le (chn l).length x
          have hkk : k < (chn l).length := by omega
          rw [tp_succ (List.getElem?_eq_getElem hkk)]
          have := ih _ (List.getElem_mem hkk)
          exact ⟨by show 0 ≤ (chn l)[k].view; omega, this.2.1⟩
      unfold nx nxt
      dsimp only
      omega) _ l rfl
theorem tp_view (l : List Tl) (k : Nat) (hk : k ≤ l.length) : 0 ≤ (tp (chn l) k).1 ∧ (tp (chn l) k).1 ≤ 4 * (l.length : Int) := by
  cases k with
  | zero => exact ⟨Int.le_refl _, by rw [tp_zero]; show (0 : Int) ≤ _; omega⟩
  | succ k =>
    have hkk : k < (chn l).length := by rw [chn_len]; omega
    rw [tp_succ (List.getElem?_eq_getElem hkk)]
    have := chn_view l _ (List.getElem_mem hkk)
    exact ⟨by show 0 ≤ (chn l)[k].view; omega, this.2.1⟩
/-- all requests of a chain: one of each block, by number -/
def rqs (l : List Tl) : List Rq := (chn l).flatMap (·.batch)
theorem rqs_snoc (l : List Tl) (p : Tl) : rqs (l ++ [p]) = rqs l ++ [⟨p.2.2 % 4, 1 + (l.length : Int), Rp.ET⟩] := by
  unfold rqs
  rw [chn_snoc, List.flatMap_append]
  simp [nx, nxt, chn_len]
theorem rqs_len (l : List Tl) : (rqs l).length = l.length :=
  snoc_ind (P := fun l => (rqs l).length = l.length) rfl (fun l x ih => by rw [rqs_snoc, List.length_append, List.length_append, ih]; rfl) _ l rfl
theorem rqs_seq (l : List Tl) : ∀ x ∈ rqs l, 1 ≤ x.s ∧ x.s ≤ (l.length : Int) :=
  snoc_ind (P := fun l => ∀ x ∈ rqs l, 1 ≤ x.s ∧ x.s ≤ (l.length : Int)) (fun x hx => by simp [rqs, chn] at hx) (fun l p ih x hx => by
    rw [rqs_snoc] at hx
    rw [List.length_append]
    rcases List.mem_append.1 hx with e | e
    · have := ih x e
      have h1 : ((l.length + [p].length : Nat) : Int) = (l.length : Int) + 1 := by simp
      omega
    · rw [List.mem_singleton] at e
      subst e
      have h1 : ((l.length + [p].length : Nat) : Int) = (l.length : Int) + 1 := by simp
      show 1 ≤ 1 + (l.length : Int) ∧ 1 + (l.length : Int) ≤ _
      omega) _ l rfl
end Go.Proofs.Ytnomgkmeomlccaa.Kee
set_option linter.unusedVariables false
set_option linter.unusedSimpArgs false
namespace Go.Proofs.Ytnomgkmeomlccaa.Kee
open Go.RowKit Go.Sort Rd Api Own Mv App Num Dig
open Blk (Block Rq rqN fR)

/-- a block, as it lies -/
structure Bk where
  v : Int
  p : Int
  jv : Int
  jb : ByteArray
  sa : Option Addr
  sn : Nat
  sc : Nat
  a : Option Addr
  n : Nat
  c : Nat
def fB (x : Bk) : List Value := [.int .i64 x.v, .int .i64 x.p, .int .i64 x.jv, .string x.jb, .slice x.sa x.sn x.sc, .slice x.a x.n x.c]
theorem fB_one : ∀ x : Bk, ∀ u ∈ fB x, u.oneCell' = true := fun _ _ hu => by simp [fB] at hu; rcases hu with rfl | rfl | rfl | rfl | rfl | rfl <;> rfl
def bkK : Rk Bk where
  sz := 6
  K := fun _ x cs => cs = fB x
  len := fun h => by rw [h]; rfl
  keep := fun _ h => h
theorem bk_at {W : World} {A : Option Addr} {l : List Bk} (h : Row bkK W A l) {i : Nat} {x : Bk} (hx : l[i]? = some x) : ∃ b o, A = some ⟨b, o, none⟩ ∧ W.cell? ⟨b, o + i * 6, none⟩ = some (.int .i64 x.v) ∧ W.cell? ⟨b, o + i * 6 + 1, none⟩ = some (.int .i64 x.p) ∧ W.cell? ⟨b, o + i * 6 + 2, none⟩ = some (.int .i64 x.jv) ∧ W.cell? ⟨b, o + i * 6 + 3, none⟩ = some (.string x.jb) ∧ W.cell? ⟨b, o + i * 6 + 4, none⟩ = some (.slice x.sa x.sn x.sc) ∧ W.cell? ⟨b, o + i * 6 + 5, none⟩ = some (.slice x.a x.n x.c) := by
  obtain ⟨b, o, cs, hA, rfl, hc⟩ := h i x hx
  exact ⟨b, o, hA, hc 0 _ rfl, hc 1 _ rfl, hc 2 _ rfl, hc 3 _ rfl, hc 4 _ rfl, hc 5 _ rfl⟩
theorem own_bk {W : World} {base : Nat} {v : Value} {l : List Bk} (h : OwnR fB 6 W base 42 v l) : ∃ A c, v = .slice A l.length c ∧ Sl bkK W A c l := OwnR.reads (d := bkK) (f := fB) (n := 6) (fun _ _ => rfl) (fun _ => rfl) rfl h
theorem info_blk : ((Try.prog).info? 42).map (fun i => (i.zero, i.size, i.bytes)) = some (some (.agg #[.int .i64 0, .int .i64 0, .int .i64 0, .string ByteArray.empty, .slice none 0 0, .slice none 0 0]), 6, 88) := by kernel_rfl
/-- a row of so many may be larger still -/
theorem room {n : Nat} (h : n ≤ 10000) : (n + 1) * 88 ≤ 140737488355328 := by omega
/-- this one, in this world; its requests are the call's own -/
structure Is (W : World) (r : Bk) (b : Block) : Prop where
  v : r.v = b.view
  p : r.p = b.prop
  jv : r.jv = b.just.view
  jb : r.jb = b.just.block
  n : r.n = b.batch.length
  own : OwnR fR 3 W 0 47 (.slice r.a r.n r.c) b.batch
/-- this one, in this world; its requests can be read -/
structure Wk (W : World) (r : Bk) (b : Block) : Prop where
  v : r.v = b.view
  p : r.p = b.prop
  jv : r.jv = b.just.view
  jb : r.jb = b.just.block
  n : r.n = b.batch.length
  sl : Sl rqN W r.a r.c b.batch
theorem Is.wk {W : World} {r : Bk} {b : Block} (h : Is W r b) : Wk W r b := by
  obtain ⟨A, c, e, hs⟩ := Blk.own_rq h.own
  simp only [Value.slice.injEq] at e
  obtain ⟨e1, -, e2⟩ := e
  exact ⟨h.v, h.p, h.jv, h.jb, h.n, by rw [e1, e2]; exact hs⟩
theorem Wk.below {W W1 : World} {r : Bk} {b : Block} (h : Wk W r b) (hb : RowKit.Below W.heap.size W W1) : Wk W1 r b := ⟨h.v, h.p, h.jv, h.jb, h.n, h.sl.below hb⟩
/-- a row of blocks that the call has made of its own -/
structure Ch (w : World) (u : Value) (bs : List Block) (W : World) : Prop where
  bel : RowKit.Below w.heap.size w W
  ex : ∃ rs : List Bk, OwnR fB 6 W 0 42 u rs ∧ rs.length = bs.length ∧ ∀ (j : Nat) (r : Bk) (b : Block), rs[j]? = some r → bs[j]? = some b → Is W r b
  new : ∀ k, u.ownBlock = some k → w.heap.size ≤ k
theorem Is.below {W W1 : World} {r : Bk} {b : Block} (h : Is W r b) (hb : RowKit.Below W.heap.size W W1) : Is W1 r b := ⟨h.v, h.p, h.jv, h.jb, h.n, h.own.below hb⟩
theorem Is.grown {W W1 : World} {r : Bk} {b : Block} (h : Is W r b) {u : Value} {rs : List Bk} (ho : OwnR fB 6 W 0 42 u rs) (hg : W.grownBy W1 u.ownBlock) : Is W1 r b := ⟨h.v, h.p, h.jv, h.jb, h.n, OwnR.grown h.own hg (Rp.own_apart h.own ho (by decide))⟩
theorem Ch.below {w W W1 : World} {u : Value} {bs : List Block} (h : Ch w u bs W) (hb : RowKit.Below W.heap.size W W1) : Ch w u bs W1 := by
  obtain ⟨rs, h1, h2, h3⟩ := h.ex
  exact ⟨below_then h.bel hb, ⟨rs, h1.below hb, h2, fun j r b e f => (h3 j r b e f).below hb⟩, h.new⟩
theorem ch_nil {w W : World} (hb : RowKit.Below w.heap.size w W) : Ch w (.slice none 0 0) [] W := ⟨hb, ⟨[], OwnR.nil _ _ _ _ _, rfl, fun j r b e _ => by simp at e⟩, fun k hk => by simp [Value.ownBlock] at hk⟩
/-- one more -/
theorem Ch.more {w W W1 : World} {u u1 : Value} {bs : List Block} {rs : List Bk} {r : Bk} {b : Block} (h : Ch w u bs W) (hrs : OwnR fB 6 W 0 42 u rs) (hl : rs.length = bs.length) (hi : ∀ (j : Nat) (r : Bk) (b : Block), rs[j]? = some r → bs[j]? = some b → Is W r b) (hr : Is W r b)
    (ho : OwnR fB 6 W1 0 42 u1 (rs ++ [r])) (hg : W.grownBy W1 u.ownBlock) (hn : u1.ownBlock = u.ownBlock ∨ ∃ k, u1.ownBlock = some k ∧ w.heap.size ≤ k) : Ch w u1 (bs ++ [b]) W1 := by
  refine ⟨below_grown h.bel hg h.bel.size h.new, ⟨rs ++ [r], ho, by simp [hl], fun j r' b' e f => ?_⟩, fun k hk => ?_⟩
  · rcases Nat.lt_or_ge j rs.length with hj | hj
    · rw [List.getElem?_append_left hj] at e
      rw [List.getElem?_append_left (by omega)] at f
      exact (hi j r' b' e f).grown hrs hg
    · have hj2 := (List.getElem?_eq_some_iff.1 e).1
      rw [List.length_append] at hj2
      simp at hj2
      obtain rfl : j = rs.length := by omega
      rw [List.getElem?_append_right (Nat.le_refl _)] at e
      rw [hl, List.getElem?_append_right (Nat.le_refl _)] at f
      simp at e f
      subst e f
      exact hr.grown hrs hg
  · rcases hn with e | ⟨k', e, hk'⟩
    · exact h.new k (e ▸ hk)
    · rw [hk] at e
      cases Option.some.inj e
      exact hk'
end Go.Proofs.Ytnomgkmeomlccaa.Kee

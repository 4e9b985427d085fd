/- Both forests of a chain: walked. comitialaw08.made: both forests of a chain: walked. -/
import Derived.Test.YtnomgkmeomlccaaForV
import Derived.RegionTactic
import Derived.Test.YtnomgkmeomlccaaKeX
set_option linter.unusedVariables false
set_option linter.unusedSimpArgs false

namespace Go.Proofs.Ytnomgkmeomlccaa.Fst
open Go.RowKit Go.Sort Rd Api Own Mv App Num Dig
open Blk (Block Rq rqN fR digB coreB step_appends_at own_nc)
open Kee (Bk fB bkK Wk)

/-- neither what stands nor what waits is the root -/
structure Rt (f : Fo) : Prop where
  nd : ∀ x ∈ f.nodes, digB x.b ≠ f.root
  or : ∀ b ∈ f.orph, digB b ≠ f.root
theorem rt_more {f : Fo} (h : Rt f) {b : Block} (hb : digB b ≠ f.root) : Rt (f.more b) :=
  ⟨fun x hx => (List.mem_append.1 hx).elim (h.nd x) (fun e => by rw [List.mem_singleton] at e; subst e; exact hb), h.or⟩
theorem rt_fput {f : Fo} (h : Rt f) {b : Block} (hb : digB b ≠ f.root) : Rt (f.fput b) := by
  unfold Fo.fput
  split
  · exact rt_more h hb
  · exact h
theorem rt_less {f : Fo} (h : Rt f) (i : Nat) : Rt (f.less i) := ⟨h.nd, fun b hb => h.or b (List.mem_of_mem_eraseIdx hb)⟩
theorem rt_adopt : ∀ (n : Nat) {f : Fo}, Rt f → Rt (f.adopt n)
  | 0, f, h => h
  | n + 1, f, h => by
    cases hf : f.first with
    | none => rw [adopt_none hf]; exact h
    | some i =>
      obtain ⟨b, hb, -⟩ := first_some hf
      rw [adopt_some hf hb]
      exact rt_adopt n (rt_fput (rt_less h i) (h.or b (List.mem_of_getElem? hb)))
theorem rt_put {f : Fo} (h : Rt f) (b : Block) : Rt (f.put b).2 := by
  unfold Fo.put
  split
  · exact h
  · rename_i hn
    have hr : digB b ≠ f.root := fun e => hn (by unfold Fo.has; rw [decide_eq_true e]; simp)
    split
    · split
      · exact rt_adopt 10 (rt_more h hr)
      · exact h
    · split
      · exact h
      · exact ⟨h.nd, fun b' hb' => (List.mem_append.1 hb').elim (h.or b') (fun e => by rw [List.mem_singleton] at e; subst e; exact hr)⟩
theorem Rt.none {f : Fo} (h : Rt f) : ndAt f.nodes f.root = none := ndAt_none.2 h.nd
theorem root_adopt : ∀ (n : Nat) (f : Fo), (f.adopt n).root = f.root ∧ (f.adopt n).height = f.height
  | 0, f => ⟨rfl, rfl⟩
  | n + 1, f => by
    cases hf : f.first with
    | none => rw [adopt_none hf]; exact ⟨rfl, rfl⟩
    | some i =>
      obtain ⟨b, hb, -⟩ := first_some hf
      rw [adopt_some hf hb]
      have h := root_adopt n ((f.less i).fput b)
      have e : ((f.less i).fput b).root = f.root ∧ ((f.less i).fput b).height = f.height := by unfold Fo.fput; split <;> exact ⟨rfl, rfl⟩
      exact ⟨h.1.trans e.1, h.2.trans e.2⟩
theorem root_put (f : Fo) (b : Block) : (f.put b).2.root = f.root ∧ (f.put b).2.height = f.height := by
  unfold Fo.put
  split
  · exact ⟨rfl, rfl⟩
  · split
    · split
      · exact root_adopt 10 (f.more b)
      · exact ⟨rfl, rfl⟩
    · split <;> exact ⟨rfl, rfl⟩
/-- all that is there is one of these -/
structure Of (P : Block → Prop) (f : Fo) : Prop where
  nd : ∀ x ∈ f.nodes, P x.b
  or : ∀ b ∈ f.orph, P b
theorem of_fput {P : Block → Prop} {f : Fo} (h : Of P f) {b : Block} (hb : P b) : Of P (f.fput b) := by
  unfold Fo.fput
  split
  · exact ⟨fun x hx => (List.mem_append.1 hx).elim (h.nd x) (fun e => by rw [List.mem_singleton] at e; subst e; exact hb), h.or⟩
  · exact h
theorem of_adopt {P : Block → Prop} : ∀ (n : Nat) {f : Fo}, Of P f → Of P (f.adopt n)
  | 0, f, h => h
  | n + 1, f, h => by
    cases hf : f.first with
    | none => rw [adopt_none hf]; exact h
    | some i =>
      obtain ⟨b, hb, -⟩ := first_some hf
      rw [adopt_some hf hb]
      exact of_adopt n (of_fput (f := f.less i) ⟨h.nd, fun b hb => h.or b (List.mem_of_mem_eraseIdx hb)⟩ (h.or b (List.mem_of_getElem? hb)))
theorem of_put {P : Block → Prop} {f : Fo} (h : Of P f) {b : Block} (hb : P b) : Of P (f.put b).2 := by
  unfold Fo.put
  split
  · exact h
  · split
    · split
      · exact of_adopt 10 ⟨fun x hx => (List.mem_append.1 hx).elim (h.nd x) (fun e => by rw [List.mem_singleton] at e; subst e; exact hb), h.or⟩
      · exact h
    · split
      · exact h
      · exact ⟨h.nd, fun b' hb' => (List.mem_append.1 hb').elim (h.or b') (fun e => by rw [List.mem_singleton] at e; subst e; exact hb)⟩
/-- of these, one behind the other -/
def bld (bs : List Block) : Fo := bs.foldl (fun f b => (f.put b).2) F0
theorem bld_snoc (bs : List Block) (b : Block) : bld (bs ++ [b]) = ((bld bs).put b).2 := by simp [bld]
theorem bld_take {bs : List Block} {i : Nat} {b : Block} (h : bs[i]? = some b) : bld (bs.take (i + 1)) = ((bld (bs.take i)).put b).2 := by
  rw [List.take_add_one, h]; exact bld_snoc _ _
theorem bld_ok (bs : List Block) : Ok (bld bs) ∧ Rt (bld bs) ∧ (bld bs).root = Crt.FB ∧ (bld bs).height = 0 :=
  Kee.snoc_ind (P := fun bs => Ok (bld bs) ∧ Rt (bld bs) ∧ (bld bs).root = Crt.FB ∧ (bld bs).height = 0) ⟨ok_0, ⟨fun x hx => by simp [bld, F0] at hx, fun x hx => by simp [bld, F0] at hx⟩, rfl, rfl⟩ (fun l x ih => by
    rw [bld_snoc]
    exact ⟨ok_put ih.1 x, rt_put ih.2.1 x, (root_put _ x).1.trans ih.2.2.1, (root_put _ x).2.trans ih.2.2.2⟩) _ bs rfl
theorem bld_of {P : Block → Prop} (bs : List Block) : (∀ b ∈ bs, P b) → Of P (bld bs) :=
  Kee.snoc_ind (P := fun bs => (∀ b ∈ bs, P b) → Of P (bld bs)) (fun _ => ⟨fun x hx => by simp [bld, F0] at hx, fun x hx => by simp [bld, F0] at hx⟩) (fun l x ih h => by
    rw [bld_snoc]
    exact of_put (ih (fun b hb => h b (List.mem_append_left _ hb))) (h x (by simp))) _ bs rfl

theorem Rv.fr {w0 W W1 : World} {f : Fo} {nv ov : Value} (h : Rv w0 f nv ov W) (hf : Fr W W1) (hb : RowKit.Below w0.heap.size w0 W1) : Rv w0 f nv ov W1 := by
  obtain ⟨is, h1, h2⟩ := h.n
  obtain ⟨js, h3, h4⟩ := h.o
  exact ⟨hb, ⟨is, OwnR.fr h1 hf (by decide) (by decide), h2⟩, ⟨js, OwnR.fr h3 hf (by decide) (by decide), h4⟩⟩
theorem Fw.turned {w0 W W1 : World} {g k : Nat} {f : Fo} {cs : Array Value} {t : TypeId} (h : Fw w0 g f W) (hE : W.heap[k]? = some (.cells cs t (0, 0))) (n1 : t ≠ 117) (n2 : t ≠ 42) (hk : w0.heap.size ≤ k) (hg : W.grownBy W1 (some k)) : Fw w0 g f W1 := by
  obtain ⟨m, ov, prs, rs, h1, h2, h3, h4, h5, h6, h7⟩ := h.ex
  refine ⟨below_grown h.bel hg h.bel.size (fun j e => (Option.some.inj e) ▸ hk), h.gg, m, ov, prs, rs, blk_grown h1 hg (fun e => ?_), h2.grown hg (fun e => ?_), h3, h4, OwnR.grown h5 hg (.inr (h5.blk hE (fun e => n2 e.symm))), h6, h7⟩
  · cases Option.some.inj e
    rw [hE] at h1
    simp at h1
    exact n1 h1.2
  · cases Option.some.inj e
    obtain ⟨es, ck, hb, -⟩ := h2.h
    rw [hE] at hb
    cases hb
/-- both forests, the reference's in a box -/
structure Mw (w0 : World) (g gw : Nat) (f : Fo) (W : World) : Prop where
  fw : Fw w0 g f W
  ge : w0.heap.size ≤ gw
  ex : ∃ A n c A2 n2 c2, W.heap[gw]? = some (.cells #[.string f.root, .int .i64 f.height, .slice A n c, .slice A2 n2 c2] 70 (0, 0)) ∧ Rv w0 f (.slice A n c) (.slice A2 n2 c2) W
theorem Mw.below {w0 W W1 : World} {g gw : Nat} {f : Fo} (h : Mw w0 g gw f W) (hb : RowKit.Below W.heap.size W W1) : Mw w0 g gw f W1 := by
  obtain ⟨A, n, c, A2, n2, c2, h1, h2⟩ := h.ex
  exact ⟨h.fw.below hb, h.ge, A, n, c, A2, n2, c2, blk_keep h1 hb, h2.below hb⟩
/-- the program's forest turned, behind the reference's -/
theorem mw_put {w0 W W1 : World} {g gw : Nat} {f' : Fo} {A A2 : Option Addr} {n c n2 c2 : Nat} (hw : w0.heap.size ≤ gw) (hE : W.heap[gw]? = some (.cells #[.string f'.root, .int .i64 f'.height, .slice A n c, .slice A2 n2 c2] 70 (0, 0))) (hv : Rv w0 f' (.slice A n c) (.slice A2 n2 c2) W) (hf : Fw w0 g f' W1) (hr : Fr W W1) : Mw w0 g gw f' W1 :=
  ⟨hf, hw, A, n, c, A2, n2, c2, hr.keep _ _ _ _ hE (by decide) (by decide), hv.fr hr hf.bel⟩
theorem grown4 (W : World) (g : Nat) (a b c d : Value) : W.grownBy ((((W.setCell ⟨g, 0, none⟩ a).setCell ⟨g, 1, none⟩ b).setCell ⟨g, 2, none⟩ c).setCell ⟨g, 3, none⟩ d) (some g) :=
  Rp.grown_then (Kee.grown_set W g 0 a) (Rp.grown_then (Kee.grown_set _ g 1 b) (Rp.grown_then (Kee.grown_set _ g 2 c) (Kee.grown_set _ g 3 d)))
theorem Rv.turned {w0 W W1 : World} {f : Fo} {nv ov : Value} {g : Nat} {cs : Array Value} {t : TypeId} (h : Rv w0 f nv ov W) (E : W.heap[g]? = some (.cells cs t (0, 0))) (ht : t ≠ 123) (hg : W.grownBy W1 (some g)) (hk : w0.heap.size ≤ g) : Rv w0 f nv ov W1 := by
  obtain ⟨is, h1, h2⟩ := h.n
  obtain ⟨js, h3, h4⟩ := h.o
  exact ⟨below_grown h.bel hg h.bel.size (fun j e => (Option.some.inj e) ▸ hk), ⟨is, OwnR.grown h1 hg (.inr (h1.blk E (fun e => ht e.symm))), h2⟩, ⟨js, OwnR.grown h3 hg (.inr (h3.blk E (fun e => ht e.symm))), h4⟩⟩
theorem rput_sh {w0 W : World} {f : Fo} {An Ao : Option Addr} {nn cn no co : Nat} (hv : Rv w0 f (.slice An nn cn) (.slice Ao no co) W) (hok : Ok f) (x : Block) (r : Bk) (hw : Bw w0 r x) (F : Fo) (hF : (f.put x).2 = F) :
    Calls Try.prog 42 #[.agg #[.string f.root, .int .i64 f.height, .slice An nn cn, .slice Ao no co], .agg #[.int .i64 x.view, .int .i64 x.prop, .int .i64 x.just.view, .string x.just.block, .slice r.sa r.sn r.sc, .slice r.a x.batch.length r.c]] W fun e w' => ∃ A1 n1 c1 A2 n2 c2, e = .returned (.tuple #[.agg #[.string F.root, .int .i64 F.height, .slice A1 n1 c1, .slice A2 n2 c2], .int .i64 (f.put x).1]) ∧ Rv w0 F (.slice A1 n1 c1) (.slice A2 n2 c2) w' ∧ RowKit.Below W.heap.size W w' := by
  subst hF
  refine (rput_any hv hok x r hw).mono ?_
  rintro e w' ⟨nv, ov, rfl, h, hb⟩
  obtain ⟨A1, c1, A2, c2, is, js, rfl, rfl, -, -, -, -⟩ := h.open
  exact ⟨_, _, _, _, _, _, rfl, h, hb⟩
end Go.Proofs.Ytnomgkmeomlccaa.Fst
set_option linter.unusedVariables false
set_option linter.unusedSimpArgs false

namespace Go.Proofs.Ytnomgkmeomlccaa.Fst
open Go.RowKit Go.Sort Rd Api Own Mv App Num Dig
open Blk (Block Rq rqN fR digB coreB step_appends_at own_nc)
open Kee (Bk fB bkK Wk Ch chn Tl tlN All8)

theorem all2_of {α β : Type} {R : α → β → Prop} : ∀ {l : List α} {m : List β}, l.length = m.length → (∀ (i : Nat) (a : α) (b : β), l[i]? = some a → m[i]? = some b → R a b) → All2 R l m
  | [], [], _, _ => trivial
  | a :: l, b :: m, hl, h => ⟨h 0 a b rfl rfl, all2_of (Nat.succ.inj hl) (fun i a' b' e f => h (i + 1) a' b' (by simpa using e) (by simpa using f))⟩
  | [], _ :: _, hl, _ => by cases hl
  | _ :: _, [], hl, _ => by cases hl
/-- the forest's value in a box, and four stores into it -/
def set4 (W : World) (g : Nat) (a b c d : Value) : World := (((W.setCell ⟨g, 0, none⟩ a).setCell ⟨g, 1, none⟩ b).setCell ⟨g, 2, none⟩ c).setCell ⟨g, 3, none⟩ d
theorem set4_at {W : World} {g : Nat} {a b c d a' b' c' d' : Value} {t : TypeId} (h : W.heap[g]? = some (.cells #[a', b', c', d'] t (0, 0))) : (set4 W g a b c d).heap[g]? = some (.cells #[a, b, c, d] t (0, 0)) :=
  blk_set3 (blk_set3 (blk_set3 (blk_set3 h 0 a) 1 b) 2 c) 3 d
theorem set4_ne (W : World) (g : Nat) (a b c d : Value) (k : Nat) (hk : k ≠ g) : (set4 W g a b c d).heap[k]? = W.heap[k]? :=
  (heap_set _ g 3 d k hk).trans ((heap_set _ g 2 c k hk).trans ((heap_set _ g 1 b k hk).trans (heap_set _ g 0 a k hk)))
theorem set4_size (W : World) (g : Nat) (a b c d : Value) : (set4 W g a b c d).heap.size = W.heap.size := by simp [set4, World.setCell]
theorem below_set4 {w W : World} {g : Nat} {a b c d a' b' c' d' : Value} {t : TypeId} (h : RowKit.Below w.heap.size w W) (hE : w.heap[g]? = some (.cells #[a', b', c', d'] t (0, 0))) : RowKit.Below (set4 w g a b c d).heap.size (set4 w g a b c d) (set4 W g a b c d) := by
  refine ⟨h.os, h.tape, h.output, ?_, fun k hk => ?_⟩
  · rw [set4_size, set4_size]; exact h.size
  · rw [set4_size] at hk
    by_cases e : k = g
    · subst e
      rw [set4_at hE, set4_at (blk_keep hE h)]
    · rw [set4_ne _ _ _ _ _ _ _ e, set4_ne _ _ _ _ _ _ _ e]
      exact h.block k hk
theorem row_set4 {W : World} {g : Nat} {a b c d : Value} {s : ByteArray} {q : Int} {A1 A2 : Option Addr} {n1 c1 n2 c2 : Nat} {t : TypeId} (hE : W.heap[g]? = some (.cells #[.string s, .int .i64 q, .slice A1 n1 c1, .slice A2 n2 c2] t (0, 0))) {A : Option Addr} {l : List Rq} (h : Row rqN W A l) : Row rqN (set4 W g a b c d) A l := by
  intro i x hx
  obtain ⟨k, o, cs, hA, hK, hc⟩ := h i x hx
  have hk : k ≠ g := by
    intro e
    subst e
    have hcs : cs = Blk.fR x := hK
    subst hcs
    have e0 := hc 0 _ rfl
    have e1 := hc 1 _ rfl
    unfold World.cell? at e0 e1
    rw [hE] at e0 e1
    simp only [Option.isSome_none, Bool.false_eq_true, if_false] at e0 e1
    generalize o + i * rqN.sz = z at e0 e1
    rcases z with _ | _ | _ | _ | z <;> simp at e0 e1
  refine ⟨k, o, cs, hA, hK, fun j u hu => ?_⟩
  have h1 := hc j u hu
  unfold World.cell? at h1 ⊢
  rw [set4_ne W g a b c d k hk]
  exact h1
theorem bw_set4 {W : World} {g : Nat} {a b c d : Value} {s : ByteArray} {q : Int} {A1 A2 : Option Addr} {n1 c1 n2 c2 : Nat} {t : TypeId} (hE : W.heap[g]? = some (.cells #[.string s, .int .i64 q, .slice A1 n1 c1, .slice A2 n2 c2] t (0, 0))) {r : Bk} {x : Block} (h : Bw W r x) : Bw (set4 W g a b c d) r x :=
  ⟨⟨h.wk.v, h.wk.p, h.wk.jv, h.wk.jb, h.wk.n, ⟨h.wk.sl.le, h.wk.sl.cap, row_set4 hE h.wk.sl.row⟩⟩, h.sz⟩
theorem fw_set4 {w0 W : World} {g k : Nat} {f : Fo} {a b c d : Value} {s : ByteArray} {q : Int} {A1 A2 : Option Addr} {n1 c1 n2 c2 : Nat} (h : Fw w0 g f W) (hE : w0.heap[k]? = some (.cells #[.string s, .int .i64 q, .slice A1 n1 c1, .slice A2 n2 c2] 70 (0, 0))) : Fw (set4 w0 k a b c d) g f (set4 W k a b c d) := by
  have hkl := blk_lt' hE
  have hEW := blk_keep hE h.bel
  have hg := grown4 W k a b c d
  obtain ⟨m, ov, prs, rs, h1, h2, h3, h4, h5, h6, h7⟩ := h.ex
  have hgg := h.gg
  refine ⟨below_set4 h.bel hE, by rw [set4_size]; exact hgg, m, ov, prs, rs, (set4_ne W k a b c d g (by omega)).trans h1, h2.grown hg (by simp; omega), by rw [set4_size]; exact h3, All2.imp (fun {p x} e => ⟨e.1, ?_⟩) h4, OwnR.grown h5 hg (.inr (h5.blk hEW (by decide))), fun j hj => by rw [set4_size]; exact h6 j hj, All2.imp (fun {r x} e => bw_set4 hE e) h7⟩
  obtain ⟨r, hr, he⟩ := e.2
  exact ⟨r, bw_set4 hE hr, he⟩
theorem rv_set4 {w0 W : World} {k : Nat} {f : Fo} {nv ov a b c d : Value} {s : ByteArray} {q : Int} {A1 A2 : Option Addr} {n1 c1 n2 c2 : Nat} (h : Rv w0 f nv ov W) (hE : w0.heap[k]? = some (.cells #[.string s, .int .i64 q, .slice A1 n1 c1, .slice A2 n2 c2] 70 (0, 0))) : Rv (set4 w0 k a b c d) f nv ov (set4 W k a b c d) := by
  have hEW := blk_keep hE h.bel
  have hg := grown4 W k a b c d
  obtain ⟨is, h1, h2⟩ := h.n
  obtain ⟨js, h3, h4⟩ := h.o
  exact ⟨below_set4 h.bel hE, ⟨is, OwnR.grown h1 hg (.inr (h1.blk hEW (by decide))), All2.imp (fun {r x} e => ⟨e.h, bw_set4 hE e.b⟩) h2⟩, ⟨js, OwnR.grown h3 hg (.inr (h3.blk hEW (by decide))), All2.imp (fun {r x} e => ⟨e.h, bw_set4 hE e.b⟩) h4⟩⟩
theorem bks_set4 {W : World} {k : Nat} {a b c d : Value} {cs : Array Value} (hE : W.heap[k]? = some (.cells cs 70 (0, 0))) {A : Option Addr} {c' : Nat} {rs : List Bk} (h : OwnR fB 6 W 0 42 (.slice A rs.length c') rs) : Sl bkK (set4 W k a b c d) A c' rs := by
  have ho := OwnR.grown h (grown4 W k a b c d) (.inr (h.blk hE (by decide)))
  obtain ⟨A1, c1, e, hs⟩ := Kee.own_bk ho
  simp only [Value.slice.injEq] at e
  obtain ⟨rfl, -, rfl⟩ := e
  exact hs
-- <L1
set_option maxHeartbeats 16000000 in
set_option maxRecDepth 100000 in
theorem made_any (w : World) (A : Option Addr) (c : Nat) (l : List Tl) (h : Sl tlN w A c l) (h8 : All8 l) (n : Nat) (hn : n = l.length) (h30 : n ≤ 30) (F0' : Fo) (hF0 : bld (chn l) = F0') :
    Calls Try.prog 53 #[.slice A n c] w fun e w' => ∃ w0 g A1 n1 c1 A2 n2 c2 A4 c4 rs, e = .returned (.tuple #[.pointer (some ⟨g, 0, none⟩), .agg #[.string F0'.root, .int .i64 F0'.height, .slice A1 n1 c1, .slice A2 n2 c2], .slice A4 n c4]) ∧ Fw w0 g F0' w' ∧ Rv w0 F0' (.slice A1 n1 c1) (.slice A2 n2 c2) w' ∧ RowKit.Below w.heap.size w w0 ∧ Sl bkK w0 A4 c4 rs ∧ All2 (Bw w0) rs (chn l) := by
  have mixed : Try.prog.follows .mixedOrders = true := by kernel_rfl
  have HF0 := Sd.mk hF0
  have HSZ := Sd.mk (fun x (hx : x ∈ chn l) => Kee.chn_size hx)
  have HCL := Sd.mk (show (chn l).length = n by rw [Kee.chn_len]; exact hn.symm)
  have b0 := below_one w (.cells #[.string ⟨#[]⟩, .int .i64 0, .slice none 0 0, .slice none 0 0] 70)
  have E3 := Sd.mk (blk_new w (.cells #[.string ⟨#[]⟩, .int .i64 0, .slice none 0 0, .slice none 0 0] 70))
  have HB3 := Sd.mk b0
  have HCHN := Sd.mk (Kee.chain_any (w.alloc (.cells #[.string ⟨#[]⟩, .int .i64 0, .slice none 0 0, .slice none 0 0] 70)) A c l (h.below b0) h8 n hn (by omega))
  obtain ⟨bs, hbs⟩ : ∃ bs, chn l = bs := ⟨_, rfl⟩
  rw [hbs] at HF0 HSZ HCL HCHN ⊢
  clear h h8 hn hF0 b0 hbs
  go_enter Try.func53, Try.ntmps53
  go_upto_region 2 with (first
    | (go_at_call 12; (with_reducible refine HCHN.out.mono ?_); rintro e w0 ⟨u, rfl, hch⟩; have HCH := Sd.mk hch; clear hch))
  clear HCHN
  have HB0 := Sd.mk (below_then HB3.out HCH.out.bel)
  have E30 := Sd.mk (blk_keep E3.out HCH.out.bel)
  have HG3 := Sd.mk (show w.heap.size < w0.heap.size by have := HCH.out.bel.size; simp at this; omega)
  obtain ⟨rs, hrs, hrl, hri⟩ := HCH.out.ex
  obtain ⟨A4, c4, e4, hs4⟩ := Kee.own_bk hrs
  subst e4
  have hcl := HCL.out
  rw [hrl, hcl]
  have HRL := Sd.mk (hrl.trans hcl)
  have HA2 := Sd.mk (show All2 (Bw w0) rs bs from all2_of hrl (fun j r x e f => ⟨(hri j r x e f).wk, HSZ.out x (List.mem_of_getElem? f)⟩))
  have HS4 := Sd.mk hs4
  have nc4 := Nat.le_trans hs4.le hs4.cap
  rw [hrl, hcl] at nc4
  have HOB := Sd.mk hrs
  clear hrs hrl hri hs4 hcl HCH HSZ E3 HB3
  generalize hg3 : w.heap.size = g3 at E30 HG3 ⊢
  have HG3W := Sd.mk (show w.heap.size ≤ g3 by omega)
  clear hg3
  go_upto_region 3 with (first
    | (go_at_call 35; (with_reducible refine (new_any _).mono ?_); rintro e w1 ⟨g, rfl, hf, hb⟩; have HFW := Sd.mk hf; clear hf hb)
    | (go_at_call 41; (with_reducible refine (rnew_any w0 _ HFW.out.bel).mono ?_); rintro e w2 ⟨rfl, hv, hb⟩; have HFW2 := Sd.mk (HFW.out.below hb); have HRV := Sd.mk hv; clear hv hb))
  have b3 := below_one w2 (.cells #[.string F0.root, .int .i64 F0.height, .slice none 0 0, .slice none 0 0] 70)
  have HM0 := Sd.mk (show Mw w0 g w2.heap.size (bld (bs.take 0)) (w2.alloc (.cells #[.string F0.root, .int .i64 F0.height, .slice none 0 0, .slice none 0 0] 70)) from ⟨HFW2.out.below b3, HFW2.out.bel.size, none, 0, 0, none, 0, 0, blk_new w2 _, HRV.out.below b3⟩)
  clear HFW HFW2 HRV b3
  generalize w2.heap.size = gw at HM0 ⊢
  generalize w2.alloc _ = W2 at HM0 ⊢
  go_wp2
  go_loopg [8] n (fun gk v8 wr => ∃ i, i + gk = n ∧ v8 = .int .i64 (i : Nat) ∧ Sd (Mw w0 g gw (bld (bs.take i)) wr))
  case atStart => exact ⟨0, by omega, rfl, HM0⟩
  case round =>
    clear HM0
    obtain ⟨i, hi, rfl, HM⟩ := hrel
    by_cases hlt : i < n
    · have hii : (i : Int) < n := by omega
      obtain ⟨x, hx⟩ : ∃ x, bs[i]? = some x := ⟨bs[i]'(by rw [HCL.out]; exact hlt), List.getElem?_eq_getElem _⟩
      obtain ⟨r, hr⟩ : ∃ r, rs[i]? = some r := ⟨rs[i]'(by rw [HRL.out]; exact hlt), List.getElem?_eq_getElem _⟩
      have HW := Sd.mk (HA2.out.get hr hx)
      have HNX := Sd.mk (bld_take hx)
      have HOK := Sd.mk (bld_ok (bs.take i)).1
      obtain ⟨F, hF⟩ : ∃ F, bld (bs.take i) = F := ⟨_, rfl⟩
      rw [hF] at HNX HOK HM
      obtain ⟨F2, hF2⟩ : ∃ F2, (F.put x).2 = F2 := ⟨_, rfl⟩
      rw [hF2] at HNX
      have HF2 := Sd.mk hF2
      obtain ⟨b1, o1, rfl, p0, p1, p2, p3, p4, p5⟩ := Kee.bk_at HS4.out.row hr
      rw [HW.out.wk.v] at p0
      rw [HW.out.wk.p] at p1
      rw [HW.out.wk.jv] at p2
      rw [HW.out.wk.jb] at p3
      rw [HW.out.wk.n] at p5
      have HP := Sd.mk (fun W1 (hb : RowKit.Below w0.heap.size w0 W1) => (And.intro (cell_below hb p0) (And.intro (cell_below hb p1) (And.intro (cell_below hb p2) (And.intro (cell_below hb p3) (And.intro (cell_below hb p4) (cell_below hb p5)))))))
      obtain ⟨A1, n1, c1, A2, n2, c2, hE, hv⟩ := HM.out.ex
      have HE := Sd.mk hE
      have HV := Sd.mk hv
      have HGE0 := Sd.mk HM.out.fw.bel.size
      clear hx hr hF hF2 p0 p1 p2 p3 p4 p5 hE hv
      go_upto_region 6 with (fail)
      go_cut [9] from 15 to 36 (fun v9 wx => ∃ g9 A3 n3 c3' A4' n4 c4', v9 = .pointer (some ⟨g9, 0, none⟩) ∧ Sd (RowKit.Below wr.heap.size wr wx) ∧ Sd (wx.heap[g9]? = some (.cells #[.string F2.root, .int .i64 F2.height, .slice A3 n3 c3', .slice A4' n4 c4'] 70 (0, 0))) ∧ Sd (Rv w0 F2 (.slice A3 n3 c3') (.slice A4' n4 c4') wx))
      case first =>
        have b7 := below_drew' (w := wr) (Below.refl wr.heap.size wr)
        have HB7 := Sd.mk b7
        have HCE := Sd.mk (fun W2 (hb : RowKit.Below wr.drew.heap.size wr.drew W2) => show (fun W : World => W.cell? ⟨gw, 0, none⟩ = some (.string F.root) ∧ W.cell? ⟨gw, 1, none⟩ = some (.int .i64 F.height) ∧ W.cell? ⟨gw, 2, none⟩ = some (.slice A1 n1 c1) ∧ W.cell? ⟨gw, 3, none⟩ = some (.slice A2 n2 c2) ∧ W.cell? ⟨b1, o1 + i * 6, none⟩ = some (.int .i64 x.view) ∧ W.cell? ⟨b1, o1 + i * 6 + 1, none⟩ = some (.int .i64 x.prop) ∧ W.cell? ⟨b1, o1 + i * 6 + 2, none⟩ = some (.int .i64 x.just.view) ∧ W.cell? ⟨b1, o1 + i * 6 + 3, none⟩ = some (.string x.just.block) ∧ W.cell? ⟨b1, o1 + i * 6 + 4, none⟩ = some (.slice r.sa r.sn r.sc) ∧ W.cell? ⟨b1, o1 + i * 6 + 5, none⟩ = some (.slice r.a x.batch.length r.c)) W2 from (by have hb2 := below_then HB7.out hb; have hp := HP.out W2 (below_then HM.out.fw.bel hb2); exact ⟨blk_at (blk_keep HE.out hb2) 0 _ rfl, blk_at (blk_keep HE.out hb2) 1 _ rfl, blk_at (blk_keep HE.out hb2) 2 _ rfl, blk_at (blk_keep HE.out hb2) 3 _ rfl, hp.1, hp.2.1, hp.2.2.1, hp.2.2.2.1, hp.2.2.2.2.1, hp.2.2.2.2.2⟩))
        have S0 := HCE.out _ (Below.refl _ _)
        have HPUT := Sd.mk (fun W1 (hb : RowKit.Below wr.heap.size wr W1) => rput_sh (HV.out.below hb) HOK.out x r HW.out F2 HF2.out)
        clear b7
        refine Peel.region_peel (n := 11) (S := (fun W : World => W.cell? ⟨gw, 0, none⟩ = some (.string F.root) ∧ W.cell? ⟨gw, 1, none⟩ = some (.int .i64 F.height) ∧ W.cell? ⟨gw, 2, none⟩ = some (.slice A1 n1 c1) ∧ W.cell? ⟨gw, 3, none⟩ = some (.slice A2 n2 c2) ∧ W.cell? ⟨b1, o1 + i * 6, none⟩ = some (.int .i64 x.view) ∧ W.cell? ⟨b1, o1 + i * 6 + 1, none⟩ = some (.int .i64 x.prop) ∧ W.cell? ⟨b1, o1 + i * 6 + 2, none⟩ = some (.int .i64 x.just.view) ∧ W.cell? ⟨b1, o1 + i * 6 + 3, none⟩ = some (.string x.just.block) ∧ W.cell? ⟨b1, o1 + i * 6 + 4, none⟩ = some (.slice r.sa r.sn r.sc) ∧ W.cell? ⟨b1, o1 + i * 6 + 5, none⟩ = some (.slice r.a x.batch.length r.c))) (by kernel_rfl) (by kernel_rfl) S0 (fun hHeld => ?_)
        simp only [List.take_succ_cons, List.take_zero]
        generalize wr.drew = W7 at HB7 HCE S0 hHeld ⊢
        clear S0
        (refine Peel.take 0 (v := ?_) rfl rfl (by kernel_rfl) (by kernel_rfl) (by kernel_rfl) (fun _ _ _ h => h) (by assumption) ?_ ?_; rotate_left; (focus (intro w hSw; (try dsimp only at hSw); obtain ⟨s0, s1, s2, s3, s4, s5, s6, s7, s8, s9⟩ := hSw; (try simp only [List.getElem_toArray, List.getElem_cons_succ, List.getElem_cons_zero]); go_simp; try (with_reducible rfl))); try simp only [List.getElem_toArray, List.getElem_cons_succ, List.getElem_cons_zero, Act.put, List.setIfInBounds_toArray, List.set_cons_zero, List.set_cons_succ])
        (refine Peel.take 1 (v := ?_) rfl rfl (by kernel_rfl) (by kernel_rfl) (by kernel_rfl) (fun _ _ _ h => h) (by assumption) ?_ ?_; rotate_left; (focus (intro w hSw; (try dsimp only at hSw); obtain ⟨s0, s1, s2, s3, s4, s5, s6, s7, s8, s9⟩ := hSw; (try simp only [List.getElem_toArray, List.getElem_cons_succ, List.getElem_cons_zero]); go_simp; try (with_reducible rfl))); try simp only [List.getElem_toArray, List.getElem_cons_succ, List.getElem_cons_zero, Act.put, List.setIfInBounds_toArray, List.set_cons_zero, List.set_cons_succ])
        (refine Peel.take 2 (v := ?_) rfl rfl (by kernel_rfl) (by kernel_rfl) (by kernel_rfl) (fun _ _ _ h => h) (by assumption) ?_ ?_; rotate_left; (focus (intro w hSw; (try dsimp only at hSw); obtain ⟨s0, s1, s2, s3, s4, s5, s6, s7, s8, s9⟩ := hSw; (try simp only [List.getElem_toArray, List.getElem_cons_succ, List.getElem_cons_zero]); go_simp; try (with_reducible rfl))); try simp only [List.getElem_toArray, List.getElem_cons_succ, List.getElem_cons_zero, Act.put, List.setIfInBounds_toArray, List.set_cons_zero, List.set_cons_succ])
        (refine Peel.take 3 (v := ?_) rfl rfl (by kernel_rfl) (by kernel_rfl) (by kernel_rfl) (fun _ _ _ h => h) (by assumption) ?_ ?_; rotate_left; (focus (intro w hSw; (try dsimp only at hSw); obtain ⟨s0, s1, s2, s3, s4, s5, s6, s7, s8, s9⟩ := hSw; (try simp only [List.getElem_toArray, List.getElem_cons_succ, List.getElem_cons_zero]); go_simp; try (with_reducible rfl))); try simp only [List.getElem_toArray, List.getElem_cons_succ, List.getElem_cons_zero, Act.put, List.setIfInBounds_toArray, List.set_cons_zero, List.set_cons_succ])
        (refine Peel.take 4 (v := ?_) rfl rfl (by kernel_rfl) (by kernel_rfl) (by kernel_rfl) (fun _ _ _ h => h) (by assumption) ?_ ?_; rotate_left; (focus (intro w hSw; (try dsimp only at hSw); obtain ⟨s0, s1, s2, s3, s4, s5, s6, s7, s8, s9⟩ := hSw; (try simp only [List.getElem_toArray, List.getElem_cons_succ, List.getElem_cons_zero]); go_simp; try (with_reducible rfl))); try simp only [List.getElem_toArray, List.getElem_cons_succ, List.getElem_cons_zero, Act.put, List.setIfInBounds_toArray, List.set_cons_zero, List.set_cons_succ])
        refine wpAnyH_ready (rs := [5, 9]) (by kernel_rfl) (by simp) ?_
        refine AllReadyH.cons rfl (fun K hK => ?_) (AllReadyH.cons rfl (fun K hK => ?_) AllReadyH.nil)
        · go_simp
          go_at_call 42
          refine (HPUT.out _ HB7.out).mono ?_
          rintro e w5 ⟨A3, n3, c3', A4', n4', c4', rfl, hv5, hb5⟩
          have s5 := HCE.out _ hb5
          have HB5 := Sd.mk hb5
          have HV5 := Sd.mk hv5
          clear hb5 hv5
          (refine hK.out _ _ s5 (fun hHeld => ?_); (clear hK K; try simp only [List.getElem_toArray, List.getElem_cons_succ, List.getElem_cons_zero, Act.put, List.setIfInBounds_toArray, List.set_cons_zero, List.set_cons_succ]))
          clear s5
          (refine Peel.take 6 (v := ?_) rfl rfl (by kernel_rfl) (by kernel_rfl) (by kernel_rfl) (fun _ _ _ h => h) (by assumption) ?_ ?_; rotate_left; (focus (intro w hSw; (try dsimp only at hSw); obtain ⟨s0, s1, s2, s3, s4, s5, s6, s7, s8, s9⟩ := hSw; (try simp only [List.getElem_toArray, List.getElem_cons_succ, List.getElem_cons_zero]); go_simp; try (with_reducible rfl))); try simp only [List.getElem_toArray, List.getElem_cons_succ, List.getElem_cons_zero, Act.put, List.setIfInBounds_toArray, List.set_cons_zero, List.set_cons_succ])
          (refine Peel.take 7 (v := ?_) rfl rfl (by kernel_rfl) (by kernel_rfl) (by kernel_rfl) (fun _ _ _ h => h) (by assumption) ?_ ?_; rotate_left; (focus (intro w hSw; (try dsimp only at hSw); obtain ⟨s0, s1, s2, s3, s4, s5, s6, s7, s8, s9⟩ := hSw; (try simp only [List.getElem_toArray, List.getElem_cons_succ, List.getElem_cons_zero]); go_simp; try (with_reducible rfl))); try simp only [List.getElem_toArray, List.getElem_cons_succ, List.getElem_cons_zero, Act.put, List.setIfInBounds_toArray, List.set_cons_zero, List.set_cons_succ])
          (refine Peel.take 8 (v := ?_) rfl rfl (by kernel_rfl) (by kernel_rfl) (by kernel_rfl) (fun _ _ _ h => h) (by assumption) ?_ ?_; rotate_left; (focus (intro w hSw; (try dsimp only at hSw); obtain ⟨s0, s1, s2, s3, s4, s5, s6, s7, s8, s9⟩ := hSw; (try simp only [List.getElem_toArray, List.getElem_cons_succ, List.getElem_cons_zero]); go_simp; try (with_reducible rfl))); try simp only [List.getElem_toArray, List.getElem_cons_succ, List.getElem_cons_zero, Act.put, List.setIfInBounds_toArray, List.set_cons_zero, List.set_cons_succ])
          (refine wpAnyH_ready (rs := [9]) (by kernel_rfl) (by simp) ?_; refine AllReadyH.cons rfl (fun K hK => ?_) AllReadyH.nil)
          go_simp
          have b8 := below_one w5 (.cells #[.string ⟨#[]⟩, .int .i64 0, .slice none 0 0, .slice none 0 0] 70)
          have s6 := HCE.out _ (below_then HB5.out b8)
          have E9 := Sd.mk (blk_new w5 (.cells #[.string ⟨#[]⟩, .int .i64 0, .slice none 0 0, .slice none 0 0] 70))
          have HB9 := Sd.mk (below_then HB5.out b8)
          have HV9 := Sd.mk (HV5.out.below b8)
          have HG9 := Sd.mk HB5.out.size
          clear b8 HB5 HV5
          (refine hK.out _ _ s6 (fun hHeld => ?_); (clear hK K; try simp only [List.getElem_toArray, List.getElem_cons_succ, List.getElem_cons_zero, Act.put, List.setIfInBounds_toArray, List.set_cons_zero, List.set_cons_succ]))
          generalize w5.heap.size = g9 at E9 HG9 ⊢
          generalize w5.alloc _ = W8 at E9 HB9 HV9 s6 hHeld ⊢
          (clear s6; (have d0 := blk_at E9.out 0 _ rfl; have d1 := blk_at E9.out 1 _ rfl; have d2 := blk_at E9.out 2 _ rfl; have d3 := blk_at E9.out 3 _ rfl; have f0 := blk_frz E9.out 0; have f1 := blk_frz E9.out 1; have f2 := blk_frz E9.out 2; have f3 := blk_frz E9.out 3); (refine wpAnyH_ready (rs := [10]) (by kernel_rfl) (by simp) ?_; refine AllReadyH.cons rfl (fun K hK => ?_) AllReadyH.nil); go_simp; (clear d0 d1 d2 d3 f0 f1 f2 f3); have b9 := below_grown HB9.out (grown4 W8 g9 (.string F2.root) (.int .i64 F2.height) (.slice A3 n3 c3') (.slice A4' n4' c4')) HB9.out.size (fun j e => (Option.some.inj e) ▸ HG9.out); have s9 := HCE.out _ b9; have E10 := Sd.mk (blk_set3 (blk_set3 (blk_set3 (blk_set3 E9.out 0 (.string F2.root)) 1 (.int .i64 F2.height)) 2 (.slice A3 n3 c3')) 3 (.slice A4' n4' c4')); have HV10 := Sd.mk (HV9.out.turned E9.out (by decide) (grown4 W8 g9 (.string F2.root) (.int .i64 F2.height) (.slice A3 n3 c3') (.slice A4' n4' c4')) (Nat.le_trans HGE0.out (Nat.le_trans HB7.out.size HG9.out))); have HB10 := Sd.mk b9; clear b9; (refine hK.out _ _ s9 (fun hHeld => ?_); (clear hK K; try simp only [List.getElem_toArray, List.getElem_cons_succ, List.getElem_cons_zero, Act.put, List.setIfInBounds_toArray, List.set_cons_zero, List.set_cons_succ])); clear s9; (refine wpAnyH_done (by kernel_rfl) ?_ _; simp only [Peel.Qn, List.drop_succ_cons, List.drop_zero]; clear hHeld); go_wp2; go_meet; exact ⟨g9, A3, n3, c3', A4', n4', c4', rfl, ⟨below_then HB7.out HB10.out⟩, E10, HV10⟩)
        · go_simp
          have b8 := below_one W7 (.cells #[.string ⟨#[]⟩, .int .i64 0, .slice none 0 0, .slice none 0 0] 70)
          have s6 := HCE.out _ b8
          have E8 := Sd.mk (blk_new W7 (.cells #[.string ⟨#[]⟩, .int .i64 0, .slice none 0 0, .slice none 0 0] 70))
          have HB8 := Sd.mk b8
          have HG9 := Sd.mk (Nat.le_refl W7.heap.size)
          clear b8
          (refine hK.out _ _ s6 (fun hHeld => ?_); (clear hK K; try simp only [List.getElem_toArray, List.getElem_cons_succ, List.getElem_cons_zero, Act.put, List.setIfInBounds_toArray, List.set_cons_zero, List.set_cons_succ]))
          clear s6
          generalize hg9 : W7.heap.size = g9 at E8 HG9 ⊢
          have HG9 := Sd.mk (show W7.heap.size ≤ g9 by omega)
          clear hg9
          generalize W7.alloc _ = W8 at E8 HB8 hHeld ⊢
          (refine wpAnyH_ready (rs := [5]) (by kernel_rfl) (by simp) ?_; refine AllReadyH.cons rfl (fun K hK => ?_) AllReadyH.nil)
          go_simp
          go_at_call 42
          refine (HPUT.out _ (below_then HB7.out HB8.out)).mono ?_
          rintro e w5 ⟨A3, n3, c3', A4', n4', c4', rfl, hv5, hb5⟩
          have HB9 := Sd.mk (below_then HB8.out hb5)
          have E9 := Sd.mk (blk_keep E8.out hb5)
          have s6 := HCE.out _ HB9.out
          have HV9 := Sd.mk hv5
          clear hb5 hv5 HB8 E8
          (refine hK.out _ _ s6 (fun hHeld => ?_); (clear hK K; try simp only [List.getElem_toArray, List.getElem_cons_succ, List.getElem_cons_zero, Act.put, List.setIfInBounds_toArray, List.set_cons_zero, List.set_cons_succ]))
          (refine Peel.take 6 (v := ?_) rfl rfl (by kernel_rfl) (by kernel_rfl) (by kernel_rfl) (fun _ _ _ h => h) (by assumption) ?_ ?_; rotate_left; (focus (intro w hSw; (try dsimp only at hSw); obtain ⟨s0, s1, s2, s3, s4, s5, s6, s7, s8, s9⟩ := hSw; (try simp only [List.getElem_toArray, List.getElem_cons_succ, List.getElem_cons_zero]); go_simp; try (with_reducible rfl))); try simp only [List.getElem_toArray, List.getElem_cons_succ, List.getElem_cons_zero, Act.put, List.setIfInBounds_toArray, List.set_cons_zero, List.set_cons_succ])
          (refine Peel.take 7 (v := ?_) rfl rfl (by kernel_rfl) (by kernel_rfl) (by kernel_rfl) (fun _ _ _ h => h) (by assumption) ?_ ?_; rotate_left; (focus (intro w hSw; (try dsimp only at hSw); obtain ⟨s0, s1, s2, s3, s4, s5, s6, s7, s8, s9⟩ := hSw; (try simp only [List.getElem_toArray, List.getElem_cons_succ, List.getElem_cons_zero]); go_simp; try (with_reducible rfl))); try simp only [List.getElem_toArray, List.getElem_cons_succ, List.getElem_cons_zero, Act.put, List.setIfInBounds_toArray, List.set_cons_zero, List.set_cons_succ])
          (refine Peel.take 8 (v := ?_) rfl rfl (by kernel_rfl) (by kernel_rfl) (by kernel_rfl) (fun _ _ _ h => h) (by assumption) ?_ ?_; rotate_left; (focus (intro w hSw; (try dsimp only at hSw); obtain ⟨s0, s1, s2, s3, s4, s5, s6, s7, s8, s9⟩ := hSw; (try simp only [List.getElem_toArray, List.getElem_cons_succ, List.getElem_cons_zero]); go_simp; try (with_reducible rfl))); try simp only [List.getElem_toArray, List.getElem_cons_succ, List.getElem_cons_zero, Act.put, List.setIfInBounds_toArray, List.set_cons_zero, List.set_cons_succ])
          (clear s6; (have d0 := blk_at E9.out 0 _ rfl; have d1 := blk_at E9.out 1 _ rfl; have d2 := blk_at E9.out 2 _ rfl; have d3 := blk_at E9.out 3 _ rfl; have f0 := blk_frz E9.out 0; have f1 := blk_frz E9.out 1; have f2 := blk_frz E9.out 2; have f3 := blk_frz E9.out 3); (refine wpAnyH_ready (rs := [10]) (by kernel_rfl) (by simp) ?_; refine AllReadyH.cons rfl (fun K hK => ?_) AllReadyH.nil); go_simp; (clear d0 d1 d2 d3 f0 f1 f2 f3); have b9 := below_grown HB9.out (grown4 w5 g9 (.string F2.root) (.int .i64 F2.height) (.slice A3 n3 c3') (.slice A4' n4' c4')) HB9.out.size (fun j e => (Option.some.inj e) ▸ HG9.out); have s9 := HCE.out _ b9; have E10 := Sd.mk (blk_set3 (blk_set3 (blk_set3 (blk_set3 E9.out 0 (.string F2.root)) 1 (.int .i64 F2.height)) 2 (.slice A3 n3 c3')) 3 (.slice A4' n4' c4')); have HV10 := Sd.mk (HV9.out.turned E9.out (by decide) (grown4 w5 g9 (.string F2.root) (.int .i64 F2.height) (.slice A3 n3 c3') (.slice A4' n4' c4')) (Nat.le_trans HGE0.out (Nat.le_trans HB7.out.size HG9.out))); have HB10 := Sd.mk b9; clear b9; (refine hK.out _ _ s9 (fun hHeld => ?_); (clear hK K; try simp only [List.getElem_toArray, List.getElem_cons_succ, List.getElem_cons_zero, Act.put, List.setIfInBounds_toArray, List.set_cons_zero, List.set_cons_succ])); clear s9; (refine wpAnyH_done (by kernel_rfl) ?_ _; simp only [Peel.Qn, List.drop_succ_cons, List.drop_zero]; clear hHeld); go_wp2; go_meet; exact ⟨g9, A3, n3, c3', A4', n4', c4', rfl, ⟨below_then HB7.out HB10.out⟩, E10, HV10⟩)
      case rest =>
        obtain ⟨g9, A3, n3, c3', A4', n4', c4', rfl, HBx, E9, HV9⟩ := hcut
        have HEx := Sd.mk (blk_keep HE.out HBx.out)
        have HFx := Sd.mk (HM.out.fw.below HBx.out)
        have HGW := Sd.mk HM.out.ge
        clear HBx HE HV HM
        generalize wc = W8 at E9 HV9 HEx HFx ⊢
        (have c0 := blk_at E9.out 0 _ rfl; have c1' := blk_at E9.out 1 _ rfl; have c2' := blk_at E9.out 2 _ rfl; have c3 := blk_at E9.out 3 _ rfl)
        (have d0 := blk_at HEx.out 0 _ rfl; have d1 := blk_at HEx.out 1 _ rfl; have d2 := blk_at HEx.out 2 _ rfl; have d3 := blk_at HEx.out 3 _ rfl; have f0 := blk_frz HEx.out 0; have f1 := blk_frz HEx.out 1; have f2 := blk_frz HEx.out 2; have f3 := blk_frz HEx.out 3)
        go_upto_region 8 with (fail)
        (clear c0 c1' c2' c3)
        (clear d0 d1 d2 d3 f0 f1 f2 f3)
        have hg := grown4 W8 gw (.string F2.root) (.int .i64 F2.height) (.slice A3 n3 c3') (.slice A4' n4' c4')
        have E10 := Sd.mk (blk_set3 (blk_set3 (blk_set3 (blk_set3 HEx.out 0 (.string F2.root)) 1 (.int .i64 F2.height)) 2 (.slice A3 n3 c3')) 3 (.slice A4' n4' c4'))
        have HV10 := Sd.mk (HV9.out.turned HEx.out (by decide) hg HGW.out)
        have HF10 := Sd.mk (HFx.out.turned HEx.out (by decide) (by decide) HGW.out hg)
        clear hg E9 HV9 HEx HFx
        generalize (((World.setCell _ _ _).setCell _ _).setCell _ _).setCell _ _ = W10 at E10 HV10 HF10 ⊢
        obtain ⟨p0, p1, p2, p3, p4, p5⟩ := HP.out W10 HF10.out.bel
        have HPU := Sd.mk (put_any HF10.out HOK.out x r HW.out)
        rw [HF2.out] at HPU
        go_wp2_with (first
          | (go_at_call 36; (with_reducible refine HPU.out.mono ?_); rintro e w11 ⟨rfl, hf, hr⟩; have HM11 := Sd.mk (mw_put (A := A3) (n := n3) (c := c3') (A2 := A4') (n2 := n4') (c2 := c4') HGW.out E10.out HV10.out hf hr); clear hf hr p0 p1 p2 p3 p4 p5))
        go_roundg (gk - 1)
        case measure => omega
        case rel => exact ⟨i + 1, by omega, by go_num, ⟨by rw [HNX.out]; exact HM11.out⟩⟩
    · have hii : decide (i < n) = false := decide_eq_false (by omega)
      have hii2 : decide ((i : Int) < (n : Int)) = false := decide_eq_false (by omega)
      have HM2 := Sd.mk (show Mw w0 g gw F0' wr by have h := HM.out; rwa [List.take_of_length_le (by rw [HCL.out]; omega), HF0.out] at h)
      obtain ⟨A1, n1, c1, A2, n2, c2, hE, hv⟩ := HM2.out.ex
      have HE := Sd.mk hE
      have HV := Sd.mk hv
      have E3 := Sd.mk (blk_keep E30.out HM2.out.fw.bel)
      clear HM hE hv
      (have c0 := blk_at HE.out 0 _ rfl; have c1' := blk_at HE.out 1 _ rfl; have c2' := blk_at HE.out 2 _ rfl; have c3 := blk_at HE.out 3 _ rfl)
      (have d0 := blk_at E3.out 0 _ rfl; have d1 := blk_at E3.out 1 _ rfl; have d2 := blk_at E3.out 2 _ rfl; have d3 := blk_at E3.out 3 _ rfl; have f0 := blk_frz E3.out 0; have f1 := blk_frz E3.out 1; have f2 := blk_frz E3.out 2; have f3 := blk_frz E3.out 3)
      go_upto_region 9 with (fail)
      go_region
      (clear c0 c1' c2' c3)
      (clear d0 d1 d2 d3 f0 f1 f2 f3)
      have ED := Sd.mk (blk_at (set4_at (a := .string F0'.root) (b := .int .i64 F0'.height) (c := .slice A1 n1 c1) (d := .slice A2 n2 c2) E3.out))
      have HF9 := Sd.mk ((fw_set4 (a := .string F0'.root) (b := .int .i64 F0'.height) (c := .slice A1 n1 c1) (d := .slice A2 n2 c2) HM2.out.fw E30.out).below (below_drew' (Below.refl _ _)))
      have HV9 := Sd.mk ((rv_set4 (a := .string F0'.root) (b := .int .i64 F0'.height) (c := .slice A1 n1 c1) (d := .slice A2 n2 c2) HV.out E30.out).below (below_drew' (Below.refl _ _)))
      have HS9 := Sd.mk (bks_set4 (a := .string F0'.root) (b := .int .i64 F0'.height) (c := .slice A1 n1 c1) (d := .slice A2 n2 c2) E30.out HOB.out)
      have HA9 := Sd.mk (All2.imp (fun {r x} e => bw_set4 (a := .string F0'.root) (b := .int .i64 F0'.height) (c := .slice A1 n1 c1) (d := .slice A2 n2 c2) E30.out e) HA2.out)
      have HB9 := Sd.mk (below_grown HB0.out (grown4 w0 g3 (.string F0'.root) (.int .i64 F0'.height) (.slice A1 n1 c1) (.slice A2 n2 c2)) HB0.out.size (fun j e => (Option.some.inj e) ▸ HG3W.out))
      unfold set4 at ED HF9 HV9 HS9 HA9
      have y0 := ED.out 0 _ rfl
      have y1 := ED.out 1 _ rfl
      have y2 := ED.out 2 _ rfl
      have y3 := ED.out 3 _ rfl
      generalize (((wr.setCell _ _).setCell _ _).setCell _ _).setCell _ _ = W9 at y0 y1 y2 y3 HF9 HV9 ⊢
      clear ED
      go_wp2
      exact bodyPost_ret (v := .tuple #[.pointer (some ⟨g, 0, none⟩), .agg #[.string F0'.root, .int .i64 F0'.height, .slice A1 n1 c1, .slice A2 n2 c2], .slice A4 n c4]) (by simp [results, Try.results53, go_sem, y0, y1, y2, y3]) rfl ⟨_, g, A1, n1, c1, A2, n2, c2, A4, c4, rs, rfl, HF9.out, HV9.out, HB9.out, HS9.out, HA9.out⟩
-- L1>
end Go.Proofs.Ytnomgkmeomlccaa.Fst

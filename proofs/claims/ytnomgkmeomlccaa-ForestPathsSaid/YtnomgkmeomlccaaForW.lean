/- A forest of blocks: plain. A forest of blocks as it lies; forest.New, Has, Height, Get, Len: walked. -/
import Derived.Test.YtnomgkmeomlccaaKeX
import Derived.Test.YtnomgkmeomlccaaSmp
import Derived.Test.YtnomgkmeomlccaaLawBD
import Derived.Test.YtnomgkmeomlccaaKeE
set_option linter.unusedVariables false
set_option linter.unusedSimpArgs false
namespace Go.Proofs.Ytnomgkmeomlccaa.Fst
open Go.RowKit Rd Api Own Mv App Num Dig
open Blk (Block Rq digB coreB)

structure Nd where
  b : Block
  ht : Int
structure Fo where
  root : ByteArray
  height : Int
  nodes : List Nd
  orph : List Block
def w64 (n : Int) : Int := IntKind.i64.wrap n
def ndAt (l : List Nd) (h : ByteArray) : Option Nd := l.find? (fun x => decide (digB x.b = h))
def Fo.has (f : Fo) (h : ByteArray) : Bool := (ndAt f.nodes h).isSome || decide (h = f.root)
def Fo.hasO (f : Fo) (h : ByteArray) : Bool := f.orph.any (fun b => decide (digB b = h))
def Fo.hgt (f : Fo) (h : ByteArray) : Int := if h = f.root then f.height else match ndAt f.nodes h with
  | some x => x.ht
  | none => -1
/-- may it not stand on this one? -/
def bad (p : Option Nd) (b : Block) : Bool := match p with
  | some x => decide (b.view ≤ x.b.view) || decide (b.view ≤ b.just.view) || decide (b.just.view ≠ x.b.view)
  | none => false
def Fo.code (f : Fo) (b : Block) : Int := if bad (ndAt f.nodes b.just.block) b then 5 else if 400 ≤ f.nodes.length then 7 else 0
def Fo.more (f : Fo) (b : Block) : Fo := ⟨f.root, f.height, f.nodes ++ [⟨b, w64 (f.hgt b.just.block + 1)⟩], f.orph⟩
def Fo.fput (f : Fo) (b : Block) : Fo := if f.code b = 0 then f.more b else f
def Fo.first (f : Fo) : Option Nat := f.orph.findIdx? (fun b => f.has b.just.block)
def Fo.less (f : Fo) (i : Nat) : Fo := ⟨f.root, f.height, f.nodes, f.orph.eraseIdx i⟩
def Fo.adopt : Nat → Fo → Fo
  | 0, f => f
  | n + 1, f => match f.first with
    | none => f
    | some i => match f.orph[i]? with
      | none => f
      | some b => adopt n ((f.less i).fput b)
def Fo.put (f : Fo) (b : Block) : Int × Fo :=
  if f.has (digB b) || f.hasO (digB b) then (6, f)
  else if f.has b.just.block then (if f.code b = 0 then (0, (f.more b).adopt 10) else (f.code b, f))
  else if 8 ≤ f.orph.length then (7, f) else (0, ⟨f.root, f.height, f.nodes, f.orph ++ [b]⟩)
/-- no digest twice; few orphans -/
structure Ok (f : Fo) : Prop where
  new : ∀ b ∈ f.orph, ndAt f.nodes (digB b) = none
  nod : (f.orph.map digB).Nodup
  few : f.orph.length ≤ 8
theorem ndAt_none {l : List Nd} {h : ByteArray} : ndAt l h = none ↔ ∀ x ∈ l, digB x.b ≠ h := by
  unfold ndAt
  rw [List.find?_eq_none]
  simp
theorem ndAt_some {l : List Nd} {h : ByteArray} {x : Nd} (e : ndAt l h = some x) : x ∈ l ∧ digB x.b = h := by
  unfold ndAt at e
  have h1 := List.find?_some e
  have h2 := List.mem_of_find?_eq_some e
  simp at h1
  exact ⟨h2, h1⟩
theorem ndAt_snoc (l : List Nd) (x : Nd) (h : ByteArray) : ndAt (l ++ [x]) h = (ndAt l h).or (if digB x.b = h then some x else none) := by
  unfold ndAt
  rw [List.find?_append]
  by_cases e : digB x.b = h
  · simp [e]
  · simp [e]
theorem first_some {f : Fo} {i : Nat} (h : f.first = some i) : ∃ b, f.orph[i]? = some b ∧ f.has b.just.block = true ∧ ∀ j b', j < i → f.orph[j]? = some b' → f.has b'.just.block = false := by
  unfold Fo.first at h
  obtain ⟨h1, h2, h3⟩ := List.findIdx?_eq_some_iff_getElem.1 h
  refine ⟨f.orph[i], List.getElem?_eq_getElem h1, h2, fun j b' hj hb => ?_⟩
  have hjl : j < f.orph.length := by omega
  rw [List.getElem?_eq_getElem hjl] at hb
  cases Option.some.inj hb
  have := h3 j hj
  simpa using this
theorem first_none {f : Fo} (h : f.first = none) : ∀ b ∈ f.orph, f.has b.just.block = false := by
  unfold Fo.first at h
  intro b hb
  have := List.findIdx?_eq_none_iff.1 h b hb
  simpa using this
theorem less_len {f : Fo} {i : Nat} {b : Block} (h : f.orph[i]? = some b) : (f.less i).orph.length + 1 = f.orph.length := by
  have := (List.getElem?_eq_some_iff.1 h).1
  show (f.orph.eraseIdx i).length + 1 = _
  rw [List.length_eraseIdx, if_pos this]
  omega
theorem fput_orph (f : Fo) (b : Block) : (f.fput b).orph = f.orph := by
  unfold Fo.fput
  split <;> rfl
theorem code_cases (f : Fo) (b : Block) : f.code b = 0 ∨ f.code b = 5 ∨ f.code b = 7 := by
  unfold Fo.code
  split
  · exact .inr (.inl rfl)
  · split
    · exact .inr (.inr rfl)
    · exact .inl rfl
theorem less_code (f : Fo) (i : Nat) (b : Block) : (f.less i).code b = f.code b := rfl
theorem ok_less {f : Fo} (h : Ok f) {i : Nat} {b : Block} (hb : f.orph[i]? = some b) : Ok (f.less i) ∧ ∀ b' ∈ (f.less i).orph, digB b' ≠ digB b := by
  have hsub : ∀ b' ∈ (f.less i).orph, b' ∈ f.orph := fun b' hb' => List.mem_of_mem_eraseIdx hb'
  refine ⟨⟨fun b' hb' => h.new b' (hsub b' hb'), ?_, ?_⟩, fun b' hb' e => ?_⟩
  · exact h.nod.sublist ((List.eraseIdx_sublist f.orph i).map digB)
  · have := less_len hb
    have := h.few
    omega
  · obtain ⟨j, hj⟩ := List.getElem?_of_mem hb'
    have hj2 : (f.orph.eraseIdx i)[j]? = some b' := hj
    rw [List.getElem?_eraseIdx] at hj2
    have hil := (List.getElem?_eq_some_iff.1 hb).1
    have hnd := h.nod
    split at hj2
    · rename_i hlt
      have : j = i := (List.getElem?_inj (by rw [List.length_map]; omega) hnd).1 (by rw [List.getElem?_map, List.getElem?_map, hj2, hb]; simp [e])
      omega
    · rename_i hge
      have hlt := (List.getElem?_eq_some_iff.1 hj2).1
      have : j + 1 = i := (List.getElem?_inj (by rw [List.length_map]; exact hlt) hnd).1 (by rw [List.getElem?_map, List.getElem?_map, hj2, hb]; simp [e])
      omega
theorem ok_more {f : Fo} (h : Ok f) {b : Block} (hne : ∀ b' ∈ f.orph, digB b' ≠ digB b) : Ok (f.more b) :=
  ⟨fun b' hb' => by
    show ndAt (f.nodes ++ [_]) (digB b') = none
    rw [ndAt_snoc, h.new b' hb', if_neg (fun e => hne b' hb' e.symm)]
    rfl, h.nod, h.few⟩
theorem ok_fput {f : Fo} (h : Ok f) {b : Block} (hne : ∀ b' ∈ f.orph, digB b' ≠ digB b) : Ok (f.fput b) := by
  unfold Fo.fput
  split
  · exact ok_more h hne
  · exact h
/-- one step -/
theorem ok_step {f : Fo} (h : Ok f) {i : Nat} {b : Block} (hb : f.orph[i]? = some b) : Ok ((f.less i).fput b) ∧ ndAt (f.less i).nodes (digB b) = none :=
  ⟨ok_fput (ok_less h hb).1 (ok_less h hb).2, h.new b (List.mem_of_getElem? hb)⟩
theorem adopt_none {f : Fo} (h : f.first = none) (n : Nat) : f.adopt n = f := by
  cases n with
  | zero => rfl
  | succ n => simp only [Fo.adopt, h]
theorem adopt_some {f : Fo} {i : Nat} {b : Block} (h : f.first = some i) (hb : f.orph[i]? = some b) (n : Nat) : f.adopt (n + 1) = ((f.less i).fput b).adopt n := by
  simp only [Fo.adopt, h, hb]
theorem ok_adopt : ∀ (n : Nat) {f : Fo}, Ok f → Ok (f.adopt n)
  | 0, f, h => h
  | n + 1, f, h => by
    cases hf : f.first with
    | none => rw [adopt_none hf]; exact h
    | some i =>
      obtain ⟨b, hb, -⟩ := first_some hf
      rw [adopt_some hf hb]
      exact ok_adopt n (ok_step h hb).1
/-- so many steps are enough -/
theorem adopt_enough : ∀ (n : Nat) (f : Fo), f.orph.length ≤ n → f.adopt n = f.adopt f.orph.length
  | 0, f, h => by rw [Nat.le_zero.1 h]
  | n + 1, f, h => by
    cases hf : f.first with
    | none => rw [adopt_none hf, adopt_none hf]
    | some i =>
      obtain ⟨b, hb, -⟩ := first_some hf
      have hl := less_len hb
      rw [adopt_some hf hb, ← hl, adopt_some hf hb, adopt_enough n _ (by rw [fput_orph]; omega), fput_orph]
theorem ok_put {f : Fo} (h : Ok f) (b : Block) : Ok (f.put b).2 := by
  unfold Fo.put
  split
  · exact h
  · rename_i hn
    simp only [Bool.or_eq_true, not_or, Bool.not_eq_true] at hn
    have hne : ∀ b' ∈ f.orph, digB b' ≠ digB b := fun b' hb' e => by
      have := hn.2
      unfold Fo.hasO at this
      rw [List.any_eq_false] at this
      exact this b' hb' (by simpa using e)
    split
    · split
      · exact ok_adopt 10 (ok_more h hne)
      · exact h
    · split
      · exact h
      · rename_i h8
        refine ⟨fun b' hb' => ?_, ?_, ?_⟩
        · rcases List.mem_append.1 hb' with e | e
          · exact h.new b' e
          · rw [List.mem_singleton] at e
            subst e
            have := hn.1
            unfold Fo.has at this
            simp only [Bool.or_eq_false_iff, Option.isSome_eq_false_iff, Option.isNone_iff_eq_none] at this
            exact this.1
        · show ((f.orph ++ [b]).map digB).Nodup
          rw [List.map_append, List.nodup_append]
          refine ⟨h.nod, by simp, fun a ha c hc e => ?_⟩
          simp at hc
          obtain ⟨b', hb', rfl⟩ := List.mem_map.1 ha
          exact hne b' hb' (e.trans hc)
        · show (f.orph ++ [b]).length ≤ 8
          rw [List.length_append]
          simp
          omega
end Go.Proofs.Ytnomgkmeomlccaa.Fst
set_option linter.unusedVariables false
set_option linter.unusedSimpArgs false
namespace Go.Proofs.Ytnomgkmeomlccaa.Fst
open Go.RowKit Go.Sort Rd Api Own Mv App Num Dig
open Blk (Block Rq rqN fR digB coreB)
open Smp (Sm)
open Kee (Bk fB bkK Wk)

/-- two lists, one by one -/
def All2 {α β : Type} (R : α → β → Prop) : List α → List β → Prop
  | [], [] => True
  | a :: l, b :: m => R a b ∧ All2 R l m
  | _, _ => False
section
variable {α β : Type} {R R' : α → β → Prop}
theorem All2.len : ∀ {l : List α} {m : List β}, All2 R l m → l.length = m.length
  | [], [], _ => rfl
  | _ :: l, _ :: m, h => congrArg (· + 1) (All2.len h.2)
  | [], _ :: _, h => h.elim
  | _ :: _, [], h => h.elim
theorem All2.get : ∀ {l : List α} {m : List β}, All2 R l m → ∀ {i : Nat} {a : α} {b : β}, l[i]? = some a → m[i]? = some b → R a b
  | [], [], _, i, a, b, h1, _ => by simp at h1
  | x :: l, y :: m, h, 0, a, b, h1, h2 => by simp at h1 h2; subst h1 h2; exact h.1
  | x :: l, y :: m, h, i + 1, a, b, h1, h2 => All2.get h.2 (by simpa using h1) (by simpa using h2)
  | [], _ :: _, h, _, _, _, _, _ => h.elim
  | _ :: _, [], h, _, _, _, _, _ => h.elim
theorem All2.snoc : ∀ {l : List α} {m : List β}, All2 R l m → ∀ {a : α} {b : β}, R a b → All2 R (l ++ [a]) (m ++ [b])
  | [], [], _, a, b, h => ⟨h, trivial⟩
  | _ :: l, _ :: m, h, a, b, k => ⟨h.1, All2.snoc h.2 k⟩
  | [], _ :: _, h, _, _, _ => h.elim
  | _ :: _, [], h, _, _, _ => h.elim
theorem All2.imp (f : ∀ {a b}, R a b → R' a b) : ∀ {l : List α} {m : List β}, All2 R l m → All2 R' l m
  | [], [], _ => trivial
  | _ :: l, _ :: m, h => ⟨f h.1, All2.imp f h.2⟩
  | [], _ :: _, h => h.elim
  | _ :: _, [], h => h.elim
theorem All2.erase : ∀ {l : List α} {m : List β}, All2 R l m → ∀ (i : Nat), All2 R (l.eraseIdx i) (m.eraseIdx i)
  | [], [], _, i => by simp [All2]
  | _ :: l, _ :: m, h, 0 => h.2
  | _ :: l, _ :: m, h, i + 1 => ⟨h.1, All2.erase h.2 i⟩
  | [], _ :: _, h, _ => h.elim
  | _ :: _, [], h, _ => h.elim
end
/-- this block, small, in this world -/
structure Bw (w : World) (r : Bk) (b : Block) : Prop where
  wk : Wk w r b
  sz : (coreB b).size ≤ 1000
def nodeV (b : Block) (r : Bk) (ht : Int) : Value := .agg #[.int .i64 b.view, .int .i64 b.prop, .int .i64 b.just.view, .string b.just.block, .slice r.sa r.sn r.sc, .slice r.a b.batch.length r.c, .int .i64 ht]
def node0 : Value := .agg #[.int .i64 0, .int .i64 0, .int .i64 0, .string ⟨#[]⟩, .slice none 0 0, .slice none 0 0, .int .i64 0]
/-- an entry, and what stands there -/
def En (w0 : World) (p : ByteArray × Value) (x : Nd) : Prop := p.1 = digB x.b ∧ ∃ r, Bw w0 r x.b ∧ p.2 = nodeV x.b r x.ht
structure Fw (w0 : World) (g : Nat) (f : Fo) (W : World) : Prop where
  bel : RowKit.Below w0.heap.size w0 W
  gg : w0.heap.size ≤ g
  ex : ∃ (m : Nat) (ov : Value) (prs : Smp.Prs) (rs : List Bk), W.heap[g]? = some (.cells #[.string f.root, .int .i64 f.height, .map (some m), ov] 117 (0, 0)) ∧ Sm m prs W ∧ w0.heap.size ≤ m ∧ All2 (En w0) prs f.nodes ∧ OwnR fB 6 W 0 42 ov rs ∧ (∀ k, ov.ownBlock = some k → w0.heap.size ≤ k) ∧ All2 (Bw w0) rs f.orph
theorem Fw.below {w0 W W1 : World} {g : Nat} {f : Fo} (h : Fw w0 g f W) (hb : RowKit.Below W.heap.size W W1) : Fw w0 g f W1 := by
  obtain ⟨m, ov, prs, rs, h1, h2, h3, h4, h5, h6, h7⟩ := h.ex
  exact ⟨below_then h.bel hb, h.gg, m, ov, prs, rs, blk_keep h1 hb, h2.below hb, h3, h4, h5.below hb, h6, h7⟩
theorem look_none_of {w0 : World} : ∀ {prs : Smp.Prs} {ns : List Nd}, All2 (En w0) prs ns → ∀ {h : ByteArray}, ndAt ns h = none → Smp.look prs h = none
  | [], [], _, h, _ => rfl
  | p :: prs, x :: ns, e, h, hn => by
    rw [ndAt_none] at hn
    rw [Smp.look_cons, if_neg (by rw [e.1.1]; exact hn x List.mem_cons_self)]
    exact look_none_of e.2 (ndAt_none.2 (fun y hy => hn y (List.mem_cons_of_mem _ hy)))
  | [], _ :: _, e, _, _ => e.elim
  | _ :: _, [], e, _, _ => e.elim
theorem look_some_of {w0 : World} : ∀ {prs : Smp.Prs} {ns : List Nd}, All2 (En w0) prs ns → ∀ {h : ByteArray} {x : Nd}, ndAt ns h = some x → ∃ r, Bw w0 r x.b ∧ Smp.look prs h = some (nodeV x.b r x.ht)
  | [], [], _, h, x, hn => by simp [ndAt] at hn
  | p :: prs, y :: ns, e, h, x, hn => by
    unfold ndAt at hn
    rw [List.find?_cons] at hn
    rw [Smp.look_cons]
    by_cases hy : digB y.b = h
    · rw [decide_eq_true hy] at hn
      cases Option.some.inj hn
      obtain ⟨e1, r, hr, e2⟩ := e.1
      exact ⟨r, hr, by rw [if_pos (by rw [e1]; exact hy), e2]⟩
    · rw [decide_eq_false hy] at hn
      rw [if_neg (by rw [e.1.1]; exact hy)]
      exact look_some_of e.2 hn
  | [], _ :: _, e, _, _, _ => e.elim
  | _ :: _, [], e, _, _, _ => e.elim
theorem zero_node (w : World) : (zeroValue 120).run Try.prog w = .ok node0 w := by kernel_rfl
/-- a look-up's answer, in every world behind -/
theorem lk {w0 W : World} {g : Nat} {f : Fo} (h : Fw w0 g f W) (s : ByteArray) (hz : s.size ≤ maxLen) : ∃ m ov, W.heap[g]? = some (.cells #[.string f.root, .int .i64 f.height, .map (some m), ov] 117 (0, 0)) ∧
    ((ndAt f.nodes s = none ∧ ∀ W1, RowKit.Below W.heap.size W W1 → (Instr.lookup 115 (.map (some m)) (.string s) true).run Try.prog W1 = .ok (.tuple #[node0, .bool false]) W1) ∨
    ∃ x r, ndAt f.nodes s = some x ∧ Bw w0 r x.b ∧ ∀ W1, RowKit.Below W.heap.size W W1 → (Instr.lookup 115 (.map (some m)) (.string s) true).run Try.prog W1 = .ok (.tuple #[nodeV x.b r x.ht, .bool true]) W1) := by
  obtain ⟨m, ov, prs, rs, h1, h2, h3, h4, h5, h6, h7⟩ := h.ex
  refine ⟨m, ov, h1, ?_⟩
  cases hn : ndAt f.nodes s with
  | none =>
    refine .inl ⟨rfl, fun W1 hb => ?_⟩
    have := (h2.below hb).look2 Try.underlying115 Try.underlying9 node0 (zero_node W1) s hz
    rw [look_none_of h4 hn] at this
    exact this
  | some x =>
    obtain ⟨r, hr, hl⟩ := look_some_of h4 hn
    refine .inr ⟨x, r, rfl, hr, fun W1 hb => ?_⟩
    have := (h2.below hb).look2 Try.underlying115 Try.underlying9 node0 (zero_node W1) s hz
    rw [hl] at this
    exact this
-- <L1
set_option maxHeartbeats 4000000 in
set_option maxRecDepth 100000 in
theorem has_any {w0 W : World} {g : Nat} {f : Fo} (hf : Fw w0 g f W) (h : ByteArray) (hz : h.size ≤ maxLen) (r : Bool) (hr : f.has h = r) :
    Calls Try.prog 40 #[.pointer (some ⟨g, 0, none⟩), .string h] W fun e w' => e = .returned (.bool r) ∧ RowKit.Below W.heap.size W w' := by
  subst hr
  obtain ⟨m, ov, hg, hl⟩ := lk hf h hz
  have c2 := blk_at hg 2 _ rfl
  have HG := Sd.mk hg
  clear hg hf
  rcases hl with ⟨hn, hl⟩ | ⟨x, r, hn, -, hl⟩
  · have l0 := hl W (Below.refl _ _)
    have HR := Sd.mk (show f.has h = decide (h = f.root) by unfold Fo.has; rw [hn]; rfl)
    unfold node0 at l0
    clear hl hn
    go_enter Try.func40, Try.ntmps40
    go_upto_region 2 with (fail)
    have hb := below_one W (.cells #[.int .i64 0, .int .i64 0, .int .i64 0, .string ⟨#[]⟩, .slice none 0 0, .slice none 0 0, .int .i64 0] 120)
    have HB := Sd.mk hb
    have c0 := blk_at (blk_keep HG.out hb) 0 _ rfl
    clear hb l0 c2
    generalize W.alloc _ = W1 at HB c0 ⊢
    go_wp2
    go_ret
    rw [HR.out, ← Rp.str_beq]
    exact ⟨rfl, HB.out⟩
  · have l0 := hl W (Below.refl _ _)
    have HR := Sd.mk (show f.has h = true by unfold Fo.has; rw [hn]; rfl)
    unfold nodeV at l0
    clear hl hn
    go_enter Try.func40, Try.ntmps40
    go_wp2
    go_ret
    rw [HR.out]
    exact ⟨rfl, below_one W (.cells #[.int .i64 x.b.view, .int .i64 x.b.prop, .int .i64 x.b.just.view, .string x.b.just.block, .slice r.sa r.sn r.sc, .slice r.a x.b.batch.length r.c, .int .i64 x.ht] 120)⟩
set_option maxHeartbeats 4000000 in
set_option maxRecDepth 100000 in
theorem hgt_any {w0 W : World} {g : Nat} {f : Fo} (hf : Fw w0 g f W) (h : ByteArray) (hz : h.size ≤ maxLen) (r : Int) (hr : f.hgt h = r) :
    Calls Try.prog 47 #[.pointer (some ⟨g, 0, none⟩), .string h] W fun e w' => e = .returned (.int .i64 r) ∧ RowKit.Below W.heap.size W w' := by
  subst hr
  obtain ⟨m, ov, hg, hl⟩ := lk hf h hz
  have c0 := blk_at hg 0 _ rfl
  have c1 := blk_at hg 1 _ rfl
  have c2 := blk_at hg 2 _ rfl
  clear hg hf
  by_cases he : h = f.root
  · have hb : (h.toList == f.root.toList) = true := by rw [Rp.str_beq]; exact decide_eq_true he
    have HR := Sd.mk (show f.hgt h = f.height by unfold Fo.hgt; rw [if_pos he])
    clear hl he
    go_enter Try.func47, Try.ntmps47
    go_wp2
    go_ret
    rw [HR.out]
    exact ⟨rfl, Below.refl _ _⟩
  · have hb : (h.toList == f.root.toList) = false := by rw [Rp.str_beq]; exact decide_eq_false he
    rcases hl with ⟨hn, hl⟩ | ⟨x, r, hn, -, hl⟩
    · have l0 := hl W (Below.refl _ _)
      have HR := Sd.mk (show f.hgt h = -1 by unfold Fo.hgt; rw [if_neg he, hn])
      unfold node0 at l0
      clear hl hn he
      go_enter Try.func47, Try.ntmps47
      go_wp2
      go_ret
      rw [HR.out]
      exact ⟨rfl, below_one W (.cells #[.int .i64 0, .int .i64 0, .int .i64 0, .string ⟨#[]⟩, .slice none 0 0, .slice none 0 0, .int .i64 0] 120)⟩
    · have l0 := hl W (Below.refl _ _)
      have HR := Sd.mk (show f.hgt h = x.ht by unfold Fo.hgt; rw [if_neg he, hn])
      unfold nodeV at l0
      clear hl hn he
      go_enter Try.func47, Try.ntmps47
      go_upto_region 4 with (fail)
      have hb2 := below_one W (.cells #[.int .i64 x.b.view, .int .i64 x.b.prop, .int .i64 x.b.just.view, .string x.b.just.block, .slice r.sa r.sn r.sc, .slice r.a x.b.batch.length r.c, .int .i64 x.ht] 120)
      have HB := Sd.mk hb2
      have E := Sd.mk (blk_new W (.cells #[.int .i64 x.b.view, .int .i64 x.b.prop, .int .i64 x.b.just.view, .string x.b.just.block, .slice r.sa r.sn r.sc, .slice r.a x.b.batch.length r.c, .int .i64 x.ht] 120))
      clear hb2 l0 c0 c1 c2
      generalize W.heap.size = g5 at E ⊢
      generalize hW1 : W.alloc _ = W1 at HB E ⊢
      have d6 := blk_at E.out 6 _ rfl
      go_wp2
      go_ret
      rw [HR.out]
      exact ⟨rfl, by have := HB.out; first | exact this | simpa using this⟩
/-- what only a forest's own cells, and rows of blocks, may turn -/
structure Fr (W W1 : World) : Prop where
  size : W.heap.size ≤ W1.heap.size
  keep : ∀ (k : Nat) (cs : Array Value) (t : TypeId) (fr : Nat × Nat), W.heap[k]? = some (.cells cs t fr) → t ≠ 117 → t ≠ 42 → W1.heap[k]? = some (.cells cs t fr)
theorem Fr.refl (W : World) : Fr W W := ⟨Nat.le_refl _, fun _ _ _ _ h _ _ => h⟩
theorem Fr.trans {W W1 W2 : World} (h : Fr W W1) (k : Fr W1 W2) : Fr W W2 := ⟨Nat.le_trans h.size k.size, fun j cs t fr e n1 n2 => k.keep j cs t fr (h.keep j cs t fr e n1 n2) n1 n2⟩
theorem Fr.below {W W1 : World} (hb : RowKit.Below W.heap.size W W1) : Fr W W1 := ⟨hb.size, fun k cs t fr e _ _ => blk_keep e hb⟩
theorem Fr.grown {W W1 : World} {g : Nat} (hg : W.grownBy W1 (some g)) (hne : ∀ cs t fr, W.heap[g]? = some (.cells cs t fr) → t = 117 ∨ t = 42) : Fr W W1 :=
  ⟨hg.size, fun k cs t fr e n1 n2 => blk_grown e hg (fun e2 => by
    cases Option.some.inj e2
    rcases hne cs t fr e with h | h
    · exact n1 h
    · exact n2 h)⟩
theorem OwnR.fr {α : Type} {f : α → List Value} {n base : Nat} {e : TypeId} {v : Value} {xs : List α} {W W1 : World} (h : OwnR f n W base e v xs) (hf : Fr W W1) (n1 : e ≠ 117) (n2 : e ≠ 42) : OwnR f n W1 base e v xs := by
  refine ⟨h.1, ?_⟩
  rcases h.2 with h1 | ⟨g, cap, cur, h1, hb, hh, hrest⟩
  · exact .inl h1
  · exact .inr ⟨g, cap, cur, h1, hb, hf.keep g _ _ _ hh n1 n2, hrest⟩
theorem just_le {b : Block} (h : (coreB b).size ≤ 1000) : b.just.block.size ≤ maxLen := by
  have : b.just.block.size ≤ (coreB b).size := by
    unfold coreB
    rw [Rp.app_size, Rp.app_size, Rp.app_size, Rp.app_size]
    omega
  unfold maxLen
  omega
/-- what is found there, or nothing -/
def getB (f : Fo) (h : ByteArray) : Option Block := (ndAt f.nodes h).map (·.b)
set_option maxHeartbeats 4000000 in
set_option maxRecDepth 100000 in
theorem get_any {w0 W : World} {g : Nat} {f : Fo} (hf : Fw w0 g f W) (h : ByteArray) (hz : h.size ≤ maxLen) :
    Calls Try.prog 87 #[.pointer (some ⟨g, 0, none⟩), .string h] W fun e w' => ((ndAt f.nodes h = none ∧ e = .returned (.tuple #[.agg #[.int .i64 0, .int .i64 0, .int .i64 0, .string ⟨#[]⟩, .slice none 0 0, .slice none 0 0], .bool false])) ∨ ∃ x r, ndAt f.nodes h = some x ∧ Bw w0 r x.b ∧ e = .returned (.tuple #[.agg #[.int .i64 x.b.view, .int .i64 x.b.prop, .int .i64 x.b.just.view, .string x.b.just.block, .slice r.sa r.sn r.sc, .slice r.a x.b.batch.length r.c], .bool true])) ∧ RowKit.Below W.heap.size W w' := by
  obtain ⟨m, ov, hg, hl⟩ := lk hf h hz
  have HG := Sd.mk hg
  clear hg hf
  have b0 := below_one W (.cells #[.int .i64 0, .int .i64 0, .int .i64 0, .string ⟨#[]⟩, .slice none 0 0, .slice none 0 0] 42)
  have E0 := Sd.mk (blk_new W (.cells #[.int .i64 0, .int .i64 0, .int .i64 0, .string ⟨#[]⟩, .slice none 0 0, .slice none 0 0] 42))
  have HB0 := Sd.mk b0
  have c2 := blk_at (blk_keep HG.out b0) 2 _ rfl
  rcases hl with ⟨hn, hl⟩ | ⟨x, r, hn, hr, hl⟩
  · have l0 := hl _ b0
    unfold node0 at l0
    have HN := Sd.mk hn
    clear hl hn b0
    go_enter Try.func87, Try.ntmps87
    (go_upto_region 1 with (fail); have HGE := Sd.mk (show W.heap.size ≤ W.heap.size from Nat.le_refl _); generalize hg4 : W.heap.size = g4 at E0 ⊢; generalize W.alloc _ = W1 at E0 HB0 c2 l0 ⊢; go_upto_region 2 with (fail); have b5 := below_one W1 (.cells #[.int .i64 0, .int .i64 0, .int .i64 0, .string ⟨#[]⟩, .slice none 0 0, .slice none 0 0, .int .i64 0] 120); have E5 := Sd.mk (blk_new W1 (.cells #[.int .i64 0, .int .i64 0, .int .i64 0, .string ⟨#[]⟩, .slice none 0 0, .slice none 0 0, .int .i64 0] 120)); have E4 := Sd.mk (blk_keep E0.out b5); have HB5 := Sd.mk (below_then HB0.out b5); clear b5 l0 c2 E0 HB0; generalize W1.heap.size = g5 at E5 ⊢; generalize W1.alloc _ = W2 at E4 E5 HB5 ⊢; have d0 := blk_at E5.out 0 _ rfl; have d1 := blk_at E5.out 1 _ rfl; have d2 := blk_at E5.out 2 _ rfl; have d3 := blk_at E5.out 3 _ rfl; have d4 := blk_at E5.out 4 _ rfl; have d5 := blk_at E5.out 5 _ rfl; have e0 := blk_at E4.out 0 _ rfl; have e1 := blk_at E4.out 1 _ rfl; have e2 := blk_at E4.out 2 _ rfl; have e3 := blk_at E4.out 3 _ rfl; have e4 := blk_at E4.out 4 _ rfl; have e5 := blk_at E4.out 5 _ rfl; have f0 := blk_frz E4.out 0; have f1 := blk_frz E4.out 1; have f2 := blk_frz E4.out 2; have f3 := blk_frz E4.out 3; have f4 := blk_frz E4.out 4; have f5 := blk_frz E4.out 5; have X9 := Sd.mk (blk_set3 (blk_set3 (blk_set3 (blk_set3 (blk_set3 (blk_set3 E4.out 0 (.int .i64 0)) 1 (.int .i64 0)) 2 (.int .i64 0)) 3 (.string ⟨#[]⟩)) 4 (.slice none 0 0)) 5 (.slice none 0 0)); have HB9 := Sd.mk ((((((HB5.out.setCell (p := ⟨g4, 0, none⟩) (Nat.le_of_eq hg4) (.int .i64 0)).setCell (p := ⟨g4, 1, none⟩) (Nat.le_of_eq hg4) (.int .i64 0)).setCell (p := ⟨g4, 2, none⟩) (Nat.le_of_eq hg4) (.int .i64 0)).setCell (p := ⟨g4, 3, none⟩) (Nat.le_of_eq hg4) (.string ⟨#[]⟩)).setCell (p := ⟨g4, 4, none⟩) (Nat.le_of_eq hg4) (.slice none 0 0)).setCell (p := ⟨g4, 5, none⟩) (Nat.le_of_eq hg4) (.slice none 0 0)); go_wp2; clear d0 d1 d2 d3 d4 d5 e0 e1 e2 e3 e4 e5 f0 f1 f2 f3 f4 f5; generalize World.setCell _ _ _ = W9 at X9 HB9 ⊢; have e0 := blk_at X9.out 0 _ rfl; have e1 := blk_at X9.out 1 _ rfl; have e2 := blk_at X9.out 2 _ rfl; have e3 := blk_at X9.out 3 _ rfl; have e4 := blk_at X9.out 4 _ rfl; have e5 := blk_at X9.out 5 _ rfl)
    exact bodyPost_ret (v := .tuple #[.agg #[.int .i64 0, .int .i64 0, .int .i64 0, .string ⟨#[]⟩, .slice none 0 0, .slice none 0 0], .bool false]) (by simp [results, Try.results87, go_sem, e0, e1, e2, e3, e4, e5]) rfl ⟨.inl ⟨HN.out, rfl⟩, HB9.out⟩
  · have l0 := hl _ b0
    unfold nodeV at l0
    have HN := Sd.mk (And.intro hn hr)
    clear hl hn hr b0
    go_enter Try.func87, Try.ntmps87
    (go_upto_region 1 with (fail); have HGE := Sd.mk (show W.heap.size ≤ W.heap.size from Nat.le_refl _); generalize hg4 : W.heap.size = g4 at E0 ⊢; generalize W.alloc _ = W1 at E0 HB0 c2 l0 ⊢; go_upto_region 2 with (fail); have b5 := below_one W1 (.cells #[.int .i64 x.b.view, .int .i64 x.b.prop, .int .i64 x.b.just.view, .string x.b.just.block, .slice r.sa r.sn r.sc, .slice r.a x.b.batch.length r.c, .int .i64 x.ht] 120); have E5 := Sd.mk (blk_new W1 (.cells #[.int .i64 x.b.view, .int .i64 x.b.prop, .int .i64 x.b.just.view, .string x.b.just.block, .slice r.sa r.sn r.sc, .slice r.a x.b.batch.length r.c, .int .i64 x.ht] 120)); have E4 := Sd.mk (blk_keep E0.out b5); have HB5 := Sd.mk (below_then HB0.out b5); clear b5 l0 c2 E0 HB0; generalize W1.heap.size = g5 at E5 ⊢; generalize W1.alloc _ = W2 at E4 E5 HB5 ⊢; have d0 := blk_at E5.out 0 _ rfl; have d1 := blk_at E5.out 1 _ rfl; have d2 := blk_at E5.out 2 _ rfl; have d3 := blk_at E5.out 3 _ rfl; have d4 := blk_at E5.out 4 _ rfl; have d5 := blk_at E5.out 5 _ rfl; have e0 := blk_at E4.out 0 _ rfl; have e1 := blk_at E4.out 1 _ rfl; have e2 := blk_at E4.out 2 _ rfl; have e3 := blk_at E4.out 3 _ rfl; have e4 := blk_at E4.out 4 _ rfl; have e5 := blk_at E4.out 5 _ rfl; have f0 := blk_frz E4.out 0; have f1 := blk_frz E4.out 1; have f2 := blk_frz E4.out 2; have f3 := blk_frz E4.out 3; have f4 := blk_frz E4.out 4; have f5 := blk_frz E4.out 5; have X9 := Sd.mk (blk_set3 (blk_set3 (blk_set3 (blk_set3 (blk_set3 (blk_set3 E4.out 0 (.int .i64 x.b.view)) 1 (.int .i64 x.b.prop)) 2 (.int .i64 x.b.just.view)) 3 (.string x.b.just.block)) 4 (.slice r.sa r.sn r.sc)) 5 (.slice r.a x.b.batch.length r.c)); have HB9 := Sd.mk ((((((HB5.out.setCell (p := ⟨g4, 0, none⟩) (Nat.le_of_eq hg4) (.int .i64 x.b.view)).setCell (p := ⟨g4, 1, none⟩) (Nat.le_of_eq hg4) (.int .i64 x.b.prop)).setCell (p := ⟨g4, 2, none⟩) (Nat.le_of_eq hg4) (.int .i64 x.b.just.view)).setCell (p := ⟨g4, 3, none⟩) (Nat.le_of_eq hg4) (.string x.b.just.block)).setCell (p := ⟨g4, 4, none⟩) (Nat.le_of_eq hg4) (.slice r.sa r.sn r.sc)).setCell (p := ⟨g4, 5, none⟩) (Nat.le_of_eq hg4) (.slice r.a x.b.batch.length r.c)); go_wp2; clear d0 d1 d2 d3 d4 d5 e0 e1 e2 e3 e4 e5 f0 f1 f2 f3 f4 f5; generalize World.setCell _ _ _ = W9 at X9 HB9 ⊢; have e0 := blk_at X9.out 0 _ rfl; have e1 := blk_at X9.out 1 _ rfl; have e2 := blk_at X9.out 2 _ rfl; have e3 := blk_at X9.out 3 _ rfl; have e4 := blk_at X9.out 4 _ rfl; have e5 := blk_at X9.out 5 _ rfl)
    exact bodyPost_ret (v := .tuple #[.agg #[.int .i64 x.b.view, .int .i64 x.b.prop, .int .i64 x.b.just.view, .string x.b.just.block, .slice r.sa r.sn r.sc, .slice r.a x.b.batch.length r.c], .bool true]) (by simp [results, Try.results87, go_sem, e0, e1, e2, e3, e4, e5]) rfl ⟨.inr ⟨x, r, HN.out.1, HN.out.2, rfl⟩, HB9.out⟩
-- L1>
end Go.Proofs.Ytnomgkmeomlccaa.Fst

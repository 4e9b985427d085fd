/- Batches that come in; awake; At: walked. -/
import Derived.Test.YtgleoeiiiadanaaLedG
set_option linter.unusedVariables false
set_option linter.unusedSimpArgs false
namespace Go.Proofs.Ytgleoeiiiadanaa.Led
open Go.RowKit Rd Api Own Mv Num Dig Wtx

/-- a slice; a nil one has no room -/
def sl0 {α : Type} (d : Rk α) : Rk (List α) where
  sz := 1
  K := fun w l cs => ∃ A c, cs = [.slice A l.length c] ∧ l.length ≤ c ∧ c ≤ maxLen ∧ Row d w A l ∧ (A = none → c = 0)
  len := fun h => by obtain ⟨A, c, rfl, _⟩ := h; rfl
  keep := fun hw h => by obtain ⟨A, c, rfl, h1, h2, h3, h4⟩ := h; exact ⟨A, c, rfl, h1, h2, h3.keep hw, h4⟩
/-- a request that comes in -/
def rqK : Rk Rq := Rk.iso (Rk.pair (Rk.int .i64) (Rk.pair (Rk.int .i64) (Rk.pair Rk.str Rk.unit))) (fun x => (x.c, x.s, x.b, ()))
theorem rqK_open {w : World} {x : Rq} {cs : List Value} (h : rqK.K w x cs) : cs = fR x ∧ IsI64 x.c ∧ IsI64 x.s := by
  obtain ⟨_, _, rfl, ⟨rfl, h1⟩, _, _, rfl, ⟨rfl, h2⟩, _, _, rfl, ⟨rfl, h3⟩, rfl⟩ := h
  exact ⟨rfl, i64_of h1, i64_of h2⟩
theorem row_rq {w : World} {A : Option Addr} {l : List Rq} (h : Row rqK w A l) : Row rqN w A l ∧ ∀ x ∈ l, IsI64 x.c ∧ IsI64 x.s := by
  constructor
  · intro j x hx
    obtain ⟨b, o, cs, hA, hK, hc⟩ := h j x hx
    exact ⟨b, o, cs, hA, (rqK_open hK).1, hc⟩
  · intro x hx
    obtain ⟨j, hj, rfl⟩ := List.getElem_of_mem hx
    obtain ⟨b, o, cs, hA, hK, hc⟩ := h j _ (List.getElem?_eq_getElem hj)
    exact (rqK_open hK).2
section
variable {P : Program}
theorem opens_sl0 {t e : TypeId} {α : Type} {d : Rk α} (ht : P.underlying t = some (.slice e)) (hd : Opens P e d) (hs : P.cellsOf e = d.sz) (h0 : 0 < d.sz) : Opens P t (sl0 d) := by
  intro H enc w base spare held fuel cs x h
  obtain ⟨l, A, c, rfl, h1, h2, h3⟩ := opens_slice ht hd hs h0 H enc w base spare held fuel cs x h
  refine ⟨l, A, c, rfl, h1, h2, h3, fun hA => ?_⟩
  subst hA
  cases fuel with
  | zero => simp [DataW.trod] at h
  | succ n =>
    unfold DataW.trod at h
    rw [ht] at h
    split at h
    all_goals first
      | (rename_i he; cases he; done)
      | (cases h; done)
      | skip
    rename_i hq
    simp only [List.cons.injEq, Value.slice.injEq] at hq
    exact hq.1.2.2
end
theorem opens_rq : Opens Try.prog 60 rqK :=
  opens_iso _ (fun (a, b, c, _) => ⟨a, b, c⟩) (fun _ => rfl) (opens_struct Try.underlying60 (by kernel_rfl) (fs_cons rfl (by kernel_rfl) (opens_int Try.underlying3) (fs_cons rfl (by kernel_rfl) (opens_int Try.underlying3) (fs_cons rfl (by kernel_rfl) (opens_str Try.underlying9) (fs_nil _)))))
theorem opens_rqs : Opens Try.prog 53 (sl0 rqK) := opens_sl0 Try.underlying53 opens_rq (by kernel_rfl) (by decide)
theorem opens_bs : Opens Try.prog 48 (sl0 (sl0 rqK)) := opens_sl0 Try.underlying48 opens_rqs (by kernel_rfl) (by decide)
/-- batches that come in -/
structure Bs (w : World) (A : Option Addr) (c : Nat) (ls : List (List Rq)) : Prop where
  le : ls.length ≤ c
  cap : c ≤ 9223372036854775807
  at' : ∀ i (hi : i < ls.length), ∃ b o B d, A = some ⟨b, o, none⟩ ∧ w.cell? ⟨b, o + i, none⟩ = some (.slice B ls[i].length d) ∧ Sl rqN w B d ls[i] ∧ (B = none → d = 0)
  i64 : ∀ l ∈ ls, ∀ x ∈ l, IsI64 x.c ∧ IsI64 x.s
theorem bs_of {w : World} {ls : List (List Rq)} {cs : List Value} (h : (sl0 (sl0 rqK)).K w ls cs) : ∃ A c, cs = [.slice A ls.length c] ∧ Bs w A c ls := by
  obtain ⟨A, c, rfl, h1, h2, h3, _⟩ := h
  refine ⟨A, c, rfl, h1, by unfold maxLen at h2; omega, ?_, ?_⟩
  · intro i hi
    obtain ⟨b, o, cs, hA, ⟨B, d, rfl, k1, k2, k3, k4⟩, hc⟩ := h3 i _ (List.getElem?_eq_getElem hi)
    have := hc 0 _ rfl
    simp only [sl0, Nat.mul_one, Nat.add_zero] at this
    exact ⟨b, o, B, d, hA, this, ⟨k1, by unfold maxLen at k2; omega, (row_rq k3).1⟩, k4⟩
  · intro l hl
    obtain ⟨j, hj, rfl⟩ := List.getElem_of_mem hl
    obtain ⟨b, o, cs, hA, ⟨B, d, rfl, k1, k2, k3, k4⟩, hc⟩ := h3 j _ (List.getElem?_eq_getElem hj)
    exact (row_rq k3).2
def okL (l : List Rq) : Prop := l.length ≤ 8 ∧ ∀ x ∈ l, x.b.size ≤ 60
/-- what holds of the first i -/
def Upto {α : Type} (p : α → Prop) (l : List α) (i : Nat) : Prop := ∀ (j : Nat) (x : α), j < i → l[j]? = some x → p x
theorem upto_zero {α : Type} (p : α → Prop) (l : List α) : Upto p l 0 := fun j x hj => by omega
theorem upto_succ {α : Type} {p : α → Prop} {l : List α} {i : Nat} {y : α} (h : Upto p l i) (hy : l[i]? = some y) (hp : p y) : Upto p l (i + 1) := by
  intro j x hj hx
  by_cases e : j = i
  · subst e
    rw [hy] at hx
    exact Option.some.inj hx ▸ hp
  · exact h j x (by omega) hx
theorem upto_all {α : Type} {p : α → Prop} {l : List α} {i : Nat} (h : Upto p l i) (hi : l.length ≤ i) : ∀ x ∈ l, p x := by
  intro x hx
  obtain ⟨j, hj, rfl⟩ := List.getElem_of_mem hx
  exact h j _ (by omega) (List.getElem?_eq_getElem hj)
def FewE (ls : List (List Rq)) (N : Nat) (w : World) (e : Ending) (w' : World) : Prop := ∃ r : Bool, e = .returned (.bool r) ∧ (r = true → ls.length ≤ N ∧ ∀ l ∈ ls, okL l) ∧ w' = w
-- <L1
set_option maxHeartbeats 8000000 in
set_option maxRecDepth 100000 in
theorem few_any (w : World) (A : Option Addr) (c : Nat) (ls : List (List Rq)) (h : Bs w A c ls) (N : Nat) (hN : N ≤ 100) :
    Calls Try.prog 36 #[.slice A ls.length c, .int .i64 (N : Nat)] w (FewE ls N w) := by
  have lc := Nat.le_trans h.le h.cap
  have HB := Sd.mk h
  obtain ⟨n, hn⟩ : ∃ n, n = ls.length := ⟨_, rfl⟩
  have HNN := Sd.mk hn
  rw [← hn] at lc ⊢
  clear hn h
  go_enter Try.func36, Try.ntmps36
  go_wp2
  go_loop [5, 6] (fun v5 v6 => ∃ i : Nat, i ≤ n ∧ v5 = .int .i64 i ∧ Sd (Upto okL ls i)) (fun v5 v6 => n - (intOf v5).toNat)
  case atStart => exact ⟨0, by omega, rfl, ⟨upto_zero _ _⟩⟩
  case round =>
    obtain ⟨i, hi, rfl, HU⟩ := hrel
    by_cases hlt : i < n
    · by_cases h100 : i < 100
      · have hil : i < ls.length := by rw [← HNN.out]; exact hlt
        obtain ⟨b, o, B, d, rfl, c0, hs, -⟩ := HB.out.at' i hil
        have HL := Sd.mk (List.getElem?_eq_getElem hil)
        obtain ⟨l, hl⟩ : ∃ l, ls[i] = l := ⟨_, rfl⟩
        rw [hl] at c0 hs HL
        clear hl hil
        obtain ⟨m, hm⟩ : ∃ m, m = l.length := ⟨_, rfl⟩
        have HM := Sd.mk hm
        have R1 := Sd.mk hs.row
        have md : m ≤ d := by rw [hm]; exact hs.le
        have dc := hs.cap
        rw [← hm] at c0
        clear hm hs
        have hi100 : (i : Int) < 100 := by omega
        by_cases h8 : m ≤ 8
        · have h8' : decide ((8 : Int) < (m : Int)) = false := decide_eq_false (by omega)
          go_wp2
          go_loop [6] (fun v6 => ∃ k : Nat, k ≤ m ∧ v6 = .int .i64 k ∧ Sd (Upto (fun x : Rq => x.b.size ≤ 60) l k)) (fun v6 => m - (intOf v6).toNat)
          case atStart => exact ⟨0, by omega, rfl, ⟨upto_zero _ _⟩⟩
          case round =>
            obtain ⟨k, hk, rfl, HK⟩ := hrel
            by_cases hkm : k < m
            · have hkl : k < l.length := by rw [← HM.out]; exact hkm
              obtain ⟨b1, o1, rfl, p0, p1, p2⟩ := rqN_at R1.out hkl
              have HX := Sd.mk (List.getElem?_eq_getElem hkl)
              obtain ⟨x, hx⟩ : ∃ x, l[k] = x := ⟨_, rfl⟩
              rw [hx] at p2 HX
              clear hx hkl p0 p1
              obtain ⟨xc, xs, xb⟩ := x
              simp only at p2
              by_cases h60 : xb.size ≤ 60
              · have h60' : decide ((60 : Int) < (xb.size : Int)) = false := decide_eq_false (by omega)
                have HK2 := Sd.mk (upto_succ HK.out HX.out h60)
                clear h60 HK
                go_wp2
                go_round
                case rel => exact ⟨k + 1, by omega, by go_num, HK2⟩
                case measure => simp [intOf]; omega
              · have h60' : decide ((60 : Int) < (xb.size : Int)) = true := decide_eq_true (by omega)
                clear h60 HK
                go_wp2
                go_ret
                exact ⟨false, rfl, (fun h => by cases h), rfl⟩
            · have hkk : decide (k < m) = false := decide_eq_false (by omega)
              have HU2 := Sd.mk (upto_succ HU.out HL.out ⟨by rw [← HM.out]; exact h8, upto_all HK.out (by rw [← HM.out]; omega)⟩)
              clear HU HK
              go_wp2
              go_round
              case rel => exact ⟨i + 1, by omega, by go_num, HU2⟩
              case measure => simp [intOf]; omega
        · have h8' : decide ((8 : Int) < (m : Int)) = true := decide_eq_true (by omega)
          go_wp2
          go_ret
          exact ⟨false, rfl, (fun h => by cases h), rfl⟩
      · have hi100 : decide ((i : Int) < 100) = false := decide_eq_false (by omega)
        have hnN : decide ((n : Int) ≤ (N : Int)) = false := decide_eq_false (by omega)
        have hnN2 : decide (n ≤ N) = false := decide_eq_false (by omega)
        have hi101 : decide (i < 100) = false := decide_eq_false (by omega)
        go_wp2
        go_ret
        exact ⟨false, rfl, (fun h => by cases h), rfl⟩
    · have hii : decide (i < n) = false := decide_eq_false (by omega)
      have HA := Sd.mk (show ∀ l ∈ ls, okL l from upto_all HU.out (by have := HNN.out; omega))
      by_cases hnN : n ≤ N
      · have d1 : decide ((n : Int) ≤ (N : Int)) = true := decide_eq_true (by omega)
        have d2 : decide (n ≤ N) = true := decide_eq_true (by omega)
        clear HU
        go_wp2
        go_ret
        exact ⟨true, rfl, fun _ => ⟨by rw [← HNN.out]; exact hnN, HA.out⟩, rfl⟩
      · have d1 : decide ((n : Int) ≤ (N : Int)) = false := decide_eq_false (by omega)
        have d2 : decide (n ≤ N) = false := decide_eq_false (by omega)
        go_wp2
        go_ret
        exact ⟨false, rfl, (fun h => by cases h), rfl⟩
-- L1>
-- <L2
theorem flat_take {ls : List (List Rq)} {i : Nat} (hi : i < ls.length) : (ls.take (i + 1)).flatten = (ls.take i).flatten ++ ls[i] := by
  rw [← List.take_append_getElem hi, List.flatten_append]
  simp only [List.flatten_cons, List.flatten_nil, List.append_nil]
theorem flat_len : ∀ (ls : List (List Rq)), (∀ l ∈ ls, okL l) → ls.flatten.length ≤ 8 * ls.length
  | [], _ => by simp
  | l :: r, h => by
    have h1 := flat_len r (fun x hx => h x (by simp [hx]))
    have h2 := (h l (by simp)).1
    simp only [List.flatten_cons, List.length_append, List.length_cons]
    omega
set_option maxHeartbeats 8000000 in
set_option maxRecDepth 100000 in
theorem all_any (w0 w : World) (hw : Below w0.heap.size w0 w) (A : Option Addr) (c : Nat) (ls : List (List Rq)) (h : Bs w0 A c ls) (hok : ∀ l ∈ ls, okL l) (h20 : ls.length ≤ 20) :
    Calls Try.prog 40 #[.slice A ls.length c] w fun e w' => ∃ v, e = .returned v ∧ Ent w v ls.flatten w' := by
  have lc := Nat.le_trans h.le h.cap
  have HB := Sd.mk h
  have HW := Sd.mk hw
  have HK := Sd.mk hok
  obtain ⟨n, hn⟩ : ∃ n, n = ls.length := ⟨_, rfl⟩
  have HNN := Sd.mk hn
  have n1 : n ≤ 20 := by omega
  have HE0 := Sd.mk (show Ent w (.slice none 0 0) [] w from ⟨OwnR.nil _ _ _ _ _, fun k hk => (by simp [Value.ownBlock] at hk), Below.refl _ _⟩)
  rw [← hn] at lc ⊢
  clear hn h hok h20 hw
  go_enter Try.func40, Try.ntmps40
  go_wp2
  go_loopg [3, 4] n (fun gk v3 v4 wr => ∃ i A3 m q3, i + gk = n ∧ v3 = .slice A3 m q3 ∧ v4 = .int .i64 (i : Nat) ∧ Sd (m = (ls.take i).flatten.length) ∧ Sd (Ent w v3 (ls.take i).flatten wr))
  case atStart => exact ⟨0, none, 0, 0, by omega, rfl, rfl, ⟨rfl⟩, HE0⟩
  case round =>
    clear HE0
    obtain ⟨i, A3, m, q3, hi, rfl, rfl, HM, HE⟩ := hrel
    by_cases hlt : i < n
    · have hil : i < ls.length := by rw [← HNN.out]; exact hlt
      have hii : (i : Int) < n := by omega
      obtain ⟨b, o, B, d, rfl, c00, hs, hBd⟩ := HB.out.at' i hil
      have c0 := cell_below (below_then' HW.out HW.out.size HE.out.bel) c00
      have HY := Sd.mk (flat_take hil)
      have h8 : ls[i].length ≤ 8 := (HK.out _ (List.getElem_mem hil)).1
      have hmx : (ls.take i).flatten.length ≤ 8 * n := by
        have h1 := flat_len (ls.take i) (fun l hl => HK.out l (List.mem_of_mem_take hl))
        rw [List.length_take] at h1
        omega
      obtain ⟨l, hl⟩ : ∃ l, ls[i] = l := ⟨_, rfl⟩
      obtain ⟨xs, hxs⟩ : ∃ xs, (ls.take i).flatten = xs := ⟨_, rfl⟩
      rw [hl] at c0 hs HY h8
      rw [hxs] at HM HE HY hmx
      have HS := Sd.mk (hs.row.below (below_then' HW.out HW.out.size HE.out.bel))
      have HBD := Sd.mk hBd
      have m1 : m ≤ 160 := by rw [HM.out]; omega
      have HM2 := Sd.mk (show (xs ++ l).length = m + l.length by rw [List.length_append, HM.out])
      have xl : xs.length ≤ 160 := by omega
      clear c00 hl hil hxs hs hBd hmx
      go_wp2_with (first
        | (at_builtin; refine appends_at (d := rqN) (f := fR) (n := 3) (fun _ _ _ => Iff.rfl) rfl (fun _ => rfl) fR_one rfl (.tmp 11) (.tmp 15) 53 60 (.agg #[.int .i64 0, .int .i64 0, .string ByteArray.empty]) 32 rfl Try.underlying53 info_req rfl (by decide) (.slice A3 m q3) xs l B d rfl rfl HS.out HBD.out HE.out.own (by omega) (by omega) ?_; intro v5 w3 hown hg hob; obtain ⟨A6, q6, rfl⟩ := OwnR.slice hown; rw [HM2.out] at hown hob ⊢; have HE3 := Sd.mk (HE.out.more hown hg hob (Nat.le_refl _)); clear hg hown hob))
      go_roundg (gk - 1)
      case measure => omega
      case rel => exact ⟨i + 1, A6, m + l.length, q6, by omega, rfl, by go_num, ⟨by rw [HY.out, HM2.out]⟩, ⟨by rw [HY.out]; exact HE3.out⟩⟩
    · have hii : decide (i < n) = false := decide_eq_false (by omega)
      obtain rfl : i = n := by omega
      have et : ls.take i = ls := by rw [HNN.out]; exact List.take_length
      go_wp2
      go_ret
      have := HE.out
      rw [et] at this
      exact ⟨_, rfl, this⟩
-- L2>
end Go.Proofs.Ytgleoeiiiadanaa.Led

/- Whether a signature holds: the last case, and all of them. -/
import Derived.Test.YtnomgkmeomlccaaMacH
set_option linter.unusedVariables false
set_option linter.unusedSimpArgs false
namespace Go.Proofs.Ytnomgkmeomlccaa.Mac
open Go.RowKit Rd Api Own Mv Num Dig

def K8 (w : World) (g : Nat) (fr : Int) (v : Value) (p : Addr) (x : ByteArray) (W : World) : Prop := Ks w g fr v W ∧ W.cell? p = some (.string x)
theorem mv_k8 (w : World) (g : Nat) (fr : Int) (v : Value) (p : Addr) (x : ByteArray) : Mv (K8 w g fr v p x) := mv_and (mv_ks _ _ _ _) (mv_cell _ _)
theorem K8.all {w : World} {g : Nat} {fr : Int} {v : Value} {p : Addr} {x : ByteArray} {W : World} (h : K8 w g fr v p x W) : W.cell? ⟨g, 0, none⟩ = some (.int .i64 fr) ∧ W.cell? ⟨g, 1, none⟩ = some v ∧ W.cell? p = some (.string x) ∧ Sd (K8 w g fr v p x W) := ⟨blk_at h.1.1 0 _ rfl, blk_at h.1.1 1 _ rfl, h.2, ⟨h⟩⟩
set_option maxHeartbeats 4000000 in
set_option maxRecDepth 100000 in
theorem holds_8 (w : World) (seed tx : ByteArray) (t : Nat) (fr : Int) (A : Option Addr) (c : Nat) (l : List ByteArray) (h : Sl Rk.str w A c l) (h0 : 1 ≤ (l.length : Int) ∧ (l.length : Int) ≤ 7) (h1 : t < l.length) (h3 : ¬ fr < 0) (h4 : ¬ (l.length : Int) ≤ fr) (ha : all16 l)
    (hs : seed.size ≤ 35184372088832) (ht : tx.size ≤ 35184372088832) (x : ByteArray) (hx : l[t] = x) (y : ByteArray) (hy : mtag seed (endF fr) (endF t) tx = y) (r : Bool) (hr : (x.toList == y.toList) = r) :
    Calls Try.prog 137 #[.string seed, .int .i64 (t : Int), .int .i64 (l.length : Int), .string tx, .agg #[.int .i64 fr, .slice A l.length c]] w fun e w' => e = .returned (.bool r) ∧ Below w.heap.size w w' := by
  have hN := fun W => nodes_any W l.length true (decide_eq_true h0)
  have d2 : decide (l.length ≤ t) = false := decide_eq_false (by omega)
  have d3 : decide (fr < 0) = false := decide_eq_false h3
  have d4 : decide ((l.length : Int) ≤ fr) = false := decide_eq_false h4
  have hC := contains_no _ A c l (h.below (below_one w (.cells #[.int .i64 fr, .slice A l.length c] 51))) ha
  obtain ⟨b, o, rfl, hcell, -⟩ := str_at h.row (i := t) h1
  rw [hx] at hcell
  have HY := Sd.mk hy
  have HK := Sd.mk (show K8 w w.heap.size fr (.slice (some ⟨b, o, none⟩) l.length c) ⟨b, o + t, none⟩ x (w.alloc (.cells #[.int .i64 fr, .slice (some ⟨b, o, none⟩) l.length c] 51)) from ⟨⟨blk_new _ _, below_one _ _⟩, cell_below (below_one _ _) hcell⟩)
  have hti : (t : Int) < (l.length : Int) := by omega
  have HR := Sd.mk hr
  clear h0 h3 h4 h hx hy hcell ha hr
  go_enter Try.func137, Try.ntmps137
  go_upto_region 3 with (first
    | (go_at_call 72; (with_reducible refine (hN _).mono ?_); rintro e w1 ⟨rfl, rfl⟩)
    | (go_at_call 155; (with_reducible refine hC.mono ?_); rintro e w2 ⟨rfl, rfl⟩))
  generalize w.alloc _ = W at HK ⊢
  generalize hg : w.heap.size = g at HK ⊢
  clear hN hC
  go_region_held3 (fun W => W.cell? ⟨g, 0, none⟩ = some (.int .i64 fr) ∧ W.cell? ⟨g, 1, none⟩ = some (.slice (some ⟨b, o, none⟩) l.length c) ∧ W.cell? ⟨b, o + t, none⟩ = some (.string x) ∧ Sd (K8 w g fr (.slice (some ⟨b, o, none⟩) l.length c) ⟨b, o + t, none⟩ x W)) (first | exact K8.all ((mv_k8 _ _ _ _ _ _).drew HK.out) | exact K8.all hk | fail) (first | (go_at_call 157; (with_reducible refine (mactag_any _ seed fr t tx hs ht y HY.out).mono ?_); rintro e w3 ⟨rfl, hb3⟩; have hk := (mv_k8 _ _ _ _ _ _).below (‹_ ∧ _ ∧ _ ∧ Sd (K8 _ _ _ _ _ _ _)›).2.2.2.out hb3) | fail)
  all_goals
    go_wp2
    go_ret
    refine ⟨?_, hg ▸ hk.1.2⟩
    rw [← HR.out]
    rfl
theorem bytes_beq (x y : ByteArray) : (x.toList == y.toList) = decide (x = y) := by
  by_cases h : x = y
  · subst h
    rw [decide_eq_true rfl]
    exact beq_self_eq_true _
  · rw [decide_eq_false h, beq_eq_false_iff_ne]
    intro e
    rw [ByteArray.toList_eq, ByteArray.toList_eq] at e
    exact h (ByteArray.ext (Array.toList_inj.1 e))
theorem holds_any (w : World) (seed tx : ByteArray) (tn n fr : Int) (A : Option Addr) (c : Nat) (l : List ByteArray) (h : Sl Rk.str w A c l) (hs : seed.size ≤ 35184372088832) (ht : tx.size ≤ 35184372088832) (r : Bool) (hr : r = true ↔ holdsF seed tn n tx fr l) :
    Calls Try.prog 137 #[.string seed, .int .i64 tn, .int .i64 n, .string tx, .agg #[.int .i64 fr, .slice A l.length c]] w fun e w' => e = .returned (.bool r) ∧ Below w.heap.size w w' := by
  have no : ¬ holdsF seed tn n tx fr l → r = false := fun k => by
    cases r with
    | false => rfl
    | true => exact absurd (hr.1 rfl) k
  by_cases h0 : 1 ≤ n ∧ n ≤ 7
  · by_cases h1 : tn < 0
    · rw [no (fun k => by have := k.2.1.1; omega)]
      exact holds_2 w seed tx tn n fr A c l h0 h1
    · by_cases h2 : n ≤ tn
      · rw [no (fun k => by have := k.2.1.2; omega)]
        exact holds_3 w seed tx tn n fr A c l h0 h1 h2
      · by_cases h3 : fr < 0
        · rw [no (fun k => by have := k.2.2.1.1; omega)]
          exact holds_4 w seed tx tn n fr A c l h0 h1 h2 h3
        · by_cases h4 : n ≤ fr
          · rw [no (fun k => by have := k.2.2.1.2; omega)]
            exact holds_5 w seed tx tn n fr A c l h0 h1 h2 h3 h4
          · by_cases h5 : (l.length : Int) = n
            · by_cases ha : all16 l
              · subst h5
                obtain ⟨t, rfl⟩ : ∃ t : Nat, tn = (t : Int) := ⟨tn.toNat, by omega⟩
                have h1' : t < l.length := by omega
                refine holds_8 w seed tx t fr A c l h h0 h1' h3 h4 ha hs ht _ rfl _ rfl r ?_
                rw [bytes_beq]
                have hg : l[(t : Int).toNat]? = some l[t] := by rw [Int.toNat_natCast]; exact List.getElem?_eq_getElem h1'
                by_cases e : l[t] = mtag seed (endF fr) (endF t) tx
                · rw [decide_eq_true e]
                  exact (hr.2 ⟨h0, ⟨by omega, by omega⟩, ⟨by omega, by omega⟩, rfl, ha, by rw [hg, e]⟩).symm
                · rw [decide_eq_false e]
                  exact (no (fun k => e (by have := k.2.2.2.2.2; rw [hg] at this; exact Option.some.inj this))).symm
              · rw [no (fun k => ha k.2.2.2.2.1)]
                exact holds_7 w seed tx tn n fr A c l h0 h1 h2 h3 h4 h5 h ha
            · rw [no (fun k => h5 k.2.2.2.1)]
              exact holds_6 w seed tx tn n fr A c l h0 h1 h2 h3 h4 h5
  · rw [no (fun k => h0 k.1)]
    exact holds_1 w seed tx tn n fr A c l h0
end Go.Proofs.Ytnomgkmeomlccaa.Mac

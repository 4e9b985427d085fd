/- Sizes that are looked at: FewSig, FewCert, FewBlock, walked. -/
import Derived.Test.YtjpjphdcpdjlkaaApi
import Derived.LoopTactic
import Derived.Deep.LoopGhost
set_option linter.unusedVariables false
set_option linter.unusedSimpArgs false
namespace Go.Proofs.Ytjpjphdcpdjlkaa.Few
open Go.RowKit Rd Api

def sigFew (s : Sig) : Prop := s.tags.length ≤ 10 ∧ ∀ t ∈ s.tags, t.size ≤ 30
def certFew (c : Cert) : Prop := c.sigs.length ≤ 10 ∧ c.block.size ≤ 50 ∧ ∀ s ∈ c.sigs, sigFew s
def blkFew (b : Blk) : Prop := b.batch.length ≤ 6 ∧ (∀ r ∈ b.batch, r.body.size ≤ 60) ∧ certFew b.just

/-- A bool that, if it is true, tells something. -/
def Tells (P : Prop) (w : World) (e : Ending) (w' : World) : Prop := ∃ r : Bool, e = .returned (.bool r) ∧ (r = true → P) ∧ Below w.heap.size w w'

/-- what holds of the first i -/
def Upto {α : Type} (p : α → Prop) (l : List α) (i : Nat) : Prop := ∀ (j : Nat) (x : α), j < i → l[j]? = some x → p x
theorem upto_zero {α : Type} (p : α → Prop) (l : List α) : Upto p l 0 := fun j x hj => by omega
theorem upto_succ {α : Type} {p : α → Prop} {l : List α} {i : Nat} (h : Upto p l i) (hi : i < l.length) (hp : p l[i]) : Upto p l (i + 1) := by
  intro j x hj hx
  by_cases e : j = i
  · subst e
    rw [List.getElem?_eq_getElem hi] at hx
    simp only [Option.some.injEq] at hx
    exact hx ▸ hp
  · exact h j x (by omega) hx
theorem upto_all {α : Type} {p : α → Prop} {l : List α} {i : Nat} (h : Upto p l i) (hi : l.length ≤ i) : ∀ x ∈ l, p x := by
  intro x hx
  obtain ⟨j, hj, rfl⟩ := List.getElem_of_mem hx
  exact h j _ (by omega) (List.getElem?_eq_getElem hj)

set_option maxHeartbeats 4000000 in
set_option maxRecDepth 100000 in
theorem sig_any (w : World) (s : Sig) (A : Option Addr) (c : Nat) (h : Sl Rk.str w A c s.tags) : Calls Try.prog 59 #[.agg #[.int .i64 s.node, .slice A s.tags.length c]] w (Tells (sigFew s) w) := by
  have hcap := h.cap
  have hle := h.le
  have HR := Sd.mk (h.row.below (w1 := w.alloc (.cells #[.int .i64 s.node, .slice A s.tags.length c] 92)) ((Below.refl _ _).alloc (Nat.le_refl _) _))
  have HB := Sd.mk ((Below.refl w.heap.size w).alloc (Nat.le_refl _) (.cells #[.int .i64 s.node, .slice A s.tags.length c] 92))
  clear h
  go_enter Try.func59, Try.ntmps59
  go_wp2
  go_loop [3] (fun v3 => ∃ i : Nat, i ≤ s.tags.length ∧ v3 = .int .i64 i ∧ Sd (Upto (fun t => t.size ≤ 30) s.tags i)) (fun v3 => s.tags.length - (intOf v3).toNat)
  case atStart => exact ⟨0, by omega, rfl, ⟨upto_zero _ _⟩⟩
  case round =>
    obtain ⟨i, hi, rfl, HU⟩ := hrel
    by_cases hlt : i < s.tags.length
    · by_cases h20 : i < 20
      · obtain ⟨b, o, rfl, hc, hm⟩ := str_at HR.out hlt
        have hs := Sd.mk (show s.tags[i].size ≤ 30 → Upto (fun t => t.size ≤ 30) s.tags (i + 1) from fun h => upto_succ HU.out hlt h)
        unfold maxLen at hm
        generalize s.tags[i] = t at hc hm hs
        by_cases h30 : t.size ≤ 30
        · have h30' : decide (30 < (t.size : Int)) = false := decide_eq_false (by omega)
          have HU2 := Sd.mk (hs.out h30)
          clear hs HU h30
          go_wp2
          go_round
          case rel => exact ⟨i + 1, by omega, by go_num, HU2⟩
          case measure => simp [intOf]; omega
        · have h30' : decide (30 < (t.size : Int)) = true := decide_eq_true (by omega)
          clear hs h30
          go_wp2
          go_ret
          exact ⟨false, rfl, (fun h => by cases h), HB.out⟩
      · have h10 : decide ((s.tags.length : Int) ≤ 10) = false := decide_eq_false (by omega)
        go_wp2
        go_ret
        exact ⟨false, rfl, (fun h => by cases h), HB.out⟩
    · by_cases h10 : s.tags.length ≤ 10
      · have h10' : decide ((s.tags.length : Int) ≤ 10) = true := decide_eq_true (by omega)
        have HT := Sd.mk (show sigFew s from ⟨h10, upto_all HU.out (by omega)⟩)
        clear h10 HU
        go_wp2
        go_ret
        exact ⟨true, rfl, fun _ => HT.out, HB.out⟩
      · have h10' : decide ((s.tags.length : Int) ≤ 10) = false := decide_eq_false (by omega)
        clear h10
        go_wp2
        go_ret
        exact ⟨false, rfl, (fun h => by cases h), HB.out⟩

set_option maxHeartbeats 4000000 in
set_option maxRecDepth 100000 in
theorem cert_any (w : World) (x : Cert) (A : Option Addr) (c : Nat) (hx : x.block.size ≤ maxLen) (h : Sl sigK w A c x.sigs) : Calls Try.prog 46 #[.agg #[.int .i64 x.view, .string x.block, .slice A x.sigs.length c]] w (Tells (certFew x) w) := by
  have hcap := h.cap
  have hle := h.le
  unfold maxLen at hx
  have HR := Sd.mk h.row
  clear h
  go_enter Try.func46, Try.ntmps46
  go_wp2
  have HB := Sd.mk (below_one w (.cells #[.int .i64 x.view, .string x.block, .slice A x.sigs.length c] 32))
  have HX := Sd.mk (blk_new w (.cells #[.int .i64 x.view, .string x.block, .slice A x.sigs.length c] 32))
  generalize w.alloc (.cells #[.int .i64 x.view, .string x.block, .slice A x.sigs.length c] 32) = w1 at HB HX ⊢
  generalize w.heap.size = h1 at HX ⊢
  go_loopg [3] x.sigs.length (fun gk v3 wr => ∃ i : Nat, i + gk = x.sigs.length ∧ v3 = .int .i64 i ∧ Sd (Upto sigFew x.sigs i) ∧ Sd (Below w.heap.size w wr) ∧ Sd (wr.heap[h1]? = some (.cells #[.int .i64 x.view, .string x.block, .slice A x.sigs.length c] 32 (0, 0))))
  case atStart => exact ⟨0, by omega, rfl, ⟨upto_zero _ _⟩, HB, HX⟩
  case round =>
    clear HB HX
    obtain ⟨i, hi, rfl, HU, HB, HX⟩ := hrel
    have hx1 := blk_at HX.out 1 _ rfl
    have hx2 := blk_at HX.out 2 _ rfl
    by_cases hlt : i < x.sigs.length
    · by_cases h20 : i < 20
      · obtain ⟨b, o, B, d, rfl, ⟨hc0, hc1⟩, -, hs⟩ := sig_at (HR.out.below HB.out) hlt
        have hu := Sd.mk (show sigFew x.sigs[i] → Upto sigFew x.sigs (i + 1) from fun h => upto_succ HU.out hlt h)
        have HS := Sd.mk hs
        clear hs
        generalize x.sigs[i] = s at hc0 hc1 HS hu
        go_wp2_with (first | (go_at_call 59; (with_reducible refine (sig_any _ s B d HS.out).mono ?_); rintro e w' ⟨r, rfl, hr, hb⟩; have n0 := Sd.mk (below_then HB.out hb); have n1 := Sd.mk (blk_keep HX.out hb); have n2 := Sd.mk hr; clear HB HX hb hr hx1 hx2 hc0 hc1; have HB := n0; have HX := n1; have HQ := n2; clear n0 n1 n2; cases r))
        · go_wp2
          go_ret
          exact ⟨false, rfl, (fun h => by cases h), HB.out⟩
        · have HU2 := Sd.mk (hu.out (HQ.out (by trivial)))
          clear hu HU HQ
          go_wp2
          go_roundg (gk - 1)
          case measure => omega
          case rel => exact ⟨i + 1, by omega, by go_num, HU2, HB, HX⟩
      · have h10 : decide ((x.sigs.length : Int) ≤ 10) = false := decide_eq_false (by omega)
        go_wp2
        go_ret
        exact ⟨false, rfl, (fun h => by cases h), HB.out⟩
    · by_cases h10 : x.sigs.length ≤ 10
      · have h10' : decide ((x.sigs.length : Int) ≤ 10) = true := decide_eq_true (by omega)
        by_cases h50 : x.block.size ≤ 50
        · have h50' : decide ((x.block.size : Int) ≤ 50) = true := decide_eq_true (by omega)
          have HT := Sd.mk (show certFew x from ⟨h10, h50, upto_all HU.out (by omega)⟩)
          clear h10 h50 HU
          go_wp2
          go_ret
          exact ⟨true, rfl, fun _ => HT.out, HB.out⟩
        · have h50' : decide ((x.block.size : Int) ≤ 50) = false := decide_eq_false (by omega)
          clear h10 h50
          go_wp2
          go_ret
          exact ⟨false, rfl, (fun h => by cases h), HB.out⟩
      · have h10' : decide ((x.sigs.length : Int) ≤ 10) = false := decide_eq_false (by omega)
        clear h10
        go_wp2
        go_ret
        exact ⟨false, rfl, (fun h => by cases h), HB.out⟩

set_option maxHeartbeats 4000000 in
set_option maxRecDepth 100000 in
theorem blk_any (w : World) (x : Blk) (A : Option Addr) (c : Nat) (B : Option Addr) (d : Nat) (hx : x.just.block.size ≤ maxLen) (h : Sl sigK w A c x.just.sigs) (k : Sl reqK w B d x.batch) : Calls Try.prog 23 #[.agg #[.int .i64 x.view, .int .i64 x.prop, .int .i64 x.just.view, .string x.just.block, .slice A x.just.sigs.length c, .slice B x.batch.length d]] w (Tells (blkFew x) w) := by
  have hcap := h.cap
  have hle := h.le
  have kcap := k.cap
  have kle := k.le
  have HX := Sd.mk hx
  have HS := Sd.mk h
  have HR := Sd.mk (k.row.below (below_one w (.cells #[.int .i64 x.view, .int .i64 x.prop, .int .i64 x.just.view, .string x.just.block, .slice A x.just.sigs.length c, .slice B x.batch.length d] 35)))
  clear h k hx
  go_enter Try.func23, Try.ntmps23
  go_wp2
  have HB := Sd.mk (below_one w (.cells #[.int .i64 x.view, .int .i64 x.prop, .int .i64 x.just.view, .string x.just.block, .slice A x.just.sigs.length c, .slice B x.batch.length d] 35))
  go_loop [3] (fun v3 => ∃ i : Nat, i ≤ x.batch.length ∧ v3 = .int .i64 i ∧ Sd (Upto (fun r => r.body.size ≤ 60) x.batch i)) (fun v3 => x.batch.length - (intOf v3).toNat)
  case atStart => exact ⟨0, by omega, rfl, ⟨upto_zero _ _⟩⟩
  case round =>
    obtain ⟨i, hi, rfl, HU⟩ := hrel
    by_cases hlt : i < x.batch.length
    · by_cases h20 : i < 20
      · obtain ⟨b, o, rfl, ⟨hc0, hc1, hc2⟩, -, -, hm⟩ := req_at HR.out hlt
        have hs := Sd.mk (show x.batch[i].body.size ≤ 60 → Upto (fun r => r.body.size ≤ 60) x.batch (i + 1) from fun h => upto_succ HU.out hlt h)
        unfold maxLen at hm
        clear hc0 hc1
        generalize x.batch[i].body = t at hc2 hm hs
        by_cases h30 : t.size ≤ 60
        · have h30' : decide (60 < (t.size : Int)) = false := decide_eq_false (by omega)
          have HU2 := Sd.mk (hs.out h30)
          clear hs HU h30
          go_wp2
          go_round
          case rel => exact ⟨i + 1, by omega, by go_num, HU2⟩
          case measure => simp [intOf]; omega
        · have h30' : decide (60 < (t.size : Int)) = true := decide_eq_true (by omega)
          clear hs h30
          go_wp2
          go_ret
          exact ⟨false, rfl, (fun h => by cases h), HB.out⟩
      · have h10 : decide ((x.batch.length : Int) ≤ 6) = false := decide_eq_false (by omega)
        go_wp2
        go_ret
        exact ⟨false, rfl, (fun h => by cases h), HB.out⟩
    · by_cases h10 : x.batch.length ≤ 6
      · have h10' : decide ((x.batch.length : Int) ≤ 6) = true := decide_eq_true (by omega)
        have HT := Sd.mk (show certFew x.just → blkFew x from fun h => ⟨h10, upto_all HU.out (by omega), h⟩)
        clear h10 HU
        go_wp2_with (first | (go_at_call 46; (with_reducible refine (cert_any _ x.just A c HX.out (HS.out.below HB.out)).mono ?_); rintro e w' ⟨r, rfl, hr, hb⟩; have n0 := Sd.mk (below_then HB.out hb); have n2 := Sd.mk hr; clear HB hb hr; have HB := n0; have HQ := n2; clear n0 n2))
        go_ret
        exact ⟨_, rfl, fun h => HT.out (HQ.out h), HB.out⟩
      · have h10' : decide ((x.batch.length : Int) ≤ 6) = false := decide_eq_false (by omega)
        clear h10
        go_wp2
        go_ret
        exact ⟨false, rfl, (fun h => by cases h), HB.out⟩
end Go.Proofs.Ytjpjphdcpdjlkaa.Few

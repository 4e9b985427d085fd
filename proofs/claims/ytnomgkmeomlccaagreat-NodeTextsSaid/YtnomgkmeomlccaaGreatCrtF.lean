/- A certificate that comes in (where the certificates' own laws are not at hand): what reads as one; whether it is of a size that is looked at: walked. -/
import Derived.Test.YtnomgkmeomlccaaGreatRwz
import Derived.Test.YtnomgkmeomlccaaGreatSg
import Derived.LoopTactic
import Derived.Deep.LoopGhost
import Derived.Test.YtnomgkmeomlccaaGreatArr
set_option linter.unusedVariables false
set_option linter.unusedSimpArgs false
namespace Go.Proofs.YtnomgkmeomlccaaGreat.Crt
open Go.RowKit Go.Sort Rd Api Own Mv App Num Rp

def certFew (c : Cert) : Prop := c.sigs.length ≤ 10 ∧ c.block.size ≤ 50 ∧ ∀ s ∈ c.sigs, Sg.sigFew s
theorem catB_few : ∀ (l : List ByteArray) (b : ByteArray), (∀ t ∈ l, t.size ≤ 30) → (catB b l).size ≤ b.size + 30 * l.length
  | [], b, _ => by simp [catB]
  | t :: l, b, h => by
    have h1 := catB_few l (b ++ t) (fun u hu => h u (by simp [hu]))
    have h2 := h t (by simp)
    rw [Rp.app_size] at h1
    show (catB (b ++ t) l).size ≤ _
    rw [List.length_cons]; omega
theorem sigB_few {s : Sg.Sig} (h : Sg.sigFew s) : (sigB s).size ≤ 308 := by
  have := catB_few s.tags (num4 s.node ++ num4 (s.tags.length : Int)) h.2
  rw [Rp.app_size, num4_size, num4_size] at this
  have := h.1
  unfold sigB; omega
theorem sigsB_few : ∀ (l : List Sg.Sig) (b : ByteArray), (∀ t ∈ l, Sg.sigFew t) → (sigsB b l).size ≤ b.size + 308 * l.length
  | [], b, _ => by simp [sigsB]
  | t :: l, b, h => by
    have h1 := sigsB_few l (b ++ sigB t) (fun u hu => h u (by simp [hu]))
    have h2 := sigB_few (h t (by simp))
    rw [Rp.app_size] at h1
    show (sigsB (b ++ sigB t) l).size ≤ _
    rw [List.length_cons]; omega
theorem certB_few {c : Cert} (h : certFew c) : (certB c).size ≤ 9223372036854775807 := by
  have := sigsB_few c.sigs (num4 c.view ++ c.block ++ num4 (c.sigs.length : Int)) h.2.2
  rw [Rp.app_size, Rp.app_size, num4_size, num4_size] at this
  have h1 := h.1
  have h2 := h.2.1
  unfold certB; omega
def certK : Rk Cert := Rk.iso (Rk.pair (Rk.int .i64) (Rk.pair Rk.str (Rk.pair (Rk.slice Sg.sigK) Rk.unit))) (fun x => (x.view, x.block, x.sigs, ()))
theorem opens_sigs : Opens Tryz.prog 22 (Rk.slice Sg.sigK) := opens_slice Tryz.underlying22 Sg.opens_sig (by kernel_rfl) (by decide)
theorem opens_cert : Opens Tryz.prog 24 certK :=
  opens_iso _ (fun (a, b, c, _) => ⟨a, b, c⟩) (fun _ => rfl) (opens_struct Tryz.underlying24 (by kernel_rfl) (fs_cons rfl (by kernel_rfl) (opens_int Tryz.underlying3) (fs_cons rfl (by kernel_rfl) (opens_str Tryz.underlying9) (fs_cons rfl (by kernel_rfl) opens_sigs (fs_nil _)))))
theorem cert_open {w : World} {x : Cert} {cs : List Value} (h : certK.K w x cs) : ∃ A c, cs = [.int .i64 x.view, .string x.block, .slice A x.sigs.length c] ∧ IsI64 x.view ∧ Sl Sg.sigK w A c x.sigs := by
  obtain ⟨c0, c1, rfl, ⟨rfl, h0⟩, c2, c3, rfl, ⟨rfl, h1⟩, c4, c5, rfl, h2, rfl⟩ := h
  obtain ⟨A, c, rfl, hs⟩ := sl_of h2
  exact ⟨A, c, rfl, i64_of h0, hs⟩
set_option maxHeartbeats 4000000 in
set_option maxRecDepth 100000 in
theorem few_any (w : World) (x : Cert) (A : Option Addr) (c : Nat) (h : Sl sgK w A c x.sigs) (n : Nat) (hn : n = x.sigs.length) : Calls Tryz.prog 12 #[.agg #[.int .i64 x.view, .string x.block, .slice A n c]] w (Sg.Tells (certFew x) w) := by
  have hb0 := below_one w (.cells #[.int .i64 x.view, .string x.block, .slice A n c] 24)
  have HB := Sd.mk hb0
  have HS := Sd.mk (h.below hb0)
  have X0 := Sd.mk (blk_new w (.cells #[.int .i64 x.view, .string x.block, .slice A n c] 24))
  have nc := Nat.le_trans h.le h.cap
  rw [← hn] at nc
  have HN := Sd.mk hn
  clear h hn hb0
  go_enter Tryz.func12, Tryz.ntmps12
  go_upto_region 2 with (fail)
  generalize w.heap.size = Bx at X0 ⊢
  generalize w.alloc _ = W1 at X0 HB HS ⊢
  go_loopg [3] n (fun gk v3 wr => ∃ i, i + gk = n ∧ i ≤ 20 ∧ v3 = .int .i64 (i : Nat) ∧ Sd (∀ s ∈ x.sigs.take i, Sg.sigFew s) ∧ Sd (Below W1.heap.size W1 wr))
  case atStart => exact ⟨0, by omega, by omega, rfl, ⟨fun t ht => by simp at ht⟩, ⟨Below.refl _ _⟩⟩
  case round =>
    obtain ⟨i, hi, hi20, rfl, HA, HW⟩ := hrel
    have X1 := Sd.mk (blk_keep X0.out HW.out)
    have c1 := blk_at X1.out 1 _ rfl
    have c2 := blk_at X1.out 2 _ rfl
    have bad : ∀ (v : Bool) (W' : World), v = false → Below W1.heap.size W1 W' → Sg.Tells (certFew x) w (.returned (.bool v)) W' := fun v W' hv hb => ⟨v, rfl, fun h => (by rw [hv] at h; cases h), below_then HB.out hb⟩
    have HBAD := Sd.mk bad
    clear bad
    by_cases hlt : i < n
    · have hii : (i : Int) < n := by omega
      by_cases h20 : i < 20
      · have h20i : (i : Int) < 20 := by omega
        obtain ⟨y, hy⟩ : ∃ y, x.sigs[i]? = some y := ⟨_, List.getElem?_eq_getElem (show i < x.sigs.length by rw [← HN.out]; exact hlt)⟩
        obtain ⟨o1, o2, A1, c3, rfl, p0, p1, s1⟩ := sg_at HS.out hy
        have p0 := cell_below HW.out p0
        have p1 := cell_below HW.out p1
        have HY := Sd.mk hy
        have HF := Sd.mk (Sg.sig_any wr y A1 c3 (s1.below HW.out))
        clear hy s1
        go_wp2_with (first
          | (go_at_call 13; (with_reducible refine HF.out.mono ?_); rintro e w2 ⟨r, rfl, ht, hb⟩; have HB2 := Sd.mk (below_then HW.out hb); have HTR := Sd.mk ht; clear ht hb; cases r))
        · go_ret
          exact HBAD.out false _ rfl HB2.out
        · have HA2 := Sd.mk (show ∀ s ∈ x.sigs.take (i + 1), Sg.sigFew s from fun s hs => by
            rw [List.take_add_one, HY.out] at hs
            rcases List.mem_append.1 hs with e | e
            · exact HA.out s e
            · simp at e; subst e; exact HTR.out trivial)
          go_roundg (gk - 1)
          case measure => omega
          case rel => exact ⟨i + 1, by omega, by omega, by go_num, HA2, HB2⟩
      · have h20i : decide ((i : Int) < 20) = false := decide_eq_false (by omega)
        have h10 : decide ((n : Int) ≤ 10) = false := decide_eq_false (by omega)
        have h10b : decide (n ≤ 10) = false := decide_eq_false (by omega)
        go_wp2
        go_ret
        exact HBAD.out false _ rfl HW.out
    · have hii : decide (i < n) = false := decide_eq_false (by omega)
      have hii2 : decide ((i : Int) < (n : Int)) = false := decide_eq_false (by omega)
      have HAL := Sd.mk (show ∀ s ∈ x.sigs, Sg.sigFew s by have := HA.out; rwa [List.take_of_length_le (by rw [← HN.out]; omega)] at this)
      by_cases h10 : n ≤ 10
      · have d0 : decide ((n : Int) ≤ 10) = true := decide_eq_true (by omega)
        have d0b : decide (n ≤ 10) = true := decide_eq_true h10
        by_cases h50 : x.block.size ≤ 50
        · have d1 : decide ((x.block.size : Int) ≤ 50) = true := decide_eq_true (by omega)
          have HT := Sd.mk (show certFew x from ⟨by rw [← HN.out]; exact h10, h50, HAL.out⟩)
          clear h50 h10
          go_wp2
          go_ret
          exact ⟨true, rfl, fun _ => HT.out, below_then HB.out HW.out⟩
        · have d1 : decide ((x.block.size : Int) ≤ 50) = false := decide_eq_false (by omega)
          clear h50 h10
          go_wp2
          go_ret
          exact HBAD.out false _ rfl HW.out
      · have d0 : decide ((n : Int) ≤ 10) = false := decide_eq_false (by omega)
        have d0b : decide (n ≤ 10) = false := decide_eq_false h10
        clear h10
        go_wp2
        go_ret
        exact HBAD.out false _ rfl HW.out
end Go.Proofs.YtnomgkmeomlccaaGreat.Crt

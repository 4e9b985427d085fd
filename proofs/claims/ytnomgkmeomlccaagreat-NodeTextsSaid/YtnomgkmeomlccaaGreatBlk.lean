/- Blocks, requests: what comes in; their bytes; whether one is of a size that is looked at: walked. -/
import Derived.Test.YtnomgkmeomlccaaGreatWtx
import Derived.Test.YtnomgkmeomlccaaGreatCrtF
import Derived.Test.YtnomgkmeomlccaaGreatRwz
import Derived.Lib.QuietBelow
set_option linter.unusedVariables false
set_option linter.unusedSimpArgs false
namespace Go.Proofs.YtnomgkmeomlccaaGreat.Blk
open Go.RowKit Go.Sort Rd Api Own Mv App Num Dig

/-- a request -/
structure Rq where
  c : Int
  s : Int
  b : ByteArray
def fR (x : Rq) : List Value := [.int .i64 x.c, .int .i64 x.s, .string x.b]
theorem fR_one : ∀ x : Rq, ∀ u ∈ fR x, u.oneCell' = true := fun _ _ hu => by simp [fR] at hu; rcases hu with rfl | rfl | rfl <;> rfl
def rqN : Rk Rq where
  sz := 3
  K := fun _ x cs => cs = fR x
  len := fun h => by rw [h]; rfl
  keep := fun _ h => h
theorem info_rq : ((Tryz.prog).info? 32).map (fun i => (i.zero, i.size, i.bytes)) = some (some (.agg #[.int .i64 0, .int .i64 0, .string ByteArray.empty]), 3, 32) := by kernel_rfl
def rqK : Rk Rq := Rk.iso (Rk.pair (Rk.int .i64) (Rk.pair (Rk.int .i64) (Rk.pair Rk.str Rk.unit))) (fun x => (x.c, x.s, x.b, ()))
theorem rqK_open {w : World} {x : Rq} {cs : List Value} (h : rqK.K w x cs) : cs = fR x ∧ IsI64 x.c ∧ IsI64 x.s := by
  obtain ⟨_, _, rfl, ⟨rfl, h1⟩, _, _, rfl, ⟨rfl, h2⟩, _, _, rfl, ⟨rfl, h3⟩, rfl⟩ := h
  exact ⟨rfl, i64_of h1, i64_of h2⟩
theorem opens_rq : Opens Tryz.prog 32 rqK :=
  opens_iso _ (fun (a, b, c, _) => ⟨a, b, c⟩) (fun _ => rfl) (opens_struct Tryz.underlying32 (by kernel_rfl) (fs_cons rfl (by kernel_rfl) (opens_int Tryz.underlying3) (fs_cons rfl (by kernel_rfl) (opens_int Tryz.underlying3) (fs_cons rfl (by kernel_rfl) (opens_str Tryz.underlying9) (fs_nil _)))))
theorem opens_rqs : Opens Tryz.prog 25 (Rk.slice rqK) := opens_slice Tryz.underlying25 opens_rq (by kernel_rfl) (by decide)
theorem rq_of {w : World} {A : Option Addr} {c : Nat} {l : List Rq} (h : Sl rqK w A c l) : Sl rqN w A c l :=
  ⟨h.le, h.cap, fun j x hx => by
    obtain ⟨b, o, cs, hA, hK, hc⟩ := h.row j x hx
    exact ⟨b, o, cs, hA, (rqK_open hK).1, hc⟩⟩
theorem rq_at {W : World} {A : Option Addr} {l : List Rq} (h : Row rqN W A l) {i : Nat} {x : Rq} (hx : l[i]? = some x) : ∃ b o, A = some ⟨b, o, none⟩ ∧ W.cell? ⟨b, o + i * 3, none⟩ = some (.int .i64 x.c) ∧ W.cell? ⟨b, o + i * 3 + 1, none⟩ = some (.int .i64 x.s) ∧ W.cell? ⟨b, o + i * 3 + 2, none⟩ = some (.string x.b) := by
  obtain ⟨b, o, cs, hA, rfl, hc⟩ := h i x hx
  exact ⟨b, o, hA, hc 0 _ rfl, hc 1 _ rfl, hc 2 _ rfl⟩
/-- a block -/
structure Block where
  view : Int
  prop : Int
  just : Rp.Cert
  batch : List Rq
def blkK : Rk Block := Rk.iso (Rk.pair (Rk.int .i64) (Rk.pair (Rk.int .i64) (Rk.pair Crt.certK (Rk.pair (Rk.slice rqK) Rk.unit)))) (fun x => (x.view, x.prop, x.just, x.batch, ()))
theorem opens_blk : Opens Tryz.prog 27 blkK :=
  opens_iso _ (fun (a, b, c, d, _) => ⟨a, b, c, d⟩) (fun _ => rfl) (opens_struct Tryz.underlying27 (by kernel_rfl) (fs_cons rfl (by kernel_rfl) (opens_int Tryz.underlying3) (fs_cons rfl (by kernel_rfl) (opens_int Tryz.underlying3) (fs_cons rfl (by kernel_rfl) Crt.opens_cert (fs_cons rfl (by kernel_rfl) opens_rqs (fs_nil _))))))
theorem blk_open {w : World} {x : Block} {cs : List Value} (h : blkK.K w x cs) : ∃ A c B d, cs = [.int .i64 x.view, .int .i64 x.prop, .int .i64 x.just.view, .string x.just.block, .slice A x.just.sigs.length c, .slice B x.batch.length d] ∧ Sl Rp.sgK w A c x.just.sigs ∧ Sl rqN w B d x.batch := by
  obtain ⟨_, _, rfl, ⟨rfl, h1⟩, _, _, rfl, ⟨rfl, h2⟩, _, _, rfl, h3, _, _, rfl, h4, rfl⟩ := h
  obtain ⟨A, c, rfl, h5, h6⟩ := Crt.cert_open h3
  obtain ⟨B, e, rfl, h8⟩ := sl_of h4
  exact ⟨A, c, B, e, rfl, Rp.sg_of h6, rq_of h8⟩
/-! ### bytes -/
def rqB (r : Rq) : ByteArray := Wtx.reqb r.c r.s r.b
theorem rqB_size (r : Rq) : (rqB r).size = 12 + r.b.size := Wtx.reqb_size _ _ _
def rqsB (b : ByteArray) (l : List Rq) : ByteArray := l.foldl (fun b r => b ++ rqB r) b
theorem rqsB_snoc (b : ByteArray) (l : List Rq) (t : Rq) : rqsB b (l ++ [t]) = rqsB b l ++ rqB t := by simp [rqsB]
theorem rqsB_size (b : ByteArray) (l : List Rq) : b.size ≤ (rqsB b l).size := by
  induction l generalizing b with
  | nil => exact Nat.le_refl _
  | cons t l ih => exact Nat.le_trans (by rw [Rp.app_size]; omega) (ih (b ++ rqB t))
theorem rqsB_take {b : ByteArray} {l : List Rq} {i : Nat} {t : Rq} (h : l[i]? = some t) : rqsB b (l.take (i + 1)) = rqsB b (l.take i) ++ rqB t := by
  rw [List.take_add_one, h]; exact rqsB_snoc _ _ _
theorem rqsB_pre (b : ByteArray) (l : List Rq) (i : Nat) : (rqsB b (l.take i)).size ≤ (rqsB b l).size := by
  conv => rhs; rw [← List.take_append_drop i l]
  unfold rqsB
  rw [List.foldl_append]
  exact rqsB_size _ _
def rqFew (r : Rq) : Prop := r.b.size ≤ 60
theorem rqsB_few : ∀ (l : List Rq) (b : ByteArray), (∀ t ∈ l, t.b.size ≤ 60) → (rqsB b l).size ≤ b.size + 72 * l.length
  | [], b, _ => by simp [rqsB]
  | t :: l, b, h => by
    have h1 := rqsB_few l (b ++ rqB t) (fun u hu => h u (by simp [hu]))
    have h2 := h t (by simp)
    rw [Rp.app_size, rqB_size] at h1
    show (rqsB (b ++ rqB t) l).size ≤ _
    simp only [List.length_cons]; omega
def batchB (l : List Rq) : ByteArray := rqsB (num4 (l.length : Int)) l
def blkB (x : Block) : ByteArray := num4 x.view ++ num4 x.prop ++ Rp.certB x.just ++ batchB x.batch
def coreB (x : Block) : ByteArray := num4 x.view ++ num4 x.prop ++ num4 x.just.view ++ x.just.block ++ batchB x.batch
def blkFew (x : Block) : Prop := x.batch.length ≤ 6 ∧ (∀ r ∈ x.batch, r.b.size ≤ 60) ∧ Crt.certFew x.just
theorem coreB_few {x : Block} (h : blkFew x) : (coreB x).size ≤ 500 := by
  have h1 := rqsB_few x.batch (num4 (x.batch.length : Int)) h.2.1
  have h2 := h.2.2.2.1
  have h3 := h.1
  unfold coreB batchB
  rw [Rp.app_size, Rp.app_size, Rp.app_size, Rp.app_size, num4_size, num4_size, num4_size]
  rw [num4_size] at h1
  omega
end Go.Proofs.YtnomgkmeomlccaaGreat.Blk

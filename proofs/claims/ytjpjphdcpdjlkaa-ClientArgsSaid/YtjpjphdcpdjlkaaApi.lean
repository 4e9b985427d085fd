/- The program's data: requests, signatures, certificates, blocks; what comes in of each is read. -/
import Derived.Test.YtjpjphdcpdjlkaaProg
import Derived.Test.YtjpjphdcpdjlkaaRd
import Derived.KernelRfl
namespace Go.Proofs.Ytjpjphdcpdjlkaa.Api
open Go.RowKit Rd

structure Req where
  client : Int
  seq : Int
  body : ByteArray
structure Sig where
  node : Int
  tags : List ByteArray
structure Cert where
  view : Int
  block : ByteArray
  sigs : List Sig
structure Blk where
  view : Int
  prop : Int
  just : Cert
  batch : List Req
def reqK : Rk Req := Rk.iso (Rk.pair (Rk.int .i64) (Rk.pair (Rk.int .i64) (Rk.pair Rk.str Rk.unit))) (fun x => (x.client, x.seq, x.body, ()))
def sigK : Rk Sig := Rk.iso (Rk.pair (Rk.int .i64) (Rk.pair (Rk.slice Rk.str) Rk.unit)) (fun x => (x.node, x.tags, ()))
def certK : Rk Cert := Rk.iso (Rk.pair (Rk.int .i64) (Rk.pair Rk.str (Rk.pair (Rk.slice sigK) Rk.unit))) (fun x => (x.view, x.block, x.sigs, ()))
def blkK : Rk Blk := Rk.iso (Rk.pair (Rk.int .i64) (Rk.pair (Rk.int .i64) (Rk.pair certK (Rk.pair (Rk.slice reqK) Rk.unit)))) (fun x => (x.view, x.prop, x.just, x.batch, ()))

theorem opens_req : Opens Try.prog 70 reqK :=
  opens_iso _ (fun (a, b, c, _) => ⟨a, b, c⟩) (fun _ => rfl) (opens_struct Try.underlying70 (by kernel_rfl) (fs_cons rfl (by kernel_rfl) (opens_int Try.underlying3) (fs_cons rfl (by kernel_rfl) (opens_int Try.underlying3) (fs_cons rfl (by kernel_rfl) (opens_str Try.underlying9) (fs_nil _)))))
theorem opens_reqs : Opens Try.prog 33 (Rk.slice reqK) := opens_slice Try.underlying33 opens_req (by kernel_rfl) (by decide)
theorem opens_strs : Opens Try.prog 90 (Rk.slice Rk.str) := opens_slice Try.underlying90 (opens_str Try.underlying9) (by kernel_rfl) (by decide)
theorem opens_sig : Opens Try.prog 92 sigK :=
  opens_iso _ (fun (a, b, _) => ⟨a, b⟩) (fun _ => rfl) (opens_struct Try.underlying92 (by kernel_rfl) (fs_cons rfl (by kernel_rfl) (opens_int Try.underlying3) (fs_cons rfl (by kernel_rfl) opens_strs (fs_nil _))))
theorem opens_sigs : Opens Try.prog 30 (Rk.slice sigK) := opens_slice Try.underlying30 opens_sig (by kernel_rfl) (by decide)
theorem opens_cert : Opens Try.prog 32 certK :=
  opens_iso _ (fun (a, b, c, _) => ⟨a, b, c⟩) (fun _ => rfl) (opens_struct Try.underlying32 (by kernel_rfl) (fs_cons rfl (by kernel_rfl) (opens_int Try.underlying3) (fs_cons rfl (by kernel_rfl) (opens_str Try.underlying9) (fs_cons rfl (by kernel_rfl) opens_sigs (fs_nil _)))))
theorem opens_blk : Opens Try.prog 35 blkK :=
  opens_iso _ (fun (a, b, c, d, _) => ⟨a, b, c, d⟩) (fun _ => rfl) (opens_struct Try.underlying35 (by kernel_rfl) (fs_cons rfl (by kernel_rfl) (opens_int Try.underlying3) (fs_cons rfl (by kernel_rfl) (opens_int Try.underlying3) (fs_cons rfl (by kernel_rfl) opens_cert (fs_cons rfl (by kernel_rfl) opens_reqs (fs_nil _))))))
theorem opens_blks : Opens Try.prog 27 (Rk.slice blkK) := opens_slice Try.underlying27 opens_blk (by kernel_rfl) (by decide)

def IsI64 (n : Int) : Prop := -9223372036854775808 ≤ n ∧ n ≤ 9223372036854775807
theorem i64_of {n : Int} (h : (Lit.int .i64 n).wf = true) : IsI64 n := by
  have : -9223372036854775808 ≤ n ∧ n ≤ 9223372036854775807 := by simpa [Lit.wf, IntKind.min, IntKind.max, IntKind.bits, IntKind.signed] using h
  exact this

/-- A slice's reading. -/
structure Sl {α : Type} (d : Rk α) (w : World) (A : Option Addr) (c : Nat) (l : List α) : Prop where
  le : l.length ≤ c
  cap : c ≤ 9223372036854775807
  row : Row d w A l
theorem Sl.keep {α : Type} {d : Rk α} {w w1 : World} {A : Option Addr} {c : Nat} {l : List α} (h : Sl d w A c l) (hw : ∀ k, k < w.heap.size → w1.heap[k]? = w.heap[k]?) : Sl d w1 A c l := ⟨h.le, h.cap, h.row.keep hw⟩
theorem Sl.below {α : Type} {d : Rk α} {w w1 : World} {A : Option Addr} {c : Nat} {l : List α} (h : Sl d w A c l) (hb : Below w.heap.size w w1) : Sl d w1 A c l := ⟨h.le, h.cap, h.row.below hb⟩
theorem sl_of {α : Type} {d : Rk α} {w : World} {l : List α} {cs : List Value} (h : (Rk.slice d).K w l cs) : ∃ A c, cs = [.slice A l.length c] ∧ Sl d w A c l := by
  obtain ⟨A, c, rfl, h1, h2, h3⟩ := h
  exact ⟨A, c, rfl, h1, by unfold maxLen at h2; omega, h3⟩
theorem sl_to {α : Type} {d : Rk α} {w : World} {A : Option Addr} {c : Nat} {l : List α} (h : Sl d w A c l) : (Rk.slice d).K w l [.slice A l.length c] :=
  ⟨A, c, rfl, h.le, by unfold maxLen; have := h.cap; omega, h.row⟩

theorem req_open {w : World} {x : Req} {cs : List Value} (h : reqK.K w x cs) : cs = [.int .i64 x.client, .int .i64 x.seq, .string x.body] ∧ IsI64 x.client ∧ IsI64 x.seq ∧ x.body.size ≤ maxLen := by
  obtain ⟨_, _, rfl, ⟨rfl, h1⟩, _, _, rfl, ⟨rfl, h2⟩, _, _, rfl, ⟨rfl, h3⟩, rfl⟩ := h
  exact ⟨rfl, i64_of h1, i64_of h2, h3⟩
theorem sig_open {w : World} {x : Sig} {cs : List Value} (h : sigK.K w x cs) : ∃ A c, cs = [.int .i64 x.node, .slice A x.tags.length c] ∧ IsI64 x.node ∧ Sl Rk.str w A c x.tags := by
  obtain ⟨_, _, rfl, ⟨rfl, h1⟩, _, _, rfl, h2, rfl⟩ := h
  obtain ⟨A, c, rfl, h3⟩ := sl_of h2
  exact ⟨A, c, rfl, i64_of h1, h3⟩
theorem cert_open {w : World} {x : Cert} {cs : List Value} (h : certK.K w x cs) : ∃ A c, cs = [.int .i64 x.view, .string x.block, .slice A x.sigs.length c] ∧ IsI64 x.view ∧ x.block.size ≤ maxLen ∧ Sl sigK w A c x.sigs := by
  obtain ⟨_, _, rfl, ⟨rfl, h1⟩, _, _, rfl, ⟨rfl, h2⟩, _, _, rfl, h3, rfl⟩ := h
  obtain ⟨A, c, rfl, h4⟩ := sl_of h3
  exact ⟨A, c, rfl, i64_of h1, h2, h4⟩
theorem blk_open {w : World} {x : Blk} {cs : List Value} (h : blkK.K w x cs) : ∃ A c B e, cs = [.int .i64 x.view, .int .i64 x.prop, .int .i64 x.just.view, .string x.just.block, .slice A x.just.sigs.length c, .slice B x.batch.length e] ∧ IsI64 x.view ∧ IsI64 x.prop ∧ IsI64 x.just.view ∧ x.just.block.size ≤ maxLen ∧ Sl sigK w A c x.just.sigs ∧ Sl reqK w B e x.batch := by
  obtain ⟨_, _, rfl, ⟨rfl, h1⟩, _, _, rfl, ⟨rfl, h2⟩, _, _, rfl, h3, _, _, rfl, h4, rfl⟩ := h
  obtain ⟨A, c, rfl, h5, h6, h7⟩ := cert_open h3
  obtain ⟨B, e, rfl, h8⟩ := sl_of h4
  exact ⟨A, c, B, e, rfl, i64_of h1, i64_of h2, h5, h6, h7, h8⟩
theorem arr_of {cs : Array Value} {l : List Value} (h : cs.toList = l) : cs = l.toArray := by
  cases cs; simp_all
/-- An element of a row of strings. -/
theorem str_at {w : World} {A : Option Addr} {l : List ByteArray} (h : Row Rk.str w A l) {i : Nat} (hi : i < l.length) : ∃ b o, A = some ⟨b, o, none⟩ ∧ w.cell? ⟨b, o + i, none⟩ = some (.string l[i]) ∧ l[i].size ≤ maxLen := by
  obtain ⟨b, o, cs, hA, ⟨rfl, h1⟩, hc⟩ := h i l[i] (List.getElem?_eq_getElem hi)
  have := hc 0 _ rfl
  simp only [Rk.str, Nat.mul_one, Nat.add_zero] at this
  exact ⟨b, o, hA, this, h1⟩
theorem req_at {w : World} {A : Option Addr} {l : List Req} (h : Row reqK w A l) {i : Nat} (hi : i < l.length) : ∃ b o, A = some ⟨b, o, none⟩ ∧ (w.cell? ⟨b, o + i * 3, none⟩ = some (.int .i64 l[i].client) ∧ w.cell? ⟨b, o + i * 3 + 1, none⟩ = some (.int .i64 l[i].seq) ∧ w.cell? ⟨b, o + i * 3 + 2, none⟩ = some (.string l[i].body)) ∧ IsI64 l[i].client ∧ IsI64 l[i].seq ∧ l[i].body.size ≤ maxLen := by
  obtain ⟨b, o, cs, hA, hk, hc⟩ := h i l[i] (List.getElem?_eq_getElem hi)
  obtain ⟨rfl, h1, h2, h3⟩ := req_open hk
  exact ⟨b, o, hA, ⟨hc 0 _ rfl, hc 1 _ rfl, hc 2 _ rfl⟩, h1, h2, h3⟩
theorem sig_at {w : World} {A : Option Addr} {l : List Sig} (h : Row sigK w A l) {i : Nat} (hi : i < l.length) : ∃ b o B c, A = some ⟨b, o, none⟩ ∧ (w.cell? ⟨b, o + i * 2, none⟩ = some (.int .i64 l[i].node) ∧ w.cell? ⟨b, o + i * 2 + 1, none⟩ = some (.slice B l[i].tags.length c)) ∧ IsI64 l[i].node ∧ Sl Rk.str w B c l[i].tags := by
  obtain ⟨b, o, cs, hA, hk, hc⟩ := h i l[i] (List.getElem?_eq_getElem hi)
  obtain ⟨B, c, rfl, h1, h2⟩ := sig_open hk
  exact ⟨b, o, B, c, hA, ⟨hc 0 _ rfl, hc 1 _ rfl⟩, h1, h2⟩

/-! ### a block of one's own -/
theorem blk_at {w : World} {g : Nat} {t : TypeId} {cs : Array Value} (h : w.heap[g]? = some (.cells cs t (0, 0))) (i : Nat) (v : Value) (hv : cs[i]? = some v) : w.cell? ⟨g, i, none⟩ = some v := by
  unfold World.cell?
  rw [h]
  exact hv
theorem blk_frz {w : World} {g : Nat} {t : TypeId} {cs : Array Value} (h : w.heap[g]? = some (.cells cs t (0, 0))) (i : Nat) : w.frozen? ⟨g, i, none⟩ = false := by
  unfold World.frozen?
  rw [h]
  simp
theorem blk_lt' {w : World} {g : Nat} {o : Obj} (h : w.heap[g]? = some o) : g < w.heap.size := (Array.getElem?_eq_some_iff.1 h).1
theorem blk_keep {w w1 : World} {g : Nat} {o : Obj} (h : w.heap[g]? = some o) (hb : Below w.heap.size w w1) : w1.heap[g]? = some o := (hb.block g (blk_lt' h)).trans h
theorem blk_new (w : World) (o : Obj) : (w.alloc o).heap[w.heap.size]? = some o := by
  show (w.heap.push o)[w.heap.size]? = some o
  simp
theorem blk_new1 (w : World) (a b : Obj) : ((w.alloc a).alloc b).heap[w.heap.size + 1]? = some b := by
  have := blk_new (w.alloc a) b
  simpa using this
theorem blk_new2 (w : World) (a b c : Obj) : (((w.alloc a).alloc b).alloc c).heap[w.heap.size + 1 + 1]? = some c := by
  have := blk_new ((w.alloc a).alloc b) c
  simpa using this
theorem below_then {w W w2 : World} (h : Below w.heap.size w W) (k : Below W.heap.size W w2) : Below w.heap.size w w2 :=
  h.trans ⟨k.os, k.tape, k.output, k.size, fun i hi => k.block i (Nat.lt_of_lt_of_le hi h.size)⟩
theorem below_then' {B : Nat} {w W w2 : World} (h : Below B w W) (hB : B ≤ W.heap.size) (k : Below W.heap.size W w2) : Below B w w2 :=
  h.trans ⟨k.os, k.tape, k.output, k.size, fun i hi => k.block i (Nat.lt_of_lt_of_le hi hB)⟩
theorem below_one (w : World) (o : Obj) : Below w.heap.size w (w.alloc o) := (Below.refl _ _).alloc (Nat.le_refl _) _
theorem bcell {W w1 : World} (hb : Below W.heap.size W w1) : (∀ b o, b < W.heap.size → w1.cell? ⟨b, o, none⟩ = W.cell? ⟨b, o, none⟩) ∧ (∀ b o, b < W.heap.size → w1.frozen? ⟨b, o, none⟩ = W.frozen? ⟨b, o, none⟩) :=
  ⟨fun b o h => hb.cell (p := ⟨b, o, none⟩) h, fun b o h => hb.frozen (p := ⟨b, o, none⟩) h⟩
theorem cell_below {w w1 : World} (h : Below w.heap.size w w1) {a : Addr} {v : Value} (hc : w.cell? a = some v) : w1.cell? a = some v := cell_keep (fun k hk => h.block k hk) hc
end Go.Proofs.Ytjpjphdcpdjlkaa.Api

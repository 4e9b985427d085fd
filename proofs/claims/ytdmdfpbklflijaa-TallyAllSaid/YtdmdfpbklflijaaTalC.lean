/- A tally: takes: walked. -/
import Derived.Test.YtdmdfpbklflijaaTalB
import Derived.Lib.QuietBelow
set_option linter.unusedVariables false
set_option linter.unusedSimpArgs false
namespace Go.Proofs.Ytdmdfpbklflijaa.Tal
open Go.RowKit Go.Sort Rd Api Own Mv App Mk Num Dig Mac

/-- what a vote's row looks at -/
structure Tk (g : Nat) (seed : ByteArray) (tn n below : Int) (A : Option Addr) (c m : Nat) (Bv : Nat) (y : Vt) (W : World) : Prop where
  blk : W.heap[g]? = some (.cells #[.string seed, .int .i64 tn, .int .i64 n, .int .i64 below, .slice A m c] 111 (0, 0))
  vb : W.heap[Bv]? = some (.cells #[.int .i64 y.v, .string y.b, .int .i64 y.s.f, .slice y.s.a y.s.n y.s.c] 113 (0, 0))
theorem Tk.below {g : Nat} {seed : ByteArray} {tn n below : Int} {A : Option Addr} {c m Bv : Nat} {y : Vt} {W W1 : World} (h : Tk g seed tn n below A c m Bv y W) (hb : Below W.heap.size W W1) : Tk g seed tn n below A c m Bv y W1 := ⟨blk_keep h.blk hb, blk_keep h.vb hb⟩
theorem tk_new {g : Nat} {seed : ByteArray} {tn n below : Int} {A : Option Addr} {c m : Nat} {w : World} (h : w.heap[g]? = some (.cells #[.string seed, .int .i64 tn, .int .i64 n, .int .i64 below, .slice A m c] 111 (0, 0))) (y : Vt) :
    Tk g seed tn n below A c m w.heap.size y (w.alloc (.cells #[.int .i64 y.v, .string y.b, .int .i64 y.s.f, .slice y.s.a y.s.n y.s.c] 113)) := ⟨blk_keep h (below_one _ _), blk_new _ _⟩
set_option maxHeartbeats 4000000 in
set_option maxRecDepth 100000 in
theorem takes_no1 {g : Nat} {seed : ByteArray} {tn n below : Int} {A : Option Addr} {c m : Nat} {w : World} (h : w.heap[g]? = some (.cells #[.string seed, .int .i64 tn, .int .i64 n, .int .i64 below, .slice A m c] 111 (0, 0))) (y : Vt) (h1 : y.v < 1) :
    Calls Try.prog 69 #[.pointer (some ⟨g, 0, none⟩), .agg #[.int .i64 y.v, .string y.b, .int .i64 y.s.f, .slice y.s.a y.s.n y.s.c]] w fun e w' => e = .returned (.bool false) ∧ Below w.heap.size w w' := by
  have HT := Sd.mk (tk_new h y)
  have HB := Sd.mk (below_one w (.cells #[.int .i64 y.v, .string y.b, .int .i64 y.s.f, .slice y.s.a y.s.n y.s.c] 113))
  have d1 : decide (y.v < 1) = true := decide_eq_true h1
  clear h
  go_enter Try.func69, Try.ntmps69
  go_upto_region 1 with (fail)
  generalize w.heap.size = Bv at HT ⊢
  generalize w.alloc _ = W1 at HT HB ⊢
  have v0 := blk_at HT.out.vb 0 _ rfl
  have v1 := blk_at HT.out.vb 1 _ rfl
  have t2 := blk_at HT.out.blk 2 _ rfl
  have t3 := blk_at HT.out.blk 3 _ rfl
  have t4 := blk_at HT.out.blk 4 _ rfl
  go_quiet (fail)
  go_wp2
  go_ret
  exact ⟨rfl, below_drewN HB.out nq⟩
set_option maxHeartbeats 4000000 in
set_option maxRecDepth 100000 in
theorem takes_no2 {g : Nat} {seed : ByteArray} {tn n below : Int} {A : Option Addr} {c m : Nat} {w : World} (h : w.heap[g]? = some (.cells #[.string seed, .int .i64 tn, .int .i64 n, .int .i64 below, .slice A m c] 111 (0, 0))) (y : Vt) (h1 : ¬ y.v < 1) (h2 : 1000000 < y.v) :
    Calls Try.prog 69 #[.pointer (some ⟨g, 0, none⟩), .agg #[.int .i64 y.v, .string y.b, .int .i64 y.s.f, .slice y.s.a y.s.n y.s.c]] w fun e w' => e = .returned (.bool false) ∧ Below w.heap.size w w' := by
  have HT := Sd.mk (tk_new h y)
  have HB := Sd.mk (below_one w (.cells #[.int .i64 y.v, .string y.b, .int .i64 y.s.f, .slice y.s.a y.s.n y.s.c] 113))
  have d1 : decide (y.v < 1) = false := decide_eq_false h1
  have d2 : decide (1000000 < y.v) = true := decide_eq_true h2
  clear h
  go_enter Try.func69, Try.ntmps69
  go_upto_region 1 with (fail)
  generalize w.heap.size = Bv at HT ⊢
  generalize w.alloc _ = W1 at HT HB ⊢
  have v0 := blk_at HT.out.vb 0 _ rfl
  have v1 := blk_at HT.out.vb 1 _ rfl
  have t2 := blk_at HT.out.blk 2 _ rfl
  have t3 := blk_at HT.out.blk 3 _ rfl
  have t4 := blk_at HT.out.blk 4 _ rfl
  go_quiet (fail)
  go_wp2
  go_ret
  exact ⟨rfl, below_drewN HB.out nq⟩
set_option maxHeartbeats 4000000 in
set_option maxRecDepth 100000 in
theorem takes_no3 {g : Nat} {seed : ByteArray} {tn n below : Int} {A : Option Addr} {c m : Nat} {w : World} (h : w.heap[g]? = some (.cells #[.string seed, .int .i64 tn, .int .i64 n, .int .i64 below, .slice A m c] 111 (0, 0))) (y : Vt) (h1 : ¬ y.v < 1) (h2 : ¬ 1000000 < y.v) (h3 : y.v ≤ below) :
    Calls Try.prog 69 #[.pointer (some ⟨g, 0, none⟩), .agg #[.int .i64 y.v, .string y.b, .int .i64 y.s.f, .slice y.s.a y.s.n y.s.c]] w fun e w' => e = .returned (.bool false) ∧ Below w.heap.size w w' := by
  have HT := Sd.mk (tk_new h y)
  have HB := Sd.mk (below_one w (.cells #[.int .i64 y.v, .string y.b, .int .i64 y.s.f, .slice y.s.a y.s.n y.s.c] 113))
  have d1 : decide (y.v < 1) = false := decide_eq_false h1
  have d2 : decide (1000000 < y.v) = false := decide_eq_false h2
  have d3 : decide (y.v ≤ below) = true := decide_eq_true h3
  clear h
  go_enter Try.func69, Try.ntmps69
  go_upto_region 1 with (fail)
  generalize w.heap.size = Bv at HT ⊢
  generalize w.alloc _ = W1 at HT HB ⊢
  have v0 := blk_at HT.out.vb 0 _ rfl
  have v1 := blk_at HT.out.vb 1 _ rfl
  have t2 := blk_at HT.out.blk 2 _ rfl
  have t3 := blk_at HT.out.blk 3 _ rfl
  have t4 := blk_at HT.out.blk 4 _ rfl
  go_quiet (fail)
  go_wp2
  go_ret
  exact ⟨rfl, below_drewN HB.out nq⟩
set_option maxHeartbeats 4000000 in
set_option maxRecDepth 100000 in
theorem takes_no4 {g : Nat} {seed : ByteArray} {tn n below : Int} {A : Option Addr} {c m : Nat} {w : World} (h : w.heap[g]? = some (.cells #[.string seed, .int .i64 tn, .int .i64 n, .int .i64 below, .slice A m c] 111 (0, 0))) (y : Vt) (h1 : ¬ y.v < 1) (h2 : ¬ 1000000 < y.v) (h3 : ¬ y.v ≤ below) (h4 : ¬ y.b.size = 32) :
    Calls Try.prog 69 #[.pointer (some ⟨g, 0, none⟩), .agg #[.int .i64 y.v, .string y.b, .int .i64 y.s.f, .slice y.s.a y.s.n y.s.c]] w fun e w' => e = .returned (.bool false) ∧ Below w.heap.size w w' := by
  have HT := Sd.mk (tk_new h y)
  have HB := Sd.mk (below_one w (.cells #[.int .i64 y.v, .string y.b, .int .i64 y.s.f, .slice y.s.a y.s.n y.s.c] 113))
  have d1 : decide (y.v < 1) = false := decide_eq_false h1
  have d2 : decide (1000000 < y.v) = false := decide_eq_false h2
  have d3 : decide (y.v ≤ below) = false := decide_eq_false h3
  have d4 : ((y.b.size : Int) != 32) = true := by rw [bne_iff_ne]; omega
  clear h
  go_enter Try.func69, Try.ntmps69
  go_upto_region 1 with (fail)
  generalize w.heap.size = Bv at HT ⊢
  generalize w.alloc _ = W1 at HT HB ⊢
  have v0 := blk_at HT.out.vb 0 _ rfl
  have v1 := blk_at HT.out.vb 1 _ rfl
  have t2 := blk_at HT.out.blk 2 _ rfl
  have t3 := blk_at HT.out.blk 3 _ rfl
  have t4 := blk_at HT.out.blk 4 _ rfl
  go_quiet (fail)
  go_wp2
  go_ret
  exact ⟨rfl, below_drewN HB.out nq⟩
set_option maxHeartbeats 4000000 in
set_option maxRecDepth 100000 in
theorem takes_no5 {g : Nat} {seed : ByteArray} {tn n below : Int} {A : Option Addr} {c m : Nat} {w : World} (h : w.heap[g]? = some (.cells #[.string seed, .int .i64 tn, .int .i64 n, .int .i64 below, .slice A m c] 111 (0, 0))) (y : Vt) (h1 : ¬ y.v < 1) (h2 : ¬ 1000000 < y.v) (h3 : ¬ y.v ≤ below) (h4 : y.b.size = 32) (h5 : wrap64 (4 * n) ≤ (m : Int)) :
    Calls Try.prog 69 #[.pointer (some ⟨g, 0, none⟩), .agg #[.int .i64 y.v, .string y.b, .int .i64 y.s.f, .slice y.s.a y.s.n y.s.c]] w fun e w' => e = .returned (.bool false) ∧ Below w.heap.size w w' := by
  have HT := Sd.mk (tk_new h y)
  have HB := Sd.mk (below_one w (.cells #[.int .i64 y.v, .string y.b, .int .i64 y.s.f, .slice y.s.a y.s.n y.s.c] 113))
  have d1 : decide (y.v < 1) = false := decide_eq_false h1
  have d2 : decide (1000000 < y.v) = false := decide_eq_false h2
  have d3 : decide (y.v ≤ below) = false := decide_eq_false h3
  have d4 : ((y.b.size : Int) != 32) = false := by rw [bne_eq_false_iff_eq]; omega
  have d5 : decide (wrap64 (4 * n) ≤ (m : Int)) = true := decide_eq_true h5
  clear h
  go_enter Try.func69, Try.ntmps69
  go_upto_region 1 with (fail)
  generalize w.heap.size = Bv at HT ⊢
  generalize w.alloc _ = W1 at HT HB ⊢
  have v0 := blk_at HT.out.vb 0 _ rfl
  have v1 := blk_at HT.out.vb 1 _ rfl
  have t2 := blk_at HT.out.blk 2 _ rfl
  have t3 := blk_at HT.out.blk 3 _ rfl
  have t4 := blk_at HT.out.blk 4 _ rfl
  go_quiet (fail)
  go_wp2
  go_ret
  exact ⟨rfl, below_drewN HB.out nq⟩
theorem holds_len (w : World) (seed tx : ByteArray) (tn n fr : Int) (A : Option Addr) (c : Nat) (l : List ByteArray) (h : Sl Rk.str w A c l) (hs : seed.size ≤ 35184372088832) (ht : tx.size ≤ 35184372088832) (r : Bool) (hr : r = true ↔ holdsF seed tn n tx fr l) (k : Nat) (hk : k = l.length) :
    Calls Try.prog 50 #[.string seed, .int .i64 tn, .int .i64 n, .string tx, .agg #[.int .i64 fr, .slice A k c]] w fun e w' => e = .returned (.bool r) ∧ Below w.heap.size w w' := by
  subst hk; exact holds_any w seed tx tn n fr A c l h hs ht r hr
set_option maxHeartbeats 8000000 in
set_option maxRecDepth 100000 in
theorem takes_had {g : Nat} {seed : ByteArray} {tn n below : Int} {A : Option Addr} {c m : Nat} {w : World} (h : w.heap[g]? = some (.cells #[.string seed, .int .i64 tn, .int .i64 n, .int .i64 below, .slice A m c] 111 (0, 0))) (y : Vt) (h1 : ¬ y.v < 1) (h2 : ¬ 1000000 < y.v) (h3 : ¬ y.v ≤ below) (h4 : y.b.size = 32) (h5 : ¬ wrap64 (4 * n) ≤ (m : Int))
    (vs : List Vt) (hm : m = vs.length) (hs : Sl vtK w A c vs) (had : Bool) (hh : vs.any (same y) = had) (tags : List ByteArray) (hn : y.s.n = tags.length) (ht : had = false → Sl Rk.str w y.s.a y.s.c tags) (hsz : seed.size ≤ 35184372088832) (r : Bool) (hr : had = true ∧ r = false ∨ had = false ∧ (r = true ↔ holdsF seed tn n (vtxt y.v y.b) y.s.f tags)) :
    Calls Try.prog 69 #[.pointer (some ⟨g, 0, none⟩), .agg #[.int .i64 y.v, .string y.b, .int .i64 y.s.f, .slice y.s.a y.s.n y.s.c]] w fun e w' => e = .returned (.bool r) ∧ Below w.heap.size w w' := by
  have HT := Sd.mk (tk_new h y)
  have HB := Sd.mk (below_one w (.cells #[.int .i64 y.v, .string y.b, .int .i64 y.s.f, .slice y.s.a y.s.n y.s.c] 113))
  have d1 : decide (y.v < 1) = false := decide_eq_false h1
  have d2 : decide (1000000 < y.v) = false := decide_eq_false h2
  have d3 : decide (y.v ≤ below) = false := decide_eq_false h3
  have d4 : ((y.b.size : Int) != 32) = false := by rw [bne_eq_false_iff_eq]; omega
  have d5 : decide (wrap64 (4 * n) ≤ (m : Int)) = false := decide_eq_false h5
  have HM := Sd.mk hm
  have HS := Sd.mk hs
  have HH := Sd.mk hh
  have HTG := Sd.mk ht
  have HNT := Sd.mk hn
  have HR := Sd.mk hr
  have HY4 := Sd.mk h4
  have mixed : Try.prog.follows .mixedOrders = true := by kernel_rfl
  clear h hm hs hh ht hn hr
  go_enter Try.func69, Try.ntmps69
  go_upto_region 1 with (fail)
  generalize w.heap.size = Bv at HT ⊢
  generalize w.alloc _ = W1 at HT HB ⊢
  have v0 := blk_at HT.out.vb 0 _ rfl
  have v1 := blk_at HT.out.vb 1 _ rfl
  have t2 := blk_at HT.out.blk 2 _ rfl
  have t3 := blk_at HT.out.blk 3 _ rfl
  have t4 := blk_at HT.out.blk 4 _ rfl
  go_quiet (fail)
  have HB2 := Sd.mk (below_drewN HB.out nq)
  have HT2 := Sd.mk (HT.out.below (below_drewN (Below.refl W1.heap.size W1) nq))
  clear v0 v1 t2 t3 t4 HT HB
  generalize W1.drewN nq = W2 at HB2 HT2 ⊢
  have t4 := blk_at HT2.out.blk 4 _ rfl
  go_upto_region 4 with (first
    | (go_at_call 99; (with_reducible refine (contains_any _ A c vs (HS.out.below HB2.out) Bv y HT2.out.vb m HM.out had HH.out).mono ?_); rintro e w3 ⟨rfl, hb3⟩; have HB3 := Sd.mk (below_then HB2.out hb3); have HT3 := Sd.mk (HT2.out.below hb3); clear hb3))
  clear t4
  cases had with
  | true =>
    obtain rfl : r = false := by
      rcases HR.out with h | h
      · exact h.2
      · cases h.1
    go_quiet (fail)
    go_wp2
    go_ret
    exact ⟨rfl, below_drewN HB3.out nq⟩
  | false =>
    have hr2 : r = true ↔ holdsF seed tn n (vtxt y.v y.b) y.s.f tags := by
      rcases HR.out with h | h
      · cases h.1
      · exact h.2
    obtain ⟨t, htx⟩ : ∃ t, vtxt y.v y.b = t := ⟨_, rfl⟩
    rw [htx] at hr2
    have htz : t.size ≤ 35184372088832 := by rw [← htx]; unfold vtxt; rw [app_size, app_size, num4_size, HY4.out]; show 1 + 4 + 32 ≤ _; omega
    have HTX := Sd.mk htx
    have HR2 := Sd.mk hr2
    have HTZ := Sd.mk htz
    have HSG := Sd.mk ((HTG.out rfl).below HB3.out)
    have HB9 := Sd.mk (show y.b.size ≤ 70368744177664 by rw [HY4.out]; omega)
    clear htx hr2 htz
    have u0 := fun d os => cell_regrown (blk_at HT3.out.blk 0 _ rfl) d os
    have u1 := fun d os => cell_regrown (blk_at HT3.out.blk 1 _ rfl) d os
    have u2 := fun d os => cell_regrown (blk_at HT3.out.blk 2 _ rfl) d os
    have v0 := fun d os => cell_regrown (blk_at HT3.out.vb 0 _ rfl) d os
    have v1 := fun d os => cell_regrown (blk_at HT3.out.vb 1 _ rfl) d os
    have v2 := fun d os => cell_regrown (blk_at HT3.out.vb 2 _ rfl) d os
    have v3 := fun d os => cell_regrown (blk_at HT3.out.vb 3 _ rfl) d os
    refine wp_region_quiet_below (by assumption) (by kernel_rfl) ?_
    repeat (quiet_step ((first
      | (go_at_call 23; refine Calls.regrown_of (text_any _ y.v y.b HB9.out t HTX.out))
      | (go_at_call 50; refine Calls.regrown_of (holds_len _ seed t tn n y.s.f y.s.a y.s.c tags (HSG.out.below (below_regrown _ _ _)) hsz HTZ.out r HR2.out y.s.n HNT.out)))))
    refine wpQuiet_nil ?_
    rintro W9 ⟨⟨nq, osq⟩, rfl⟩
    have HB10 := Sd.mk (below_then HB3.out (below_regrown w3 nq osq))
    go_wp2
    go_ret
    exact ⟨rfl, HB10.out⟩
end Go.Proofs.Ytdmdfpbklflijaa.Tal

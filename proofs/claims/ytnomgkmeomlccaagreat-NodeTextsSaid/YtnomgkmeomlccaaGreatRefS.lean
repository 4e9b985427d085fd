/- Bytes in a slice of the call's own; appending a zero, copying a string. -/
import Derived.Test.YtnomgkmeomlccaaGreatDig
import Derived.Test.YtnomgkmeomlccaaGreatRefW
import Derived.Lib.ConvBytes
import Derived.ArgAppend
import Derived.Laws.CopyRow
import Derived.Laws.IdiomCopy
import Derived.Laws.MakeOwn
import Derived.Lib.AppendStr
set_option linter.unusedVariables false
set_option linter.unusedSimpArgs false
namespace Go.Proofs.YtnomgkmeomlccaaGreat.RefS
open Go.RowKit Rd Api Own Mv Word Vec Mix Tab Step Dig

theorem xor_perm (a b : Nat) : (a ^^^ 16842784) ^^^ b = a ^^^ (16842752 ^^^ b ^^^ 32) := by
  have e : (16842784 : Nat) = 16842752 ^^^ 32 := by decide +kernel
  rw [e]
  simp only [Nat.xor_assoc, Nat.xor_comm 32 b]
/-- the words behind q blocks, the last among them -/
def st (k : Nat) (B : Nat → Nat) (n q : Nat) : Nat → Nat := if q ≤ qn n then Dig.hs k B q else fin k B n
/-- n bytes in block g (one of the call's own, from base on), with room for cap -/
structure Bys (base g cap n : Nat) (B : Nat → Nat) (W : World) : Prop where
  ge : base ≤ g
  lt : g < W.heap.size
  le : n ≤ cap
  hcap : cap ≤ 9223372036854775807
  at' : ∀ j, j < n → W.cell? ⟨g, j, none⟩ = some (.int .u8 (B j))
  is : ∀ j, j < cap → (W.cell? ⟨g, j, none⟩).isSome = true
  fr : ∀ j, j < cap → W.frozen? ⟨g, j, none⟩ = false
theorem Bys.same {base g cap n : Nat} {B : Nat → Nat} {W W1 : World} (h : Bys base g cap n B W) (hs : W.heap.size ≤ W1.heap.size) (hb : W1.heap[g]? = W.heap[g]?) : Bys base g cap n B W1 := by
  have hc : ∀ j, W1.cell? ⟨g, j, none⟩ = W.cell? ⟨g, j, none⟩ := fun j => World.cell?_of_block hb
  have hf : ∀ j, W1.frozen? ⟨g, j, none⟩ = W.frozen? ⟨g, j, none⟩ := fun j => World.frozen?_of_block hb
  exact ⟨h.ge, Nat.lt_of_lt_of_le h.lt hs, h.le, h.hcap, fun j hj => (hc j).trans (h.at' j hj), fun j hj => by rw [hc]; exact h.is j hj, fun j hj => by rw [hf]; exact h.fr j hj⟩
theorem Bys.below {base g cap n : Nat} {B : Nat → Nat} {W W1 : World} (h : Bys base g cap n B W) (hb : Below W.heap.size W W1) : Bys base g cap n B W1 := h.same hb.size (hb.block g h.lt)
theorem Bys.drew {base g cap n : Nat} {B : Nat → Nat} {W : World} (h : Bys base g cap n B W) : Bys base g cap n B W.drew := h.same (Nat.le_refl _) rfl
theorem Bys.row {base g cap n : Nat} {B : Nat → Nat} {W : World} (h : Bys base g cap n B W) {g2 : Nat} (hne : g ≠ g2) (cs : Array Value) : Bys base g cap n B (W.setRow g2 cs) := h.same (by simp [World.setRow]) (row_heap W g2 cs g hne)
theorem Bys.set {base g cap n : Nat} {B : Nat → Nat} {W : World} (h : Bys base g cap n B W) {g2 : Nat} (hne : g ≠ g2) (i : Nat) (u : Value) : Bys base g cap n B (W.setCell ⟨g2, i, none⟩ u) := h.same (by simp [World.setCell]) (heap_set W g2 i u g hne)
theorem Bys.congr {base g cap n : Nat} {B B1 : Nat → Nat} {W : World} (h : Bys base g cap n B W) (e : ∀ j, j < n → B j = B1 j) : Bys base g cap n B1 W := ⟨h.ge, h.lt, h.le, h.hcap, fun j hj => by rw [← e j hj]; exact h.at' j hj, h.is, h.fr⟩
theorem Bys.bts {base g cap n : Nat} {B : Nat → Nat} {W : World} (h : Bys base g cap n B W) {q : Nat} (hq : 64 * q + 64 ≤ n) : RefB.Bts W g (64 * q) (cut B q) := ⟨h.lt, fun i hi => by rw [h.at' _ (by omega)]; unfold cut; rw [if_pos hi]⟩

theorem Bys.lower {base base1 g cap n : Nat} {B : Nat → Nat} {W : World} (h : Bys base g cap n B W) (hb : base1 ≤ base) : Bys base1 g cap n B W := ⟨Nat.le_trans hb h.ge, h.lt, h.le, h.hcap, h.at', h.is, h.fr⟩
/-- the bytes of a string, as a slice -/
theorem bys_conv (w : World) (s : ByteArray) (hs : s.size ≤ 4611686018427387904) : Bys w.heap.size w.heap.size (grownCap w s.size 0 5) s.size (byt s) (Lib.bytesWorld w 5 s) ∧ Below w.heap.size w (Lib.bytesWorld w 5 s) := by
  have hn := Lib.bytesWorld_at_new w 5 s
  have hge := grownCap_ge w s.size 0 5
  have hle := grownCap_le_maxLen w s.size 0 5 (by unfold maxLen; omega)
  unfold maxLen at hle
  have hsz : (Lib.bytesCells w 5 s).size = grownCap w s.size 0 5 := by
    unfold Lib.bytesCells
    rw [Array.size_append, Array.size_map, Array.size_replicate]
    have : s.data.size = s.size := rfl
    omega
  refine ⟨⟨Nat.le_refl _, by rw [Lib.bytesWorld_size]; omega, hge, by omega, fun j hj => Lib.bytesWorld_cell w _ s j hj, fun j hj => ?_, fun j hj => ?_⟩, ⟨rfl, rfl, rfl, by rw [Lib.bytesWorld_size]; omega, fun k hk => Lib.bytesWorld_at_old w _ s k hk⟩⟩
  · unfold World.cell?
    rw [hn]
    simp only [Option.bind_some]
    have hj2 : j < (Lib.bytesCells w 5 s).size := by omega
    simp [hj2]
  · unfold World.frozen?
    rw [hn]
    simp only [hsz]
    simp
    omega

set_option maxHeartbeats 1000000 in
/-- append of a zero -/
theorem app_zero {ops : Array Oper} {rest : List Oper} {o : Oper} {a : Act} {Q : Exit → Act → World → Prop} {w0 W : World} (base : Nat) (hgd : o.guard = none) (s x : Operand)
    (ho : o.op = .call { callee := .builtin .append, args := #[s, x], argTypes := #[85, 85] }) {g cap n : Nat} {B : Nat → Nat} (h : Bys base g cap n B W) (hB : B n = 0) (hb : Below base w0 W) (hl : n + 1 ≤ 140737488355328)
    (hs : a.eval s = .slice (some ⟨g, 0, none⟩) n cap) (hx : a.eval x = .slice (some ⟨W.heap.size, 0, none⟩) 1 1)
    (hK : ∀ g1 cap1 w1, Bys base g1 cap1 (n + 1) B w1 → Below base w0 w1 → wpList Tryz.prog ops Q rest (a.put o.dst (.slice (some ⟨g1, 0, none⟩) (n + 1) cap1)) w1) :
    wpList Tryz.prog ops Q (o :: rest) a (W.alloc (.cells #[.int .u8 0] 5)) := by
  have hg := h.lt
  have hge := h.ge
  have h2 := h.below (below_one W (.cells #[.int .u8 0] 5))
  have hb2 := hb.alloc (B := base) (by omega) (.cells #[.int .u8 0] 5)
  have hnew : ∀ j u, [Value.int .u8 0][j]? = some u → (W.alloc (.cells #[.int .u8 0] 5)).cell? ((⟨W.heap.size, 0, none⟩ : Addr).add j) = some u := fun j u hj => by
    rw [add_flat, Nat.zero_add]
    exact blk_at (blk_new W _) j u (by simpa using hj)
  have holds : ∀ j u, ((List.range n).map fun j => Value.int .u8 (B j))[j]? = some u → (W.alloc (.cells #[.int .u8 0] 5)).cell? ⟨g, 0 + j, none⟩ = some u := fun j u hj => by
    rw [Nat.zero_add]
    have hn : j < n := by have := (List.getElem?_eq_some_iff.1 hj).1; simpa using this
    rw [List.getElem?_map, List.getElem?_range hn] at hj
    simp only [Option.map_some, Option.some.injEq] at hj
    subst hj
    exact h2.at' j hn
  have hin : ((Tryz.prog).info? 5).map (fun i => (i.zero, i.size, i.bytes)) = some (some (.int .u8 0), 1, 1) := by kernel_rfl
  obtain ⟨i, hi, hin2⟩ := Option.map_eq_some_iff.1 hin
  simp only [Prod.mk.injEq] at hin2
  obtain ⟨i0, i1, i2⟩ := hin2
  · refine wpList_append_arg (W.alloc (.cells #[.int .u8 0] 5)) hgd s x 85 ho 5 i (.int .u8 0) 1 1 Tryz.underlying85 hi i0 i1 i2 rfl (by decide) g 0 n cap ((List.range n).map fun j => Value.int .u8 (B j)) hs (by simp) holds
      ⟨W.heap.size, 0, none⟩ 1 1 [.int .u8 0] hx rfl hnew (by simp [Value.oneCell']) (fun hr j hj => ?_) (by unfold maxLen; omega) (by omega) (fun hr => ?_) (fun hg v' w' hown hgr => ?_)
    · obtain rfl : j = 0 := by simpa using hj
      simp only [Nat.zero_add, Nat.mul_one, Nat.add_zero]
      exact ⟨h2.is n (by omega), h2.fr n (by omega)⟩
    · simp only [World.setCells, Nat.zero_add, Nat.mul_one]
      refine hK g cap _ ⟨hge, by simp [World.setCell]; omega, hr, h2.hcap, fun j hj => ?_, fun j hj => ?_, fun j hj => ?_⟩ (hb2.setCell (p := ⟨g, n, none⟩) hge _)
      · by_cases hjn : j = n
        · subst hjn
          rw [hB]
          exact World.cell?_setCell_same' _ _ _ (h2.is j (by omega))
        · rw [World.cell?_setCell_other _ _ _ _ (fun e => hjn (by cases e; rfl))]
          exact h2.at' j (by omega)
      · by_cases hjn : j = n
        · subst hjn
          rw [World.cell?_setCell_same' _ _ _ (h2.is j hj)]
          try rfl
        · rw [World.cell?_setCell_other _ _ _ _ (fun e => hjn (by cases e; rfl))]
          exact h2.is j hj
      · rw [World.frozen?_setCell]
        exact h2.fr j hj
    · rcases hown.2 with ⟨-, h0⟩ | ⟨g1, cap1, cur, rfl, hb1, hh, hle, hcap, hsz, hcur⟩
      · omega
      · unfold maxLen at hcap
        have hcur' : ∀ j, j < n + 1 → cur[j]? = some (.int .u8 (B j)) := fun j hj => by
          have e := congrArg (·[j]?) hcur
          simp only [Nat.mul_one, List.getElem?_take, hj, if_true] at e
          rw [Array.getElem?_toList] at e
          rw [e]
          by_cases hjn : j < n
          · rw [List.getElem?_append_left (by simpa using hjn)]
            simp [hjn]
          · obtain rfl : j = n := by omega
            rw [List.getElem?_append_right (by simp)]
            simp [hB]
        refine hK g1 cap1 w' ⟨?_, blk_lt' hh, hle, by omega, fun j hj => blk_at hh j _ (hcur' j hj), fun j hj => ?_, fun j hj => blk_frz hh j⟩ (hb2.grown hgr (by simp; omega) (fun k hk => by cases hk))
        · have : (W.alloc (.cells #[.int .u8 0] 5)).heap.size = W.heap.size + 1 := by simp
          omega
        · have : j < cur.size := by omega
          rw [blk_at hh j _ (Array.getElem?_eq_getElem this)]
          rfl

theorem made_at (m j : Nat) (hj : j < m) : (madeCells (Value.cells (.int .u8 0)) m)[j]? = some (.int .u8 0) := by
  have hs : (madeCells (Value.cells (.int .u8 0)) m).size = m := size_madeCells _ _
  rw [Array.getElem?_eq_getElem (by omega)]
  simp [madeCells, Value.cells, Nat.mod_one]
theorem make_bytes (W : World) (m : Nat) (hm : m ≤ 140737488355328) : ∃ W1, (Instr.makeSlice 85 (.int .i64 (m : Int)) (.int .i64 (m : Int))).run Tryz.prog W = .ok (.slice (some ⟨W.heap.size, 0, none⟩) m m) W1 ∧
    Bys W.heap.size W.heap.size m m (fun _ => 0) W1 ∧ Below W.heap.size W W1 := by
  have hin : ((Tryz.prog).info? 5).map (fun i => (i.zero, i.size, i.bytes)) = some (some (.int .u8 0), 1, 1) := by kernel_rfl
  obtain ⟨i, hi, hin2⟩ := Option.map_eq_some_iff.1 hin
  simp only [Prod.mk.injEq] at hin2
  obtain ⟨i0, i1, i2⟩ := hin2
  have hr := run_make (P := Tryz.prog) W 85 5 i (.int .u8 0) Tryz.underlying85 hi i0 .i64 .i64 (m : Int) (m : Int) (by omega) (by omega) (by rw [i2]; omega) (by omega)
  simp only [Int.toNat_natCast, i1, Nat.mul_one] at hr
  have hs : (madeCells (Value.cells (.int .u8 0)) m).size = m := size_madeCells _ _
  refine ⟨_, hr, ⟨Nat.le_refl _, by simp, Nat.le_refl _, by omega, fun j hj => blk_at (blk_new W _) j _ (made_at m j hj), fun j hj => ?_, fun j hj => blk_frz (blk_new W _) j⟩, below_one W _⟩
  rw [blk_at (blk_new W _) j _ (made_at m j hj)]
  rfl

def lay (B : Nat → Nat) (off : Nat) (x : ByteArray) : Nat → Nat := fun j => if off ≤ j ∧ j < off + x.size then byt x (j - off) else B j
theorem lay_strm (key s : ByteArray) (hk : key.size ≤ 64) (h0 : key.size ≠ 0) : ∀ j, j < 64 + s.size → lay (lay (fun _ => 0) 0 key) 64 s j = byt (strm key s) j := fun j hj => by
  unfold strm
  rw [if_neg h0, byt_append, byt_append, app_size, zeros_size, byt_zeros]
  unfold lay
  rw [show key.size + (64 - key.size) = 64 by omega]
  by_cases h1 : j < 64
  · have c1 : ¬ (64 ≤ j ∧ j < 64 + s.size) := by omega
    rw [if_neg c1, if_pos h1]
    by_cases h2 : j < key.size
    · have c2 : 0 ≤ j ∧ j < 0 + key.size := by omega
      rw [if_pos c2, if_pos h2, Nat.sub_zero]
    · have c2 : ¬ (0 ≤ j ∧ j < 0 + key.size) := by omega
      rw [if_neg c2, if_neg h2]
  · have c1 : 64 ≤ j ∧ j < 64 + s.size := by omega
    rw [if_pos c1, if_neg h1]
theorem whole (x : ByteArray) : x.extract 0 x.size = x := bytes_ext (by rw [ext_size (Nat.le_refl _)]; omega) (fun i hi => by
  rw [ext_size (Nat.le_refl _)] at hi
  rw [byt_extract, Nat.zero_add, if_pos (by omega)])

theorem size_setCells (g : Nat) : ∀ (vs : List Value) (o : Nat) (w : World), (w.setCells g o vs).heap.size = w.heap.size
  | [], _, _ => rfl
  | v :: r, o, w => by
    simp only [World.setCells]
    rw [size_setCells g r]
    simp [World.setCell]
theorem below_setCells {B g : Nat} {w0 : World} (hg : B ≤ g) : ∀ (vs : List Value) (o : Nat) {w : World}, Below B w0 w → Below B w0 (w.setCells g o vs)
  | [], _, _, h => h
  | v :: r, o, w, h => below_setCells hg r (o + 1) (h.setCell (p := ⟨g, o, none⟩) hg v)

set_option maxHeartbeats 1000000 in
/-- copy of a string into bytes -/
theorem copy_str {w0 W : World} {base g cap n : Nat} {B : Nat → Nat} (h : Bys base g cap n B W) (hb : Below base w0 W) (A : Addr) (off dLen dCap : Nat) (s : ByteArray) (ty : TypeId)
    (hA : s.size ≠ 0 → A = ⟨g, off, none⟩) (hl : s.size ≤ dLen) (hf : off + s.size ≤ n) :
    ∃ w1, (Builtin.copy_ #[85, 9] ty #[.slice (some A) dLen dCap, .string s]).run Tryz.prog W = .ok (.int .i64 s.size) w1 ∧ Bys base g cap n (lay B off s) w1 ∧ Below base w0 w1 := by
  have hmin : Nat.min s.size dLen = s.size := Nat.min_eq_left hl
  have hsz : ((Tryz.prog).info? 5).map (·.size) = some 1 := by kernel_rfl
  obtain ⟨i, hi, hi1⟩ := Option.map_eq_some_iff.1 hsz
  by_cases h0 : s.size = 0
  · have hrun : (Builtin.copy_ #[85, 9] ty #[.slice (some A) dLen dCap, .string s]).run Tryz.prog W = .ok (goInt s.size) W := by
      have hdt : s.data = #[] := Array.eq_empty_of_size_eq_zero h0
      simp [Builtin.copy_, run_underlying Tryz.underlying85, Builtin.lenOf, Builtin.firstCells, sizeOf, typeInfo, hi, hi1, hmin, whole, hdt, storeCells]
    refine ⟨W, hrun, (h.congr fun j hj => ?_), hb⟩
    unfold lay
    rw [if_neg (by omega)]
  · obtain rfl := hA h0
    have hln : (Lib.strCells s).length = s.size := Lib.strCells_length s
    have hst := run_storeCells_cells (P := Tryz.prog) g off (Lib.strCells s) 0 W (fun j hj => by rw [Nat.add_zero]; exact h.is _ (by have := h.le; omega)) (fun j hj => by rw [Nat.add_zero]; exact h.fr _ (by have := h.le; omega)) (fun v hv => by
      simp only [Lib.strCells, List.mem_map] at hv
      obtain ⟨b, -, rfl⟩ := hv
      rfl)
    rw [Nat.add_zero] at hst
    have hrun : (Builtin.copy_ #[85, 9] ty #[.slice (some ⟨g, off, none⟩) dLen dCap, .string s]).run Tryz.prog W = .ok (goInt s.size) (W.setCells g off (Lib.strCells s)) := by
      have e : (s.data.map fun b => Value.int .u8 b.toNat).toList = Lib.strCells s := by simp [Lib.strCells]
      simp only [Builtin.copy_, Sem.run_bind]
      simp [run_underlying Tryz.underlying85, Builtin.lenOf, Builtin.firstCells, sizeOf, typeInfo, hi, hi1, hmin, whole]
      simp only [Lib.strCells] at hst e
      rw [List.take_of_length_le (by rw [List.length_map, Array.length_toList]; exact Nat.le_refl _), hst]
      rfl
    refine ⟨_, hrun, ⟨h.ge, ?_, h.le, h.hcap, fun j hj => ?_, fun j hj => ?_, fun j hj => ?_⟩, ?_⟩
    · rw [size_setCells]; exact h.lt
    · unfold lay
      by_cases hin : off ≤ j ∧ j < off + s.size
      · rw [if_pos hin]
        have := World.cell?_setCells_in g (Lib.strCells s) off W (fun j hj => h.is _ (by have := h.le; omega)) (j - off) (by rw [hln]; omega)
        rw [show off + (j - off) = j by omega] at this
        rw [this]
        simp only [Lib.strCells, List.getElem_map, byt_get]
        rw [List.getElem?_eq_getElem (by have : s.data.toList.length = s.size := by simp
                                         omega)]
        rfl
      · rw [if_neg hin, World.cell?_setCells_out g _ _ _ _ (fun _ _ => by simp only [hln]; omega)]
        exact h.at' j hj
    · by_cases hin : off ≤ j ∧ j < off + s.size
      · have := World.cell?_setCells_in g (Lib.strCells s) off W (fun j hj => h.is _ (by have := h.le; omega)) (j - off) (by rw [hln]; omega)
        rw [show off + (j - off) = j by omega] at this
        rw [this]
        rfl
      · rw [World.cell?_setCells_out g _ _ _ _ (fun _ _ => by simp only [hln]; omega)]
        exact h.is j hj
    · rw [World.frozen?_setCells]
      exact h.fr j hj
    · exact below_setCells h.ge _ _ hb
end Go.Proofs.YtnomgkmeomlccaaGreat.RefS

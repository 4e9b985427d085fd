/- A certificate of bytes: walked. -/
import Derived.Test.YtdmdfpbklflijaaRwC
set_option linter.unusedVariables false
set_option linter.unusedSimpArgs false
namespace Go.Proofs.Ytdmdfpbklflijaa.Rp
open Go.RowKit Rd Api Own Mv App Num

/-- whether all was read, and well -/
def doneB (s : RS) : Bool := !s.bad && decide (s.b = ET)
theorem list_nil {b : ByteArray} : b.toList = [] ↔ b = ET := by
  rw [ByteArray.toList_eq]
  exact ⟨fun h => bytes_ext (by rw [h]; rfl), fun h => by rw [h]; rfl⟩
set_option maxHeartbeats 1000000 in
theorem done_any {g : Nat} {s : RS} {W : World} (h : Rb g s W) (r : Bool) (hr : doneB s = r) : Calls Try.prog 104 #[.pointer (some ⟨g, 0, none⟩)] W fun e w' => e = .returned (.bool r) ∧ w' = W := by
  subst hr
  have c0 := blk_at h 0 _ rfl
  have c1 := blk_at h 1 _ rfl
  clear h
  obtain ⟨b, bad⟩ := s
  simp only at c0 c1
  cases bad with
  | true =>
    go_enter Try.func104, Try.ntmps104
    go_wp2
    go_ret
    exact ⟨rfl, rfl⟩
  | false =>
    by_cases hb : b = ET
    · subst hb
      have e1 : ET.toList.isEmpty = true := by rw [ByteArray.toList_eq]; rfl
      have e2 : ET.toList = [] := by rw [ByteArray.toList_eq]; rfl
      go_enter Try.func104, Try.ntmps104
      go_wp2
      go_ret
      exact ⟨rfl, rfl⟩
    · have HD := Sd.mk (show doneB ⟨b, false⟩ = false by simp [doneB, hb])
      have e0 : b.toList ≠ [] := fun e => hb (list_nil.1 e)
      have e1 : b.toList.isEmpty = false := by cases hl : b.toList with
        | nil => exact absurd hl e0
        | cons x r => rfl
      have e2 : (b.toList == []) = false := by rw [beq_eq_false_iff_ne]; exact e0
      rw [HD.out]
      clear hb HD
      go_enter Try.func104, Try.ntmps104
      go_wp2
      go_ret
      exact ⟨rfl, rfl⟩
theorem Cr.below {W0 W W1 : World} {A : Option Addr} {n c : Nat} {xs : List Sg.Sig} (h : Cr W0 A n c xs W) (hb : Below W.heap.size W W1) : Cr W0 A n c xs W1 := by
  obtain ⟨⟨rs, h1, h2⟩, h3⟩ := h
  exact ⟨⟨rs, h1.below hb, h2.below hb⟩, h3⟩
theorem Cr.grown {W0 W W1 : World} {A : Option Addr} {n c : Nat} {xs : List Sg.Sig} (h : Cr W0 A n c xs W) {row : Option Nat} (hg : W.grownBy W1 row) {k : Nat} {cs : Array Value} {t : TypeId} (hr : row = some k) (hk : W.heap[k]? = some (.cells cs t (0, 0))) (h1 : 39 ≠ t) (h2 : 9 ≠ t) : Cr W0 A n c xs W1 := by
  obtain ⟨⟨rs, o, tg⟩, h3⟩ := h
  exact ⟨⟨rs, OwnR.grown o hg (.inr (by rw [hr]; exact OwnR.blk o hk h1)), tg.grown hg (fun j e => by rw [hr] at e; obtain rfl := Option.some.inj e; exact ⟨_, _, hk, h2⟩)⟩, h3⟩
/-- a signature without bounds, read -/
def sgK : Rk Sg.Sig := Rk.iso (Rk.pair (Own.num .i64) (Rk.pair (Rk.slice Rk.str) Rk.unit)) (fun x => (x.node, x.tags, ()))
theorem rg_row {W : World} {A : Option Addr} {n c : Nat} {rs : List Rg} (h : OwnR fG 2 W 0 39 (.slice A n c) rs) : n = rs.length ∧ n ≤ c ∧ c ≤ 9223372036854775807 ∧ ∀ (i : Nat) (r : Rg), rs[i]? = some r → ∃ g, A = some ⟨g, 0, none⟩ ∧ W.cell? ⟨g, i * 2, none⟩ = some (.int .i64 r.f) ∧ W.cell? ⟨g, i * 2 + 1, none⟩ = some (.slice r.a r.n r.c) := by
  rcases h.2 with ⟨h1, h0⟩ | ⟨g, cap, cur, h1, hb, hh, hle, hcap, hsz, hcur⟩
  · simp only [Value.slice.injEq] at h1
    exact ⟨by rw [h0]; exact h1.2.1, by omega, by omega, fun i r hr => by rw [List.eq_nil_of_length_eq_zero h0] at hr; simp at hr⟩
  · simp only [Value.slice.injEq] at h1
    refine ⟨h1.2.1, by omega, by unfold maxLen at hcap; omega, fun i r hr => ⟨g, h1.1, ?_, ?_⟩⟩
    · have hg := flat_get (f := fG) (n := 2) (fun _ => rfl) rs i r hr 0 _ rfl
      rw [← hcur, List.getElem?_take] at hg
      split at hg
      · exact blk_at hh _ _ (by simpa using hg)
      · cases hg
    · have hg := flat_get (f := fG) (n := 2) (fun _ => rfl) rs i r hr 1 _ rfl
      rw [← hcur, List.getElem?_take] at hg
      split at hg
      · exact blk_at hh _ _ (by simpa using hg)
      · cases hg
def strK0 : Rk ByteArray where
  sz := 1
  K := fun _ s cs => cs = [.string s]
  len := fun h => by rw [h]; rfl
  keep := fun _ h => h
/-- it is read as any other list of signatures -/
theorem Cr.reads {W0 W : World} {A : Option Addr} {n c : Nat} {xs : List Sg.Sig} (h : Cr W0 A n c xs W) (hn : n = xs.length) (hz : ∀ x ∈ xs, ∀ t ∈ x.tags, t.size ≤ 9223372036854775807) : Sl sgK W A c xs := by
  obtain ⟨⟨rs, o, tg⟩, h3⟩ := h
  obtain ⟨h1, h2, h4, hrow⟩ := rg_row o
  refine ⟨by omega, h4, fun i x hx => ?_⟩
  have hi := (List.getElem?_eq_some_iff.1 hx).1
  have hir : i < rs.length := by rw [tg.1]; exact hi
  have hr : rs[i]? = some rs[i] := List.getElem?_eq_getElem hir
  obtain ⟨g, rfl, c0, c1⟩ := hrow i _ hr
  obtain ⟨t0, t1, t2, t3⟩ := tg.2 i _ x hr hx
  generalize rs[i] = r at c0 c1 t0 t1 t2 t3
  obtain ⟨A2, c2, e2, s2⟩ := OwnR.reads (d := strK0) (f := fT) (n := 1) (fun _ _ => rfl) (fun _ => rfl) rfl t2
  simp only [Value.slice.injEq] at e2
  obtain ⟨e3, e4, e5⟩ := e2
  refine ⟨g, 0, [.int .i64 x.node, .slice r.a x.tags.length r.c], rfl, ⟨[.int .i64 x.node], [.slice r.a x.tags.length r.c], rfl, rfl, [.slice r.a x.tags.length r.c], [], rfl, ⟨r.a, r.c, rfl, ?_, ?_, ?_⟩, rfl⟩, fun j v hv => ?_⟩
  · rw [e5]; exact s2.le
  · rw [e5]; unfold maxLen; exact s2.cap
  · intro j t ht
    obtain ⟨b, o2, cs, hA, hK, hc⟩ := s2.row j t ht
    exact ⟨b, o2, cs, by rw [e3]; exact hA, ⟨hK, by unfold maxLen; exact hz x (List.mem_of_getElem? hx) t (List.mem_of_getElem? ht)⟩, hc⟩
  · show W.cell? ⟨g, 0 + i * 2 + j, none⟩ = some v
    rw [Nat.zero_add]
    match j, hv with
    | 0, hv => simp only [List.getElem?_cons_zero, Option.some.injEq] at hv; subst hv; rw [← t0]; exact c0
    | 1, hv => simp only [List.getElem?_cons_succ, List.getElem?_cons_zero, Option.some.injEq] at hv; subst hv; rw [← t1]; exact c1
    | j + 2, hv => simp at hv
theorem sg_at {W : World} {A : Option Addr} {c : Nat} {xs : List Sg.Sig} (h : Sl sgK W A c xs) {i : Nat} {x : Sg.Sig} (hx : xs[i]? = some x) : ∃ b o A' c', A = some ⟨b, o, none⟩ ∧ W.cell? ⟨b, o + i * 2, none⟩ = some (.int .i64 x.node) ∧ W.cell? ⟨b, o + i * 2 + 1, none⟩ = some (.slice A' x.tags.length c') ∧ Sl Rk.str W A' c' x.tags := by
  obtain ⟨b, o, cs, hA, ⟨c0, c1, rfl, rfl, c2, c3, rfl, h1, rfl⟩, hc⟩ := h.row i x hx
  obtain ⟨A', c', rfl, hs⟩ := sl_of h1
  exact ⟨b, o, A', c', hA, hc 0 _ rfl, hc 1 _ rfl, hs⟩
theorem sg_of {W : World} {A : Option Addr} {c : Nat} {xs : List Sg.Sig} (h : Sl Sg.sigK W A c xs) : Sl sgK W A c xs := by
  refine ⟨h.le, h.cap, fun i x hx => ?_⟩
  obtain ⟨b, o, cs, hA, ⟨c0, c1, rfl, ⟨h0, _⟩, h2⟩, hc⟩ := h.row i x hx
  exact ⟨b, o, _, hA, ⟨c0, c1, rfl, h0, h2⟩, hc⟩
set_option maxHeartbeats 4000000 in
set_option maxRecDepth 100000 in
theorem read_any (w : World) (b : ByteArray) (hz : b.size ≤ 9223372036854775807) (x : Cert) (t : RS) (hx : certF ⟨b, false⟩ = (x, t)) :
    Calls Try.prog 79 #[.string b] w fun e w' => Below w.heap.size w w' ∧ ((doneB t = false ∧ e = .returned (.tuple #[.agg #[.int .i64 0, .string { data := #[] }, .slice none 0 0], .int .i64 2])) ∨ (doneB t = true ∧ ∃ A c, e = .returned (.tuple #[.agg #[.int .i64 x.view, .string x.block, .slice A x.sigs.length c], .int .i64 0]) ∧ Sl sgK w' A c x.sigs)) := by
  have b0 := below_one w (.cells #[.int .i64 0, .string { data := #[] }, .slice none 0 0] 24)
  have HR := Sd.mk (show Rb (w.heap.size + 1) ⟨b, false⟩ ((w.alloc (.cells #[.int .i64 0, .string { data := #[] }, .slice none 0 0] 24)).alloc (.cells #[.string b, .bool false] 148)) from blk_new1 _ _ _)
  have HC := Sd.mk (cert_any HR.out hz x t hx)
  have HZ := Sd.mk (show ∀ y ∈ x.sigs, ∀ u ∈ y.tags, u.size ≤ 9223372036854775807 from fun y hy u hu => by
    have h1 := (cert_le ⟨b, false⟩).2.2.2 y (by rw [hx]; exact hy)
    have h2 := h1.2 u hu
    simp only at h2; omega)
  have HB := Sd.mk (below_then b0 (below_one (w.alloc (.cells #[.int .i64 0, .string { data := #[] }, .slice none 0 0] 24)) (.cells #[.string b, .bool false] 148)))
  have HX := Sd.mk (show ((w.alloc (.cells #[.int .i64 0, .string { data := #[] }, .slice none 0 0] 24)).alloc (.cells #[.string b, .bool false] 148)).heap[w.heap.size]? = some (.cells #[.int .i64 0, .string { data := #[] }, .slice none 0 0] 24 (0, 0)) from blk_keep (blk_new w _) (below_one _ _))
  have HSZ := Sd.mk (show ((w.alloc (.cells #[.int .i64 0, .string { data := #[] }, .slice none 0 0] 24)).alloc (.cells #[.string b, .bool false] 148)).heap.size = w.heap.size + 1 + 1 by simp)
  clear hx hz b0
  go_enter Try.func79, Try.ntmps79
  go_upto_region 2 with (fail)
  generalize hk1 : w.heap.size + 1 = g at HR HC HSZ ⊢
  generalize hk0 : w.heap.size = Br at HB HX ⊢
  generalize (w.alloc _).alloc _ = W1 at HR HC HB HX HSZ ⊢
  go_upto_region 3 with (first
    | (go_at_call 103; (with_reducible refine HC.out.mono ?_); rintro e w2 ⟨A, c, rfl, hcr, hg⟩; have hb3 := below_one w2 (.cells #[.int .i64 x.view, .string x.block, .slice A x.sigs.length c] 24); have HR2 := Sd.mk (hg.rb.below hb3); have HCR2 := Sd.mk (hcr.below hb3); have HX2 := Sd.mk (blk_keep (blk_grown HX.out hg.gr (fun e => by have := Option.some.inj e; omega)) hb3); have X5 := Sd.mk (blk_new w2 (.cells #[.int .i64 x.view, .string x.block, .slice A x.sigs.length c] 24)); have HB2 := Sd.mk (below_then' (B := Br) (below_grown HB.out hg.gr (by rw [HSZ.out]; omega) (fun k e => by have := Option.some.inj e; omega)) (by have := hg.gr.size; rw [HSZ.out] at this; omega) hb3); clear hcr hg hb3))
  generalize w2.heap.size = B5 at X5 ⊢
  generalize w2.alloc _ = W2 at HR2 HCR2 HX2 X5 HB2 ⊢
  clear HC HR HB HX
  have f0 := blk_frz HX2.out 0
  have f1 := blk_frz HX2.out 1
  have f2 := blk_frz HX2.out 2
  have r0 := blk_at HX2.out 0 _ rfl
  have r1 := blk_at HX2.out 1 _ rfl
  have r2 := blk_at HX2.out 2 _ rfl
  have p0 := blk_at X5.out 0 _ rfl
  have p1 := blk_at X5.out 1 _ rfl
  have p2 := blk_at X5.out 2 _ rfl
  cases hd : doneB t with
  | false =>
    have HDN := Sd.mk (done_any HR2.out false hd)
    have HDD := Sd.mk hd
    clear hd
    go_wp2_with (first
      | (go_at_call 104; (with_reducible refine HDN.out.mono ?_); rintro e w3 ⟨rfl, rfl⟩))
    obtain ⟨y0, y1, y2⟩ := fin3_cells HX2.out (.int .i64 0) (.string { data := #[] }) (.slice none 0 0)
    have HF := Sd.mk (below_grown HB2.out (fin3_grown Br w3 (.int .i64 0) (.string { data := #[] }) (.slice none 0 0)) (by have := HB2.out.size; have := blk_lt' HX2.out; omega) (fun k e => by obtain rfl := Option.some.inj e; exact Nat.le_refl _))
    clear r0 r1 r2 f0 f1 f2 p0 p1 p2
    change bodyPost _ _ _ _ _ (fin3 Br w3 (.int .i64 0) (.string { data := #[] }) (.slice none 0 0))
    generalize fin3 Br w3 _ _ _ = W9 at y0 y1 y2 HF ⊢
    exact bodyPost_ret (v := .tuple #[.agg #[.int .i64 0, .string { data := #[] }, .slice none 0 0], .int .i64 2]) (by simp [results, Try.results79, go_sem, y0, y1, y2]) rfl ⟨by have h := HF.out; rwa [← hk0] at h, .inl ⟨HDD.out, rfl⟩⟩
  | true =>
    have HDN := Sd.mk (done_any HR2.out true hd)
    have HDD := Sd.mk hd
    clear hd
    go_wp2_with (first
      | (go_at_call 104; (with_reducible refine HDN.out.mono ?_); rintro e w3 ⟨rfl, rfl⟩))
    obtain ⟨y0, y1, y2⟩ := fin3_cells HX2.out (.int .i64 x.view) (.string x.block) (.slice A x.sigs.length c)
    have hgr := fin3_grown Br w3 (.int .i64 x.view) (.string x.block) (.slice A x.sigs.length c)
    have HF := Sd.mk (below_grown HB2.out hgr (by have := HB2.out.size; have := blk_lt' HX2.out; omega) (fun k e => by obtain rfl := Option.some.inj e; exact Nat.le_refl _))
    have HCR3 := Sd.mk (HCR2.out.grown hgr rfl HX2.out (by decide) (by decide))
    clear r0 r1 r2 f0 f1 f2 p0 p1 p2 hgr
    change bodyPost _ _ _ _ _ (fin3 Br w3 (.int .i64 x.view) (.string x.block) (.slice A x.sigs.length c))
    generalize fin3 Br w3 _ _ _ = W9 at y0 y1 y2 HF HCR3 ⊢
    exact bodyPost_ret (v := .tuple #[.agg #[.int .i64 x.view, .string x.block, .slice A x.sigs.length c], .int .i64 0]) (by simp [results, Try.results79, go_sem, y0, y1, y2]) rfl ⟨by have h := HF.out; rwa [← hk0] at h, .inr ⟨HDD.out, A, c, rfl, HCR3.out.reads rfl HZ.out⟩⟩
end Go.Proofs.Ytdmdfpbklflijaa.Rp

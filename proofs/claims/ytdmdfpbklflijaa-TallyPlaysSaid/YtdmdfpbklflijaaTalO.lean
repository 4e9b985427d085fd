/- A tally's calls that come in; which votes are taken; at most one certificate for a view. A tally: Add, whatever comes. -/
import Derived.Test.YtdmdfpbklflijaaTalI
import Derived.Test.YtdmdfpbklflijaaTalE
import Derived.Test.YtdmdfpbklflijaaCop
set_option linter.unusedVariables false
set_option linter.unusedSimpArgs false
namespace Go.Proofs.Ytdmdfpbklflijaa.Tal
open Go.RowKit Go.Sort Rd Api Own Mv App Mk Num Dig Mac

/-- a call -/
structure Co where
  view : Int
  block : ByteArray
  sig : Sg.Sig
  below : Bool
def coK : Rk Co := Rk.iso (Rk.pair (Rk.int .i64) (Rk.pair Rk.str (Rk.pair Sg.sigK (Rk.pair Rk.bool Rk.unit)))) (fun x => (x.view, x.block, x.sig, x.below, ()))
theorem opens_co : Opens Try.prog 69 coK :=
  opens_iso _ (fun (a, b, c, d, _) => ⟨a, b, c, d⟩) (fun _ => rfl) (opens_struct Try.underlying69 (by kernel_rfl) (fs_cons rfl (by kernel_rfl) (opens_int Try.underlying3) (fs_cons rfl (by kernel_rfl) (opens_str Try.underlying9) (fs_cons rfl (by kernel_rfl) Sg.opens_sig (fs_cons rfl (by kernel_rfl) (opens_bool Try.underlying4) (fs_nil _))))))
theorem co_open {w : World} {x : Co} {cs : List Value} (h : coK.K w x cs) : ∃ A c, cs = [.int .i64 x.view, .string x.block, .int .i64 x.sig.node, .slice A x.sig.tags.length c, .bool x.below] ∧ IsI64 x.view ∧ IsI64 x.sig.node ∧ Sl Rk.str w A c x.sig.tags := by
  obtain ⟨c0, c1, rfl, ⟨rfl, h0⟩, c2, c3, rfl, ⟨rfl, h1⟩, c4, c5, rfl, h2, c6, c7, rfl, rfl, rfl⟩ := h
  obtain ⟨A, c, rfl, h3, hs⟩ := Sg.sig_open h2
  exact ⟨A, c, rfl, i64_of h0, h3, hs⟩
theorem co_at {w : World} {A : Option Addr} {c : Nat} {l : List Co} (h : Sl coK w A c l) {i : Nat} {x : Co} (hx : l[i]? = some x) : ∃ b o A1 c1, A = some ⟨b, o, none⟩ ∧ w.cell? ⟨b, o + i * 5, none⟩ = some (.int .i64 x.view) ∧ w.cell? ⟨b, o + i * 5 + 1, none⟩ = some (.string x.block) ∧ w.cell? ⟨b, o + i * 5 + 2, none⟩ = some (.int .i64 x.sig.node) ∧ w.cell? ⟨b, o + i * 5 + 3, none⟩ = some (.slice A1 x.sig.tags.length c1) ∧ w.cell? ⟨b, o + i * 5 + 4, none⟩ = some (.bool x.below) ∧ IsI64 x.view ∧ IsI64 x.sig.node ∧ Sl Rk.str w A1 c1 x.sig.tags := by
  obtain ⟨b, o, cs, hA, hK, hc⟩ := h.row i x hx
  obtain ⟨A1, c1, rfl, h1, h2, h3⟩ := co_open hK
  exact ⟨b, o, A1, c1, hA, hc 0 _ rfl, hc 1 _ rfl, hc 2 _ rfl, hc 3 _ rfl, hc 4 _ rfl, h1, h2, h3⟩
def coFew (x : Co) : Prop := Sg.sigFew x.sig ∧ x.block.size ≤ 50
set_option maxHeartbeats 4000000 in
set_option maxRecDepth 100000 in
theorem few_any (w : World) (A : Option Addr) (c : Nat) (l : List Co) (h : Sl coK w A c l) (n : Nat) (hn : n = l.length) : Calls Try.prog 35 #[.slice A n c, .int .i64 50] w (Sg.Tells (n ≤ 50 ∧ ∀ o ∈ l, coFew o) w) := by
  have HS := Sd.mk h
  have nc := Nat.le_trans h.le h.cap
  rw [← hn] at nc
  have HN := Sd.mk hn
  clear h hn
  go_enter Try.func35, Try.ntmps35
  go_wp2
  go_loopg [5] n (fun gk v5 wr => ∃ i, i + gk = n ∧ i ≤ 100 ∧ v5 = .int .i64 (i : Nat) ∧ Sd (∀ s ∈ l.take i, coFew s) ∧ Sd (Below w.heap.size w wr))
  case atStart => exact ⟨0, by omega, by omega, rfl, ⟨fun t ht => by simp at ht⟩, ⟨Below.refl _ _⟩⟩
  case round =>
    obtain ⟨i, hi, hi100, rfl, HA, HW⟩ := hrel
    have bad : ∀ (v : Bool) (W' : World), v = false → Below w.heap.size w W' → Sg.Tells (n ≤ 50 ∧ ∀ o ∈ l, coFew o) w (.returned (.bool v)) W' := fun v W' hv hb => ⟨v, rfl, fun h => (by rw [hv] at h; cases h), hb⟩
    have HBAD := Sd.mk bad
    clear bad
    by_cases hlt : i < n
    · have hii : (i : Int) < n := by omega
      by_cases h100 : i < 100
      · have h100i : (i : Int) < 100 := by omega
        obtain ⟨y, hy⟩ : ∃ y, l[i]? = some y := ⟨_, List.getElem?_eq_getElem (show i < l.length by rw [← HN.out]; exact hlt)⟩
        obtain ⟨b, o, A1, c1, rfl, p0, p1, p2, p3, p4, -, -, s1⟩ := co_at HS.out hy
        have q1 := cell_below HW.out p1
        have q2 := cell_below HW.out p2
        have q3 := cell_below HW.out p3
        have HP1 := Sd.mk p1
        have HY := Sd.mk hy
        have HF := Sd.mk (Sg.sig_any wr y.sig A1 c1 (s1.below HW.out))
        clear hy s1 p0 p1 p2 p3 p4
        obtain ⟨b50, hb50⟩ : ∃ r, decide ((50 : Int) < (y.block.size : Int)) = r := ⟨_, rfl⟩
        have H50 := Sd.mk (show b50 = false → y.block.size ≤ 50 from fun h => by rw [h] at hb50; have := of_decide_eq_false hb50; omega)
        cases b50 with
        | true =>
          go_wp2_with (first
            | (go_at_call 20; (with_reducible refine HF.out.mono ?_); rintro e w2 ⟨r, rfl, ht, hb⟩; have HB2 := Sd.mk (below_then HW.out hb); have q1 := cell_below HB2.out HP1.out; have HTR := Sd.mk ht; clear ht hb; cases r))
          · go_ret
            exact HBAD.out false _ rfl HB2.out
          · go_ret
            exact HBAD.out false _ rfl HB2.out
        | false =>
          go_wp2_with (first
            | (go_at_call 20; (with_reducible refine HF.out.mono ?_); rintro e w2 ⟨r, rfl, ht, hb⟩; have HB2 := Sd.mk (below_then HW.out hb); have q1 := cell_below HB2.out HP1.out; have HTR := Sd.mk ht; clear ht hb; cases r))
          · go_ret
            exact HBAD.out false _ rfl HB2.out
          · have HA2 := Sd.mk (show ∀ s ∈ l.take (i + 1), coFew s from fun s hs => by
              rw [List.take_add_one, HY.out] at hs
              rcases List.mem_append.1 hs with e | e
              · exact HA.out s e
              · simp at e; subst e; exact ⟨HTR.out trivial, H50.out trivial⟩)
            go_roundg (gk - 1)
            case measure => omega
            case rel => exact ⟨i + 1, by omega, by omega, by go_num, HA2, HB2⟩
      · have h100i : decide ((i : Int) < 100) = false := decide_eq_false (by omega)
        have h100b : decide (i < 100) = false := decide_eq_false (by omega)
        have h10 : decide ((n : Int) ≤ 50) = false := decide_eq_false (by omega)
        have h10b : decide (n ≤ 50) = false := decide_eq_false (by omega)
        go_wp2
        go_ret
        exact HBAD.out false _ rfl HW.out
    · have hii : decide (i < n) = false := decide_eq_false (by omega)
      have hii2 : decide ((i : Int) < (n : Int)) = false := decide_eq_false (by omega)
      have HAL := Sd.mk (show ∀ s ∈ l, coFew s by have := HA.out; rwa [List.take_of_length_le (by rw [← HN.out]; omega)] at this)
      by_cases h10 : n ≤ 50
      · have d0 : decide ((n : Int) ≤ 50) = true := decide_eq_true (by omega)
        have d0b : decide (n ≤ 50) = true := decide_eq_true h10
        have HT := Sd.mk h10
        clear h10
        go_wp2
        go_ret
        exact ⟨true, rfl, fun _ => ⟨HT.out, HAL.out⟩, HW.out⟩
      · have d0 : decide ((n : Int) ≤ 50) = false := decide_eq_false (by omega)
        have d0b : decide (n ≤ 50) = false := decide_eq_false h10
        clear h10
        go_wp2
        go_ret
        exact HBAD.out false _ rfl HW.out
/-- when a vote is taken -/
structure Tkn (seed : ByteArray) (tn n below : Int) (vs : List Vt) (v : Int) (b : ByteArray) (f : Int) (tags : List ByteArray) : Prop where
  lo : 1 ≤ v
  hi : v ≤ 1000000
  new : below < v
  size : b.size = 32
  room : (vs.length : Int) < wrap64 (4 * n)
  no : ∀ x ∈ vs, ¬ (x.v = v ∧ x.s.f = f)
  holds : holdsF seed tn n (vtxt v b) f tags
theorem same_iff {vs : List Vt} {y : Vt} : vs.any (same y) = true ↔ ∃ x ∈ vs, x.v = y.v ∧ x.s.f = y.s.f := by
  rw [List.any_eq_true]; simp [same]
theorem takes_any {K : World → Prop} {w0 : World} {g : Nat} {seed : ByteArray} {tn n below : Int} {v : Value} {vs : List Vt} {W : World} (h : Tb K w0 g seed tn n below v vs W) (y : Vt) (tags : List ByteArray) (hn : y.s.n = tags.length) (ht : Sl Rk.str W y.s.a y.s.c tags) (hsz : seed.size ≤ 35184372088832) (r : Bool) (hr : r = true ↔ Tkn seed tn n below vs y.v y.b y.s.f tags) : ∀ W1, RowKit.Below W.heap.size W W1 → Takes g y r W1 := by
  intro W1 hb1
  obtain ⟨A, c, rfl, hs⟩ := own_vt h.ty.own
  have hblk := blk_keep h.ty.blk hb1
  have no : ¬ Tkn seed tn n below vs y.v y.b y.s.f tags → r = false := fun hno => by
    cases r with
    | false => rfl
    | true => exact absurd (hr.1 rfl) hno
  by_cases h1 : y.v < 1
  · obtain rfl := no (fun k => by have := k.lo; omega)
    exact takes_no1 hblk y h1
  by_cases h2 : 1000000 < y.v
  · obtain rfl := no (fun k => by have := k.hi; omega)
    exact takes_no2 hblk y h1 h2
  by_cases h3 : y.v ≤ below
  · obtain rfl := no (fun k => by have := k.new; omega)
    exact takes_no3 hblk y h1 h2 h3
  by_cases h4 : y.b.size = 32
  · by_cases h5 : wrap64 (4 * n) ≤ (vs.length : Int)
    · obtain rfl := no (fun k => by have := k.room; omega)
      exact takes_no5 hblk y h1 h2 h3 h4 h5
    · obtain ⟨had, hh⟩ : ∃ b, vs.any (same y) = b := ⟨_, rfl⟩
      have hany : had = true ↔ ∃ x ∈ vs, x.v = y.v ∧ x.s.f = y.s.f := by rw [← hh]; exact same_iff
      refine takes_had hblk y h1 h2 h3 h4 h5 vs rfl (hs.below hb1) had hh tags hn (fun _ => ht.below hb1) hsz r ?_
      cases had with
      | true =>
        obtain ⟨x, hx, hxx⟩ := hany.1 rfl
        exact .inl ⟨rfl, no (fun k => k.no x hx hxx)⟩
      | false =>
        exact .inr ⟨rfl, hr.trans ⟨fun k => k.holds, fun k => ⟨by omega, by omega, by omega, h4, by omega, fun x hx hxx => (by cases hany.2 ⟨x, hx, hxx⟩), k⟩⟩⟩
  · obtain rfl := no (fun k => h4 k.size)
    exact takes_no4 hblk y h1 h2 h3 h4
/-- a vote's tags, in the world that the law was handed -/
structure Vgd (w : World) (seed : ByteArray) (tn n : Nat) (x : Vt) : Prop where
  lo : 1 ≤ x.v
  hi : x.v ≤ 1000000
  size : x.b.size = 32
  tags : ∃ tags, Sl Rk.str w x.s.a x.s.c tags ∧ x.s.n = tags.length ∧ holdsF seed tn n (vtxt x.v x.b) x.s.f tags
theorem Vgd.rng {w : World} {seed : ByteArray} {tn n : Nat} {x : Vt} (h : Vgd w seed tn n x) : 0 ≤ x.s.f ∧ x.s.f < (n : Int) := by
  obtain ⟨t, -, -, h1⟩ := h.tags; exact h1.2.2.1
structure Iv (w : World) (seed : ByteArray) (tn n q : Nat) (below : Int) (vs : List Vt) (views : List Int) : Prop where
  len : vs.length ≤ 4 * n
  all : ∀ x ∈ vs, Vgd w seed tn n x
  one : vs.Pairwise (fun x y => ¬ (x.v = y.v ∧ x.s.f = y.s.f))
  full : ∀ u ∈ views, u ≤ below ∨ ∃ b, q ≤ (ofF vs u b).length
theorem nodup_le : ∀ (m : Nat) (l : List Int), l.Nodup → (∀ x ∈ l, 0 ≤ x ∧ x < (m : Int)) → l.length ≤ m := by
  intro m
  induction m with
  | zero => intro l _ h; cases l with
    | nil => exact Nat.le_refl _
    | cons x r => have := h x (by simp); omega
  | succ m ih =>
    intro l hn h
    have h1 := ih (l.erase (m : Int)) (hn.erase _) (fun x hx => by
      have h2 := h x (List.mem_of_mem_erase hx)
      have h3 : x ≠ (m : Int) := fun e => by subst e; exact List.Nodup.not_mem_erase hn hx
      omega)
    rw [List.length_erase] at h1
    split at h1 <;> omega
section
variable {w : World} {seed : ByteArray} {tn n q : Nat} {lim : Int} {vs : List Vt} {views : List Int}
theorem iv_nil : Iv w seed tn n q 0 [] [] := ⟨by simp, fun x hx => by simp at hx, List.Pairwise.nil, fun u hu => by simp at hu⟩
theorem hit_iff {u : Int} {b : ByteArray} {x : Vt} : hit u b x = true ↔ x.v = u ∧ x.b = b := by
  unfold hit
  simp only [Bool.and_eq_true, Rp.str_beq, beq_iff_eq, decide_eq_true_eq]
theorem ofF_old {b2 u : Int} (hu : ¬ u ≤ b2) (b : ByteArray) (vs : List Vt) : ofF (vs.filter (fun x => !old b2 x)) u b = ofF vs u b := by
  unfold ofF
  rw [List.filter_filter]
  congr 1
  apply List.filter_congr
  intro x _
  rw [Bool.eq_iff_iff, Bool.and_eq_true, hit_iff]
  exact ⟨fun h => h.1, fun h => ⟨h, by simp [old]; omega⟩⟩
theorem Iv.gone (h : Iv w seed tn n q lim vs views) {b2 : Int} (hb : lim ≤ b2) : Iv w seed tn n q b2 (vs.filter (fun x => !old b2 x)) views :=
  ⟨Nat.le_trans (List.length_filter_le _ _) h.len, fun x hx => h.all x (List.mem_filter.1 hx).1, h.one.filter _, fun u hu => by
    by_cases hub : u ≤ b2
    · exact .inl hub
    · rcases h.full u hu with h1 | ⟨b, h1⟩
      · omega
      · exact .inr ⟨b, by rw [ofF_old hub]; exact h1⟩⟩
theorem ofF_app (vs ws : List Vt) (u : Int) (b : ByteArray) : ofF (vs ++ ws) u b = ofF vs u b ++ ofF ws u b := by unfold ofF; rw [List.filter_append, List.map_append]
theorem Iv.more (h : Iv w seed tn n q lim vs views) {y : Vt} (hl : vs.length < 4 * n) (hg : Vgd w seed tn n y) (hno : ∀ x ∈ vs, ¬ (x.v = y.v ∧ x.s.f = y.s.f)) : Iv w seed tn n q lim (vs ++ [y]) views :=
  ⟨by rw [List.length_append]; simp; omega, fun x hx => by
    rcases List.mem_append.1 hx with e | e
    · exact h.all x e
    · rw [List.mem_singleton] at e; subst e; exact hg, by
    rw [List.pairwise_append]
    exact ⟨h.one, List.pairwise_singleton _ _, fun a ha b hb => by rw [List.mem_singleton] at hb; subst hb; exact hno a ha⟩, fun u hu => by
    rcases h.full u hu with h1 | ⟨b, h1⟩
    · exact .inl h1
    · exact .inr ⟨b, by rw [ofF_app, List.length_append]; omega⟩⟩
theorem Iv.made (h : Iv w seed tn n q lim vs views) {u : Int} {b : ByteArray} (hk : (ofF vs u b).length = q) : Iv w seed tn n q lim vs (views ++ [u]) :=
  ⟨h.len, h.all, h.one, fun v hv => by
    rcases List.mem_append.1 hv with e | e
    · exact h.full v e
    · rw [List.mem_singleton] at e; subst e; exact .inr ⟨b, by omega⟩⟩
theorem of_sum (vs : List Vt) (u : Int) {b b' : ByteArray} (hb : b ≠ b') : (ofF vs u b).length + (ofF vs u b').length ≤ ((vs.filter (fun x => x.v == u)).map (·.s.f)).length := by
  unfold ofF
  rw [List.length_map, List.length_map, List.length_map]
  induction vs with
  | nil => simp
  | cons x l ih =>
    simp only [List.filter_cons]
    by_cases h1 : hit u b x = true
    · have h2 := hit_iff.1 h1
      have h3 : ¬ hit u b' x = true := fun h => hb (h2.2.symm.trans (hit_iff.1 h).2)
      rw [if_pos h1, if_neg h3, if_pos (beq_iff_eq.2 h2.1)]
      simp only [List.length_cons]; omega
    · by_cases h3 : hit u b' x = true
      · have h2 := hit_iff.1 h3
        rw [if_neg h1, if_pos h3, if_pos (beq_iff_eq.2 h2.1)]
        simp only [List.length_cons]; omega
      · rw [if_neg h1, if_neg h3]
        split
        · simp only [List.length_cons]; omega
        · exact ih
theorem Iv.froms (h : Iv w seed tn n q lim vs views) (u : Int) : ((vs.filter (fun x => x.v == u)).map (·.s.f)).length ≤ n :=
  nodup_le n _ (by
    rw [List.nodup_iff_pairwise_ne, List.pairwise_map]
    refine (h.one.filter _).imp_of_mem ?_
    intro a b ha hb hab e
    have h1 := beq_iff_eq.1 (List.mem_filter.1 ha).2
    have h2 := beq_iff_eq.1 (List.mem_filter.1 hb).2
    exact hab ⟨h1.trans h2.symm, e⟩) (fun k hk => by
    obtain ⟨x, hx, rfl⟩ := List.mem_map.1 hk
    exact (h.all x (List.mem_filter.1 hx).1).rng)
theorem Iv.fresh (h : Iv w seed tn n q lim vs views) {y : Vt} (h2 : Iv w seed tn n q lim (vs ++ [y]) views) (hq : n < 2 * q) (hn : lim < y.v) (hk : (ofF (vs ++ [y]) y.v y.b).length = q) : y.v ∉ views := by
  intro hm
  rcases h.full _ hm with h1 | ⟨b, h1⟩
  · omega
  · by_cases e : b = y.b
    · subst e
      rw [ofF_app, List.length_append] at hk
      have : (ofF [y] y.v y.b).length = 1 := by
        unfold ofF
        rw [List.filter_cons, if_pos (hit_iff.2 ⟨rfl, rfl⟩)]; rfl
      omega
    · have h3 := of_sum (vs ++ [y]) y.v e
      have h4 := h2.froms y.v
      rw [ofF_app, List.length_append] at h3
      omega
end
/-- the signatures of a view and a block, with their tags -/
theorem fst_id : ∀ (n : Nat) (l : List Int), l.length = n → l.Nodup → fst l = l
  | 0, l, hl, _ => by
    obtain rfl := List.eq_nil_of_length_eq_zero hl
    rfl
  | n + 1, l, hl, hd => by
    obtain ⟨l', t, rfl⟩ : ∃ l' t, l = l' ++ [t] := ⟨l.dropLast, l.getLast (by intro e; rw [e] at hl; cases hl), (List.dropLast_concat_getLast _).symm⟩
    rw [List.nodup_append] at hd
    rw [fst_snoc, fst_id n l' (by simpa using hl) hd.1, if_neg (fun hm => hd.2.2 t hm t (by simp) rfl)]
theorem Iv.of_nodup {w : World} {seed : ByteArray} {tn n q : Nat} {below : Int} {vs : List Vt} {views : List Int} (h : Iv w seed tn n q below vs views) (u : Int) (b : ByteArray) : ((ofF vs u b).map (·.f)).Nodup := by
  unfold ofF
  rw [List.map_map, List.nodup_iff_pairwise_ne, List.pairwise_map]
  refine (h.one.filter _).imp_of_mem ?_
  intro x y ha hb hab e
  have h1 := hit_iff.1 (List.mem_filter.1 ha).2
  have h2 := hit_iff.1 (List.mem_filter.1 hb).2
  exact hab ⟨h1.1.trans h2.1.symm, e⟩
end Go.Proofs.Ytdmdfpbklflijaa.Tal
set_option linter.unusedVariables false
set_option linter.unusedSimpArgs false
namespace Go.Proofs.Ytdmdfpbklflijaa.Tal
open Go.RowKit Go.Sort Rd Api Own Mv App Mk Num Dig Mac

/-- a certificate's cells elsewhere, still as they were made -/
def Box (Bx : Nat) (W : World) : Prop := W.heap[Bx]? = some (.cells #[.int .i64 0, .string { data := #[] }, .slice none 0 0] 24 (0, 0))
theorem kp_box (Bx : Nat) : Kp (Box Bx) :=
  ⟨fun h hb => blk_keep h hb, fun {W k cs t} j u h hk ht => by
    rcases ht with rfl | ⟨rfl, W0, h0, hle⟩
    · exact (heap_set _ _ _ _ _ (fun e => by rw [← e, h] at hk; simp at hk)).trans h
    · have : Bx < W0.heap.size := (Array.getElem?_eq_some_iff.1 h0).1
      exact (heap_set _ _ _ _ _ (by omega)).trans h, fun {W W1 row} h hg hr => blk_grown h hg (fun e => by
    obtain ⟨cs, hk⟩ := hr Bx e
    rw [h] at hk; simp at hk)⟩
theorem kp_and {K L : World → Prop} (h1 : Kp K) (h2 : Kp L) : Kp (fun W => K W ∧ L W) :=
  ⟨fun h hb => ⟨h1.below h.1 hb, h2.below h.2 hb⟩, fun j u h hk ht => ⟨h1.set j u h.1 hk (ht.imp_right fun ⟨e, W0, h0, hle⟩ => ⟨e, W0, h0.1, hle⟩), h2.set j u h.2 hk (ht.imp_right fun ⟨e, W0, h0, hle⟩ => ⟨e, W0, h0.2, hle⟩)⟩, fun h hg hr => ⟨h1.grow h.1 hg hr, h2.grow h.2 hg hr⟩⟩
/-- what a call of Add told -/
structure Gt (n q : Nat) (ok : Bool) (cv : Int) (cb : ByteArray) (A : Option Addr) (k c : Nat) (vs : List Vt) (views views' : List Int) (W : World) : Prop where
  no : ok = false → views' = views
  yes : ok = true → views' = views ++ [cv] ∧ cv ∉ views ∧ (ofF vs cv cb).length = q ∧ ∃ r, k = r.length ∧ Sl rawK W A c r ∧ Made (ofF vs cv cb) r
theorem Gt.below {n q : Nat} {ok : Bool} {cv : Int} {cb : ByteArray} {A : Option Addr} {k c : Nat} {vs : List Vt} {views views' : List Int} {W W1 : World} (h : Gt n q ok cv cb A k c vs views views' W) (hb : RowKit.Below W.heap.size W W1) : Gt n q ok cv cb A k c vs views views' W1 :=
  ⟨h.no, fun e => by obtain ⟨h1, h2, h3, r, h4, h5, h6⟩ := h.yes e; exact ⟨h1, h2, h3, r, h4, h5.below hb, h6⟩⟩
theorem Gt.fin {n q : Nat} {ok : Bool} {cv : Int} {cb : ByteArray} {A : Option Addr} {k c : Nat} {vs : List Vt} {views views' : List Int} {W : World} (h : Gt n q ok cv cb A k c vs views views' W) {Bx : Nat} (hb : Box Bx W) (x y z : Value) : Gt n q ok cv cb A k c vs views views' (fin3 Bx W x y z) :=
  ⟨h.no, fun e => by obtain ⟨h1, h2, h3, r, h4, h5, h6⟩ := h.yes e; exact ⟨h1, h2, h3, r, h4, raw_fin hb h5 _ _ _, h6⟩⟩
theorem add_any {K : World → Prop} {w : World} {g : Nat} {below : Int} {v : Value} {vs : List Vt} {views : List Int} {W : World} (seed : ByteArray) (hsd : seed.size ≤ 35184372088832) (n tn q : Nat) (n1 : 1 ≤ n) (n7 : n ≤ 7) (hq : q = n - Gat.fl n) (h : Tb K w g seed tn n below v vs W) (hi : Iv w seed tn n q below vs views) (x : Co) (A1 : Option Addr) (c1 : Nat) (hs : Sl Rk.str w A1 c1 x.sig.tags) (m : Nat) (hm : m = x.sig.tags.length) :
    Calls Try.prog 33 #[.pointer (some ⟨g, 0, none⟩), .int .i64 x.view, .string x.block, .agg #[.int .i64 x.sig.node, .slice A1 m c1]] W fun e w' => ∃ v' vs' views' cv cb A' k' c' ok, e = .returned (.tuple #[.agg #[.int .i64 cv, .string cb, .slice A' k' c'], .bool ok]) ∧ Tb K w g seed tn n below v' vs' w' ∧ Iv w seed tn n q below vs' views' ∧ Gt n q ok cv cb A' k' c' vs' views views' w' := by
  obtain ⟨r, hr⟩ : ∃ r : Bool, r = true ↔ Tkn seed tn n below vs x.view x.block x.sig.node x.sig.tags := ⟨@decide (Tkn seed tn n below vs x.view x.block x.sig.node x.sig.tags) (Classical.propDecidable _), by simp⟩
  have ht := takes_any h (⟨x.view, x.block, ⟨x.sig.node, A1, m, c1⟩⟩ : Vt) x.sig.tags hm (hs.below h.bel) hsd r hr
  cases r with
  | false =>
    refine (add_no h _ ht).mono ?_
    rintro e w' ⟨rfl, ht⟩
    exact ⟨_, _, _, 0, _, none, 0, 0, false, rfl, ht, hi, fun _ => rfl, fun e => by cases e⟩
  | true =>
    have hk := hr.1 rfl
    have hg : Vgd w seed tn n (⟨x.view, x.block, ⟨x.sig.node, A1, m, c1⟩⟩ : Vt) := ⟨hk.lo, hk.hi, hk.size, x.sig.tags, hs, hm, hk.holds⟩
    have hl : vs.length < 4 * n := by have := hk.room; unfold wrap64 at this; omega
    have hi2 := hi.more hl hg hk.no
    by_cases hkq : (ofF (vs ++ [(⟨x.view, x.block, ⟨x.sig.node, A1, m, c1⟩⟩ : Vt)]) x.view x.block).length = q
    · refine (add_full n n1 n7 h (by omega) _ ht _ rfl q hq hkq).mono ?_
      rintro e w' ⟨v', A', k', c', r, rfl, h1, h2, h3, h4⟩
      exact ⟨_, _, _, _, _, A', k', c', true, rfl, h4, hi2.made hkq, fun e => (by cases e), fun _ => ⟨rfl, hi.fresh hi2 (by rw [hq]; unfold Gat.fl; omega) hk.new hkq, hkq, r, h1, h2, h3⟩⟩
    · refine (add_few n n1 n7 h (by omega) _ ht _ rfl q hq hkq).mono ?_
      rintro e w' ⟨rfl, v', h4⟩
      exact ⟨_, _, _, 0, _, none, 0, 0, false, rfl, h4, hi2, fun _ => rfl, fun e => by cases e⟩
theorem of_mem {vs : List Vt} {u : Int} {b : ByteArray} {x : Raw} (h : x ∈ ofF vs u b) : ∃ z ∈ vs, z.s = x ∧ z.v = u ∧ z.b = b := by
  obtain ⟨z, hz, rfl⟩ := List.mem_map.1 h
  obtain ⟨h1, h2⟩ := List.mem_filter.1 hz
  exact ⟨z, h1, rfl, (hit_iff.1 h2).1, (hit_iff.1 h2).2⟩
theorem rises_of {T : Raw → List ByteArray} : ∀ (r : List Raw) (k : Int), r.Pairwise (fun x y => x.f < y.f) → (∀ x ∈ r, k < x.f) → Rp.Rises k (r.map fun x => ⟨x.f, T x⟩)
  | [], _, _, _ => trivial
  | x :: r, k, h, hk => by
    obtain ⟨h1, h2⟩ := List.pairwise_cons.1 h
    exact ⟨hk x (by simp), rises_of r x.f h2 h1⟩
/-- the certificate that is told holds -/
theorem Gt.holds {w : World} {seed : ByteArray} {n tn q : Nat} {lim : Int} {ok : Bool} {cv : Int} {cb : ByteArray} {A : Option Addr} {k c : Nat} {vs : List Vt} {views v0 views' : List Int} {W : World} (h : Gt n q ok cv cb A k c vs views views' W) (hok : ok = true) (hi : Iv w seed tn n q lim vs v0) (hb : RowKit.Below w.heap.size w W) (n1 : 1 ≤ n) (n7 : n ≤ 7) (hq : q = n - Gat.fl n) :
    ∃ sgs : List Sg.Sig, k = sgs.length ∧ Sl Rp.sgK W A c sgs ∧ Crt.certFew ⟨cv, cb, sgs⟩ ∧ ∀ p, Crt.Tells seed tn n ⟨cv, cb, sgs⟩ p → Crt.HoldsC p n ⟨cv, cb, sgs⟩ := by
  obtain ⟨-, -, h1, r, h2, h3, h4⟩ := h.yes hok
  have hmem : ∀ x ∈ r, ∃ z ∈ vs, z.s = x ∧ z.v = cv ∧ z.b = cb := fun x hx => of_mem (h4.sub hx)
  have hT : ∀ x : Raw, ∃ t : List ByteArray, x ∈ r → Sl Rk.str w x.a x.c t ∧ x.n = t.length ∧ holdsF seed tn n (vtxt cv cb) x.f t := fun x => by
    by_cases hx : x ∈ r
    · obtain ⟨z, hz, rfl, rfl, rfl⟩ := hmem x hx
      obtain ⟨t, ht⟩ := (hi.all z hz).tags
      exact ⟨t, fun _ => ht⟩
    · exact ⟨[], fun e => absurd e hx⟩
  obtain ⟨T, hT⟩ := Classical.skolem.1 hT
  have hlen : r.length = q := by
    rw [h4.len, fst_id _ _ rfl (hi.of_nodup cv cb), List.length_map, h1]
  have q0 : 0 < q := by rw [hq]; unfold Gat.fl; omega
  have hr0 : r[0]'(by omega) ∈ r := List.getElem_mem _
  have hcv : 1 ≤ cv ∧ cv ≤ 1000000 ∧ cb.size = 32 := by
    obtain ⟨z, hz, -, rfl, rfl⟩ := hmem _ hr0
    have := hi.all z hz
    exact ⟨this.lo, this.hi, this.size⟩
  have hrc : Rp.RightCert ⟨cv, cb, r.map fun x => ⟨x.f, T x⟩⟩ := by
    refine ⟨⟨by show (0 : Int) ≤ cv; omega, hcv.2.1⟩, hcv.2.2, by show (r.map _).length ≤ 7; rw [List.length_map, hlen]; omega, rises_of r (-1) h4.up (fun x hx => by have := (hT x hx).2.2.2.2.1; omega), fun s hs => ?_⟩
    obtain ⟨x, hx, rfl⟩ := List.mem_map.1 hs
    obtain ⟨-, -, -, -, h5, h6, h7, -⟩ := hT x hx
    refine ⟨h5.1, by show x.f < 7; omega, by show (T x).length ≤ 7; omega, fun t ht => ?_⟩
    obtain ⟨j, hj, rfl⟩ := List.getElem_of_mem ht
    exact h7 j hj
  refine ⟨r.map fun x => ⟨x.f, T x⟩, by rw [List.length_map, h2], ⟨by rw [List.length_map]; exact h3.le, h3.cap, fun i y hy => ?_⟩, ⟨by have := hrc.n; omega, by show cb.size ≤ 50; omega, fun s hs => ⟨by have := (hrc.all s hs).2.2.1; omega, fun t ht => by have := (hrc.all s hs).2.2.2 t ht; omega⟩⟩, fun p hp => ⟨hrc, ?_⟩⟩
  · rw [List.getElem?_map] at hy
    obtain ⟨x, hx, rfl⟩ := Option.map_eq_some_iff.1 hy
    obtain ⟨b, o, hA, p0, p1⟩ := raw_at h3.row hx
    obtain ⟨hs, hn, -⟩ := hT x (List.mem_of_getElem? hx)
    refine ⟨b, o, [.int .i64 x.f, .slice x.a (T x).length x.c], hA, ⟨[.int .i64 x.f], [.slice x.a (T x).length x.c], rfl, rfl, [.slice x.a (T x).length x.c], [], rfl, sl_to (hs.below hb), rfl⟩, fun j v hv => ?_⟩
    match j, hv with
    | 0, hv => simp only [List.getElem?_cons_zero, Option.some.injEq] at hv; subst hv; exact p0
    | 1, hv => simp only [List.getElem?_cons_succ, List.getElem?_cons_zero, Option.some.injEq] at hv; subst hv; rw [← hn]; exact p1
    | j + 2, hv => simp at hv
  · show if cv = 0 then _ else _
    rw [if_neg (by omega)]
    refine ⟨by omega, ?_⟩
    have : (Crt.goodF p (r.map fun x => ⟨x.f, T x⟩)).length = q := by
      unfold Crt.goodF
      rw [List.length_map, List.filter_eq_self.2, List.length_map, hlen]
      intro s hs
      obtain ⟨x, hx, rfl⟩ := List.mem_map.1 hs
      rw [hp]
      exact (hT x hx).2.2
    show (n : Int) - (Gat.fl (n : Int).toNat : Int) ≤ ((Crt.goodF p (r.map fun x => ⟨x.f, T x⟩)).length : Int)
    rw [this, Int.toNat_natCast, hq]
    omega
end Go.Proofs.Ytdmdfpbklflijaa.Tal

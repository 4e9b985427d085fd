/- CertTrue: walked. -/
import Derived.Test.YtdmdfpbklflijaaRSig
import Derived.Test.YtdmdfpbklflijaaMkB
set_option linter.unusedVariables false
set_option linter.unusedSimpArgs false
namespace Go.Proofs.Ytdmdfpbklflijaa.Crt
open Go.RowKit Go.Sort Rd Api Own Mv App Num Dig Mac Rp

/-- signed by each of some nodes, as it lies -/
structure Lw (w W : World) (seed tx : ByteArray) (n : Nat) (A : Option Addr) (q d : Nat) (B : Option Addr) (q2 d2 : Nat) (rs : List Mk.Raw) (ks : List Int) : Prop where
  bel : RowKit.Below w.heap.size w W
  own : OwnR Mk.fS 2 W w.heap.size 39 (.slice A q d) rs
  all : OwnR fI 1 W w.heap.size 3 (.slice B q2 d2) ks
  tg : ∀ x ∈ rs, x.n = n ∧ OwnR fT 1 W 0 9 (.slice x.a x.n x.c) (rtags seed x.f tx n)
section
variable {w W W1 : World} {seed tx : ByteArray} {n : Nat} {A : Option Addr} {q d : Nat} {B : Option Addr} {q2 d2 : Nat} {rs : List Mk.Raw} {ks : List Int}
theorem Lw.below (h : Lw w W seed tx n A q d B q2 d2 rs ks) (hb : RowKit.Below W.heap.size W W1) : Lw w W1 seed tx n A q d B q2 d2 rs ks := ⟨below_then h.bel hb, h.own.below hb, h.all.below hb, fun x hx => ⟨(h.tg x hx).1, (h.tg x hx).2.below hb⟩⟩
theorem Lw.push1 (h : Lw w W seed tx n A q d B q2 d2 rs ks) {y : Mk.Raw} (hy : y.n = n ∧ OwnR fT 1 W 0 9 (.slice y.a y.n y.c) (rtags seed y.f tx n)) {A' : Option Addr} {q' d' : Nat} (hown : OwnR Mk.fS 2 W1 w.heap.size 39 (.slice A' q' d') (rs ++ [y])) (hbel : RowKit.Below w.heap.size w W1) (hg : W.grownBy W1 (Value.slice A q d).ownBlock) : Lw w W1 seed tx n A' q' d' B q2 d2 (rs ++ [y]) ks :=
  ⟨hbel, hown, OwnR.grown h.all hg (own_apart h.all h.own (by decide)), fun x hx => by
    rcases List.mem_append.1 hx with e | e
    · exact ⟨(h.tg x e).1, OwnR.grown (h.tg x e).2 hg (own_apart (h.tg x e).2 h.own (by decide))⟩
    · rw [List.mem_singleton] at e; subst e
      exact ⟨hy.1, OwnR.grown hy.2 hg (own_apart hy.2 h.own (by decide))⟩⟩
theorem Lw.push2 (h : Lw w W seed tx n A q d B q2 d2 rs ks) {k : Int} {B' : Option Addr} {q' d' : Nat} (hown : OwnR fI 1 W1 w.heap.size 3 (.slice B' q' d') (ks ++ [k])) (hbel : RowKit.Below w.heap.size w W1) (hg : W.grownBy W1 (Value.slice B q2 d2).ownBlock) : Lw w W1 seed tx n A q d B' q' d' rs (ks ++ [k]) :=
  ⟨hbel, OwnR.grown h.own hg (own_apart h.own h.all (by decide)), hown, fun x hx => ⟨(h.tg x hx).1, OwnR.grown (h.tg x hx).2 hg (own_apart (h.tg x hx).2 h.all (by decide))⟩⟩
end
/-- what is made of them -/
theorem sgs_of {W : World} {A : Option Addr} {c : Nat} {r : List Mk.Raw} (h : Sl Mk.rawK W A c r) {seed tx : ByteArray} {n : Nat} (ht : ∀ x ∈ r, x.n = n ∧ OwnR fT 1 W 0 9 (.slice x.a x.n x.c) (rtags seed x.f tx n)) :
    Sl sgK W A c (r.map fun x => ⟨x.f, rtags seed x.f tx n⟩) := by
  refine ⟨by rw [List.length_map]; exact h.le, h.cap, fun i y hy => ?_⟩
  rw [List.getElem?_map] at hy
  obtain ⟨x, hx, rfl⟩ := Option.map_eq_some_iff.1 hy
  obtain ⟨b, o, hA, p0, p1⟩ := Mk.raw_at h.row hx
  obtain ⟨hn, ho⟩ := ht x (List.mem_of_getElem? hx)
  obtain ⟨A2, c2, e2, s2⟩ := OwnR.reads (d := strK0) (f := fT) (n := 1) (fun _ _ => rfl) (fun _ => rfl) rfl ho
  simp only [Value.slice.injEq, rtags_len] at e2
  obtain ⟨e3, e4, e5⟩ := e2
  refine ⟨b, o, [.int .i64 x.f, .slice x.a (rtags seed x.f tx n).length x.c], hA, ⟨[.int .i64 x.f], [.slice x.a (rtags seed x.f tx n).length x.c], rfl, rfl, [.slice x.a (rtags seed x.f tx n).length x.c], [], rfl, ⟨x.a, x.c, rfl, ?_, ?_, ?_⟩, rfl⟩, fun j v hv => ?_⟩
  · rw [e5]; exact s2.le
  · rw [e5]; unfold maxLen; exact s2.cap
  · intro j t htj
    obtain ⟨b2, o2, cs, hA2, hK, hc⟩ := s2.row j t htj
    exact ⟨b2, o2, cs, by rw [e3]; exact hA2, ⟨hK, by have := rtags_16 seed x.f tx n t (List.mem_of_getElem? htj); unfold maxLen; omega⟩, hc⟩
  · match j, hv with
    | 0, hv => simp only [List.getElem?_cons_zero, Option.some.injEq] at hv; subst hv; exact p0
    | 1, hv => simp only [List.getElem?_cons_succ, List.getElem?_cons_zero, Option.some.injEq] at hv; subst hv; rw [rtags_len, ← hn]; exact p1
    | j + 2, hv => simp at hv
def sgs (seed tx : ByteArray) (n : Nat) (r : List Mk.Raw) : List Sg.Sig := r.map fun x => ⟨x.f, rtags seed x.f tx n⟩
theorem sgs_rises (seed tx : ByteArray) (n : Nat) : ∀ (r : List Mk.Raw) (k : Int), r.Pairwise (fun x y => x.f < y.f) → (∀ x ∈ r, k < x.f) → Rises k (sgs seed tx n r)
  | [], _, _, _ => trivial
  | x :: r, k, h, hk => by
    obtain ⟨h1, h2⟩ := List.pairwise_cons.1 h
    exact ⟨hk x (by simp), sgs_rises seed tx n r x.f h2 h1⟩
theorem sgs_right {seed tx : ByteArray} {n : Nat} (hn : n ≤ 7) {r : List Mk.Raw} (hp : r.Pairwise (fun x y => x.f < y.f)) (hr : ∀ x ∈ r, 0 ≤ x.f ∧ x.f < (n : Int)) {v : Int} (hv : 0 ≤ v ∧ v ≤ 1000000) {b : ByteArray} (hb : b.size = 32) : RightCert ⟨v, b, sgs seed tx n r⟩ := by
  have hnd : (r.map (·.f)).Nodup := by
    rw [List.nodup_iff_pairwise_ne, List.pairwise_map]
    exact hp.imp (fun hlt e => by omega)
  have hl := nodup_le n (r.map (·.f)) hnd (fun k hk => by
    obtain ⟨x, hx, rfl⟩ := List.mem_map.1 hk
    exact hr x hx)
  rw [List.length_map] at hl
  refine ⟨hv, hb, by show (sgs seed tx n r).length ≤ 7; unfold sgs; rw [List.length_map]; omega, sgs_rises seed tx n r (-1) hp (fun x hx => by have := hr x hx; omega), fun s hs => ?_⟩
  obtain ⟨x, hx, rfl⟩ := List.mem_map.1 hs
  have := hr x hx
  exact ⟨this.1, by show x.f < 7; omega, by show (rtags seed x.f tx n).length ≤ 7; rw [rtags_len]; exact hn, rtags_16 seed x.f tx n⟩
theorem sgs_few {seed tx : ByteArray} {n : Nat} (hn : n ≤ 7) {r : List Mk.Raw} {v : Int} {b : ByteArray} (hc : RightCert ⟨v, b, sgs seed tx n r⟩) : certFew ⟨v, b, sgs seed tx n r⟩ :=
  ⟨by have := hc.n; omega, by have := hc.b; omega, fun s hs => ⟨by have := (hc.all s hs).2.2.1; omega, fun t ht => by have := (hc.all s hs).2.2.2 t ht; omega⟩⟩
theorem sgs_hold {seed : ByteArray} {n : Nat} (hn1 : 1 ≤ n) (hn : n ≤ 7) {r : List Mk.Raw} (hr : ∀ x ∈ r, 0 ≤ x.f ∧ x.f < (n : Int)) {v : Int} {b : ByteArray} {t : Nat} (ht : t < n) {p : Sg.Sig → Bool} (hp : Tells seed (t : Nat) (n : Nat) ⟨v, b, sgs seed (vtxt v b) n r⟩ p) : (goodF p (sgs seed (vtxt v b) n r)).length = r.length := by
  unfold goodF
  rw [List.length_map, List.filter_eq_self.2, sgs, List.length_map]
  intro s hs
  obtain ⟨x, hx, rfl⟩ := List.mem_map.1 hs
  have hx0 := hr x hx
  rw [hp]
  refine ⟨by omega, by omega, hx0, by show ((rtags seed x.f (vtxt v b) n).length : Int) = n; rw [rtags_len], all16_of (rtags_16 _ _ _ _), ?_⟩
  show (rtags seed x.f (vtxt v b) n)[((t : Nat) : Int).toNat]? = some (mtag seed (endF x.f) (endF (t : Nat)) (vtxt v b))
  rw [Int.toNat_natCast, rtags_at _ _ _ ht, endF_in (by omega) (by omega), endF_in (by omega) (by omega)]
theorem Og.to0 {w W : World} {v : Value} {l : List Int} (h : Og w v l W) : ∃ A c, v = .slice A l.length c ∧ Sl (Own.num .i64) W A c l := h.slice
theorem own_raw {W : World} {B : Nat} {v : Value} {l : List Mk.Raw} (h : OwnR Mk.fS 2 W B 39 v l) : ∃ A c, v = .slice A l.length c ∧ Mk.Sl2 W A c l := by
  obtain ⟨A, c, hv, hs⟩ := OwnR.reads (d := Mk.rawK) (f := Mk.fS) (n := 2) (fun _ _ => rfl) (fun _ => rfl) rfl h
  refine ⟨A, c, hv, ⟨hs.le, hs.cap, hs.row, fun hA => ?_⟩⟩
  subst hA
  rcases h.2 with ⟨h1, _⟩ | ⟨g, cap, cur, h1, _⟩
  · rw [hv] at h1; simp at h1; exact h1.2
  · rw [hv] at h1; simp at h1
set_option maxHeartbeats 16000000 in
set_option maxRecDepth 100000 in
theorem certtrue_law (w : World) (seed : ByteArray) (A : Option Addr) (c : Nat) (l : List Int) (hs0 : Sl (Own.num .u8) w A c l) (hl : ∀ x ∈ l, 0 ≤ x ∧ x ≤ 255) (len : Nat) (hlen : len = l.length) (vw : Nat) (hvw : vw < 256) :
    Calls Try.prog 7 #[.string seed, .slice A len c, .int .u8 (vw : Nat)] w fun e w' => e = .returned (.bool true) ∧ RowKit.Below w.heap.size w w' := by
  have lc := Nat.le_trans hs0.le hs0.cap
  rw [← hlen] at lc
  have HS := Sd.mk hs0
  have HBY := Sd.mk hl
  have HN := Sd.mk hlen
  clear hs0 hl hlen
  obtain ⟨b0, hb0⟩ : ∃ r, decide ((60 : Int) < (seed.size : Int)) = r := ⟨_, rfl⟩
  obtain ⟨b1, hb1⟩ : ∃ r, decide ((12 : Int) < (len : Int)) = r := ⟨_, rfl⟩
  have hb1b : decide (12 < len) = b1 := by rw [← hb1]; simp only [decide_eq_decide]; omega
  obtain ⟨b2, hb2⟩ : ∃ r, ((len : Int) == 0) = r := ⟨_, rfl⟩
  have hb2b : (len == 0) = b2 := by rw [← hb2, Bool.eq_iff_iff]; simp
  have early : (b0 || b1 || b2) = true → Calls Try.prog 7 #[.string seed, .slice A len c, .int .u8 (vw : Nat)] w fun e w' => e = .returned (.bool true) ∧ RowKit.Below w.heap.size w w' := by
    intro hor
    cases b0 with
    | true => ((try clear hor); go_enter Try.func7, Try.ntmps7; go_wp2_with (first | (go_at_call 12; (with_reducible refine (awake_any _).mono ?_); rintro e w2 ⟨rfl, hb⟩; (first | (have HB3 := Sd.mk (below_then HB2.out hb)) | have HB2 := Sd.mk hb); clear hb)); go_ret; exact ⟨rfl, HB3.out⟩)
    | false =>
      cases b1 with
      | true => ((try clear hor); go_enter Try.func7, Try.ntmps7; go_wp2_with (first | (go_at_call 12; (with_reducible refine (awake_any _).mono ?_); rintro e w2 ⟨rfl, hb⟩; (first | (have HB3 := Sd.mk (below_then HB2.out hb)) | have HB2 := Sd.mk hb); clear hb)); go_ret; exact ⟨rfl, HB3.out⟩)
      | false =>
        obtain rfl : b2 = true := hor
        ((try clear hor); go_enter Try.func7, Try.ntmps7; go_wp2_with (first | (go_at_call 12; (with_reducible refine (awake_any _).mono ?_); rintro e w2 ⟨rfl, hb⟩; (first | (have HB3 := Sd.mk (below_then HB2.out hb)) | have HB2 := Sd.mk hb); clear hb)); go_ret; exact ⟨rfl, HB3.out⟩)
  cases hor : (b0 || b1 || b2) with
  | true => exact early hor
  | false =>
  clear early
  simp only [Bool.or_eq_false_iff] at hor
  obtain ⟨⟨rfl, rfl⟩, rfl⟩ := hor
  have hsd : seed.size ≤ 35184372088832 := by have := of_decide_eq_false hb0; omega
  have hl12 : len ≤ 12 := by have := of_decide_eq_false hb1b; omega
  have hl1 : 0 < len := by have := beq_eq_false_iff_ne.1 hb2b; omega
  obtain ⟨dg, hdg⟩ : ∃ d, sum seed = d := ⟨_, rfl⟩
  have HDG := Sd.mk hdg
  have HD32 := Sd.mk (show dg.size = 32 by rw [← hdg]; exact sum_size _)
  have HSUM := Sd.mk (fun W => show Calls Try.prog 27 #[.string { data := #[] }, .string seed] W fun e w' => e = .returned (.string dg) ∧ RowKit.Below W.heap.size W w' from by rw [← hdg]; exact ref0_any W seed (by omega))
  have hx0l : 0 < l.length := by rw [← HN.out]; exact hl1
  obtain ⟨x0, hx0⟩ : ∃ x : Nat, l[0]'hx0l = (x : Int) := ⟨(l[0]'hx0l).toNat, by have := HBY.out _ (List.getElem_mem hx0l); omega⟩
  have hx0b : x0 ≤ 255 := by have := HBY.out _ (List.getElem_mem hx0l); omega
  obtain ⟨b1, o1, rfl, p00⟩ := num_at HS.out.row hx0l
  rw [hx0, Nat.add_zero] at p00
  obtain ⟨r0, hr0⟩ : ∃ z, z = x0 % 7 := ⟨_, rfl⟩
  have e0 : ((x0 : Int)).tmod 7 = (r0 : Int) := by rw [Int.tmod_eq_emod_of_nonneg (by omega)]; omega
  have e0b : ((x0 : Int)) % 7 = (r0 : Int) := by omega
  have r7 : r0 < 7 := by omega
  obtain ⟨n, hn⟩ : ∃ n, n = 1 + r0 := ⟨_, rfl⟩
  have e1 : (1 : Int) + (r0 : Int) = (n : Int) := by omega
  have n1 : 1 ≤ n := by omega
  have n7 : n ≤ 7 := by omega
  obtain ⟨view, hview⟩ : ∃ z, z = 1 + vw := ⟨_, rfl⟩
  have e2 : (1 : Int) + (vw : Int) = (view : Int) := by omega
  have v1 : 1 ≤ view := by omega
  have v2 : view ≤ 256 := by omega
  obtain ⟨tx, htx⟩ : ∃ t, vtxt (view : Nat) dg = t := ⟨_, rfl⟩
  have HTX := Sd.mk htx
  have hn0 : ((n : Int) == 0) = false := beq_eq_false_iff_ne.2 (by omega)
  have hn0b : ¬ (n : Int) = 0 := by omega
  have hn0c : ¬ n = 0 := by omega
  have hii0 : (0 : Int) < (len : Int) := by omega
  have P00 := Sd.mk p00
  clear hdg hx0 hr0 hn hview htx hx0l p00
  go_enter Try.func7, Try.ntmps7
  go_upto_region 5 with (first
    | (go_at_call 12; (with_reducible refine (awake_any _).mono ?_); rintro e w2 ⟨rfl, hb⟩; have HB2 := Sd.mk hb; clear hb)
    | (go_at_call 27; (with_reducible refine (HSUM.out _).mono ?_); rintro e w3 ⟨rfl, hb⟩; have HB3 := Sd.mk (below_then HB2.out hb); have c0 := cell_below HB3.out P00.out; clear hb))
  clear c0 hb0 hb1 hb1b hb2 hb2b HSUM e0 e0b e1
  go_wp2
  have H0 := Sd.mk (show Lw w w3 seed tx n none 0 0 none 0 0 [] [] from ⟨HB3.out, OwnR.nil _ _ _ _ _, OwnR.nil _ _ _ _ _, fun x hx => by simp at hx⟩)
  go_loopg [11, 12, 13, 14] len (fun gk v11 v12 v13 v14 wr => ∃ i A1 d1 B1 d2 rs ks, i + gk = len ∧ v11 = .slice A1 i d1 ∧ v12 = .slice B1 i d2 ∧ v13 = .int .i64 (i : Nat) ∧ Sd (ks.length = i ∧ rs.map (·.f) = ks ∧ ∀ k ∈ ks, 0 ≤ k ∧ k < (n : Int)) ∧ Sd (Lw w wr seed tx n A1 i d1 B1 i d2 rs ks))
  case atStart => exact ⟨0, none, 0, none, 0, [], [], by omega, rfl, rfl, rfl, ⟨rfl, rfl, fun k hk => by simp at hk⟩, H0⟩
  case round =>
    clear H0 HB2 HB3 e2
    obtain ⟨i, A1, d1, B1, d2, rs, ks, hi, rfl, rfl, rfl, HK, HL⟩ := hrel
    have HRL := Sd.mk (show rs.length = i by rw [← HK.out.1, ← HK.out.2.1, List.length_map])
    have HKL := Sd.mk HK.out.1
    by_cases hlt : i < len
    · have hii : (i : Int) < len := by omega
      have hil : i < l.length := by rw [← HN.out]; exact hlt
      obtain ⟨b2, o2, e3, p0⟩ := num_at HS.out.row hil
      simp only [Option.some.injEq, Addr.mk.injEq, and_true] at e3
      obtain ⟨rfl, rfl⟩ := e3
      have c0 := cell_below HL.out.bel p0
      obtain ⟨x, hx⟩ : ∃ x : Nat, l[i]'hil = (x : Int) := ⟨(l[i]'hil).toNat, by have := HBY.out _ (List.getElem_mem hil); omega⟩
      have x255 : x ≤ 255 := by have := HBY.out _ (List.getElem_mem hil); omega
      rw [hx] at c0
      obtain ⟨fr, hfr⟩ : ∃ z, z = x % n := ⟨_, rfl⟩
      have frn : fr < n := by rw [hfr]; exact Nat.mod_lt _ (by omega)
      have p5 : ((x : Int)).tmod (n : Int) = (fr : Int) := by rw [Int.tmod_eq_emod_of_nonneg (by omega), hfr]; rfl
      clear hx p0 hil hfr
      go_wp2_with (first
        | (go_at_call 28; (with_reducible refine (refsigv_any _ seed hsd (fr : Nat) n n7 (view : Nat) dg (by rw [HD32.out]; omega) tx HTX.out).mono ?_); rintro e w4 ⟨A3, c3, rfl, ho3, -, hb⟩; have HL4 := Sd.mk (HL.out.below hb); have HO3 := Sd.mk ho3; clear ho3 hb)
        | (at_builtin; refine append_one (f := Mk.fS) (n := 2) (fun _ => rfl) Mk.fS_one w.heap.size rfl (.tmp 62) (.tmp 69) 22 39 (.agg #[.int .i64 0, .slice none 0 0]) 32 rfl Try.underlying22 info_sig rfl (by decide) (.slice A1 i d1) rs ⟨(fr : Nat), A3, n, c3⟩ rfl rfl HL4.out.own HL4.out.bel HL4.out.bel.size (by rw [HRL.out]; omega) (by rw [HRL.out]; omega) ?_; intro v5 w5 hown hbel hg; obtain ⟨A6, q6, rfl⟩ := OwnR.slice hown; have hl6 : (rs ++ [(⟨(fr : Nat), A3, n, c3⟩ : Mk.Raw)]).length = i + 1 := (by rw [List.length_append, HRL.out]; rfl); rw [hl6] at hown ⊢; have HL5 := Sd.mk (HL4.out.push1 (y := ⟨(fr : Nat), A3, n, c3⟩) ⟨rfl, HO3.out⟩ hown hbel hg); clear hown hbel hg hl6)
        | (at_builtin; refine append_one (f := fI) (n := 1) (fun _ => rfl) fI_one w.heap.size rfl (.tmp 71) (.tmp 73) 28 3 (.int .i64 0) 8 rfl Try.underlying28 info_int rfl (by decide) (.slice B1 i d2) ks (fr : Nat) rfl rfl HL5.out.all HL5.out.bel HL5.out.bel.size (by rw [HKL.out]; omega) (by rw [HKL.out]; omega) ?_; intro v7 w7 hown hbel hg; obtain ⟨B6, r6, rfl⟩ := OwnR.slice hown; have hl7 : (ks ++ [((fr : Nat) : Int)]).length = i + 1 := (by rw [List.length_append, HKL.out]; rfl); rw [hl7] at hown ⊢; have HL6 := Sd.mk (HL5.out.push2 hown hbel hg); clear hown hbel hg hl7))
      go_roundg (gk - 1)
      case measure => omega
      case rel => exact ⟨i + 1, A6, q6, B6, r6, _, _, by omega, rfl, rfl, by go_num, ⟨by rw [List.length_append, HKL.out]; rfl, by rw [List.map_append, HK.out.2.1]; rfl, fun k hk => by
          rcases List.mem_append.1 hk with e | e
          · exact HK.out.2.2 k e
          · rw [List.mem_singleton] at e; subst e; omega⟩, HL6⟩
    · have hii : decide (i < len) = false := decide_eq_false (by omega)
      have hii2 : decide ((i : Int) < (len : Int)) = false := decide_eq_false (by omega)
      obtain rfl : i = len := by omega
      obtain ⟨wo, rfl⟩ : ∃ wo : World, wo = wr := ⟨_, rfl⟩
      obtain ⟨A7, k7, e7, hs7⟩ := own_raw HL.out.own
      rw [HRL.out] at e7
      simp only [Value.slice.injEq] at e7
      obtain ⟨rfl, -, rfl⟩ := e7
      have HS7 := Sd.mk hs7
      obtain ⟨A8, k8, e8, hs8⟩ := OwnR.reads (d := Own.num .i64) (f := fI) (n := 1) (fun _ _ => rfl) (fun _ => rfl) rfl HL.out.all
      rw [HKL.out] at e8
      simp only [Value.slice.injEq] at e8
      obtain ⟨rfl, -, rfl⟩ := e8
      have HS8 := Sd.mk hs8
      have HFR := Sd.mk (show ∀ x ∈ rs, 0 ≤ x.f ∧ x.f < (n : Int) from fun x hx => HK.out.2.2 _ (by rw [← HK.out.2.1]; exact List.mem_map.2 ⟨x, hx, rfl⟩))
      have HM1 := Sd.mk (Mk.make_any wo (view : Nat) dg A1 d1 rs HS7.out i HRL.out.symm (by omega))
      clear hs7 hs8 hlt
      go_upto_region 15 with (first
        | (go_at_call 25; (with_reducible refine HM1.out.mono ?_); rintro e w3 ⟨A3, k3, c3, r, rfl, hk3, hs3, -, hmd, hb3⟩; have HK3 := Sd.mk hk3; have hb4 := below_one w3 (.cells #[.int .i64 (view : Nat), .string dg, .slice A3 k3 c3] 24); have HMD := Sd.mk hmd; have HL3 := Sd.mk ((HL.out.below hb3).below hb4); have HSG := Sd.mk (sgs_of (hs3.below hb4) (fun x hx => HL3.out.tg x (hmd.sub hx))); have X3 := Sd.mk (blk_new w3 (.cells #[.int .i64 (view : Nat), .string dg, .slice A3 k3 c3] 24)); have HR3 := Sd.mk ((Since.mk hb3).then hb4); clear hk3 hs3 hmd hb3 hb4))
      clear HM1
      generalize w3.heap.size = B8 at X3 ⊢
      generalize w3.alloc _ = W3 at X3 HL3 HSG HR3 ⊢
      have HRR := Sd.mk (show ∀ x ∈ r, 0 ≤ x.f ∧ x.f < (n : Int) from fun x hx => HFR.out x (HMD.out.sub hx))
      obtain ⟨f, hf⟩ : ∃ f, f = Gat.fl n := ⟨_, rfl⟩
      have HF := Sd.mk hf
      have hfn : f < n := by rw [hf]; exact Gat.fl_lt n1
      have HLN := Sd.mk (show (Mk.fst ks).length = k3 by rw [HK3.out, HMD.out.len, HK.out.2.1])
      have k3c := Nat.le_trans HSG.out.le HSG.out.cap
      rw [List.length_map, ← HK3.out] at k3c
      obtain ⟨en, hen⟩ : ∃ b, decide ((n : Int) - (f : Int) ≤ (k3 : Int)) = b := ⟨_, rfl⟩
      have HEN := Sd.mk hen
      have HON := Sd.mk (refonce_any W3 B1 d2 ks (HS8.out.below HR3.out.b) i HKL.out.symm (by omega) (n : Nat) HK.out.2.2)
      clear hf
      go_wp2_with (first
        | (go_at_call 29; (with_reducible refine HON.out.mono ?_); rintro e w4 ⟨v4, rfl, ho4⟩; obtain ⟨A4, k4, rfl, -⟩ := ho4.slice; rw [HLN.out]; have HR4 := Sd.mk (HR3.out.then ho4.bel); have HW4 := Sd.mk ho4.bel; clear ho4)
        | (go_at_call 19; (with_reducible refine (Gat.reffaults_any _ n n1 (by omega) f HF.out).mono ?_); rintro e w5 ⟨rfl, hw⟩; obtain rfl := hw.symm))
      have HSGS := Sd.mk (show Sl sgK W3 A3 c3 (sgs seed tx n r) from HSG.out)
      have HRC := Sd.mk (show RightCert ⟨(view : Nat), dg, sgs seed tx n r⟩ from sgs_right n7 HMD.out.up HRR.out ⟨by omega, by omega⟩ HD32.out)
      have HK4 := Sd.mk (show k3 = (sgs seed tx n r).length by unfold sgs; rw [List.length_map]; exact HK3.out)
      clear HSG HON
      go_loopg [17] n (fun gk v17 wr => ∃ t, t + gk = n ∧ v17 = .int .i64 (t : Nat) ∧ Sd (Since W3 wr))
      case atStart => exact ⟨0, by omega, rfl, ⟨⟨HW4.out⟩⟩⟩
      case round =>
        clear HW4 HR4
        obtain ⟨t, ht, rfl, HS3⟩ := hrel
        by_cases hlt : t < n
        · have hti : (t : Int) < n := by omega
          have c0 := HS3.out.cell (blk_at X3.out 0 _ rfl)
          have c1 := HS3.out.cell (blk_at X3.out 1 _ rfl)
          have c2 := HS3.out.cell (blk_at X3.out 2 _ rfl)
          obtain ⟨p, hp⟩ := tells seed (t : Nat) (n : Nat) ⟨(view : Nat), dg, sgs seed tx n r⟩
          have hgl : (goodF p (sgs seed tx n r)).length = k3 := by
            have h := HTX.out
            subst h
            rw [sgs_hold n1 n7 HRR.out hlt hp]; exact HK3.out.symm
          have HHO := Sd.mk (certholds_any wr seed hsd (t : Nat) (n : Nat) ⟨(view : Nat), dg, sgs seed tx n r⟩ A3 c3 (HSGS.out.below HS3.out.b) k3 HK4.out (certB_few (sgs_few n7 HRC.out)) p hp en (by
            rw [← HEN.out, decide_eq_true_eq]
            unfold HoldsC
            rw [if_neg (show ¬ ((view : Nat) : Int) = 0 by omega), hgl, Int.toNat_natCast, ← HF.out]
            exact ⟨fun h => ⟨HRC.out, ⟨by omega, by omega⟩, h⟩, fun h => h.2.2⟩))
          clear hgl hp
          go_wp2_with (first
            | (go_at_call 16; (with_reducible refine HHO.out.mono ?_); rintro e w6 ⟨rfl, hb⟩; have HS6 := Sd.mk (HS3.out.then hb); clear hb))
          go_roundg (gk - 1)
          case measure => omega
          case rel => exact ⟨t + 1, by omega, by go_num, HS6⟩
        · have hti : decide (t < n) = false := decide_eq_false (by omega)
          have hti2 : decide ((t : Int) < (n : Int)) = false := decide_eq_false (by omega)
          have HW := Sd.mk ((HR3.out.then HS3.out.b).b)
          have HM2 := Sd.mk (Mk.make_any wr 0 dg A1 d1 rs ⟨HS7.out.le, HS7.out.cap, HS7.out.row.below HW.out, HS7.out.nil⟩ i HRL.out.symm (by omega))
          clear hlt
          go_upto_region 22 with (first
            | (go_at_call 25; (with_reducible refine HM2.out.mono ?_); rintro e w7 ⟨A9, k9, c9, r9, rfl, hk9, hs9, -, hmd, hb9⟩; have HK9 := Sd.mk hk9; have hb10 := below_one w7 (.cells #[.int .i64 0, .string dg, .slice A9 k9 c9] 24); have HMD9 := Sd.mk hmd; have HL9 := Sd.mk (((HL.out.below HW.out).below hb9).below hb10); have HSG9 := Sd.mk (sgs_of (hs9.below hb10) (fun x hx => HL9.out.tg x (hmd.sub hx))); have X9 := Sd.mk (blk_new w7 (.cells #[.int .i64 0, .string dg, .slice A9 k9 c9] 24)); clear hk9 hs9 hmd hb9 hb10))
          clear HM2
          generalize w7.heap.size = B9 at X9 ⊢
          generalize w7.alloc _ = W9 at X9 HL9 HSG9 ⊢
          have q0 := blk_at X9.out 0 _ rfl
          have q1 := blk_at X9.out 1 _ rfl
          have q2 := blk_at X9.out 2 _ rfl
          have HRC9 := Sd.mk (show RightCert ⟨0, dg, sgs seed tx n r9⟩ from sgs_right n7 HMD9.out.up (fun x hx => HFR.out x (HMD9.out.sub hx)) ⟨by omega, by omega⟩ HD32.out)
          have HNE := Sd.mk (show ¬ (sgs seed tx n r9 = []) from fun h => by
            have h1 : r9.length = 0 := by have := congrArg List.length h; unfold sgs at this; rw [List.length_map] at this; exact this
            rw [HMD9.out.len] at h1
            have h2 := List.eq_nil_of_length_eq_zero h1
            have hm : (rs[0]'(by rw [HRL.out]; exact hl1)).f ∈ Mk.fst (rs.map (·.f)) := ((Mk.fst_ok _ (rs.map (·.f)) rfl).2 _).2 (List.mem_map.2 ⟨_, List.getElem_mem _, rfl⟩)
            rw [h2] at hm
            simp at hm)
          have HHO := Sd.mk (holds_0 W9 seed 0 (n : Nat) ⟨0, dg, sgs seed tx n r9⟩ A9 c9 HSG9.out k9 (by show k9 = (sgs seed tx n r9).length; unfold sgs; rw [List.length_map]; exact HK9.out) (certB_few (sgs_few n7 HRC9.out)) rfl false ⟨fun h => (by cases h), fun h => absurd h.2.2 HNE.out⟩)
          go_wp2_with (first
            | (go_at_call 16; (with_reducible refine HHO.out.mono ?_); rintro e w10 ⟨rfl, hb⟩; have HL10 := Sd.mk (HL9.out.below hb); clear hb))
          go_ret
          exact ⟨rfl, HL10.out.bel⟩
theorem ct_row (w : World) (seed : ByteArray) (hs : seed.size ≤ 140737488351232) (A : Option Addr) (c : Nat) (l : List Int) (h1 : l.length ≤ c) (h2 : c ≤ maxLen) (h3 : Row (Rk.int .u8) w A l) (view : Int) (hv : (Lit.int .u8 view).wf = true) :
    Calls Try.prog 7 #[.string seed, .slice A l.length c, .int .u8 view] w fun e w' => e = .returned (.bool true) ∧ RowKit.Below w.heap.size w w' := by
  have f : ∀ x : Int, (Lit.int .u8 x).wf = true → 0 ≤ x ∧ x ≤ 255 := fun x hx => by simpa [Lit.wf, IntKind.min, IntKind.max, IntKind.bits, IntKind.signed] using hx
  obtain ⟨v', rfl⟩ : ∃ v' : Nat, view = (v' : Int) := ⟨view.toNat, by have := f view hv; omega⟩
  refine certtrue_law w seed A c l ⟨h1, by unfold maxLen at h2; omega, fun i x hx => ?_⟩ (fun x hx => ?_) _ rfl v' (by have := f _ hv; omega)
  · obtain ⟨b, o, cs, hA, ⟨rfl, h1⟩, hc⟩ := h3 i x hx
    exact ⟨b, o, _, hA, rfl, hc⟩
  · obtain ⟨i, hi, rfl⟩ := List.getElem_of_mem hx
    obtain ⟨b, o, cs, hA, ⟨rfl, h1⟩, hc⟩ := h3 i _ (List.getElem?_eq_getElem hi)
    exact f _ h1
end Go.Proofs.Ytdmdfpbklflijaa.Crt

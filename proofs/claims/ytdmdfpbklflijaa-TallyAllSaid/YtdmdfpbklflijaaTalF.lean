/- TallyAll: walked. -/
import Derived.Test.YtdmdfpbklflijaaTalE
set_option linter.unusedVariables false
set_option linter.unusedSimpArgs false
namespace Go.Proofs.Ytdmdfpbklflijaa.Tal
open Go.RowKit Go.Sort Rd Api Own Mv App Mk Num Dig Mac

def fI (x : Int) : List Value := [.int .i64 x]
theorem fI_one : ∀ x : Int, ∀ u ∈ fI x, u.oneCell' = true := fun _ _ hu => by simp [fI] at hu; subst hu; rfl
theorem info_int : ((Try.prog).info? 3).map (fun i => (i.zero, i.size, i.bytes)) = some (some (.int .i64 0), 1, 8) := by kernel_rfl
def numK (k : IntKind) : Rk Int := num k
/-- who has voted, so far -/
def Who (v : Value) (who : List Int) (W : World) : Prop := OwnR fI 1 W 0 3 v who
theorem kp_who (v : Value) (who : List Int) : Kp (Who v who) :=
  ⟨fun h hb => OwnR.below h hb, fun {W k cs t} j u h hk ht => OwnR.grown h (row := some k) ⟨rfl, rfl, rfl, by simp [World.setCell], fun i hi hr => heap_set _ _ _ _ i (fun e => hr (by rw [e]))⟩ (.inr (OwnR.blk h hk (by rcases ht with rfl | rfl <;> decide))), fun {W W1 row} h hg hr => OwnR.grown h hg (by
    cases e : v.ownBlock with
    | none => exact .inl rfl
    | some k =>
      refine .inr (fun e2 => ?_)
      obtain ⟨cs, hk⟩ := hr k e2.symm
      exact OwnR.blk h hk (by decide) e)⟩
theorem own_emptyI (W : World) : OwnR fI 1 (W.alloc (.cells #[] 3)) 0 3 (.slice (some ⟨W.heap.size, 0, none⟩) 0 0) [] :=
  ⟨rfl, .inr ⟨W.heap.size, 0, #[], rfl, Nat.zero_le _, blk_new W _, Nat.le_refl _, by unfold maxLen; omega, rfl, rfl⟩⟩
theorem who_nil (W : World) : Who (.slice none 0 0) [] W := OwnR.nil _ _ _ _ _
theorem Tb.re {K K' : World → Prop} {w0 : World} {g : Nat} {seed : ByteArray} {tn n below : Int} {v : Value} {vs : List Vt} {W : World} (h : Tb K w0 g seed tn n below v vs W) (hK : Kp K') (hk : K' W) : Tb K' w0 g seed tn n below v vs W := ⟨h.ty, h.ge, h.row, h.bel, hK, hk⟩
theorem who_row {v : Value} {who : List Int} {W : World} (h : Who v who W) : ∃ A c, v = .slice A who.length c ∧ Sl (numK .i64) W A c who ∧ (A = none → c = 0) := by
  obtain ⟨A, c, hv, hs⟩ := OwnR.reads (d := numK .i64) (f := fI) (n := 1) (fun _ _ => rfl) (fun _ => rfl) rfl h
  refine ⟨A, c, hv, hs, fun hA => ?_⟩
  subst hA
  rcases h.2 with ⟨h1, _⟩ | ⟨g, cap, cur, h1, _⟩
  · rw [hv] at h1; simp at h1; exact h1.2
  · rw [hv] at h1; simp at h1
/-- the votes are those of who -/
structure Vs (view : Int) (d : ByteArray) (n : Nat) (who : List Int) (vs : List Vt) : Prop where
  fr : vs.map (·.s.f) = who
  all : ∀ x ∈ vs, x.v = view ∧ x.b = d
  nd : who.Nodup
  rng : ∀ x ∈ who, 0 ≤ x ∧ x < (n : Int)
theorem Vs.len {view : Int} {d : ByteArray} {n : Nat} {who : List Int} {vs : List Vt} (h : Vs view d n who vs) : vs.length = who.length := by rw [← h.fr, List.length_map]
theorem Vs.le {view : Int} {d : ByteArray} {n : Nat} {who : List Int} {vs : List Vt} (h : Vs view d n who vs) : who.length ≤ n := by
  have : ∀ (m : Nat) (l : List Int), l.Nodup → (∀ x ∈ l, 0 ≤ x ∧ x < (m : Int)) → l.length ≤ m := by
    intro m
    induction m with
    | zero => intro l _ h; cases l with
      | nil => exact Nat.le_refl _
      | cons x r => have := h x (by simp); omega
    | succ m ih =>
      intro l hn h
      have h1 := ih (l.erase (m : Int)) (hn.erase _) (fun x hx => by
        have h2 := h x (List.mem_of_mem_erase hx)
        have h3 : x ≠ (m : Int) := fun e => by subst e; exact List.Nodup.not_mem_erase hn hx
        omega)
      rw [List.length_erase] at h1
      split at h1 <;> omega
  exact this n who h.nd h.rng
theorem Vs.had {view : Int} {d : ByteArray} {n : Nat} {who : List Int} {vs : List Vt} (h : Vs view d n who vs) (y : Vt) (hy : y.v = view) : vs.any (same y) = decide (y.s.f ∈ who) := by
  rw [Bool.eq_iff_iff, List.any_eq_true, decide_eq_true_eq, ← h.fr, List.mem_map]
  constructor
  · rintro ⟨x, hx, hs⟩
    simp only [same, Bool.and_eq_true, beq_iff_eq] at hs
    exact ⟨x, hx, hs.2⟩
  · rintro ⟨x, hx, hf⟩
    exact ⟨x, hx, by simp [same, hf, (h.all x hx).1, hy]⟩
theorem Vs.of {view : Int} {d : ByteArray} {n : Nat} {who : List Int} {vs : List Vt} (h : Vs view d n who vs) (y : Vt) (hv : y.v = view) (hb : y.b = d) : (ofF (vs ++ [y]) view d).length = who.length + 1 := by
  have hall : ∀ x ∈ vs ++ [y], hit view d x = true := fun x hx => by
    rcases List.mem_append.1 hx with e | e
    · simp [hit, (h.all x e).1, (h.all x e).2]
    · rw [List.mem_singleton] at e; subst e; simp [hit, hv, hb]
  unfold ofF
  rw [List.filter_eq_self.2 hall, List.length_map, List.length_append, h.len]; rfl
theorem Vs.more {view : Int} {d : ByteArray} {n : Nat} {who : List Int} {vs : List Vt} (h : Vs view d n who vs) (y : Vt) (hv : y.v = view) (hb : y.b = d) (hf : 0 ≤ y.s.f ∧ y.s.f < (n : Int)) (hn : y.s.f ∉ who) : Vs view d n (who ++ [y.s.f]) (vs ++ [y]) := by
  refine ⟨by rw [List.map_append, h.fr]; rfl, fun x hx => ?_, ?_, fun x hx => ?_⟩
  · rcases List.mem_append.1 hx with e | e
    · exact h.all x e
    · rw [List.mem_singleton] at e; subst e; exact ⟨hv, hb⟩
  · rw [List.nodup_append]
    exact ⟨h.nd, by simp, fun a ha b hb e => by rw [List.mem_singleton] at hb; subst hb; subst e; exact hn ha⟩
  · rcases List.mem_append.1 hx with e | e
    · exact h.rng x e
    · rw [List.mem_singleton] at e; subst e; exact hf
theorem vs_nil (view : Int) (d : ByteArray) (n : Nat) : Vs view d n [] [] := ⟨rfl, fun x hx => by simp at hx, List.nodup_nil, fun x hx => by simp at hx⟩
/-- how many certificates there were -/
def made (n : Nat) (k : Nat) : Nat := if n - Gat.fl n ≤ k then 1 else 0
set_option maxHeartbeats 8000000 in
set_option maxRecDepth 100000 in
theorem all_few (w : World) (m : Nat) (hm : m < 256) (A : Option Addr) (c : Nat) (l : List Int) (hs : Sl (numK .u8) w A c l) (hb : ∀ x ∈ l, 0 ≤ x ∧ x ≤ 255) (vw : Nat) (hv : vw < 256) (len : Nat) (hlen : len = l.length) :
    Calls Try.prog 8 #[.int .u8 (m : Nat), .slice A len c, .int .u8 (vw : Nat)] w fun e w' => e = .returned (.bool true) ∧ RowKit.Below w.heap.size w w' := by
  have HS := Sd.mk hs
  have HBY := Sd.mk hb
  have HN := Sd.mk hlen
  have lc := Nat.le_trans hs.le hs.cap
  rw [← hlen] at lc
  clear hs hb hlen
  by_cases h30 : 30 < len
  · have d0 : decide ((30 : Int) < (len : Int)) = true := decide_eq_true (by omega)
    have d0b : decide (30 < len) = true := decide_eq_true h30
    go_enter Try.func8, Try.ntmps8
    go_wp2_with (first
      | (go_at_call 30; (with_reducible refine (awake_any _).mono ?_); rintro e wa ⟨rfl, hba⟩; (first | (have B1 := Sd.mk (below_then B0.out hba)) | have B0 := Sd.mk hba); clear hba))
    go_ret
    exact ⟨rfl, B1.out⟩
  · have d0 : decide ((30 : Int) < (len : Int)) = false := decide_eq_false (by omega)
    have d0b : decide (30 < len) = false := decide_eq_false h30
    obtain ⟨r0, hr0⟩ : ∃ z, z = m % 7 := ⟨_, rfl⟩
    have p0 : ((m : Int)).tmod 7 = (r0 : Int) := by rw [Int.tmod_eq_emod_of_nonneg (by omega)]; omega
    have p0b : ((m : Int)) % 7 = (r0 : Int) := by omega
    have r7 : r0 < 7 := by omega
    obtain ⟨n, hn⟩ : ∃ n, n = 1 + r0 := ⟨_, rfl⟩
    have p1 : (1 : Int) + (r0 : Int) = (n : Int) := by omega
    have n1 : 1 ≤ n := by omega
    have n7 : n ≤ 7 := by omega
    obtain ⟨view, hview⟩ : ∃ z, z = 1 + vw := ⟨_, rfl⟩
    have p2 : (1 : Int) + (vw : Int) = (view : Int) := by omega
    have v1 : 1 ≤ view := by omega
    have v2 : view ≤ 256 := by omega
    obtain ⟨d, hd⟩ : ∃ d, FB = d := ⟨_, rfl⟩
    have hd32 : d.size = 32 := by rw [← hd]; exact FB_size
    have HD := Sd.mk hd
    obtain ⟨tx, htx⟩ : ∃ tx, vtxt (view : Nat) d = tx := ⟨_, rfl⟩
    have HTX := Sd.mk htx
    have txz : tx.size ≤ 35184372088832 := by rw [← htx, vtxt_size _ hd32]; omega
    have HD32 := Sd.mk hd32
    have hfc := fun W => field_cert W d
    clear hd htx hd32 hr0 hn hview
    go_enter Try.func8, Try.ntmps8
    go_upto_region 7 with (first
      | (go_at_call 30; (with_reducible refine (awake_any _).mono ?_); rintro e wa ⟨rfl, hba⟩; have B0 := Sd.mk hba; clear hba)
      | (go_at_call 21; (with_reducible refine (first_any _ d HD.out).mono ?_); rintro e w2 ⟨rfl, hb2⟩; have B2 := Sd.mk (below_then B0.out hb2); clear hb2)
      | (go_at_call 31; (with_reducible refine (new_s (Who (.slice none 0 0) []) (kp_who _ _) _ w B2.out (who_nil _) n).mono ?_); rintro e w1 ⟨g, rfl, ht, hb1⟩; have HT1 := Sd.mk ht; clear ht hb1))
    clear B0 B2
    have H0 := Sd.mk (show Vs (view : Nat) d n [] [] from vs_nil _ _ _)
    have q0 : 1 ≤ n - Gat.fl n := by have := Gat.fl_lt n1; omega
    obtain ⟨q, hq⟩ : ∃ q, q = n - Gat.fl n := ⟨_, rfl⟩
    have HQ := Sd.mk hq
    rw [← hq] at q0
    have hq2 : ((n : Int) - 1) / 3 = ((n - q : Nat) : Int) := by rw [hq]; unfold Gat.fl; omega
    have hq3 : ((n : Int) - 1).tdiv 3 = ((n - q : Nat) : Int) := by rw [Int.tdiv_eq_ediv_of_nonneg (by omega)]; exact hq2
    have hqn : q ≤ n := by rw [hq]; omega
    have hq4 : (n : Int) - ((n - q : Nat) : Int) = (q : Int) := by omega
    clear hq
    go_wp2
    go_loopg [11, 12, 13, 14, 15, 16, 17, 18, 19, 20] len (fun gk v11 v12 v13 v14 v15 v16 v17 v18 v19 v20 wr => ∃ (i : Nat) (B : Option Addr) (k e : Nat) (mk : Nat) (who : List Int) (vs : List Vt) (vt : Value), i + gk = len ∧ k ≤ 7 ∧ v11 = .slice B k e ∧ v12 = .int .i64 (mk : Nat) ∧ v13 = .int .i64 (i : Nat) ∧ Sd (mk = if q ≤ k then 1 else 0) ∧ Sd (who.length = k) ∧ Sd (Vs (view : Nat) d n who vs) ∧ Sd (Tb (Who (.slice B k e) who) w g SB (0 : Nat) n 0 vt vs wr))
    case atStart => exact ⟨0, none, 0, 0, 0, [], [], _, by omega, by omega, rfl, rfl, rfl, ⟨by rw [if_neg (by omega)]⟩, ⟨rfl⟩, H0, HT1⟩
    case round =>
      clear H0 HT1
      obtain ⟨i, B, k, e, mk, who, vs, vt, hi, hk7, rfl, rfl, rfl, HMK, HK, HV, HT⟩ := hrel
      by_cases hlt : i < len
      · have hii : (i : Int) < len := by omega
        have hil : i < l.length := by rw [← HN.out]; exact hlt
        obtain ⟨b1, o1, rfl, p00⟩ := num_at HS.out.row hil
        have c0 := cell_below HT.out.bel p00
        obtain ⟨x, hx⟩ : ∃ x : Nat, l[i]'hil = (x : Int) := ⟨(l[i]'hil).toNat, by have := HBY.out _ (List.getElem_mem hil); omega⟩
        have x255 : x ≤ 255 := by have := HBY.out _ (List.getElem_mem hil); omega
        rw [hx] at c0
        obtain ⟨fr, hfr⟩ : ∃ z, z = x % n := ⟨_, rfl⟩
        have frn : fr < n := by rw [hfr]; exact Nat.mod_lt _ (by omega)
        have p5 : ((x : Int)).tmod (n : Int) = (fr : Int) := by rw [Int.tmod_eq_emod_of_nonneg (by omega), hfr]; rfl
        have hn0 : ((n : Int) == 0) = false := beq_eq_false_iff_ne.2 (by omega)
        have hn0b : ¬ (n : Int) = 0 := by omega
        have hn0c : ¬ n = 0 := by omega
        clear hx p00 hil hfr
        go_upto_region 14 with (first
          | (go_at_call 23; (with_reducible refine (text_any _ (view : Nat) d (by have := HD32.out; omega) tx HTX.out).mono ?_); rintro e w3 ⟨rfl, hb3⟩; have HT3 := Sd.mk (HT.out.below hb3); clear hb3)
          | (go_at_call 32; (with_reducible refine (sign_s _ (fr : Nat) n tx (by omega) (by omega) txz).mono ?_); rintro e w4 ⟨v, rfl, ⟨Av, cv, rfl, hsl⟩, hb4⟩; have HT4 := Sd.mk (HT3.out.below hb4); have HSG := Sd.mk hsl; clear hsl hb4))
        have X0 := Sd.mk (blk_new w4 (.cells #[.int .i64 (fr : Nat), .slice Av n cv] 39))
        have HT5 := Sd.mk (HT4.out.below (below_one w4 (.cells #[.int .i64 (fr : Nat), .slice Av n cv] 39)))
        have HSL := Sd.mk (HSG.out.below (below_one w4 (.cells #[.int .i64 (fr : Nat), .slice Av n cv] 39)))
        generalize hk7' : w4.heap.size = k7 at X0 ⊢
        generalize w4.alloc _ = W5 at X0 HT5 HSL ⊢
        clear HT4 HT3 HSG HT hk7' c0
        obtain ⟨B', e', hBB, hwr, hnil⟩ := who_row HT5.out.k
        rw [HK.out] at hBB
        simp only [Value.slice.injEq] at hBB
        obtain ⟨rfl, -, rfl⟩ := hBB
        have HWR := Sd.mk hwr
        have HNIL := Sd.mk hnil
        have hke := hwr.le
        rw [HK.out] at hke
        have hke2 := hwr.cap
        clear hwr hnil
        obtain ⟨gko, hgo⟩ : ∃ z, gk = z := ⟨_, rfl⟩
        go_wp2
        go_loopg [17, 18] k (fun gk v17 v18 wx => ∃ (j : Nat) (r : Bool), j + gk = k ∧ v17 = .bool r ∧ v18 = .int .i64 (j : Nat) ∧ Sd (r = decide ((fr : Int) ∈ who.take j)) ∧ Sd (wx = W5))
        case atStart => exact ⟨0, false, by omega, rfl, rfl, ⟨by simp⟩, ⟨rfl⟩⟩
        case round =>
          obtain ⟨j, r, hj, rfl, rfl, HR, HE⟩ := hrel
          obtain rfl := HE.out.symm
          by_cases hjt : j < k
          · have hji : (j : Int) < k := by omega
            have hjl : j < who.length := by rw [HK.out]; exact hjt
            obtain ⟨b2, o2, rfl, c1⟩ := num_at HWR.out.row hjl
            obtain ⟨z, hz⟩ : ∃ z, who[j]'hjl = z := ⟨_, rfl⟩
            rw [hz] at c1
            have HTK := Sd.mk (show who.take (j + 1) = who.take j ++ [z] by rw [← List.take_append_getElem hjl, hz])
            clear hz hjl
            cases r with
            | true =>
              have HR2 := Sd.mk (show true = decide ((fr : Int) ∈ who.take (j + 1)) by
                have := of_decide_eq_true HR.out.symm
                rw [HTK.out]; symm; exact decide_eq_true (List.mem_append_left _ this))
              go_wp2
              go_roundg (gk - 1)
              case measure => omega
              case rel => exact ⟨j + 1, true, by omega, rfl, by go_num, HR2, ⟨rfl⟩⟩
            | false =>
              obtain ⟨r2, hr2⟩ : ∃ r2, (z == (fr : Int)) = r2 := ⟨_, rfl⟩
              have HR2 := Sd.mk (show r2 = decide ((fr : Int) ∈ who.take (j + 1)) by
                have hno := of_decide_eq_false HR.out.symm
                rw [HTK.out, ← hr2, Bool.eq_iff_iff, decide_eq_true_eq, beq_iff_eq, List.mem_append, List.mem_singleton]
                exact ⟨fun h => .inr h.symm, fun h => h.elim (fun h => absurd h hno) (fun h => h.symm)⟩)
              go_wp2
              go_roundg (gk - 1)
              case measure => omega
              case rel => exact ⟨j + 1, r2, by omega, rfl, by go_num, HR2, ⟨rfl⟩⟩
          · have hji : decide (j < k) = false := decide_eq_false (by omega)
            have HRF := Sd.mk (show r = decide ((fr : Int) ∈ who) by have := HR.out; rwa [List.take_of_length_le (by rw [HK.out]; omega)] at this)
            have u0 := blk_at X0.out 0 _ rfl
            have u1 := blk_at X0.out 1 _ rfl
            have hvsl : vs.length < 4 * n := by have h1 := HV.out.len; have h2 := HV.out.le; omega
            have HAN := Sd.mk (HV.out.had (⟨(view : Nat), d, ⟨(fr : Nat), Av, n, cv⟩⟩ : Vt) rfl)
            have HSB := Sd.mk (show SB.size ≤ 35184372088832 by decide)
            have HTK := Sd.mk (fun (K : World → Prop) (W9 : World) (hT : Tb K w g SB (0 : Nat) n 0 vt vs W9) (hs9 : Sl Rk.str W9 Av cv (tagsF SB (fr : Nat) tx n)) (r' : Bool) (hr' : vs.any (same (⟨(view : Nat), d, ⟨(fr : Nat), Av, n, cv⟩⟩ : Vt)) = !r') => takes_signed 0 n ⟨n1, n7⟩ (by omega) hT hvsl HSB.out (⟨(view : Nat), d, ⟨(fr : Nat), Av, n, cv⟩⟩ : Vt) ⟨by show (1 : Int) ≤ (view : Nat); omega, by show ((view : Nat) : Int) ≤ 1000000; omega⟩ HD32.out ⟨by show (0 : Int) ≤ (fr : Nat); omega, by show ((fr : Nat) : Int) < (n : Int); omega⟩ rfl (by rw [HTX.out]; exact hs9) r' hr')
            clear HR HE
            cases r with
            | true =>
              have HAD := Sd.mk (show Calls Try.prog 33 #[.pointer (some ⟨g, 0, none⟩), .int .i64 (view : Nat), .string d, .agg #[.int .i64 (fr : Nat), .slice Av n cv]] W5 fun er w' => er = .returned (.tuple #[.agg #[.int .i64 0, .string { data := #[] }, .slice none 0 0], .bool false]) ∧ Tb (Who (.slice B k e) who) w g SB (0 : Nat) n 0 vt vs w' from
                add_no HT5.out (⟨(view : Nat), d, ⟨(fr : Nat), Av, n, cv⟩⟩ : Vt) (HTK.out _ _ HT5.out HSL.out false (by rw [HAN.out]; exact HRF.out.symm)))
              have HLN := Sd.mk (show vs.length = k by rw [HV.out.len]; exact HK.out)
              clear HTK HAN
              go_wp2_with (first
                | (go_at_call 33; (with_reducible refine HAD.out.mono ?_); rintro e w6 ⟨rfl, htb⟩; have HT6 := Sd.mk (htb.below (below_one w6 (.cells #[.int .i64 0, .string { data := #[] }, .slice none 0 0] 24))); clear htb)
                | (go_at_call 34; (with_reducible refine (len_any HT6.out.ty k HLN.out).mono ?_); rintro e w7 ⟨rfl, rfl⟩))
              go_roundg (gko - 1)
              case measure => omega
              case rel => exact ⟨i + 1, B, k, e, mk, who, vs, vt, by omega, hk7, rfl, rfl, by go_num, HMK, HK, HV, HT6⟩
            | false =>
              have HE0 := Sd.mk (own_emptyI W5)
              have HB0 := Sd.mk (below_one W5 (.cells #[] 3))
              have HR0 := Sd.mk (HWR.out.row.below (below_one W5 (.cells #[] 3)))
              have HKV := Sd.mk (show Value.slice B k e = .slice B who.length e by rw [HK.out])
              go_upto_region 21 with (first
                | (at_builtin; refine appends_at (d := numK .i64) (f := fI) (n := 1) (fun _ _ _ => Iff.rfl) rfl (fun _ => rfl) fI_one rfl (.tmp 79) (.tmp 80) 28 3 (.int .i64 0) 8 rfl Try.underlying28 info_int rfl (by decide) (.slice (some ⟨W5.heap.size, 0, none⟩) 0 0) [] who B e rfl HKV.out HR0.out HNIL.out HE0.out (by have := HK.out; simp only [List.length_nil]; omega) (by have := HK.out; simp only [List.length_nil]; omega) ?_; intro v1 w1 hown hg hob; rw [List.nil_append] at hown; obtain ⟨A6, q6, rfl⟩ := OwnR.slice hown; rw [HK.out] at hown hob ⊢; have HO1 := Sd.mk hown; have HB1 := Sd.mk (below_grown HB0.out hg (by simp) (fun j e => by simp [Value.ownBlock] at e; omega)); have HQ1 := Sd.mk (show ∀ j, (Value.slice A6 k q6).ownBlock = some j → W5.heap.size ≤ j from fun j hj => by (rcases hob with e2 | e2; (rw [hj] at e2; simp [Value.ownBlock] at e2; omega); (rw [hj] at e2; simp at e2; omega))); clear hown hg hob)
                | (at_builtin; refine append_at (f := fI) (n := 1) (fun _ => rfl) fI_one rfl (.tmp 81) (.tmp 83) 28 3 (.int .i64 0) 8 rfl Try.underlying28 info_int rfl (by decide) (.slice A6 k q6) who (fr : Int) rfl rfl HO1.out (by rw [HK.out]; omega) (by rw [HK.out]; omega) ?_; intro v2 w2 hown hg hob; obtain ⟨A7, q7, rfl⟩ := OwnR.slice hown; have hl7 : (who ++ [(fr : Int)]).length = k + 1 := (by rw [List.length_append, HK.out]; rfl); rw [hl7] at hown hob ⊢; have HO2 := Sd.mk hown; have HB2 := Sd.mk (below_grown HB1.out hg HB1.out.size (fun j e => HQ1.out j e)); have HL7 := Sd.mk hl7; clear hown hg hob hl7))
              clear HO1 HB1 HQ1 HE0 HB0 HR0 HKV
              have HT7 := Sd.mk (HT5.out.below HB2.out)
              have HT8 := Sd.mk (HT7.out.re (kp_who (.slice A7 (k + 1) q7) (who ++ [(fr : Int)])) HO2.out)
              have HS8 := Sd.mk (HSL.out.below HB2.out)
              have u0 := cell_below HB2.out u0
              have u1 := cell_below HB2.out u1
              have HTT := Sd.mk (HTK.out _ _ HT8.out HS8.out true (by rw [HAN.out]; exact HRF.out.symm))
              have HV2 := Sd.mk (HV.out.more (⟨(view : Nat), d, ⟨(fr : Nat), Av, n, cv⟩⟩ : Vt) rfl rfl ⟨by show (0 : Int) ≤ (fr : Nat); omega, by show ((fr : Nat) : Int) < (n : Int); omega⟩ (of_decide_eq_false HRF.out.symm))
              have HOF := Sd.mk (show (ofF (vs ++ [(⟨(view : Nat), d, ⟨(fr : Nat), Av, n, cv⟩⟩ : Vt)]) (view : Nat) d).length = k + 1 by rw [HV.out.of (⟨(view : Nat), d, ⟨(fr : Nat), Av, n, cv⟩⟩ : Vt) rfl rfl, HK.out])
              have hk17 : k + 1 ≤ 7 := by have := HV2.out.le; rw [HL7.out] at this; omega
              have HLN := Sd.mk (show (vs ++ [(⟨(view : Nat), d, ⟨(fr : Nat), Av, n, cv⟩⟩ : Vt)]).length = k + 1 by rw [HV2.out.len]; exact HL7.out)
              have h900 := Sd.mk (show vs.length ≤ 900 by omega)
              clear HTK HAN HT5 HT7 HSL HO2 HWR HNIL
              by_cases hkq : k + 1 = q
              · have dq : (((k : Int) + 1) == (q : Int)) = true := by rw [beq_iff_eq]; omega
                have dq2 : ((k + 1) == q) = true := by rw [beq_iff_eq]; omega
                have HAD := Sd.mk (show Calls Try.prog 33 #[.pointer (some ⟨g, 0, none⟩), .int .i64 (view : Nat), .string d, .agg #[.int .i64 (fr : Nat), .slice Av n cv]] w2 fun er w' => ∃ v' A' k' c' r, er = .returned (.tuple #[.agg #[.int .i64 (view : Nat), .string d, .slice A' k' c'], .bool true]) ∧ k' = r.length ∧ Sl rawK w' A' c' r ∧ Made (ofF (vs ++ [(⟨(view : Nat), d, ⟨(fr : Nat), Av, n, cv⟩⟩ : Vt)]) (view : Nat) d) r ∧ Tb (Who (.slice A7 (k + 1) q7) (who ++ [(fr : Int)])) w g SB (0 : Nat) n 0 v' (vs ++ [(⟨(view : Nat), d, ⟨(fr : Nat), Av, n, cv⟩⟩ : Vt)]) w' from
                  add_full n n1 n7 HT8.out h900.out (⟨(view : Nat), d, ⟨(fr : Nat), Av, n, cv⟩⟩ : Vt) HTT.out (k + 1) HOF.out q HQ.out hkq)
                have HMK2 := Sd.mk (show mk + 1 = if q ≤ k + 1 then 1 else 0 by rw [HMK.out, if_neg (by omega), if_pos (by omega)])
                have hmk1 : mk ≤ 1 := by rw [HMK.out]; split <;> omega
                clear hkq
                go_wp2_with (first
                  | (go_at_call 33; (with_reducible refine HAD.out.mono ?_); rintro er w6 ⟨v', A', k', c', r, rfl, -, -, -, htb⟩; have HT6 := Sd.mk (htb.below (below_one w6 (.cells #[.int .i64 (view : Nat), .string d, .slice A' k' c'] 24))); clear htb)
                  | (go_at_call 34; (with_reducible refine (len_any HT6.out.ty (k + 1) HLN.out).mono ?_); rintro er w7 ⟨rfl, rfl⟩))
                go_roundg (gko - 1)
                case measure => omega
                case rel => exact ⟨i + 1, A7, k + 1, q7, mk + 1, who ++ [(fr : Int)], _, _, by omega, hk17, rfl, by go_num, by go_num, HMK2, HL7, HV2, HT6⟩
              · have dq : (((k : Int) + 1) == (q : Int)) = false := by rw [beq_eq_false_iff_ne]; omega
                have dq2 : ((k + 1) == q) = false := by rw [beq_eq_false_iff_ne]; omega
                have HAD := Sd.mk (show Calls Try.prog 33 #[.pointer (some ⟨g, 0, none⟩), .int .i64 (view : Nat), .string d, .agg #[.int .i64 (fr : Nat), .slice Av n cv]] w2 fun er w' => er = .returned (.tuple #[.agg #[.int .i64 0, .string { data := #[] }, .slice none 0 0], .bool false]) ∧ ∃ v', Tb (Who (.slice A7 (k + 1) q7) (who ++ [(fr : Int)])) w g SB (0 : Nat) n 0 v' (vs ++ [(⟨(view : Nat), d, ⟨(fr : Nat), Av, n, cv⟩⟩ : Vt)]) w' from
                  add_few n n1 n7 HT8.out h900.out (⟨(view : Nat), d, ⟨(fr : Nat), Av, n, cv⟩⟩ : Vt) HTT.out (k + 1) HOF.out q HQ.out hkq)
                have HMK2 := Sd.mk (show mk = if q ≤ k + 1 then 1 else 0 by
                  rw [HMK.out]
                  by_cases h : q ≤ k
                  · rw [if_pos h, if_pos (by omega)]
                  · rw [if_neg h, if_neg (by omega)])
                go_wp2_with (first
                  | (go_at_call 33; (with_reducible refine HAD.out.mono ?_); rintro er w6 ⟨rfl, v', htb⟩; have HT6 := Sd.mk (htb.below (below_one w6 (.cells #[.int .i64 0, .string { data := #[] }, .slice none 0 0] 24))); clear htb)
                  | (go_at_call 34; (with_reducible refine (len_any HT6.out.ty (k + 1) HLN.out).mono ?_); rintro er w7 ⟨rfl, rfl⟩))
                go_roundg (gko - 1)
                case measure => omega
                case rel => exact ⟨i + 1, A7, k + 1, q7, mk, who ++ [(fr : Int)], _, _, by omega, hk17, rfl, rfl, by go_num, HMK2, HL7, HV2, HT6⟩
      · have hii : decide (i < len) = false := decide_eq_false (by omega)
        have hmk1 : mk ≤ 1 := by rw [HMK.out]; split <;> omega
        have hmki : (mk : Int) ≤ 1 := by omega
        go_wp2
        go_ret
        exact ⟨rfl, HT.out.bel⟩
theorem all_row (w : World) (m : Int) (hm : (Lit.int .u8 m).wf = true) (A : Option Addr) (c : Nat) (l : List Int) (h1 : l.length ≤ c) (h2 : c ≤ maxLen) (h3 : Row (Rk.int .u8) w A l) (view : Int) (hv : (Lit.int .u8 view).wf = true) :
    Calls Try.prog 8 #[.int .u8 m, .slice A l.length c, .int .u8 view] w fun e w' => e = .returned (.bool true) ∧ RowKit.Below w.heap.size w w' := by
  have f : ∀ x : Int, (Lit.int .u8 x).wf = true → 0 ≤ x ∧ x ≤ 255 := fun x hx => by simpa [Lit.wf, IntKind.min, IntKind.max, IntKind.bits, IntKind.signed] using hx
  obtain ⟨m', rfl⟩ : ∃ m' : Nat, m = (m' : Int) := ⟨m.toNat, by have := f m hm; omega⟩
  obtain ⟨v', rfl⟩ : ∃ v' : Nat, view = (v' : Int) := ⟨view.toNat, by have := f view hv; omega⟩
  refine all_few w m' (by have := f _ hm; omega) A c l ⟨h1, by unfold maxLen at h2; omega, fun i x hx => ?_⟩ (fun x hx => ?_) v' (by have := f _ hv; omega) _ rfl
  · obtain ⟨b, o, cs, hA, ⟨rfl, h1⟩, hc⟩ := h3 i x hx
    exact ⟨b, o, _, hA, rfl, hc⟩
  · obtain ⟨i, hi, rfl⟩ := List.getElem_of_mem hx
    obtain ⟨b, o, cs, hA, ⟨rfl, h1⟩, hc⟩ := h3 i _ (List.getElem?_eq_getElem hi)
    exact f _ h1
end Go.Proofs.Ytdmdfpbklflijaa.Tal

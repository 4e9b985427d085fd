/- LedgerParts: walked. -/
import Derived.Test.YtgleoeiiiadanaaLedI
set_option linter.unusedVariables false
set_option linter.unusedSimpArgs false
namespace Go.Proofs.Ytgleoeiiiadanaa.Led
open Go.RowKit Rd Api Own Mv Num Dig Wtx

theorem applies_len (n : Nat) {S : Nat → Prop} {W : World} {g b : Nat} {ve vd : Value} {xs l : List Rq} (hn : n = l.length) (h : Led S g b ve vd xs W) (hS : ∀ k, W.heap.size ≤ k → S k) {A : Option Addr} {c : Nat} (hA : In S A c l W) (hl : ∀ x ∈ l, Fine x) (hlen : xs.length + l.length ≤ 1000) (ys : List Rq) (hy : insAll xs l = ys) :
    Calls Try.prog 38 #[.pointer (some ⟨g, 0, none⟩), .slice A n c] W fun e w' => ∃ v ve' vd', e = .returned v ∧ Led S g b ve' vd' ys w' ∧ OwnR fI 1 w' 0 3 v (posAll xs l) ∧ (∀ k, v.ownBlock = some k → W.heap.size ≤ k) ∧ Fr S W w' := by
  subst hn; subst hy; exact applies_any S W g b ve vd xs l h hS A c hA hl hlen
theorem same_own {W : World} {v u : Value} {xs ys : List Rq} (h : OwnR fR 3 W 0 60 v xs) (k : OwnR fR 3 W 0 60 u ys) (r : Bool) (hr : r = true ↔ xs = ys) :
    Calls Try.prog 46 #[v, u] W fun e w' => e = .returned (.bool r) ∧ Below W.heap.size W w' := by
  obtain ⟨A7, c7, rfl, hs7, -, -⟩ := own_row h
  obtain ⟨A8, c8, rfl, hs8, -, -⟩ := own_row k
  exact same_any W A7 A8 c7 c8 xs ys hs7 hs8 r hr
-- <L1
set_option maxHeartbeats 8000000 in
set_option maxRecDepth 100000 in
theorem parts_row (w : World) (A : Option Addr) (c : Nat) (l : List Rq) (hc : l.length ≤ c) (hcm : c ≤ maxLen) (hl : Row rqK w A l) :
    Calls Try.prog 12 #[.slice A l.length c] w fun e w' => e = .returned (.bool true) ∧ Below w.heap.size w w' := by
  have hin : In (fun k => w.heap.size ≤ k) A c l w := in_of ⟨hc, by unfold maxLen at hcm; omega, (row_rq hl).1⟩
  have HI64 := Sd.mk (row_rq hl).2
  have HIN := Sd.mk hin
  have lc : l.length ≤ 9223372036854775807 := by unfold maxLen at hcm; omega
  have cm : c ≤ 9223372036854775807 := by unfold maxLen at hcm; omega
  obtain ⟨n, hn⟩ : ∃ n, n = l.length := ⟨_, rfl⟩
  have HN := Sd.mk hn
  rw [← hn] at lc hc ⊢
  clear hn hl hin hcm
  by_cases h60 : n ≤ 60
  · have h60' : decide ((60 : Int) < (n : Int)) = false := decide_eq_false (by omega)
    have h60'' : decide (60 < n) = false := decide_eq_false (by omega)
    go_enter Try.func12, Try.ntmps12
    go_upto_region 4 with (first
      | (go_at_call 35; (with_reducible refine (awake_any _).mono ?_); rintro e wa ⟨rfl, hba⟩; have HA := Sd.mk hba; clear hba)
      | (go_at_call 37; (with_reducible refine (new_any wa).mono ?_); rintro e w1 ⟨g, b, ve, vd, rfl, hL, hb⟩; have HL := Sd.mk hL; have HB1 := Sd.mk hb; clear hL hb)
      | (go_at_call 37; (with_reducible refine (new_any w1).mono ?_); rintro e w2 ⟨gy, by', vey, vdy, rfl, hL, hb⟩; have HLy := Sd.mk hL; have HB2 := Sd.mk hb; clear hL hb))
    have z1 := HB1.out.size
    have z2 := HB2.out.size
    have z0 := HA.out.size
    obtain ⟨Sx, hSx⟩ : ∃ S : Nat → Prop, ∀ k, S k ↔ (wa.heap.size ≤ k ∧ (k < w1.heap.size ∨ w2.heap.size ≤ k)) := ⟨_, fun _ => Iff.rfl⟩
    have HSx := Sd.mk hSx
    have HX0 := Sd.mk (show ∃ ve vd, Led Sx g b ve vd (insAll [] (l.take 0)) w2 from ⟨ve, vd, (HL.out.wider (S' := Sx) (fun k hk s => (hSx k).2 ⟨s, .inl hk⟩)).below HB2.out⟩)
    have HW0 := Sd.mk (show Below w.heap.size w w2 from below_then' (below_then' HA.out z0 HB1.out) (by omega) HB2.out)
    have HIN2 := Sd.mk (show In (fun k => w.heap.size ≤ k) A c l w2 from HIN.out.fr (S' := fun _ => False) ⟨HW0.out.os, HW0.out.tape, HW0.out.output, HW0.out.size, fun k hk _ => HW0.out.block k hk⟩ (fun _ _ s => s.elim))
    clear hSx HL
    go_wp2
    go_loopg [5] n (fun gk v5 wr => ∃ i, i + gk = n ∧ v5 = .int .i64 (i : Nat) ∧ Sd (∃ ve vd, Led Sx g b ve vd (insAll [] (l.take i)) wr) ∧ Sd (Fr Sx w2 wr) ∧ Sd (Upto (fun x : Rq => x.b.size ≤ 60) l i))
    case atStart => exact ⟨0, by omega, rfl, HX0, ⟨Fr.refl _ _⟩, ⟨upto_zero _ _⟩⟩
    case round =>
      clear HX0
      obtain ⟨i, hi, rfl, HX, HF, HU⟩ := hrel
      by_cases hlt : i < n
      · have hil : i < l.length := by rw [← HN.out]; exact hlt
        have HI := Sd.mk (show In Sx A c l wr from (HIN2.out.narrow (S' := Sx) (fun k _ s => by have := ((HSx.out k).1 s).1; show _ ≤ _; omega)).fr HF.out (fun _ _ s => s))
        obtain ⟨b1, o1, rfl, p0, p1, p2⟩ := rqN_at HI.out.sl.row hil
        obtain ⟨x, hx⟩ : ∃ x, l[i] = x := ⟨_, rfl⟩
        rw [hx] at p0 p1 p2
        have HQ := Sd.mk (show insAll [] (l.take (i + 1)) = insAll (insAll [] (l.take i)) [x] by rw [insAll_take hil, hx]; rfl)
        have HXX := Sd.mk (show l[i]? = some x by rw [List.getElem?_eq_getElem hil, hx])
        have HXI := Sd.mk (HI64.out x (hx ▸ List.getElem_mem hil))
        have hns := HI.out.ns (by intro e; rw [e] at hil; simp at hil) _ rfl
        have HNS := Sd.mk hns
        clear hx hns
        have hii : (i : Int) < n := by omega
        by_cases hb60 : x.b.size ≤ 60
        · have d60 : decide ((60 : Int) < (x.b.size : Int)) = false := decide_eq_false (by omega)
          have HFX := Sd.mk (show Fine x from ⟨HXI.out.1, HXI.out.2, hb60⟩)
          have HU2 := Sd.mk (upto_succ HU.out HXX.out hb60)
          have HP := Sd.mk (show wr.cell? ⟨b1, o1 + i * 3, none⟩ = some (.int .i64 x.c) ∧ wr.cell? ⟨b1, o1 + i * 3 + 1, none⟩ = some (.int .i64 x.s) ∧ wr.cell? ⟨b1, o1 + i * 3 + 2, none⟩ = some (.string x.b) from ⟨p0, p1, p2⟩)
          obtain ⟨xc, xs, xb⟩ := x
          simp only at p2 d60
          have hn1 : i + 1 ≤ n := hlt
          have hc1 : i + 1 ≤ c := by omega
          have hic : i ≤ c := by omega
          clear p0 p1 hb60 HU hil
          have HIN9 := Sd.mk (show In Sx (some ⟨b1, o1 + i * 3, none⟩) (c - i) [⟨xc, xs, xb⟩] wr from by
            refine ⟨⟨by show 1 ≤ c - i; omega, by omega, fun j y hy => ?_⟩, fun _ a ha => by cases ha; exact HNS.out⟩
            rcases j with _ | j
            · simp at hy
              subst hy
              refine ⟨b1, o1 + i * 3, _, rfl, rfl, fun k v hv => ?_⟩
              rw [show o1 + i * 3 + 0 * rqN.sz + k = o1 + i * 3 + k by omega]
              match k, hv with
              | 0, hv => simp [fR] at hv; subst hv; exact HP.out.1
              | 1, hv => simp [fR] at hv; subst hv; exact HP.out.2.1
              | 2, hv => simp [fR] at hv; subst hv; exact HP.out.2.2
              | k + 3, hv => simp [fR] at hv
            · simp at hy)
          obtain ⟨ve1, vd1, hl1⟩ := HX.out
          have HL1 := Sd.mk hl1
          have HS1 := Sd.mk (show ∀ k, wr.heap.size ≤ k → Sx k from fun k hk => (HSx.out k).2 ⟨by have := HF.out.size; omega, .inr (by have := HF.out.size; omega)⟩)
          have HLN := Sd.mk (show (insAll [] (l.take i)).length + 1 ≤ 1000 from by have := (insAll_length (l.take i) []).2; rw [List.length_take] at this; simp at this; omega)
          clear hl1 HX
          go_wp2_with (first
            | (go_at_call 38; (refine (applies_any Sx wr g b ve1 vd1 (insAll [] (l.take i)) [⟨xc, xs, xb⟩] HL1.out HS1.out (some ⟨b1, o1 + i * 3, none⟩) (c - i) HIN9.out (fun y hy => by simp at hy; subst hy; exact HFX.out) HLN.out).mono ?_); rintro e w5 ⟨v5, ve5, vd5, rfl, hL5, -, -, hF5⟩; have HL5 := Sd.mk hL5; have HF5 := Sd.mk hF5; clear hL5 hF5))
          go_roundg (gk - 1)
          case measure => omega
          case rel => exact ⟨i + 1, by omega, by go_num, ⟨ve5, vd5, by rw [HQ.out]; exact HL5.out⟩, ⟨HF.out.trans HF5.out⟩, HU2⟩
        · have d60 : decide ((60 : Int) < (x.b.size : Int)) = true := decide_eq_true (by omega)
          obtain ⟨xc, xs, xb⟩ := x
          simp only at p2 d60
          clear hb60 p0 p1 HU
          go_wp2
          go_ret
          exact ⟨rfl, HW0.out.trans (HF.out.toBelow (B := w.heap.size) (fun k hk s => by have := ((HSx.out k).1 s).1; omega) HW0.out.size)⟩
      · have hii : decide (i < n) = false := decide_eq_false (by omega)
        obtain rfl : i = n := by omega
        have et : l.take i = l := by rw [HN.out]; exact List.take_length
        obtain ⟨ve1, vd1, hl1⟩ := HX.out
        rw [et] at hl1
        have HL1 := Sd.mk hl1
        have HUA := Sd.mk (show ∀ x ∈ l, Fine x from fun x hx => ⟨(HI64.out x hx).1, (HI64.out x hx).2, upto_all HU.out (by rw [← HN.out]; omega) x hx⟩)
        obtain ⟨xs, hxs⟩ : ∃ xs, insAll [] l = xs := ⟨_, rfl⟩
        have hxl : xs.length ≤ 60 := by have := (insAll_length l []).2; rw [hxs, ← HN.out] at this; simp at this; omega
        obtain ⟨d, hd⟩ : ∃ d, dgst (xs.take xs.length) = d := ⟨_, rfl⟩
        rw [hxs] at HL1
        have HXS := Sd.mk hxs
        have HXL := Sd.mk hxl
        have HD := Sd.mk hd
        have z3 := HF.out.size
        obtain ⟨Sy, hSy⟩ : ∃ S : Nat → Prop, ∀ k, S k ↔ ((w1.heap.size ≤ k ∧ k < w2.heap.size) ∨ wr.heap.size ≤ k) := ⟨_, fun _ => Iff.rfl⟩
        have HSy := Sd.mk hSy
        have HLY := Sd.mk (show Led Sy gy by' vey vdy [] wr from (HLy.out.wider (S' := Sy) (fun k hk s => (hSy k).2 (.inl ⟨s, hk⟩))).same (fun k hk s => HF.out.blk k hk (fun e => by have h1 := (HSx.out k).1 e; have h2 := (hSy k).1 s; omega)) (fun _ _ s => s))
        have HIY := Sd.mk (show In Sy A c l wr from (HIN2.out.fr HF.out (fun k _ s => by have := ((HSx.out k).1 s).1; show _ ≤ _; omega)).narrow (S' := Sy) (fun k _ s => by have := (hSy k).1 s; show _ ≤ _; omega))
        have HSF := Sd.mk (show ∀ k, wr.heap.size ≤ k → Sy k from fun k hk => (hSy k).2 (.inr hk))
        have HLN := Sd.mk (show ([] : List Rq).length + l.length ≤ 1000 from by rw [← HN.out]; simp; omega)
        have HNL := Sd.mk HN.out
        clear hl1 HX et hxs hd hxl hSy HN
        go_wp2_with (first
          | (go_at_call 38; (with_reducible refine (applies_len i HNL.out HLY.out HSF.out HIY.out HUA.out HLN.out xs HXS.out).mono ?_); rintro e w5 ⟨v5, ve5, vd5, rfl, hL5, -, -, hF5⟩; have HL5 := Sd.mk hL5; have HF5 := Sd.mk hF5; have HX5 := Sd.mk (HL1.out.fr hF5 (fun k hk s e => by have h1 := (HSx.out k).1 s; have h2 := (HSy.out k).1 e; omega)); clear hL5 hF5 HL1)
          | (go_at_call 48; (with_reducible refine (len_any HX5.out).mono ?_); rintro e w6 ⟨rfl, rfl⟩)
          | (go_at_call 41; (with_reducible refine (digest_yes HX5.out xs.length (Nat.le_refl _) (by have := HXL.out; omega) d HD.out).mono ?_); rintro e w6 ⟨rfl, rfl⟩)
          | (go_at_call 48; (with_reducible refine (len_any HL5.out).mono ?_); rintro e w6 ⟨rfl, rfl⟩)
          | (go_at_call 41; (with_reducible refine (digest_yes HL5.out xs.length (Nat.le_refl _) (by have := HXL.out; omega) d HD.out).mono ?_); rintro e w6 ⟨rfl, rfl⟩)
          | (go_at_call 47; (with_reducible refine (entries_any HX5.out (by have := HXL.out; omega)).mono ?_); rintro e w7 ⟨v7, rfl, hO7, hN7, hB7⟩; have HO7 := Sd.mk hO7; have HB7 := Sd.mk hB7; have HY7 := Sd.mk (HL5.out.below hB7); clear hO7 hN7 hB7)
          | (go_at_call 47; (with_reducible refine (entries_any HY7.out (by have := HXL.out; omega)).mono ?_); rintro e w8 ⟨v8, rfl, hO8, hN8, hB8⟩; have HO8 := Sd.mk hO8; have HB8 := Sd.mk hB8; have HP8 := Sd.mk (OwnR.below HO7.out hB8); clear hO8 hN8 hB8)
          | (go_at_call 46; (with_reducible refine (same_own HP8.out HO8.out true ⟨fun _ => rfl, fun _ => rfl⟩).mono ?_); rintro e w9 ⟨rfl, hB9⟩; have HB9 := Sd.mk hB9; clear hB9))
        go_ret
        refine ⟨rfl, ?_⟩
        have q0 := HW0.out.trans (HF.out.toBelow (B := w.heap.size) (fun k hk s => by have := ((HSx.out k).1 s).1; omega) HW0.out.size)
        have q1 := q0.trans (HF5.out.toBelow (B := w.heap.size) (fun k hk s => by have := (HSy.out k).1 s; omega) q0.size)
        exact below_then (below_then (below_then q1 HB7.out) HB8.out) HB9.out
  · have h60' : decide ((60 : Int) < (n : Int)) = true := decide_eq_true (by omega)
    have h60'' : decide (60 < n) = true := decide_eq_true (by omega)
    go_enter Try.func12, Try.ntmps12
    go_wp2_with (first
      | (go_at_call 35; (with_reducible refine (awake_any _).mono ?_); rintro e wa ⟨rfl, hba⟩; (first | (have B1 := Sd.mk (below_then B0.out hba)) | have B0 := Sd.mk hba); clear hba))
    go_ret
    exact ⟨rfl, B1.out⟩
-- L1>
end Go.Proofs.Ytgleoeiiiadanaa.Led

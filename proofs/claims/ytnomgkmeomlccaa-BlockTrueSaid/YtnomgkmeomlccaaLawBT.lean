/- BlockTrue: walked. -/
import Derived.Test.YtnomgkmeomlccaaWelE
import Derived.Test.YtnomgkmeomlccaaLawBD
import Derived.Test.YtnomgkmeomlccaaS0
set_option linter.unusedVariables false
set_option linter.unusedSimpArgs false

namespace Go.Proofs.Ytnomgkmeomlccaa.Blk
open Go.RowKit Go.Sort Rd Api Own Mv App Num Dig

def SB : ByteArray := { data := #[115] }
theorem dup_take {l : List Rq} {k : Nat} (h : Dup (l.take k)) : Dup l := by
  obtain ⟨i, j, x, y, h1, h2, h3, h4⟩ := h
  have f : ∀ {i : Nat} {x : Rq}, (l.take k)[i]? = some x → l[i]? = some x := fun {i x} h => by
    rw [List.getElem?_take] at h
    split at h
    · exact h
    · cases h
  exact ⟨i, j, x, y, h1, f h2, f h3, h4⟩
theorem fi_sub {l : List Rq} : ∀ (i : Nat), i ≤ l.length → ∀ x ∈ fi l i, x ∈ l
  | 0, _, x, hx => by simp [fi, Del.kp] at hx
  | i + 1, hi, x, hx => by
    obtain ⟨y, hy⟩ : ∃ y, l[i]? = some y := ⟨l[i]'(by omega), List.getElem?_eq_getElem _⟩
    cases h : seen l i with
    | true => rw [fi_yes h] at hx; exact fi_sub i (by omega) x hx
    | false =>
      rw [fi_no h hy] at hx
      rcases List.mem_append.1 hx with e | e
      · exact fi_sub i (by omega) x e
      · rw [List.mem_singleton] at e; subst e; exact List.mem_of_getElem? hy
theorem firsts_right {l : List Rq} (h : ∀ x ∈ l, RightRq x) : (∀ x ∈ (firsts l).take 3, RightRq x) ∧ ¬ Dup ((firsts l).take 3) ∧ ((firsts l).take 3).length ≤ 3 :=
  ⟨fun x hx => h x (fi_sub l.length (Nat.le_refl _) x (List.mem_of_mem_take hx)), fun hd => fi_nodup (Nat.le_refl _) (dup_take hd), by rw [List.length_take]; omega⟩
theorem lead_in (view : Int) (n : Nat) (h : 0 ≤ view) (n1 : 1 ≤ n) (n7 : n ≤ 7) : 0 ≤ lead view n ∧ lead view n ≤ 6 := by
  unfold lead
  rw [if_neg (by omega)]
  have h1 := Int.emod_nonneg view (b := (n : Int)) (by omega)
  have h2 := Int.emod_lt_of_pos view (b := (n : Int)) (by omega)
  omega
/-- the law's memory: the array, the block, the certificate with so many signatures -/
structure Vw (w : World) (Bt Ba Bv : Nat) (a0 a1 : Nat) (v : Nat) (ra : Int) (fb cb tx : ByteArray) (n : Nat) (Bq : Option Addr) (kk dq : Nat) (bt : List Rq) (A : Option Addr) (i d : Nat) (rs : List Rp.Rg) (W : World) : Prop where
  bel : RowKit.Below w.heap.size w W
  at' : W.heap[Bt]? = some (.cells #[.int .u8 (a0 : Nat), .int .u8 (a1 : Nat)] 57 (0, 0))
  ba : W.heap[Ba]? = some (.cells #[.int .i64 (v : Nat), .int .i64 ra, .int .i64 0, .string fb, .slice none 0 0, .slice Bq kk dq] 42 (0, 0))
  bv : W.heap[Bv]? = some (.cells #[.int .i64 (v : Nat), .string cb, .slice A i d] 39 (0, 0))
  ge : w.heap.size ≤ Bv
  sb : Sl rqN W Bq dq bt
  own : OwnR Rp.fG 2 W 0 51 (.slice A i d) rs
  new : ∀ k, (Value.slice A i d).ownBlock = some k → w.heap.size ≤ k
  tg : ∀ x ∈ rs, x.n = n ∧ OwnR Rp.fT 1 W 0 9 (.slice x.a x.n x.c) (Crt.rtags SB x.f tx n)
  fs : rs.map (·.f) = (List.range i).map (fun j => ((j : Nat) : Int))
theorem coreB_right {x : Block} (h : RightBlock x) : (coreB x).size ≤ 1000000 := by
  have h1 := rqsB_few x.batch (num4 (x.batch.length : Int)) (fun t ht => by have := (h.all t ht).b; omega)
  have h2 := h.c.b
  have h3 := h.n
  unfold coreB batchB
  rw [Rp.app_size, Rp.app_size, Rp.app_size, Rp.app_size, num4_size, num4_size, num4_size]
  rw [num4_size] at h1
  omega
theorem right_first {fb : ByteArray} (hfb : Crt.FB = fb) : Rp.RightCert ⟨0, fb, []⟩ := ⟨⟨by show (0 : Int) ≤ 0; omega, by show (0 : Int) ≤ 1000000; omega⟩, by rw [← hfb]; exact Crt.FB_size, by simp, trivial, fun x hx => by simp at hx⟩
section
variable {w : World} {Bt Ba Bv a0 a1 v : Nat} {ra : Int} {fb cb tx : ByteArray} {n : Nat} {Bq : Option Addr} {kk dq : Nat} {bt : List Rq} {A : Option Addr} {i d : Nat} {rs : List Rp.Rg} {W W1 : World}
theorem Vw.below (h : Vw w Bt Ba Bv a0 a1 v ra fb cb tx n Bq kk dq bt A i d rs W) (hb : RowKit.Below W.heap.size W W1) : Vw w Bt Ba Bv a0 a1 v ra fb cb tx n Bq kk dq bt A i d rs W1 :=
  ⟨below_then h.bel hb, blk_keep h.at' hb, blk_keep h.ba hb, blk_keep h.bv hb, h.ge, h.sb.below hb, h.own.below hb, h.new, fun x hx => ⟨(h.tg x hx).1, (h.tg x hx).2.below hb⟩, h.fs⟩
end
theorem fin3_blk {Br : Nat} {W : World} {x y z : Value} (h : W.heap[Br]? = some (.cells #[x, y, z] 39 (0, 0))) (a b c : Value) : (Rp.fin3 Br W a b c).heap[Br]? = some (.cells #[a, b, c] 39 (0, 0)) := (blk_set3 (blk_set3 (blk_set3 h 0 _) 1 _) 2 _).trans rfl
theorem own_emptyS (W : World) : OwnR Rp.fG 2 (W.alloc (.cells #[] 51)) 0 51 (.slice (some ⟨W.heap.size, 0, none⟩) 0 0) [] :=
  ⟨rfl, .inr ⟨W.heap.size, 0, #[], rfl, Nat.zero_le _, blk_new W _, Nat.le_refl _, by unfold maxLen; omega, rfl, rfl⟩⟩
theorem rq_ne {W : World} {Br b t : Nat} {c s v : Int} {cb : ByteArray} {A : Option Addr} {i d : Nat} (h : W.heap[Br]? = some (.cells #[.int .i64 v, .string cb, .slice A i d] 39 (0, 0))) (h0 : W.cell? ⟨b, t, none⟩ = some (.int .i64 c)) (h1 : W.cell? ⟨b, t + 1, none⟩ = some (.int .i64 s)) : b ≠ Br := by
  intro e
  subst e
  unfold World.cell? at h0 h1
  rw [h] at h0 h1
  match t, h0, h1 with
  | 0, h0, h1 => simp at h1
  | 1, h0, h1 => simp at h0
  | 2, h0, h1 => simp at h0
  | t + 3, h0, h1 => simp at h0
/-- one more signature -/
theorem Vw.more {w : World} {Bt Ba Bv a0 a1 v : Nat} {ra : Int} {fb cb tx : ByteArray} {n : Nat} {Bq : Option Addr} {kk dq : Nat} {bt : List Rq} {A : Option Addr} {i d : Nat} {rs : List Rp.Rg} {W : World} (h : Vw w Bt Ba Bv a0 a1 v ra fb cb tx n Bq kk dq bt A i d rs W) {y : Rp.Rg} (hy : y.f = (i : Nat) ∧ y.n = n ∧ OwnR Rp.fT 1 W 0 9 (.slice y.a y.n y.c) (Crt.rtags SB y.f tx n)) {A7 : Option Addr} {j q7 : Nat} (hj : j = i + 1) (hown : OwnR Rp.fG 2 W 0 51 (.slice A7 j q7) (rs ++ [y])) (hnew : ∀ k, (Value.slice A7 j q7).ownBlock = some k → w.heap.size ≤ k) :
    Vw w Bt Ba Bv a0 a1 v ra fb cb tx n Bq kk dq bt A7 j q7 (rs ++ [y]) (Rp.fin3 Bv W (.int .i64 (v : Nat)) (.string cb) (.slice A7 j q7)) := by
  have hg := Rp.fin3_grown Bv W (.int .i64 (v : Nat)) (.string cb) (.slice A7 j q7)
  have ap : ∀ {α : Type} {f : α → List Value} {k : Nat} {e : TypeId} {u : Value} {xs : List α}, OwnR f k W 0 e u xs → e ≠ 39 → OwnR f k (Rp.fin3 Bv W (.int .i64 (v : Nat)) (.string cb) (.slice A7 j q7)) 0 e u xs := fun ho he => OwnR.grown ho hg (.inr (OwnR.blk ho h.bv he))
  have nt : Bt ≠ Bv := fun e => by have h1 := h.at'; rw [e, h.bv] at h1; simp at h1
  have na : Ba ≠ Bv := fun e => by have h1 := h.ba; rw [e, h.bv] at h1; simp at h1
  refine ⟨below_grown h.bel hg h.bel.size (fun k e => by obtain rfl := Option.some.inj e; exact h.ge), blk_grown h.at' hg (fun e => nt (Option.some.inj e).symm), blk_grown h.ba hg (fun e => na (Option.some.inj e).symm), fin3_blk h.bv _ _ _, h.ge, ?_, ap hown (by decide), hnew, fun x hx => ?_, ?_⟩
  · exact ⟨h.sb.le, h.sb.cap, fun k x hx => by
      obtain ⟨b, o, cs, hA, hK, hc⟩ := h.sb.row k x hx
      refine ⟨b, o, cs, hA, hK, fun k2 u hu => ?_⟩
      have hcu := hc k2 u hu
      have hb : b ≠ Bv := by
        have hK : cs = fR x := hK
        subst hK
        exact rq_ne h.bv (hc 0 _ rfl) (hc 1 _ rfl)
      unfold World.cell? at hcu ⊢
      rw [show (Rp.fin3 Bv W (.int .i64 (v : Nat)) (.string cb) (.slice A7 j q7)).heap[b]? = W.heap[b]? from (heap_set _ _ _ _ _ hb).trans ((heap_set _ _ _ _ _ hb).trans (heap_set _ _ _ _ _ hb))]
      exact hcu⟩
  · rcases List.mem_append.1 hx with e | e
    · exact ⟨(h.tg x e).1, ap (h.tg x e).2 (by decide)⟩
    · rw [List.mem_singleton] at e; subst e; exact ⟨hy.2.1, ap hy.2.2 (by decide)⟩
  · rw [List.map_append, h.fs, hj, List.range_succ, List.map_append]
    simp [hy.1]
set_option maxHeartbeats 16000000 in
set_option maxRecDepth 100000 in
theorem bt_law (w : World) (a0 a1 : Nat) (ha0 : a0 < 256) (ha1 : a1 < 256) (A : Option Addr) (c : Nat) (l : List Rq) (h : Sl rqN w A c l) (hnil : A = none → c = 0) (hI : ∀ x ∈ l, IsI64 x.c ∧ IsI64 x.s) (len : Nat) (hlen : len = l.length) (m : Nat) (hm : m < 256) :
    Calls Try.prog 6 #[.agg #[.int .u8 (a0 : Nat), .int .u8 (a1 : Nat)], .slice A len c, .int .u8 (m : Nat)] w fun e w' => e = .returned (.bool true) ∧ RowKit.Below w.heap.size w w' := by
  have mixed : Try.prog.follows .mixedOrders = true := by kernel_rfl
  have HB := Sd.mk (below_one w (.cells #[.int .u8 (a0 : Nat), .int .u8 (a1 : Nat)] 57))
  have X0 := Sd.mk (blk_new w (.cells #[.int .u8 (a0 : Nat), .int .u8 (a1 : Nat)] 57))
  have HS := Sd.mk h
  have HN := Sd.mk hlen
  have mc := Nat.le_trans h.le h.cap
  rw [← hlen] at mc
  obtain ⟨r0, hr0⟩ : ∃ z, z = m % 7 := ⟨_, rfl⟩
  have p0 : ((m : Int)).tmod 7 = (r0 : Int) := by rw [Int.tmod_eq_emod_of_nonneg (by omega)]; omega
  have p0b : ((m : Int)) % 7 = (r0 : Int) := by omega
  have r7 : r0 < 7 := by omega
  obtain ⟨n, hn⟩ : ∃ n, n = 1 + r0 := ⟨_, rfl⟩
  have p1 : (1 : Int) + (r0 : Int) = (n : Int) := by omega
  have n1 : 1 ≤ n := by omega
  have n7 : n ≤ 7 := by omega
  obtain ⟨v, hv⟩ : ∃ v, v = 1 + a0 := ⟨_, rfl⟩
  have p2 : (1 : Int) + (a0 : Int) = (v : Int) := by omega
  have v1 : 1 ≤ v := by omega
  have v256 : v ≤ 256 := by omega
  obtain ⟨fb, hfb⟩ : ∃ d, Crt.FB = d := ⟨_, rfl⟩
  have HFI := Sd.mk hfb
  have HMA := Sd.mk (fun (hl : l.length ≤ 20) kk (hkk : ((firsts l).take 3).length = kk) ra (hra : lead (v : Nat) n = ra) W (hb : RowKit.Below w.heap.size w W) => show Calls Try.prog 21 #[.int .i64 (v : Nat), .int .i64 (n : Nat), .agg #[.int .i64 0, .string fb, .slice none 0 0], .slice A len c] W fun e w' => ∃ B d, e = .returned (.agg #[.int .i64 (v : Nat), .int .i64 ra, .int .i64 0, .string fb, .slice none 0 0, .slice B kk d]) ∧ Sl rqN w' B d ((firsts l).take 3) ∧ RowKit.Below W.heap.size W w' ∧ (B = none → d = 0) from
    make_any W (v : Nat) ⟨by omega, by omega⟩ n n1 n7 ⟨0, fb, []⟩ none 0 0 A c l (h.below hb) hnil (by omega) hI len hlen kk hkk ra hra)
  clear h hnil hI hlen hr0 hn hv hfb
  by_cases h20 : len ≤ 20
  · have d20 : decide ((20 : Int) < (len : Int)) = false := decide_eq_false (by omega)
    have d20b : decide (20 < len) = false := decide_eq_false (by omega)
    have hl20 : l.length ≤ 20 := by rw [← HN.out]; exact h20
    have HMA := Sd.mk (HMA.out hl20)
    clear h20 hl20
    go_enter Try.func6, Try.ntmps6
    go_upto_region 1 with (fail)
    generalize hBt : w.heap.size = Bt at X0 ⊢
    generalize w.alloc _ = W1 at X0 HB ⊢
    go_upto_region 4 with (first
      | (go_at_call 19; (with_reducible refine (awake_any _).mono ?_); rintro e w2 ⟨rfl, hb⟩; have HB2 := Sd.mk (below_then HB.out hb); have X2 := Sd.mk (blk_keep X0.out hb); clear hb))
    go_loopg [7] len (fun gk v7 wr => ∃ i, i + gk = len ∧ v7 = .int .i64 (i : Nat) ∧ Sd (∀ x ∈ l.take i, RightRq x) ∧ Sd (RowKit.Below w.heap.size w wr) ∧ Sd (wr.heap[Bt]? = some (.cells #[.int .u8 (a0 : Nat), .int .u8 (a1 : Nat)] 57 (0, 0))))
    case atStart => exact ⟨0, by omega, rfl, ⟨fun x hx => by simp at hx⟩, HB2, X2⟩
    case round =>
      clear HB2 X2
      obtain ⟨i, hi, rfl, HA, HW, HX⟩ := hrel
      by_cases hlt : i < len
      · have hii : (i : Int) < len := by omega
        obtain ⟨y, hy⟩ : ∃ y, l[i]? = some y := ⟨l[i]'(by rw [← HN.out]; exact hlt), List.getElem?_eq_getElem _⟩
        obtain ⟨b1, o1, rfl, q0, q1, q2⟩ := rq_at HS.out.row hy
        have q0 := cell_below HW.out q0
        have q1 := cell_below HW.out q1
        have q2 := cell_below HW.out q2
        have HY := Sd.mk hy
        clear hy
        go_wp2_with (first
          | (go_at_call 31; (with_reducible refine (rightrq_any _ y).mono ?_); rintro e w3 ⟨r, rfl, ht, hb⟩; have HB3 := Sd.mk (below_then HW.out hb); have X3 := Sd.mk (blk_keep HX.out hb); have HTR := Sd.mk ht; clear ht hb; cases r))
        · go_ret
          exact ⟨rfl, by have h := HB3.out; first | exact h | rwa [hBt] at h⟩
        · have HA2 := Sd.mk (show ∀ x ∈ l.take (i + 1), RightRq x from fun x hx => by
            rw [List.take_add_one, HY.out] at hx
            rcases List.mem_append.1 hx with e | e
            · exact HA.out x e
            · simp at e; subst e; exact HTR.out trivial)
          go_roundg (gk - 1)
          case measure => omega
          case rel => exact ⟨i + 1, by omega, by go_num, HA2, HB3, X3⟩
      · have hii : decide (i < len) = false := decide_eq_false (by omega)
        have hii2 : decide ((i : Int) < (len : Int)) = false := decide_eq_false (by omega)
        have HAL := Sd.mk (firsts_right (show ∀ x ∈ l, RightRq x by have := HA.out; rwa [List.take_of_length_le (by rw [← HN.out]; omega)] at this))
        obtain ⟨kk, hkk⟩ : ∃ kk, ((firsts l).take 3).length = kk := ⟨_, rfl⟩
        obtain ⟨ra, hra⟩ : ∃ ra, lead (v : Nat) n = ra := ⟨_, rfl⟩
        have HM1 := Sd.mk (HMA.out kk hkk ra hra)
        have HKK := Sd.mk hkk
        have HRA := Sd.mk hra
        have t0 := blk_at HX.out 0 _ rfl
        clear HMA HA hkk hra
        go_upto_region 10 with (fail)
        obtain ⟨cb, hcb⟩ : ∃ cb, digB ⟨(v : Nat), ra, ⟨0, fb, []⟩, (firsts l).take 3⟩ = cb := ⟨_, rfl⟩
        have HCB := Sd.mk hcb
        have HYA := Sd.mk (show RightBlock ⟨(v : Nat), ra, ⟨0, fb, []⟩, (firsts l).take 3⟩ from ⟨⟨by show (1 : Int) ≤ (v : Nat); omega, by show ((v : Nat) : Int) ≤ 1000000; omega⟩, by have := lead_in (v : Nat) n (by omega) n1 n7; rw [HRA.out] at this; exact this, right_first HFI.out, by show (0 : Int) < (v : Nat); omega, HAL.out.2.2, HAL.out.1⟩)
        have HRD := Sd.mk (fun W (Bq : Option Addr) (dq : Nat) (hs : Sl rqN W Bq dq ((firsts l).take 3)) => show Calls Try.prog 27 #[.agg #[.int .i64 (v : Nat), .int .i64 ra, .int .i64 0, .string fb, .slice none 0 0, .slice Bq kk dq]] W fun e w' => e = .returned (.string cb) ∧ RowKit.Below W.heap.size W w' from
          rdig_any W ⟨(v : Nat), ra, ⟨0, fb, []⟩, (firsts l).take 3⟩ none 0 0 Bq kk dq hs HKK.out.symm cb hcb (coreB_right HYA.out))
        clear hcb t0
        go_upto_region 13 with (first
          | (go_at_call 30; (with_reducible refine (Crt.reffirst_any _ fb HFI.out).mono ?_); rintro e w3 ⟨rfl, hb⟩; have HB3 := Sd.mk (below_then HW.out hb); have X3 := Sd.mk (blk_keep HX.out hb); clear hb)
          | (go_at_call 21; (with_reducible refine (HM1.out _ HB3.out).mono ?_); rintro e w4 ⟨Bq, dq, rfl, hsl, hb, hnq⟩; have b4 := below_one w4 (.cells #[.int .i64 (v : Nat), .int .i64 ra, .int .i64 0, .string fb, .slice none 0 0, .slice Bq kk dq] 42); have HB4 := Sd.mk (below_then (below_then HB3.out hb) b4); have X4 := Sd.mk (blk_keep (blk_keep X3.out hb) b4); have Y4 := Sd.mk (blk_new w4 (.cells #[.int .i64 (v : Nat), .int .i64 ra, .int .i64 0, .string fb, .slice none 0 0, .slice Bq kk dq] 42)); have HS4 := Sd.mk (hsl.below b4); have HNQ := Sd.mk hnq; have c0 := blk_at Y4.out 0 _ rfl; have c1 := blk_at Y4.out 1 _ rfl; have c2 := blk_at Y4.out 2 _ rfl; have c3 := blk_at Y4.out 3 _ rfl; have c4 := blk_at Y4.out 4 _ rfl; have c5 := blk_at Y4.out 5 _ rfl; clear hb b4 hsl hnq)
          | (go_at_call 27; (with_reducible refine (HRD.out _ _ _ HS4.out).mono ?_); rintro e w5 ⟨rfl, hb⟩; have b5 := below_one w5 (.cells #[.int .i64 (v : Nat), .string cb, .slice none 0 0] 39); have HV := Sd.mk (show Vw w Bt w4.heap.size w5.heap.size a0 a1 v ra fb cb (Crt.vtxt (v : Nat) cb) n Bq kk dq ((firsts l).take 3) none 0 0 [] (w5.alloc (.cells #[.int .i64 (v : Nat), .string cb, .slice none 0 0] 39)) from ⟨by have h := below_then (below_then HB4.out hb) b5; first | exact h | rwa [← hBt] at h, blk_keep (blk_keep X4.out hb) b5, blk_keep (blk_keep Y4.out hb) b5, blk_new w5 _, by have h1 := (below_then HB4.out hb).size; first | exact h1 | (rw [hBt]; exact h1), (HS4.out.below hb).below b5, OwnR.nil _ _ _ _ _, fun k hk => (by simp [Value.ownBlock] at hk), fun x hx => (by simp at hx), rfl⟩); clear hb b5))
        generalize w4.heap.size = Ba at HV ⊢
        generalize w5.heap.size = Bv at HV ⊢
        generalize w5.alloc _ = W5 at HV ⊢
        clear HM1 HB3 X3 HB4 X4 Y4 HS4 HW HX HRD c0 c1 c2 c3 c4 c5
        obtain ⟨q, hq⟩ : ∃ q, q = n - Gat.fl n := ⟨_, rfl⟩
        have hq1 : (n : Int) - ((n - q : Nat) : Int) = (q : Int) := by rw [hq]; unfold Gat.fl; omega
        have hq2 : ((n : Int) - 1) / 3 = ((n - q : Nat) : Int) := by rw [hq]; unfold Gat.fl; omega
        have hq3 : ((n : Int) - 1).tdiv 3 = ((n - q : Nat) : Int) := by rw [Int.tdiv_eq_ediv_of_nonneg (by omega)]; exact hq2
        have hqn : q ≤ n := by omega
        have HQ := Sd.mk hq
        have hcb32 : cb.size = 32 := by rw [← HCB.out]; exact digB_size _
        have HC32 := Sd.mk hcb32
        clear hq hcb32
        go_wp2
        go_loopg [12] q (fun gk v12 wr => ∃ (i : Nat) (A : Option Addr) (d : Nat) (rs : List Rp.Rg), i + gk = q ∧ v12 = .int .i64 (i : Nat) ∧ Sd (Vw w Bt Ba Bv a0 a1 v ra fb cb (Crt.vtxt (v : Nat) cb) n Bq kk dq ((firsts l).take 3) A i d rs wr))
        case atStart => exact ⟨0, none, 0, [], by omega, rfl, HV⟩
        case round =>
          clear HV
          obtain ⟨i, A, d, rs, hi, rfl, HV⟩ := hrel
          by_cases hlt : i < q
          · have hii : (i : Int) < q := by omega
            go_upto_region 15 with (fail)
            have HD := Sd.mk (HV.out.below (below_drew' (Below.refl _ _)))
            clear HV
            have HCE := Sd.mk (fun W (hb : RowKit.Below wr.drew.heap.size wr.drew W) => show W.cell? ⟨Bv, 0, none⟩ = some (.int .i64 (v : Nat)) ∧ W.cell? ⟨Bv, 1, none⟩ = some (.string cb) ∧ W.cell? ⟨Bv, 2, none⟩ = some (.slice A i d) from ⟨blk_at (HD.out.below hb).bv 0 _ rfl, blk_at (HD.out.below hb).bv 1 _ rfl, blk_at (HD.out.below hb).bv 2 _ rfl⟩)
            have S0 := HCE.out _ (Below.refl _ _)
            refine Peel.region_peel (n := 16) (S := fun W => W.cell? ⟨Bv, 0, none⟩ = some (.int .i64 (v : Nat)) ∧ W.cell? ⟨Bv, 1, none⟩ = some (.string cb) ∧ W.cell? ⟨Bv, 2, none⟩ = some (.slice A i d)) (by kernel_rfl) (by kernel_rfl) S0 (fun hHeld => ?_)
            simp only [List.take_succ_cons, List.take_zero]
            clear S0
            generalize wr.drew = W5 at HD HCE hHeld ⊢
            have HRL := Sd.mk (show rs.length = i by have := congrArg List.length HD.out.fs; simpa using this)
            have HNC := Sd.mk (own_nc HD.out.own A _ d rfl)
            have HRW := Sd.mk (show Row Crt.rgK W5 A rs from by
              obtain ⟨A', d', hv, hs⟩ := Crt.own_rg HD.out.own
              simp only [Value.slice.injEq] at hv
              obtain ⟨rfl, -, -⟩ := hv
              exact hs.row)
            (refine Peel.take 0 (v := ?_) rfl rfl (by kernel_rfl) (by kernel_rfl) (by kernel_rfl) (fun _ _ _ h => h) (by assumption) ?_ ?_; rotate_left; (focus (intro w hSw; obtain ⟨s0, s1, s2⟩ := hSw; (try dsimp only at s0 s1 s2); (try simp only [List.getElem_toArray, List.getElem_cons_succ, List.getElem_cons_zero]); go_simp; try (with_reducible rfl))); try simp only [List.getElem_toArray, List.getElem_cons_succ, List.getElem_cons_zero, Act.put, List.setIfInBounds_toArray, List.set_cons_zero, List.set_cons_succ])
            (refine Peel.take 1 (v := ?_) rfl rfl (by kernel_rfl) (by kernel_rfl) (by kernel_rfl) (fun _ _ _ h => h) (by assumption) ?_ ?_; rotate_left; (focus (intro w hSw; obtain ⟨s0, s1, s2⟩ := hSw; (try dsimp only at s0 s1 s2); (try simp only [List.getElem_toArray, List.getElem_cons_succ, List.getElem_cons_zero]); go_simp; try (with_reducible rfl))); try simp only [List.getElem_toArray, List.getElem_cons_succ, List.getElem_cons_zero, Act.put, List.setIfInBounds_toArray, List.set_cons_zero, List.set_cons_succ])
            (refine Peel.take 2 (v := ?_) rfl rfl (by kernel_rfl) (by kernel_rfl) (by kernel_rfl) (fun _ _ _ h => h) (by assumption) ?_ ?_; rotate_left; (focus (intro w hSw; obtain ⟨s0, s1, s2⟩ := hSw; (try dsimp only at s0 s1 s2); (try simp only [List.getElem_toArray, List.getElem_cons_succ, List.getElem_cons_zero]); go_simp; try (with_reducible rfl))); try simp only [List.getElem_toArray, List.getElem_cons_succ, List.getElem_cons_zero, Act.put, List.setIfInBounds_toArray, List.set_cons_zero, List.set_cons_succ])
            (refine Peel.take 4 (v := ?_) rfl rfl (by kernel_rfl) (by kernel_rfl) (by kernel_rfl) (fun _ _ _ h => h) (by assumption) ?_ ?_; rotate_left; (focus (intro w hSw; obtain ⟨s0, s1, s2⟩ := hSw; (try dsimp only at s0 s1 s2); (try simp only [List.getElem_toArray, List.getElem_cons_succ, List.getElem_cons_zero]); go_simp; try (with_reducible rfl))); try simp only [List.getElem_toArray, List.getElem_cons_succ, List.getElem_cons_zero, Act.put, List.setIfInBounds_toArray, List.set_cons_zero, List.set_cons_succ])
            (refine Peel.take 5 (v := ?_) rfl rfl (by kernel_rfl) (by kernel_rfl) (by kernel_rfl) (fun _ _ _ h => h) (by assumption) ?_ ?_; rotate_left; (focus (intro w hSw; obtain ⟨s0, s1, s2⟩ := hSw; (try dsimp only at s0 s1 s2); (try simp only [List.getElem_toArray, List.getElem_cons_succ, List.getElem_cons_zero]); go_simp; try (with_reducible rfl))); try simp only [List.getElem_toArray, List.getElem_cons_succ, List.getElem_cons_zero, Act.put, List.setIfInBounds_toArray, List.set_cons_zero, List.set_cons_succ])
            (refine Peel.take 7 (v := ?_) rfl rfl (by kernel_rfl) (by kernel_rfl) (by kernel_rfl) (fun _ _ _ h => h) (by assumption) ?_ ?_; rotate_left; (focus (intro w hSw; obtain ⟨s0, s1, s2⟩ := hSw; (try dsimp only at s0 s1 s2); (try simp only [List.getElem_toArray, List.getElem_cons_succ, List.getElem_cons_zero]); go_simp; try (with_reducible rfl))); try simp only [List.getElem_toArray, List.getElem_cons_succ, List.getElem_cons_zero, Act.put, List.setIfInBounds_toArray, List.set_cons_zero, List.set_cons_succ])
            (refine Peel.take 8 (v := ?_) rfl rfl (by kernel_rfl) (by kernel_rfl) (by kernel_rfl) (fun _ _ _ h => h) (by assumption) ?_ ?_; rotate_left; (focus (intro w hSw; obtain ⟨s0, s1, s2⟩ := hSw; (try dsimp only at s0 s1 s2); (try simp only [List.getElem_toArray, List.getElem_cons_succ, List.getElem_cons_zero]); go_simp; try (with_reducible rfl))); try simp only [List.getElem_toArray, List.getElem_cons_succ, List.getElem_cons_zero, Act.put, List.setIfInBounds_toArray, List.set_cons_zero, List.set_cons_succ])
            (refine Peel.take 9 (v := ?_) rfl rfl (by kernel_rfl) (by kernel_rfl) (by kernel_rfl) (fun _ _ _ h => h) (by assumption) ?_ ?_; rotate_left; (focus (intro w hSw; obtain ⟨s0, s1, s2⟩ := hSw; (try dsimp only at s0 s1 s2); (try simp only [List.getElem_toArray, List.getElem_cons_succ, List.getElem_cons_zero]); go_simp; try (with_reducible rfl))); try simp only [List.getElem_toArray, List.getElem_cons_succ, List.getElem_cons_zero, Act.put, List.setIfInBounds_toArray, List.set_cons_zero, List.set_cons_succ])
            (refine Peel.take 10 (v := ?_) rfl rfl (by kernel_rfl) (by kernel_rfl) (by kernel_rfl) (fun _ _ _ h => h) (by assumption) ?_ ?_; rotate_left; (focus (intro w hSw; obtain ⟨s0, s1, s2⟩ := hSw; (try dsimp only at s0 s1 s2); (try simp only [List.getElem_toArray, List.getElem_cons_succ, List.getElem_cons_zero]); go_simp; try (with_reducible rfl))); try simp only [List.getElem_toArray, List.getElem_cons_succ, List.getElem_cons_zero, Act.put, List.setIfInBounds_toArray, List.set_cons_zero, List.set_cons_succ])
            (refine Peel.take 11 (v := ?_) rfl rfl (by kernel_rfl) (by kernel_rfl) (by kernel_rfl) (fun _ _ _ h => h) (by assumption) ?_ ?_; rotate_left; (focus (intro w hSw; obtain ⟨s0, s1, s2⟩ := hSw; (try dsimp only at s0 s1 s2); (try simp only [List.getElem_toArray, List.getElem_cons_succ, List.getElem_cons_zero]); go_simp; try (with_reducible rfl))); try simp only [List.getElem_toArray, List.getElem_cons_succ, List.getElem_cons_zero, Act.put, List.setIfInBounds_toArray, List.set_cons_zero, List.set_cons_succ])
            (refine wpAnyH_ready (rs := [3]) (by kernel_rfl) (by simp) ?_; refine AllReadyH.cons rfl (fun K hK => ?_) AllReadyH.nil)
            go_simp
            have HB0 := Sd.mk (below_one W5 (.cells #[] 51))
            (have sX := HCE.out _ HB0.out; (refine hK.out _ _ sX (fun hHeld => ?_); (clear hK K; try simp only [List.getElem_toArray, List.getElem_cons_succ, List.getElem_cons_zero, Act.put, List.setIfInBounds_toArray, List.set_cons_zero, List.set_cons_succ])); clear sX)
            (refine wpAnyH_ready (rs := [6]) (by kernel_rfl) (by simp) ?_; refine AllReadyH.cons rfl (fun K hK => ?_) AllReadyH.nil)
            have HE0 := Sd.mk (own_emptyS W5)
            (refine step_appends_at (d := Crt.rgK) (f := Rp.fG) (n := 2) (fun _ _ _ => Iff.rfl) rfl (fun _ => rfl) Rp.fG_one rfl (.tmp 65) (.tmp 67) 37 51 (.agg #[.int .i64 0, .slice none 0 0]) 32 rfl Try.underlying37 Rp.info_sig rfl (by decide) (.slice (some ⟨W5.heap.size, 0, none⟩) 0 0) [] rs A i d HRL.out.symm rfl rfl (HRW.out.below HB0.out) HNC.out HE0.out (by have := HRL.out; simp only [List.length_nil]; omega) (by have := HRL.out; simp only [List.length_nil]; omega) ?_; intro v1 w1 hown hg hob; rw [List.nil_append] at hown; obtain ⟨A6, q6, rfl⟩ := OwnR.slice hown; rw [HRL.out] at hown hob ⊢; have HO1 := Sd.mk hown; have HB1 := Sd.mk (below_grown HB0.out hg HB0.out.size (fun j e => by simp [Value.ownBlock] at e; omega)); have HQ1 := Sd.mk (show ∀ j, (Value.slice A6 i q6).ownBlock = some j → W5.heap.size ≤ j from fun j hj => by (have := HB0.out.size; rcases hob with e2 | e2; (rw [hj] at e2; simp [Value.ownBlock] at e2; omega); (rw [hj] at e2; simp at e2; omega))); clear hown hg hob)
            (have sX := HCE.out _ HB1.out; (refine hK.out _ _ sX (fun hHeld => ?_); (clear hK K; try simp only [List.getElem_toArray, List.getElem_cons_succ, List.getElem_cons_zero, Act.put, List.setIfInBounds_toArray, List.set_cons_zero, List.set_cons_succ])); clear sX)
            (refine wpAnyH_ready (rs := [12]) (by kernel_rfl) (by simp) ?_; refine AllReadyH.cons rfl (fun K hK => ?_) AllReadyH.nil)
            go_simp
            go_at_call 32
            refine (Crt.refsigv_any w1 SB (by decide) (i : Nat) n n7 (v : Nat) cb (by rw [HC32.out]; omega) (Crt.vtxt (v : Nat) cb) rfl).mono ?_
            rintro e w2 ⟨A2, c2, rfl, ho2, hn2, hb2⟩
            have HB2 := Sd.mk (below_then HB1.out hb2)
            have HT2 := Sd.mk ho2
            have HN2 := Sd.mk hn2
            have HO2 := Sd.mk (HO1.out.below hb2)
            clear ho2 hn2 hb2
            (have sX := HCE.out _ HB2.out; (refine hK.out _ _ sX (fun hHeld => ?_); (clear hK K; try simp only [List.getElem_toArray, List.getElem_cons_succ, List.getElem_cons_zero, Act.put, List.setIfInBounds_toArray, List.set_cons_zero, List.set_cons_succ])); clear sX)
            (refine wpAnyH_ready (rs := [13]) (by kernel_rfl) (by simp) ?_; refine AllReadyH.cons rfl (fun K hK => ?_) AllReadyH.nil)
            go_simp
            have b3 := below_one w2 (.cells #[.int .i64 (i : Nat), .slice A2 n c2] 51)
            have HB3 := Sd.mk (below_then HB2.out b3)
            (have sX := HCE.out _ HB3.out; (refine hK.out _ _ sX (fun hHeld => ?_); (clear hK K; try simp only [List.getElem_toArray, List.getElem_cons_succ, List.getElem_cons_zero, Act.put, List.setIfInBounds_toArray, List.set_cons_zero, List.set_cons_succ])); clear sX)
            (refine wpAnyH_ready (rs := [14]) (by kernel_rfl) (by simp) ?_; refine AllReadyH.cons rfl (fun K hK => ?_) AllReadyH.nil)
            (refine step_append_at (f := Rp.fG) (n := 2) (fun _ => rfl) Rp.fG_one rfl (.tmp 68) (.tmp 75) 37 51 (.agg #[.int .i64 0, .slice none 0 0]) 32 rfl Try.underlying37 Rp.info_sig rfl (by decide) (.slice A6 i q6) rs (⟨(i : Nat), A2, n, c2⟩ : Rp.Rg) rfl rfl HO2.out (by rw [HRL.out]; omega) (by rw [HRL.out]; omega) ?_; intro v3 w3 hown hg hob; obtain ⟨A7, q7, rfl⟩ := OwnR.slice hown; have hl7 : (rs ++ [(⟨(i : Nat), A2, n, c2⟩ : Rp.Rg)]).length = i + 1 := (by rw [List.length_append, HRL.out]; rfl); rw [hl7] at hown hob ⊢; have HO3 := Sd.mk hown; have HG3 := Sd.mk hg; have HB4 := Sd.mk (below_grown HB2.out hg HB2.out.size (fun j e => HQ1.out j e)); have HQ3 := Sd.mk (show ∀ j, (Value.slice A7 (i + 1) q7).ownBlock = some j → w.heap.size ≤ j from fun j hj => by (have h1 := HD.out.bel.size; have h2 := HB2.out.size; rcases hob with e2 | e2; (have := HQ1.out j (e2.symm.trans hj); omega); (rw [hj] at e2; have := Option.some.inj e2; omega))); clear hown hg hob hl7)
            (have sX := HCE.out _ HB4.out; (refine hK.out _ _ sX (fun hHeld => ?_); (clear hK K; try simp only [List.getElem_toArray, List.getElem_cons_succ, List.getElem_cons_zero, Act.put, List.setIfInBounds_toArray, List.set_cons_zero, List.set_cons_succ])); clear sX)
            (refine Peel.take 15 (v := ?_) rfl rfl (by kernel_rfl) (by kernel_rfl) (by kernel_rfl) (fun _ _ _ h => h) (by assumption) ?_ ?_; rotate_left; (focus (intro w hSw; obtain ⟨s0, s1, s2⟩ := hSw; (try dsimp only at s0 s1 s2); (try simp only [List.getElem_toArray, List.getElem_cons_succ, List.getElem_cons_zero]); go_simp; try (with_reducible rfl))); try simp only [List.getElem_toArray, List.getElem_cons_succ, List.getElem_cons_zero, Act.put, List.setIfInBounds_toArray, List.set_cons_zero, List.set_cons_succ])
            (refine wpAnyH_done (by kernel_rfl) ?_ _; simp only [Peel.Qn, List.drop_succ_cons, List.drop_zero]; clear hHeld)
            have HD4 := Sd.mk (HD.out.below HB4.out)
            have HVN := Sd.mk (HD4.out.more (y := (⟨(i : Nat), A2, n, c2⟩ : Rp.Rg)) ⟨rfl, rfl, OwnR.grown HT2.out HG3.out (Rp.own_apart HT2.out HO2.out (by decide))⟩ rfl HO3.out HQ3.out)
            have f0 := blk_frz HD4.out.bv 0
            have f1 := blk_frz HD4.out.bv 1
            have f2 := blk_frz HD4.out.bv 2
            have g0 := blk_at HD4.out.bv 0 _ rfl
            have g1 := blk_at HD4.out.bv 1 _ rfl
            have g2 := blk_at HD4.out.bv 2 _ rfl
            clear hHeld HCE HRW HE0 HO1 HB1 HQ1 HB2 HT2 HN2 HO2 HB3 HO3 HG3 HB4 HQ3 HD HD4 HB0 HNC b3
            go_wp2
            clear f0 f1 f2 g0 g1 g2
            go_roundg (gk - 1)
            case measure => omega
            case rel => exact ⟨i + 1, A7, q7, _, by omega, by go_num, HVN⟩
          · have hii : decide (i < q) = false := decide_eq_false (by omega)
            have hii2 : decide ((i : Int) < (q : Int)) = false := decide_eq_false (by omega)
            obtain rfl : i = q := by omega
            have t1 := blk_at HV.out.at' 1 _ rfl
            have g0 := blk_at HV.out.bv 0 _ rfl
            have g1 := blk_at HV.out.bv 1 _ rfl
            have g2 := blk_at HV.out.bv 2 _ rfl
            have p3 : ((v : Int) + 1) + (a1 : Int) = ((v + 1 + a1 : Nat) : Int) := by omega
            obtain ⟨v2, hv2⟩ : ∃ v2, v2 = v + 1 + a1 := ⟨_, rfl⟩
            rw [← hv2] at p3
            obtain ⟨rb, hrb⟩ : ∃ rb, lead (v2 : Nat) n = rb := ⟨_, rfl⟩
            have HM2 := Sd.mk (fun W => show Calls Try.prog 21 #[.int .i64 (v2 : Nat), .int .i64 (n : Nat), .agg #[.int .i64 (v : Nat), .string cb, .slice A i d], .slice none 0 0] W fun e w' => ∃ B d2, e = .returned (.agg #[.int .i64 (v2 : Nat), .int .i64 rb, .int .i64 (v : Nat), .string cb, .slice A i d, .slice B 0 d2]) ∧ Sl rqN w' B d2 [] ∧ RowKit.Below W.heap.size W w' ∧ (B = none → d2 = 0) from
              make_any W (v2 : Nat) ⟨by omega, by omega⟩ n n1 n7 ⟨(v : Nat), cb, []⟩ A i d none 0 [] ⟨Nat.le_refl _, by omega, fun i x hx => by simp at hx⟩ (fun _ => rfl) (by simp) (fun x hx => by simp at hx) 0 rfl 0 rfl rb hrb)
            have HRB := Sd.mk hrb
            have HV2 := Sd.mk hv2
            have hv2' : v < v2 ∧ v2 ≤ 1000 := by omega
            clear hrb hv2
            go_upto_region 17 with (first
              | (go_at_call 21; (with_reducible refine (HM2.out _).mono ?_); rintro e w6 ⟨B3, d3, rfl, hsl, hb, hnq⟩; have b6 := below_one w6 (.cells #[.int .i64 (v2 : Nat), .int .i64 rb, .int .i64 (v : Nat), .string cb, .slice A i d, .slice B3 0 d3] 42); have HV6 := Sd.mk ((HV.out.below hb).below b6); have Z6 := Sd.mk (blk_new w6 (.cells #[.int .i64 (v2 : Nat), .int .i64 rb, .int .i64 (v : Nat), .string cb, .slice A i d, .slice B3 0 d3] 42)); have HS6 := Sd.mk (hsl.below b6); have HN6 := Sd.mk hnq; clear hb b6 hsl hnq))
            generalize w6.heap.size = Bz at Z6 ⊢
            generalize w6.alloc _ = W6 at HV6 Z6 HS6 ⊢
            clear HM2 HV t1 g0 g1 g2
            have HLN := Sd.mk (show rs.length = i by have := congrArg List.length HV6.out.fs; simpa using this)
            have HPW := Sd.mk (show rs.Pairwise (fun x y => x.f < y.f) from by
              have h1 : ((List.range i).map (fun j => ((j : Nat) : Int))).Pairwise (· < ·) := by
                rw [List.pairwise_map]
                exact List.pairwise_lt_range.imp (fun h => by omega)
              rw [← HV6.out.fs, List.pairwise_map] at h1
              exact h1)
            have HRG := Sd.mk (show ∀ x ∈ rs, 0 ≤ x.f ∧ x.f < (n : Int) from fun x hx => by
              have h1 : x.f ∈ rs.map (·.f) := List.mem_map.2 ⟨x, hx, rfl⟩
              rw [HV6.out.fs] at h1
              obtain ⟨j, hj, hje⟩ := List.mem_map.1 h1
              have := List.mem_range.1 hj
              omega)
            have HRC := Sd.mk (Crt.sgs_right (seed := SB) (tx := Crt.vtxt (v : Nat) cb) n7 (by rw [HLN.out]; exact hqn) HPW.out HRG.out (v := (v : Nat)) ⟨by omega, by omega⟩ HC32.out)
            have HSG := Sd.mk (show Sl Rp.sgK W6 A d (Crt.sgs SB (Crt.vtxt (v : Nat) cb) n rs) from by
              obtain ⟨A', d', hv, hs⟩ := Crt.own_rg HV6.out.own
              simp only [Value.slice.injEq] at hv
              obtain ⟨rfl, -, rfl⟩ := hv
              exact Crt.sgs_of hs HV6.out.tg)
            have HYB := Sd.mk (show RightBlock ⟨(v2 : Nat), rb, ⟨(v : Nat), cb, Crt.sgs SB (Crt.vtxt (v : Nat) cb) n rs⟩, []⟩ from ⟨⟨by show (1 : Int) ≤ (v2 : Nat); omega, by show ((v2 : Nat) : Int) ≤ 1000000; omega⟩, by have := lead_in (v2 : Nat) n (by omega) n1 n7; rw [HRB.out] at this; exact this, HRC.out, by show ((v : Nat) : Int) < (v2 : Nat); omega, by simp, fun x hx => by simp at hx⟩)
            have HWA := Sd.mk (fun (tn : Nat) (ht : tn < n) W (hb : RowKit.Below W6.heap.size W6 W) => show Calls Try.prog 33 #[.string { data := #[115] }, .int .i64 (tn : Nat), .int .i64 (n : Nat), .agg #[.int .i64 (v : Nat), .int .i64 ra, .int .i64 0, .string fb, .slice none 0 0, .slice Bq kk dq]] W fun e w' => e = .returned (.int .i64 0) ∧ RowKit.Below W.heap.size W w' from by
              obtain ⟨p, hp⟩ := Crt.tells SB (tn : Nat) (n : Nat) ⟨0, fb, []⟩
              exact well_ok W SB (by decide) tn n n1 n7 ht ⟨(v : Nat), ra, ⟨0, fb, []⟩, (firsts l).take 3⟩ HYA.out HAL.out.2.1 HRA.out p hp ⟨right_first HFI.out, by rw [if_pos rfl]; exact ⟨HFI.out.symm, rfl⟩⟩ none 0 0 Bq kk dq ⟨Nat.le_refl _, by omega, fun i x hx => by simp at hx⟩ rfl (HV6.out.sb.below hb) HKK.out.symm HNQ.out)
            have HWB := Sd.mk (fun (tn : Nat) (ht : tn < n) W (hb : RowKit.Below W6.heap.size W6 W) => show Calls Try.prog 33 #[.string { data := #[115] }, .int .i64 (tn : Nat), .int .i64 (n : Nat), .agg #[.int .i64 (v2 : Nat), .int .i64 rb, .int .i64 (v : Nat), .string cb, .slice A i d, .slice B3 0 d3]] W fun e w' => e = .returned (.int .i64 0) ∧ RowKit.Below W.heap.size W w' from by
              obtain ⟨p, hp⟩ := Crt.tells SB (tn : Nat) (n : Nat) ⟨(v : Nat), cb, Crt.sgs SB (Crt.vtxt (v : Nat) cb) n rs⟩
              have hgl := Crt.sgs_hold n1 n7 HRG.out ht hp
              exact well_ok W SB (by decide) tn n n1 n7 ht ⟨(v2 : Nat), rb, ⟨(v : Nat), cb, Crt.sgs SB (Crt.vtxt (v : Nat) cb) n rs⟩, []⟩ HYB.out (by rintro ⟨i, k, x, y, h1, h2, -⟩; simp at h2) HRB.out p hp ⟨HRC.out, by
                rw [if_neg (show ¬ ((v : Nat) : Int) = 0 by omega)]
                refine ⟨by omega, ?_⟩
                rw [hgl, HLN.out, Int.toNat_natCast, HQ.out]
                unfold Gat.fl; omega⟩ A i d B3 0 d3 (HSG.out.below hb) (by unfold Crt.sgs; rw [List.length_map, HLN.out]) (HS6.out.below hb) rfl HN6.out)
            have HDG := Sd.mk (fun W (hb : RowKit.Below W6.heap.size W6 W) => show Calls Try.prog 26 #[.agg #[.int .i64 (v : Nat), .int .i64 ra, .int .i64 0, .string fb, .slice none 0 0, .slice Bq kk dq]] W fun e w' => e = .returned (.string cb) ∧ RowKit.Below W.heap.size W w' from
              dig_any W ⟨(v : Nat), ra, ⟨0, fb, []⟩, (firsts l).take 3⟩ none 0 0 Bq kk dq (HV6.out.sb.below hb) HKK.out.symm cb HCB.out (coreB_right HYA.out))
            have HBA := Sd.mk HV6.out.ba
            have HBL := Sd.mk HV6.out.bel
            clear HLN HPW HRG HRC HSG HYB HV6 HS6 HN6 HNQ HYA HAL HRA HKK HCB HRB HV2
            go_wp2
            go_loopg [14] n (fun gk v14 wr => ∃ j, j + gk = n ∧ v14 = .int .i64 (j : Nat) ∧ Sd (RowKit.Below W6.heap.size W6 wr))
            case atStart => exact ⟨0, by omega, rfl, ⟨Below.refl _ _⟩⟩
            case round =>
              obtain ⟨j, hj, rfl, HJ⟩ := hrel
              have XA := Sd.mk (blk_keep HBA.out HJ.out)
              have XZ := Sd.mk (blk_keep Z6.out HJ.out)
              by_cases hjt : j < n
              · have hji : (j : Int) < n := by omega
                have HWA1 := Sd.mk (HWA.out j hjt _ HJ.out)
                have HWB1 := Sd.mk (HWB.out j hjt)
                have c0 := blk_at XA.out 0 _ rfl
                have c1 := blk_at XA.out 1 _ rfl
                have c2 := blk_at XA.out 2 _ rfl
                have c3 := blk_at XA.out 3 _ rfl
                have c4 := blk_at XA.out 4 _ rfl
                have c5 := blk_at XA.out 5 _ rfl
                go_wp2_with (first
                  | (go_at_call 33; (with_reducible refine HWA1.out.mono ?_); rintro e w7 ⟨rfl, hb⟩; have HJ7 := Sd.mk (below_then HJ.out hb); have XZ7 := Sd.mk (blk_keep XZ.out hb); have e0 := blk_at XZ7.out 0 _ rfl; have e1 := blk_at XZ7.out 1 _ rfl; have e2 := blk_at XZ7.out 2 _ rfl; have e3 := blk_at XZ7.out 3 _ rfl; have e4 := blk_at XZ7.out 4 _ rfl; have e5 := blk_at XZ7.out 5 _ rfl; clear hb)
                  | (go_at_call 33; (with_reducible refine (HWB1.out _ HJ7.out).mono ?_); rintro e w8 ⟨rfl, hb⟩; have HJ8 := Sd.mk (below_then HJ7.out hb); clear hb))
                go_roundg (gk - 1)
                case measure => omega
                case rel => exact ⟨j + 1, by omega, by go_num, HJ8⟩
              · have hji : decide (j < n) = false := decide_eq_false (by omega)
                have hji2 : decide ((j : Int) < (n : Int)) = false := decide_eq_false (by omega)
                go_upto_region 22 with (fail)
                have c0 := fun d os => cell_regrown (blk_at XA.out 0 _ rfl) d os
                have c1 := fun d os => cell_regrown (blk_at XA.out 1 _ rfl) d os
                have c2 := fun d os => cell_regrown (blk_at XA.out 2 _ rfl) d os
                have c3 := fun d os => cell_regrown (blk_at XA.out 3 _ rfl) d os
                have c4 := fun d os => cell_regrown (blk_at XA.out 4 _ rfl) d os
                have c5 := fun d os => cell_regrown (blk_at XA.out 5 _ rfl) d os
                have e0 := fun d os => cell_regrown (blk_at XZ.out 0 _ rfl) d os
                have e1 := fun d os => cell_regrown (blk_at XZ.out 1 _ rfl) d os
                have e2 := fun d os => cell_regrown (blk_at XZ.out 2 _ rfl) d os
                have e3 := fun d os => cell_regrown (blk_at XZ.out 3 _ rfl) d os
                have e4 := fun d os => cell_regrown (blk_at XZ.out 4 _ rfl) d os
                have e5 := fun d os => cell_regrown (blk_at XZ.out 5 _ rfl) d os
                refine wp_region_quiet_below (by assumption) (by kernel_rfl) ?_
                repeat (go_big_quiet_step ((first | (go_at_call 28; refine Calls.regrown_of (parent_any _ _ _ _ _ _ _)) | (go_at_call 26; refine Calls.regrown_of (HDG.out _ (below_then HJ.out (below_regrown _ _ _)))))))
                refine wpQuiet_nil ?_
                rintro W9 ⟨⟨nq, osq⟩, rfl⟩
                have HB9 := Sd.mk (below_then HBL.out (below_then HJ.out (below_regrown wr nq osq)))
                go_wp2
                go_ret
                exact ⟨rfl, by have h := HB9.out; first | exact h | rwa [hBt] at h⟩
  · have d20 : decide ((20 : Int) < (len : Int)) = true := decide_eq_true (by omega)
    have d20b : decide (20 < len) = true := decide_eq_true (by omega)
    clear HMA
    go_enter Try.func6, Try.ntmps6
    go_upto_region 1 with (fail)
    generalize hBt : w.heap.size = Bt at X0 ⊢
    generalize w.alloc _ = W1 at X0 HB ⊢
    go_wp2_with (first
      | (go_at_call 19; (with_reducible refine (awake_any _).mono ?_); rintro e w2 ⟨rfl, hb⟩; (first | (have HB4 := Sd.mk (below_then HB2.out hb)) | (have HB2 := Sd.mk (below_then HB.out hb))); clear hb))
    go_ret
    exact ⟨rfl, by have h := HB4.out; first | exact h | rwa [hBt] at h⟩
theorem bt_row (w : World) (l0 : List Int) (ds : Array Value) (h : (Rk.arr (Rk.int .u8) 2).K w l0 ds.toList) (A : Option Addr) (c : Nat) (l : List Rq) (h1 : l.length ≤ c) (h2 : c ≤ maxLen) (h3 : Row rqK w A l) (h4 : A = none → c = 0) (m : Int) (hm : (Lit.int .u8 m).wf = true) :
    Calls Try.prog 6 #[.agg ds, .slice A l.length c, .int .u8 m] w fun e w' => e = .returned (.bool true) ∧ RowKit.Below w.heap.size w w' := by
  obtain ⟨x, r, c0, c1, -, e1, ⟨rfl, w0⟩, y, r2, c2, c3, -, rfl, ⟨rfl, w1⟩, -, rfl⟩ := h
  obtain rfl := Api.arr_of e1
  have f : ∀ x : Int, (Lit.int .u8 x).wf = true → 0 ≤ x ∧ x ≤ 255 := fun x hx => by simpa [Lit.wf, IntKind.min, IntKind.max, IntKind.bits, IntKind.signed] using hx
  obtain ⟨x', rfl⟩ : ∃ m' : Nat, x = (m' : Int) := ⟨x.toNat, by have := f x w0; omega⟩
  obtain ⟨y', rfl⟩ : ∃ m' : Nat, y = (m' : Int) := ⟨y.toNat, by have := f y w1; omega⟩
  obtain ⟨m', rfl⟩ : ∃ m' : Nat, m = (m' : Int) := ⟨m.toNat, by have := f m hm; omega⟩
  have hsl : Sl rqK w A c l := ⟨h1, by unfold maxLen at h2; omega, h3⟩
  exact bt_law w x' y' (by have := f _ w0; omega) (by have := f _ w1; omega) A c l (rq_of hsl) h4 (fun y hy => by
    obtain ⟨j, hj, rfl⟩ := List.getElem_of_mem hy
    obtain ⟨b, o, ds, -, hK, -⟩ := h3 j _ (List.getElem?_eq_getElem hj)
    exact (rqK_open hK).2) _ rfl m' (by have := f _ hm; omega)
end Go.Proofs.Ytnomgkmeomlccaa.Blk

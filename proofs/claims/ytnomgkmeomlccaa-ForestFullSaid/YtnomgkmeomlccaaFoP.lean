/- Blocks on one that is missing, and then comes: plain. -/
import Derived.Test.YtnomgkmeomlccaaFoA
set_option linter.unusedVariables false
set_option linter.unusedSimpArgs false
namespace Go.Proofs.Ytnomgkmeomlccaa.Fst
open Go.RowKit Rd Api Own Mv App Num Dig
open Blk (Block Rq digB coreB)
open Kee (Tl chn nx nxt tp plc)

def B0 : Block := ⟨1, 0, ⟨0, Crt.FB, []⟩, [⟨0, 1, Rp.ET⟩]⟩
def bI (h : ByteArray) (i : Nat) : Block := ⟨2, 0, ⟨1, h, []⟩, [⟨((i : Int) - 1) % 4, 1 + (i : Int), Rp.ET⟩]⟩
def cI (k : Nat) : List Block := (List.range k).map (fun i => bI (digB B0) (i + 1))
theorem apart11 : (Crt.FB :: digB B0 :: (cI 11).map digB).Nodup := by decide +kernel
theorem cI_pre {k : Nat} (h : k ≤ 11) : cI k = (cI 11).take k := by
  unfold cI
  rw [← List.map_take, List.take_range, Nat.min_eq_left h]
theorem cI_at {k i : Nat} (h : i < k) : (cI k)[i]? = some (bI (digB B0) (i + 1)) := by
  unfold cI
  rw [List.getElem?_map, List.getElem?_range h]
  rfl
theorem cI_len (k : Nat) : (cI k).length = k := by simp [cI]
/-- what is told of them -/
def tI (k : Nat) : List Tl := (((0 : Int), (0 : Int), (0 : Int)) : Tl) :: (List.range k).map (fun i : Nat => (((0 : Int), (1 : Int), ((i : Nat) : Int)) : Tl))
theorem tI_succ (k : Nat) : tI (k + 1) = tI k ++ [((0 : Int), (1 : Int), (k : Int))] := by
  unfold tI
  rw [List.range_succ, List.map_append]
  rfl
theorem tI_len (k : Nat) : (tI k).length = k + 1 := by simp [tI]
theorem chn_tI (k : Nat) : chn (tI k) = B0 :: cI k := by
  induction k with
  | zero =>
    show [nx [] _] = [B0]
    unfold nx
    rw [show plc ([] : List Block).length ((0 : Int), (0 : Int), (0 : Int)) = 0 from rfl, Kee.tp_zero]
    rfl
  | succ k ih =>
    rw [tI_succ, Kee.chn_snoc, ih]
    have hl : (B0 :: cI k).length = k + 1 := by simp [cI_len]
    have hp : plc (k + 1) ((0 : Int), (1 : Int), (k : Int)) = 1 := by
      show ((1 : Int) % (((k + 1 : Nat) : Int) + 1)).toNat = 1
      rw [Int.emod_eq_of_lt (by omega) (by omega)]
      rfl
    unfold nx
    rw [hl, hp, Kee.tp_succ (show (B0 :: cI k)[0]? = some B0 from rfl)]
    show (B0 :: cI k) ++ [_] = B0 :: cI (k + 1)
    rw [show cI (k + 1) = cI k ++ [bI (digB B0) (k + 1)] by unfold cI; rw [List.range_succ, List.map_append]; rfl]
    rw [List.cons_append]
    congr 3
    unfold nxt bI
    have e1 : ((k : Int)) % 4 = (((k + 1 : Nat) : Int) - 1) % 4 := by congr 1; omega
    simp only [e1]
    rfl
/-- as many of them as there is room for wait -/
def Sk (k i : Nat) : Fo := ⟨Crt.FB, 0, [], (cI k).take (min i 8)⟩
theorem ap {k : Nat} (h : k ≤ 11) : (Crt.FB :: digB B0 :: (cI k).map digB).Nodup := by
  refine apart11.sublist ?_
  rw [cI_pre h]
  exact ((((List.take_sublist k _).map digB).cons_cons _).cons_cons _)
theorem ap_fb {k : Nat} (h : k ≤ 11) : digB B0 ≠ Crt.FB := by
  have := ap h
  simp only [List.nodup_cons, List.mem_cons, not_or] at this
  exact fun e => this.1.1 e.symm
theorem ap_c {k : Nat} (h : k ≤ 11) {c : Block} (hc : c ∈ cI k) : digB c ≠ Crt.FB ∧ digB c ≠ digB B0 := by
  have := ap h
  simp only [List.nodup_cons, List.mem_cons, not_or] at this
  have hm := List.mem_map_of_mem (f := digB) hc
  exact ⟨fun e => this.1.2 (e ▸ hm), fun e => this.2.1 (e ▸ hm)⟩
theorem ap_nd {k : Nat} (h : k ≤ 11) : ((cI k).map digB).Nodup := by
  have := ap h
  simp only [List.nodup_cons] at this
  exact this.2.2
theorem has_nil {f : Fo} (h : f.nodes = []) (s : ByteArray) : f.has s = decide (s = f.root) := by unfold Fo.has ndAt; rw [h]; rfl
theorem sk_len {k i : Nat} (hi : i ≤ k) : (Sk k i).orph.length = min i 8 := by
  show ((cI k).take (min i 8)).length = _
  rw [List.length_take, cI_len]
  omega
theorem sk_put {k i : Nat} (h : k ≤ 11) (hi : i < k) : (Sk k i).put (bI (digB B0) (i + 1)) = (if 8 ≤ i then 7 else 0, Sk k (i + 1)) := by
  have hat := cI_at hi
  have hc := ap_c h (List.mem_of_getElem? hat)
  have h1 : (Sk k i).has (digB (bI (digB B0) (i + 1))) = false := by rw [has_nil rfl]; exact decide_eq_false hc.1
  have h2 : (Sk k i).hasO (digB (bI (digB B0) (i + 1))) = false := by
    unfold Fo.hasO
    rw [List.any_eq_false]
    intro c hcm
    simp only [decide_eq_true_eq]
    intro e
    obtain ⟨j, hj⟩ := List.getElem?_of_mem hcm
    have hjl := (List.getElem?_eq_some_iff.1 hj).1
    have hjt : j < min i 8 := by have := sk_len (k := k) (i := i) (by omega); omega
    have hj2 : (cI k)[j]? = some c := by
      have : ((cI k).take (min i 8))[j]? = some c := hj
      rwa [List.getElem?_take_of_lt hjt] at this
    have := (List.getElem?_inj (i := j) (j := i) (by rw [List.length_map, cI_len]; omega) (ap_nd h)).1 (by rw [List.getElem?_map, List.getElem?_map, hj2, hat]; simp [e])
    omega
  have h3 : (Sk k i).has (bI (digB B0) (i + 1)).just.block = false := by rw [has_nil rfl]; exact decide_eq_false (ap_fb h)
  unfold Fo.put
  rw [h1, h2, h3]
  simp only [Bool.or_false, Bool.false_eq_true, if_false]
  rw [sk_len (by omega)]
  by_cases h8 : 8 ≤ i
  · rw [if_pos (by omega), if_pos h8]
    refine Prod.ext rfl ?_
    show Sk k i = Sk k (i + 1)
    unfold Sk
    rw [Nat.min_eq_right h8, Nat.min_eq_right (by omega)]
  · rw [if_neg (by omega), if_neg h8]
    refine Prod.ext rfl ?_
    show (⟨(Sk k i).root, (Sk k i).height, (Sk k i).nodes, (Sk k i).orph ++ [_]⟩ : Fo) = Sk k (i + 1)
    unfold Sk
    simp only [Fo.mk.injEq, true_and]
    rw [Nat.min_eq_left (by omega), Nat.min_eq_left (by omega), List.take_add_one, hat]
    rfl
theorem sk_fold {k : Nat} (h : k ≤ 11) : ∀ i, i ≤ k → ((cI k).take i).foldl (fun f b => (f.put b).2) F0 = Sk k i
  | 0, _ => by unfold Sk; simp [F0]
  | i + 1, hi => by
    rw [List.take_add_one, cI_at (by omega)]
    simp only [Option.toList_some, List.foldl_append, List.foldl_cons, List.foldl_nil]
    rw [sk_fold h i (by omega), sk_put h (by omega)]
theorem sk_ok {k : Nat} (h : k ≤ 11) (i : Nat) (hi : i ≤ k) : Ok (Sk k i) := by
  rw [← sk_fold h i hi]
  exact (bld_ok ((cI k).take i)).1
theorem sk_hasO {k : Nat} (h : k ≤ 11) : (Sk k k).hasO (digB B0) = false := by
  unfold Fo.hasO
  rw [List.any_eq_false]
  intro c hc
  simp only [decide_eq_true_eq]
  exact (ap_c h (List.mem_of_mem_take hc)).2
theorem cI_par {k : Nat} {c : Block} (hc : c ∈ cI k) : c.just.block = digB B0 ∧ c.just.view = 1 ∧ c.view = 2 := by
  unfold cI at hc
  obtain ⟨i, -, rfl⟩ := List.mem_map.1 hc
  exact ⟨rfl, rfl, rfl⟩
theorem mss_snoc (f : Fo) (l : List Block) (x : Block) : mss f (l ++ [x]) = mst f (mss f l) x := by unfold mss; rw [List.foldl_append]; rfl
theorem mss_one {f : Fo} {p : ByteArray} (hp : f.hasO p = false) : ∀ (l : List Block), (∀ c ∈ l, c.just.block = p) → mss f l = if l = [] then [] else [p] :=
  fun l => Kee.snoc_ind (P := fun l => (∀ c ∈ l, c.just.block = p) → mss f l = if l = [] then [] else [p]) (fun _ => rfl) (fun l x ih h => by
    have e : mss f (l ++ [x]) = mst f (mss f l) x := mss_snoc f l x
    rw [e, ih (fun c hc => h c (List.mem_append_left _ hc)), show (if l ++ [x] = [] then ([] : List ByteArray) else [p]) = [p] from if_neg (by simp)]
    have hx := h x (by simp)
    unfold mst
    rw [hx, hp]
    by_cases hl : l = []
    · rw [show (if l = [] then ([] : List ByteArray) else [p]) = [] from if_pos hl]
      have : amg [] p = false := rfl
      rw [this, if_neg (by simp)]
      rfl
    · rw [show (if l = [] then ([] : List ByteArray) else [p]) = [p] from if_neg hl]
      have : amg [p] p = true := amg_yes (i := 0) rfl
      rw [this, if_pos (by simp)]) _ l rfl
theorem sk_mss {k : Nat} (h : k ≤ 11) : (mss (Sk k k) (Sk k k).orph).length = if k = 0 then 0 else 1 := by
  rw [mss_one (sk_hasO h) (Sk k k).orph (fun c hc => (cI_par (List.mem_of_mem_take (show c ∈ (cI k).take (min k 8) from hc))).1)]
  have hl := sk_len (k := k) (i := k) (Nat.le_refl _)
  by_cases h0 : k = 0
  · rw [if_pos h0, if_pos (List.eq_nil_of_length_eq_zero (by rw [hl]; omega))]; rfl
  · rw [if_neg h0, if_neg (fun e => by rw [e] at hl; simp at hl; omega)]; rfl
/-- all of them stand, one by one -/
theorem adopt_all : ∀ (os : List Block) (n : Nat) (N : List Nd) (x : Nd), (∀ c ∈ os, c.just.block = digB B0 ∧ c.just.view = 1 ∧ c.view = 2) → ndAt N (digB B0) = some x → x.b.view = 1 → N.length + os.length ≤ 100 → os.length ≤ n →
    ∃ N', (⟨Crt.FB, 0, N, os⟩ : Fo).adopt n = ⟨Crt.FB, 0, N', []⟩ ∧ N'.length = N.length + os.length ∧ ndAt N' (digB B0) = some x
  | [], n, N, x, _, hx, _, _, _ => ⟨N, adopt_none rfl n, rfl, hx⟩
  | c :: os, 0, N, x, _, _, _, _, hn => by simp at hn
  | c :: os, n + 1, N, x, hc, hx, hv, hl, hn => by
    obtain ⟨c1, c2, c3⟩ := hc c (by simp)
    have hf : (⟨Crt.FB, 0, N, c :: os⟩ : Fo).first = some 0 := by
      unfold Fo.first
      rw [List.findIdx?_cons]
      have : (⟨Crt.FB, 0, N, c :: os⟩ : Fo).has c.just.block = true := by unfold Fo.has; rw [c1, hx]; rfl
      rw [this]
      rfl
    rw [adopt_some hf (b := c) rfl]
    have hcode : ((⟨Crt.FB, 0, N, c :: os⟩ : Fo).less 0).code c = 0 := by
      unfold Fo.code bad Fo.less
      simp only [c1, hx, c2, c3, hv]
      rw [if_neg (by decide), if_neg (by simp at hl; omega)]
    have e : ((⟨Crt.FB, 0, N, c :: os⟩ : Fo).less 0).fput c = ⟨Crt.FB, 0, N ++ [⟨c, w64 (((⟨Crt.FB, 0, N, c :: os⟩ : Fo).less 0).hgt c.just.block + 1)⟩], os⟩ := by
      unfold Fo.fput
      rw [if_pos hcode]
      rfl
    rw [e]
    obtain ⟨N', h1, h2, h3⟩ := adopt_all os n (N ++ [⟨c, w64 (((⟨Crt.FB, 0, N, c :: os⟩ : Fo).less 0).hgt c.just.block + 1)⟩]) x (fun d hd => hc d (List.mem_cons_of_mem _ hd)) (by rw [ndAt_snoc, hx]; rfl) hv (by simp at hl ⊢; omega) (by simp at hn; omega)
    exact ⟨N', h1, by rw [h2]; simp; omega, h3⟩
theorem last_put {k : Nat} (h : k ≤ 11) : ∃ F2 : Fo, (Sk k k).put B0 = (0, F2) ∧ F2.nodes.length = 1 + min k 8 ∧ F2.orph = [] ∧ F2.put B0 = (6, F2) ∧ F2.has (digB B0) = true := by
  have h1 : (Sk k k).has (digB B0) = false := by rw [has_nil rfl]; exact decide_eq_false (ap_fb h)
  have h3 : (Sk k k).has B0.just.block = true := by rw [has_nil rfl]; exact decide_eq_true rfl
  have hc : (Sk k k).code B0 = 0 := rfl
  have hl := sk_len (k := k) (i := k) (Nat.le_refl _)
  obtain ⟨N', e1, e2, e3⟩ := adopt_all (Sk k k).orph 10 [⟨B0, w64 ((Sk k k).hgt B0.just.block + 1)⟩] ⟨B0, w64 ((Sk k k).hgt B0.just.block + 1)⟩ (fun c hc => cI_par (List.mem_of_mem_take hc)) (by unfold ndAt; simp) rfl (by rw [hl]; simp; omega) (by rw [hl]; omega)
  refine ⟨⟨Crt.FB, 0, N', []⟩, ?_, ?_, rfl, ?_, ?_⟩
  · unfold Fo.put
    rw [h1, sk_hasO h, h3, hc]
    simp only [Bool.or_false, Bool.false_eq_true, if_false, if_true]
    congr 1
  · show N'.length = _
    rw [e2, hl]
    simp
  · have hh : (⟨Crt.FB, 0, N', []⟩ : Fo).has (digB B0) = true := by unfold Fo.has; rw [e3]; rfl
    unfold Fo.put
    rw [hh]
    rfl
  · unfold Fo.has
    rw [e3]
    rfl
end Go.Proofs.Ytnomgkmeomlccaa.Fst

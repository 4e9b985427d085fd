/- What a reader reads, plain: numbers, texts, signatures, certificates, requests, blocks; it reads what is right as it is, and what it reads well is right. -/
import Derived.Test.YtnomgkmeomlccaaGreatNum
import Derived.Test.YtnomgkmeomlccaaGreatSg
set_option linter.unusedVariables false
set_option linter.unusedSimpArgs false
namespace Go.Proofs.YtnomgkmeomlccaaGreat.Rp
open Go.RowKit Rd Api Num

/-- the number of so many bytes -/
def beVal (l : List UInt8) : Int := l.foldl (fun n c => n * 256 + (c.toNat : Int)) 0
theorem beVal_snoc (l : List UInt8) (c : UInt8) : beVal (l ++ [c]) = beVal l * 256 + (c.toNat : Int) := by simp [beVal]
theorem byte_of {n : Nat} (h : n < 256) : (UInt8.ofNat n).toNat = n := by simp; omega
theorem val4 (a b c d : UInt8) : beVal [a, b, c, d] = (((a.toNat : Int) * 256 + b.toNat) * 256 + c.toNat) * 256 + d.toNat := by simp [beVal]
theorem four_list (m : Int) : (four m).data.toList = [UInt8.ofNat (m / 16777216).toNat, UInt8.ofNat (m / 65536 % 256).toNat, UInt8.ofNat (m / 256 % 256).toNat, UInt8.ofNat (m % 256).toNat] := rfl
theorem four_val (m : Int) (h0 : 0 ≤ m) (h1 : m ≤ 2147483647) : beVal (four m).data.toList = m := by
  rw [four_list, val4, byte_of (by omega), byte_of (by omega), byte_of (by omega), byte_of (by omega)]; omega
theorem num_val (m : Int) (h0 : 0 ≤ m) (h1 : m ≤ 2147483647) : beVal (num4 m).data.toList = m := by
  unfold num4 clamp; rw [if_neg (by omega)]; exact four_val m h0 h1
theorem bytes_ext {s t : ByteArray} (h : s.data.toList = t.data.toList) : s = t := by
  cases s; cases t; simp only [ByteArray.mk.injEq]; exact Array.toList_inj.1 h
theorem cat_list (s t : ByteArray) : (s ++ t).data.toList = s.data.toList ++ t.data.toList := by
  simp [ByteArray.data_append]
theorem cut_list (b : ByteArray) (i j : Nat) : (b.extract i j).data.toList = (b.data.toList.take j).drop i := by
  rw [ByteArray.data_extract, Array.toList_extract, List.extract_eq_take_drop, List.drop_take]
theorem app_assoc (a b c : ByteArray) : a ++ b ++ c = a ++ (b ++ c) := bytes_ext (by simp only [cat_list, List.append_assoc])
theorem list_len (a : ByteArray) : a.data.toList.length = a.size := by rw [Array.length_toList]; rfl
theorem take_app (a r : ByteArray) : (a ++ r).extract 0 a.size = a := bytes_ext (by rw [cut_list, cat_list, ← list_len a, List.take_left, List.drop_zero])
theorem drop_app (a r : ByteArray) : (a ++ r).extract a.size (a ++ r).size = r := bytes_ext (by
  rw [cut_list, ← list_len (a ++ r), List.take_of_length_le (Nat.le_refl _), cat_list, ← list_len a, List.drop_left])
theorem app_size (a b : ByteArray) : (a ++ b).size = a.size + b.size := ByteArray.size_append

/-- what is left to be read, and whether something was wrong -/
structure RS where
  b : ByteArray
  bad : Bool
def ET : ByteArray := { data := #[] }
def cutB (n : Int) (s : RS) : Bool := s.bad || !(decide (0 ≤ n) && decide (n ≤ (s.b.size : Int)))
def cutF (n : Int) (s : RS) : ByteArray × RS := if cutB n s = true then (ET, ⟨s.b, true⟩) else (s.b.extract 0 n.toNat, ⟨s.b.extract n.toNat s.b.size, false⟩)
theorem cut_no {n : Int} {s : RS} (h : cutB n s = true) : cutF n s = (ET, ⟨s.b, true⟩) := if_pos h
theorem cut_yes {n : Int} {s : RS} (h : cutB n s = false) : cutF n s = (s.b.extract 0 n.toNat, ⟨s.b.extract n.toNat s.b.size, false⟩) := if_neg (by rw [h]; simp)
theorem cutB_false {n : Int} {s : RS} (h : cutB n s = false) : s.bad = false ∧ 0 ≤ n ∧ n ≤ (s.b.size : Int) := by
  simpa [cutB] using h
theorem cut_ok {n : Int} {s : RS} (h : (cutF n s).2.bad = false) : s.bad = false ∧ 0 ≤ n ∧ ((cutF n s).1.size : Int) = n := by
  cases hb : cutB n s with
  | true => rw [cut_no hb] at h; cases h
  | false =>
    obtain ⟨h1, h2, h3⟩ := cutB_false hb
    refine ⟨h1, h2, ?_⟩
    rw [cut_yes hb]
    show ((s.b.extract 0 n.toNat).size : Int) = n
    rw [ByteArray.size_extract]; omega
theorem cut_le (n : Int) (s : RS) : (cutF n s).2.b.size ≤ s.b.size ∧ (cutF n s).1.size ≤ s.b.size := by
  cases hb : cutB n s with
  | true => rw [cut_no hb]; exact ⟨Nat.le_refl _, Nat.zero_le _⟩
  | false => rw [cut_yes hb]; simp only [ByteArray.size_extract]; omega
theorem cut_app (a r : ByteArray) (n : Int) (hn : n = a.size) : cutF n ⟨a ++ r, false⟩ = (a, ⟨r, false⟩) := by
  subst hn
  rw [cut_yes (by simp [cutB, app_size]; omega)]
  show ((a ++ r).extract 0 ((a.size : Int).toNat), (⟨(a ++ r).extract ((a.size : Int).toNat) (a ++ r).size, false⟩ : RS)) = _
  rw [Int.toNat_natCast, take_app, drop_app]
/-- the bytes that a number is read of -/
def valF (s : RS) : Int := beVal (cutF 4 s).1.data.toList
def numB (lo hi : Int) (s : RS) : Bool := (cutF 4 s).2.bad || !(decide (lo ≤ valF s) && decide (valF s ≤ hi))
def numF (lo hi : Int) (s : RS) : Int × RS := if numB lo hi s = true then (0, ⟨(cutF 4 s).2.b, true⟩) else (valF s, ⟨(cutF 4 s).2.b, false⟩)
theorem num_no {lo hi : Int} {s : RS} (h : numB lo hi s = true) : numF lo hi s = (0, ⟨(cutF 4 s).2.b, true⟩) := if_pos h
theorem num_yes {lo hi : Int} {s : RS} (h : numB lo hi s = false) : numF lo hi s = (valF s, ⟨(cutF 4 s).2.b, false⟩) := if_neg (by rw [h]; simp)
theorem num_ok {lo hi : Int} {s : RS} (h : (numF lo hi s).2.bad = false) : s.bad = false ∧ lo ≤ (numF lo hi s).1 ∧ (numF lo hi s).1 ≤ hi := by
  cases hb : numB lo hi s with
  | true => rw [num_no hb] at h; cases h
  | false =>
    rw [num_yes hb]
    simp only [numB, Bool.or_eq_false_iff, Bool.not_eq_false', Bool.and_eq_true, decide_eq_true_eq] at hb
    exact ⟨(cut_ok hb.1).1, hb.2.1, hb.2.2⟩
theorem num_in (lo hi : Int) (s : RS) (h0 : lo ≤ 0 ∨ True) : (numF lo hi s).1 = 0 ∨ lo ≤ (numF lo hi s).1 ∧ (numF lo hi s).1 ≤ hi := by
  cases hb : numB lo hi s with
  | true => rw [num_no hb]; exact .inl rfl
  | false =>
    rw [num_yes hb]
    simp only [numB, Bool.or_eq_false_iff, Bool.not_eq_false', Bool.and_eq_true, decide_eq_true_eq] at hb
    exact .inr hb.2
theorem num_le (lo hi : Int) (s : RS) : (numF lo hi s).2.b.size ≤ s.b.size := by
  cases hb : numB lo hi s with
  | true => rw [num_no hb]; exact (cut_le 4 s).1
  | false => rw [num_yes hb]; exact (cut_le 4 s).1
theorem num_app (m lo hi : Int) (r : ByteArray) (h0 : 0 ≤ m) (h1 : m ≤ 2147483647) (h2 : lo ≤ m) (h3 : m ≤ hi) : numF lo hi ⟨num4 m ++ r, false⟩ = (m, ⟨r, false⟩) := by
  have hc : cutF 4 ⟨num4 m ++ r, false⟩ = (num4 m, ⟨r, false⟩) := cut_app _ _ _ rfl
  have hv : valF ⟨num4 m ++ r, false⟩ = m := by unfold valF; rw [hc]; exact num_val m h0 h1
  rw [num_yes (by simp [numB, hc, hv, h2, h3]), hv, hc]
def textF (most : Int) (s : RS) : ByteArray × RS := cutF (numF 0 most s).1 (numF 0 most s).2
theorem text_ok {most : Int} {s : RS} (h : (textF most s).2.bad = false) : s.bad = false ∧ ((textF most s).1.size : Int) ≤ most := by
  obtain ⟨h1, h2, h3⟩ := cut_ok h
  obtain ⟨h4, h5, h6⟩ := num_ok h1
  exact ⟨h4, by unfold textF; omega⟩
theorem text_le (most : Int) (s : RS) : (textF most s).2.b.size ≤ s.b.size ∧ (textF most s).1.size ≤ s.b.size := by
  have h1 := cut_le (numF 0 most s).1 (numF 0 most s).2
  have h2 := num_le 0 most s
  unfold textF; omega
theorem text_app (t : ByteArray) (most : Int) (r : ByteArray) (h : (t.size : Int) ≤ most) (h1 : t.size ≤ 2147483647) : textF most ⟨num4 (t.size : Int) ++ t ++ r, false⟩ = (t, ⟨r, false⟩) := by
  unfold textF
  rw [app_assoc, num_app _ _ _ _ (by omega) (by omega) (by omega) h]
  exact cut_app _ _ _ rfl

/-! ### signatures -/
def tagsF (s : RS) : Nat → List ByteArray × RS
  | 0 => ([], s)
  | k + 1 => ((tagsF s k).1 ++ [(cutF 16 (tagsF s k).2).1], (cutF 16 (tagsF s k).2).2)
theorem tags_ok {s : RS} : ∀ k, (tagsF s k).2.bad = false → s.bad = false ∧ (tagsF s k).1.length = k ∧ ∀ t ∈ (tagsF s k).1, t.size = 16
  | 0, h => ⟨h, rfl, fun t ht => by simp [tagsF] at ht⟩
  | k + 1, h => by
    obtain ⟨h1, h2, h3⟩ := cut_ok (n := 16) (s := (tagsF s k).2) h
    obtain ⟨h4, h5, h6⟩ := tags_ok k h1
    refine ⟨h4, by simp [tagsF, h5], fun t ht => ?_⟩
    rcases List.mem_append.1 ht with e | e
    · exact h6 t e
    · rw [List.mem_singleton] at e; subst e; omega
theorem tags_len (s : RS) : ∀ k, (tagsF s k).1.length = k
  | 0 => rfl
  | k + 1 => by simp [tagsF, tags_len s k]
theorem tags_le (s : RS) : ∀ k, (tagsF s k).2.b.size ≤ s.b.size ∧ ∀ t ∈ (tagsF s k).1, t.size ≤ s.b.size
  | 0 => ⟨Nat.le_refl _, fun t ht => by simp [tagsF] at ht⟩
  | k + 1 => by
    have h1 := cut_le 16 (tagsF s k).2
    have h2 := tags_le s k
    refine ⟨by simp only [tagsF]; omega, fun t ht => ?_⟩
    rcases List.mem_append.1 ht with e | e
    · exact h2.2 t e
    · rw [List.mem_singleton] at e; subst e; omega
def catB (b : ByteArray) (l : List ByteArray) : ByteArray := l.foldl (· ++ ·) b
theorem catB_snoc (b : ByteArray) (l : List ByteArray) (t : ByteArray) : catB b (l ++ [t]) = catB b l ++ t := by simp [catB]
theorem catB_app (b : ByteArray) : ∀ l : List ByteArray, ∀ c : ByteArray, catB (b ++ c) l = b ++ catB c l
  | [], c => rfl
  | t :: l, c => by
    show catB (b ++ c ++ t) l = b ++ catB (c ++ t) l
    rw [app_assoc]; exact catB_app b l (c ++ t)
theorem catB_ET (b : ByteArray) (l : List ByteArray) : catB b l = b ++ catB ET l := by
  have := catB_app b l ET
  rwa [show b ++ ET = b from bytes_ext (by rw [cat_list]; simp [ET])] at this
theorem tags_app : ∀ (n : Nat) (l : List ByteArray), l.length = n → (∀ t ∈ l, t.size = 16) → ∀ r : ByteArray, tagsF ⟨catB ET l ++ r, false⟩ n = (l, ⟨r, false⟩)
  | 0, l, hl, h, r => by
    obtain rfl := List.eq_nil_of_length_eq_zero hl
    show (([] : List ByteArray), (⟨ET ++ r, false⟩ : RS)) = _
    rw [show ET ++ r = r from bytes_ext (by rw [cat_list]; rfl)]
  | n + 1, l, hl, h, r => by
    obtain ⟨l', t, rfl⟩ : ∃ l' t, l = l' ++ [t] := ⟨l.dropLast, l.getLast (by intro e; rw [e] at hl; cases hl), (List.dropLast_concat_getLast _).symm⟩
    have hl' : l'.length = n := by simpa using hl
    have ih := tags_app n l' hl' (fun x hx => h x (List.mem_append_left _ hx)) (t ++ r)
    rw [catB_snoc, app_assoc]
    simp only [tagsF, ih]
    rw [cut_app t r 16 (by rw [h t (by simp)]; rfl)]
def sigF (s : RS) : Sg.Sig × RS :=
  (⟨(numF 0 6 s).1, (tagsF (numF 0 7 (numF 0 6 s).2).2 (numF 0 7 (numF 0 6 s).2).1.toNat).1⟩, (tagsF (numF 0 7 (numF 0 6 s).2).2 (numF 0 7 (numF 0 6 s).2).1.toNat).2)
def RightSig (s : Sg.Sig) : Prop := 0 ≤ s.node ∧ s.node < 7 ∧ s.tags.length ≤ 7 ∧ ∀ t ∈ s.tags, t.size = 16
def sigB (s : Sg.Sig) : ByteArray := catB (num4 s.node ++ num4 (s.tags.length : Int)) s.tags
theorem sig_ok {s : RS} (h : (sigF s).2.bad = false) : s.bad = false ∧ RightSig (sigF s).1 := by
  obtain ⟨h1, h2, h3⟩ := tags_ok _ h
  obtain ⟨h4, h5, h6⟩ := num_ok h1
  obtain ⟨h7, h8, h9⟩ := num_ok h4
  exact ⟨h7, h8, by show (numF 0 6 s).1 < 7; omega, by show (tagsF _ _).1.length ≤ 7; rw [h2]; omega, h3⟩
theorem sig_le (s : RS) : (sigF s).2.b.size ≤ s.b.size ∧ (sigF s).1.tags.length ≤ 7 ∧ ∀ t ∈ (sigF s).1.tags, t.size ≤ s.b.size := by
  have h1 := num_le 0 6 s
  have h2 := num_le 0 7 (numF 0 6 s).2
  have h3 := tags_le (numF 0 7 (numF 0 6 s).2).2 (numF 0 7 (numF 0 6 s).2).1.toNat
  have h4 := num_in 0 7 (numF 0 6 s).2 (.inr trivial)
  refine ⟨by simp only [sigF]; omega, ?_, fun t ht => ?_⟩
  · show (tagsF _ _).1.length ≤ 7
    rw [tags_len]; omega
  · have := h3.2 t ht; omega
theorem sig_app (x : Sg.Sig) (hx : RightSig x) (r : ByteArray) : sigF ⟨sigB x ++ r, false⟩ = (x, ⟨r, false⟩) := by
  obtain ⟨h1, h2, h3, h4⟩ := hx
  have e1 : sigB x ++ r = num4 x.node ++ (num4 (x.tags.length : Int) ++ (catB ET x.tags ++ r)) := by
    unfold sigB; rw [catB_ET]; simp only [app_assoc]
  have e2 : numF 0 6 ⟨sigB x ++ r, false⟩ = (x.node, ⟨num4 (x.tags.length : Int) ++ (catB ET x.tags ++ r), false⟩) := by rw [e1]; exact num_app _ _ _ _ (by omega) (by omega) (by omega) (by omega)
  have e3 : numF 0 7 ⟨num4 (x.tags.length : Int) ++ (catB ET x.tags ++ r), false⟩ = ((x.tags.length : Int), ⟨catB ET x.tags ++ r, false⟩) := num_app _ _ _ _ (by omega) (by omega) (by omega) (by omega)
  unfold sigF
  simp only [e2, e3, Int.toNat_natCast, tags_app _ x.tags rfl h4 r]
/-! ### certificates -/
structure Cert where
  view : Int
  block : ByteArray
  sigs : List Sg.Sig
def chk (s : RS) (ok : Bool) : RS := ⟨s.b, s.bad || !ok⟩
theorem chk_ok {s : RS} {ok : Bool} (h : (chk s ok).bad = false) : s.bad = false ∧ ok = true := by simpa [chk] using h
/-- so many signatures: they, the last one's node, what is left -/
def sigsF (s : RS) : Nat → List Sg.Sig × Int × RS
  | 0 => ([], -1, s)
  | k + 1 => ((sigsF s k).1 ++ [(sigF (sigsF s k).2.2).1], (sigF (sigsF s k).2.2).1.node, chk (sigF (sigsF s k).2.2).2 (decide ((sigsF s k).2.1 < (sigF (sigsF s k).2.2).1.node)))
/-- rising, from what is behind last on -/
def Rises : Int → List Sg.Sig → Prop
  | _, [] => True
  | last, x :: l => last < x.node ∧ Rises x.node l
def lastOf (last : Int) (l : List Sg.Sig) : Int := (l.getLast?.map (·.node)).getD last
theorem lastOf_snoc (last : Int) (l : List Sg.Sig) (x : Sg.Sig) : lastOf last (l ++ [x]) = x.node := by simp [lastOf]
theorem lastOf_cons (last : Int) (x : Sg.Sig) (l : List Sg.Sig) : lastOf last (x :: l) = lastOf x.node l := by
  cases l with
  | nil => rfl
  | cons y r =>
    obtain ⟨u, hu⟩ : ∃ u, (y :: r).getLast? = some u := ⟨_, List.getLast?_eq_some_getLast (by simp)⟩
    simp only [lastOf, List.getLast?_cons_cons, hu, Option.map_some, Option.getD_some]
theorem rises_snoc : ∀ (l : List Sg.Sig) (last : Int) (x : Sg.Sig), Rises last (l ++ [x]) ↔ Rises last l ∧ lastOf last l < x.node
  | [], last, x => by simp [Rises, lastOf]
  | y :: l, last, x => by
    rw [lastOf_cons]
    simp only [List.cons_append, Rises, rises_snoc l y.node x, and_assoc]
theorem sigs_len (s : RS) : ∀ k, (sigsF s k).1.length = k
  | 0 => rfl
  | k + 1 => by simp [sigsF, sigs_len s k]
theorem sigs_last (s : RS) : ∀ k, (sigsF s k).2.1 = lastOf (-1) (sigsF s k).1
  | 0 => rfl
  | k + 1 => by simp only [sigsF, lastOf_snoc]
theorem sigs_ok {s : RS} : ∀ k, (sigsF s k).2.2.bad = false → s.bad = false ∧ Rises (-1) (sigsF s k).1 ∧ ∀ x ∈ (sigsF s k).1, RightSig x
  | 0, h => ⟨h, trivial, fun t ht => by simp [sigsF] at ht⟩
  | k + 1, h => by
    obtain ⟨h1, h2⟩ := chk_ok h
    obtain ⟨h3, h4⟩ := sig_ok h1
    obtain ⟨h5, h6, h7⟩ := sigs_ok k h3
    refine ⟨h5, (rises_snoc _ _ _).2 ⟨h6, by rw [← sigs_last]; exact of_decide_eq_true h2⟩, fun x hx => ?_⟩
    rcases List.mem_append.1 hx with e | e
    · exact h7 x e
    · rw [List.mem_singleton] at e; subst e; exact h4
theorem sigs_le (s : RS) : ∀ k, (sigsF s k).2.2.b.size ≤ s.b.size ∧ ∀ x ∈ (sigsF s k).1, x.tags.length ≤ 7 ∧ ∀ t ∈ x.tags, t.size ≤ s.b.size
  | 0 => ⟨Nat.le_refl _, fun t ht => by simp [sigsF] at ht⟩
  | k + 1 => by
    have h1 := sig_le (sigsF s k).2.2
    have h2 := sigs_le s k
    refine ⟨by simp only [sigsF, chk]; omega, fun t ht => ?_⟩
    rcases List.mem_append.1 ht with e | e
    · exact h2.2 t e
    · rw [List.mem_singleton] at e; subst e; exact ⟨h1.2.1, fun u hu => Nat.le_trans (h1.2.2 u hu) h2.1⟩
def certF (s : RS) : Cert × RS :=
  (⟨(numF 0 1000000 s).1, (cutF 32 (numF 0 1000000 s).2).1, (sigsF (numF 0 7 (cutF 32 (numF 0 1000000 s).2).2).2 (numF 0 7 (cutF 32 (numF 0 1000000 s).2).2).1.toNat).1⟩,
   (sigsF (numF 0 7 (cutF 32 (numF 0 1000000 s).2).2).2 (numF 0 7 (cutF 32 (numF 0 1000000 s).2).2).1.toNat).2.2)
structure RightCert (c : Cert) : Prop where
  v : 0 ≤ c.view ∧ c.view ≤ 1000000
  b : c.block.size = 32
  n : c.sigs.length ≤ 7
  up : Rises (-1) c.sigs
  all : ∀ x ∈ c.sigs, RightSig x
def sigsB (b : ByteArray) (l : List Sg.Sig) : ByteArray := l.foldl (fun b s => b ++ sigB s) b
theorem sigsB_snoc (b : ByteArray) (l : List Sg.Sig) (t : Sg.Sig) : sigsB b (l ++ [t]) = sigsB b l ++ sigB t := by simp [sigsB]
theorem sigsB_app (b : ByteArray) : ∀ l : List Sg.Sig, ∀ c : ByteArray, sigsB (b ++ c) l = b ++ sigsB c l
  | [], c => rfl
  | t :: l, c => by
    show sigsB (b ++ c ++ sigB t) l = b ++ sigsB (c ++ sigB t) l
    rw [app_assoc]; exact sigsB_app b l (c ++ sigB t)
theorem sigsB_ET (b : ByteArray) (l : List Sg.Sig) : sigsB b l = b ++ sigsB ET l := by
  have := sigsB_app b l ET
  rwa [show b ++ ET = b from bytes_ext (by rw [cat_list]; simp [ET])] at this
def certB (c : Cert) : ByteArray := sigsB (num4 c.view ++ c.block ++ num4 (c.sigs.length : Int)) c.sigs
theorem cert_ok {s : RS} (h : (certF s).2.bad = false) : s.bad = false ∧ RightCert (certF s).1 := by
  obtain ⟨h1, h2, h3⟩ := sigs_ok _ h
  obtain ⟨h4, h5, h6⟩ := num_ok h1
  obtain ⟨h7, h8, h9⟩ := cut_ok h4
  obtain ⟨ha, hb, hc⟩ := num_ok h7
  exact ⟨ha, ⟨hb, hc⟩, by show (cutF 32 _).1.size = 32; omega, by show (sigsF _ _).1.length ≤ 7; rw [sigs_len]; omega, h2, h3⟩
theorem sigs_app : ∀ (n : Nat) (l : List Sg.Sig), l.length = n → Rises (-1) l → (∀ t ∈ l, RightSig t) → ∀ r : ByteArray, sigsF ⟨sigsB ET l ++ r, false⟩ n = (l, lastOf (-1) l, ⟨r, false⟩)
  | 0, l, hl, hu, h, r => by
    obtain rfl := List.eq_nil_of_length_eq_zero hl
    show (([] : List Sg.Sig), (-1 : Int), (⟨ET ++ r, false⟩ : RS)) = _
    rw [show ET ++ r = r from bytes_ext (by rw [cat_list]; rfl)]; rfl
  | n + 1, l, hl, hu, h, r => by
    obtain ⟨l', t, rfl⟩ : ∃ l' t, l = l' ++ [t] := ⟨l.dropLast, l.getLast (by intro e; rw [e] at hl; cases hl), (List.dropLast_concat_getLast _).symm⟩
    have hl' : l'.length = n := by simpa using hl
    obtain ⟨hu1, hu2⟩ := (rises_snoc _ _ _).1 hu
    have ih := sigs_app n l' hl' hu1 (fun x hx => h x (List.mem_append_left _ hx)) (sigB t ++ r)
    rw [sigsB_snoc, app_assoc]
    simp only [sigsF, ih]
    rw [sig_app t (h t (by simp)) r, lastOf_snoc]
    simp [chk, hu2]
theorem cert_app (c : Cert) (hc : RightCert c) (r : ByteArray) : certF ⟨certB c ++ r, false⟩ = (c, ⟨r, false⟩) := by
  obtain ⟨⟨h1, h2⟩, h3, h4, h5, h6⟩ := hc
  have e1 : certB c ++ r = num4 c.view ++ (c.block ++ (num4 (c.sigs.length : Int) ++ (sigsB ET c.sigs ++ r))) := by
    unfold certB; rw [sigsB_ET]; simp only [app_assoc]
  have e2 : numF 0 1000000 ⟨certB c ++ r, false⟩ = (c.view, ⟨c.block ++ (num4 (c.sigs.length : Int) ++ (sigsB ET c.sigs ++ r)), false⟩) := by rw [e1]; exact num_app _ _ _ _ (by omega) (by omega) (by omega) (by omega)
  have e3 : cutF 32 ⟨c.block ++ (num4 (c.sigs.length : Int) ++ (sigsB ET c.sigs ++ r)), false⟩ = (c.block, ⟨num4 (c.sigs.length : Int) ++ (sigsB ET c.sigs ++ r), false⟩) := cut_app _ _ _ (by rw [h3]; rfl)
  have e4 : numF 0 7 ⟨num4 (c.sigs.length : Int) ++ (sigsB ET c.sigs ++ r), false⟩ = ((c.sigs.length : Int), ⟨sigsB ET c.sigs ++ r, false⟩) := num_app _ _ _ _ (by omega) (by omega) (by omega) (by omega)
  unfold certF
  simp only [e2, e3, e4, Int.toNat_natCast, sigs_app _ c.sigs rfl h5 h6 r]
/-- what is read as it is, is right; and the other way round -/
theorem right_iff (c : Cert) : RightCert c ↔ (certF ⟨certB c, false⟩).2.bad = false ∧ (certF ⟨certB c, false⟩).2.b = ET ∧ (certF ⟨certB c, false⟩).1 = c := by
  have e : certB c = certB c ++ ET := bytes_ext (by rw [cat_list]; simp [ET])
  constructor
  · intro h
    rw [e, cert_app c h ET]
    exact ⟨rfl, rfl, rfl⟩
  · rintro ⟨h1, h2, h3⟩
    have := (cert_ok h1).2
    rwa [h3] at this
theorem cert_le (s : RS) : (certF s).2.b.size ≤ s.b.size ∧ (certF s).1.block.size ≤ s.b.size ∧ (certF s).1.sigs.length ≤ 7 ∧ ∀ x ∈ (certF s).1.sigs, x.tags.length ≤ 7 ∧ ∀ t ∈ x.tags, t.size ≤ s.b.size := by
  have h1 := num_le 0 1000000 s
  have h2 := cut_le 32 (numF 0 1000000 s).2
  have h3 := num_le 0 7 (cutF 32 (numF 0 1000000 s).2).2
  have h4 := sigs_le (numF 0 7 (cutF 32 (numF 0 1000000 s).2).2).2 (numF 0 7 (cutF 32 (numF 0 1000000 s).2).2).1.toNat
  have h5 := num_in 0 7 (cutF 32 (numF 0 1000000 s).2).2 (.inr trivial)
  refine ⟨by simp only [certF]; omega, by simp only [certF]; omega, ?_, fun x hx => ⟨(h4.2 x hx).1, fun t ht => ?_⟩⟩
  · show (sigsF _ _).1.length ≤ 7
    rw [sigs_len]; omega
  · have := (h4.2 x hx).2 t ht; omega
end Go.Proofs.YtnomgkmeomlccaaGreat.Rp

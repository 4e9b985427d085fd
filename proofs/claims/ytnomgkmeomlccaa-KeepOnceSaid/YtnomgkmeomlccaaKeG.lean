/- A chain's requests, one by one: plain. -/
import Derived.Test.YtnomgkmeomlccaaKeC
set_option linter.unusedVariables false
set_option linter.unusedSimpArgs false
namespace Go.Proofs.Ytnomgkmeomlccaa.Kee
open Go.RowKit Go.Sort Rd Api Own Mv App Num Dig
open Blk (Block Rq rqN fR rkey Dup dup_snoc)

/-- the request of a place -/
def rqAt (i : Nat) (p : Tl) : Rq := ⟨p.2.2 % 4, 1 + (i : Int), Rp.ET⟩
structure Stp (l : List Tl) (i : Nat) (x : Block) (q : Rq) : Prop where
  at_ : (chn l)[i]? = some x
  bat : x.batch = [q]
  nxt : rqs (l.take (i + 1)) = rqs (l.take i) ++ [q]
  key : rkey q ∉ (rqs (l.take i)).map rkey
  dup : ¬ Dup (rqs (l.take i) ++ [q])
  len : (rqs (l.take i)).length = i
  c : 0 ≤ q.c ∧ q.c < 4
  s : q.s = 1 + (i : Int)
theorem rkey_s {x y : Rq} (h : rkey x = rkey y) : x.s = y.s := by
  have := congrArg Prod.snd h
  simpa [rkey] using this
theorem rqs_new (l : List Tl) (q : Rq) (h : q.s = 1 + (l.length : Int)) : rkey q ∉ (rqs l).map rkey := by
  intro hm
  obtain ⟨y, hy, he⟩ := List.mem_map.1 hm
  have h1 := rkey_s he
  have h2 := rqs_seq l y hy
  omega
theorem rqs_nodup (l : List Tl) : ¬ Dup (rqs l) :=
  snoc_ind (P := fun l => ¬ Dup (rqs l)) (by rintro ⟨i, k, a, b, -, h, -⟩; simp [rqs, chn] at h) (fun l x ih => by
    rw [rqs_snoc, dup_snoc]
    rintro (e | e)
    · exact ih e
    · exact rqs_new l _ rfl e) _ l rfl
theorem stp {l : List Tl} {i : Nat} {p : Tl} (h : l[i]? = some p) : ∃ x, Stp l i x (rqAt i p) := by
  have hlt := (List.getElem?_eq_some_iff.1 h).1
  have hti : (l.take i).length = i := by rw [List.length_take]; omega
  have hn : rqs (l.take (i + 1)) = rqs (l.take i) ++ [rqAt i p] := by
    rw [List.take_add_one, h]
    show rqs (l.take i ++ [p]) = _
    rw [rqs_snoc, hti]
    rfl
  refine ⟨_, chn_at l i p h, ?_, hn, rqs_new _ _ (by rw [hti]; rfl), by rw [← hn]; exact rqs_nodup _, by rw [rqs_len]; exact hti, ?_, rfl⟩
  · unfold nx nxt rqAt
    rw [chn_len, hti]
  · show 0 ≤ p.2.2 % 4 ∧ p.2.2 % 4 < 4
    omega
theorem rqs_all (l : List Tl) (i : Nat) (h : i = l.length) : rqs (l.take i) = rqs l := by rw [h, List.take_length]
end Go.Proofs.Ytnomgkmeomlccaa.Kee

/- Check, in plain words. -/
import Derived.Test.YtejipflkdigbbaaPure
namespace Go.Proofs.Ytejipflkdigbbaa

/-- What is said of one index of a part: the number of costs, the index before it, those that were met. -/
def ck1 (n : Nat) (p : Option Int) (i : Int) (S : List Bool) : Int :=
  if i < 0 ∨ (n : Int) ≤ i then 2 else if p.any (fun q => decide (i ≤ q)) then 10 else if S.getD i.toNat false then 7 else 0
def ckP (n : Nat) : Option Int → List Int → List Bool → Int × List Bool
  | _, [], S => (0, S)
  | p, i :: r, S => if ck1 n p i S ≠ 0 then (ck1 n p i S, S) else ckP n (some i) r (S.set i.toNat true)
def ckPs (n : Nat) : List (List Int) → List Bool → Int × List Bool
  | [], S => (0, S)
  | p :: r, S => if (ckP n none p S).1 ≠ 0 then ckP n none p S else ckPs n r (ckP n none p S).2
/-- In the midst of a part. -/
def ckJ (n : Nat) (p : Option Int) (row : List Int) (rest : List (List Int)) (S : List Bool) : Int × List Bool :=
  if (ckP n p row S).1 ≠ 0 then ckP n p row S else ckPs n rest (ckP n p row S).2
def fin (x : Int × List Bool) : Int := if x.1 ≠ 0 then x.1 else if x.2.contains false then 8 else 0
/-- The error of a division. -/
def ck (C : List Int) (l : List (List Int)) : Int := if cc C ≠ 0 then cc C else fin (ckPs C.length l (List.replicate C.length false))

theorem ckPs_step {n r : Nat} {l : List (List Int)} {S : List Bool} (h : r < l.length) : ckPs n (l.drop r) S = ckJ n none l[r] (l.drop (r + 1)) S := by
  rw [← List.getElem_cons_drop h]
  simp only [ckPs, ckJ]
theorem ckPs_end {n r : Nat} {l : List (List Int)} {S : List Bool} (h : l.length ≤ r) : ckPs n (l.drop r) S = (0, S) := by rw [List.drop_eq_nil_of_le h]; rfl
def prv (L : List Int) (k : Nat) : Option Int := if k = 0 then none else L[k - 1]?
theorem ckJ_bad {n k : Nat} {L : List Int} {rest : List (List Int)} {S : List Bool} {e : Int} (h : k < L.length) (he : ck1 n (prv L k) L[k] S = e) (hne : e ≠ 0) : fin (ckJ n (prv L k) (L.drop k) rest S) = e := by
  rw [← List.getElem_cons_drop h]
  simp only [ckJ, ckP, he, if_pos hne, fin]
theorem ckJ_go {n k : Nat} {L : List Int} {rest : List (List Int)} {S : List Bool} (h : k < L.length) (he : ck1 n (prv L k) L[k] S = 0) : ckJ n (prv L k) (L.drop k) rest S = ckJ n (prv L (k + 1)) (L.drop (k + 1)) rest (S.set L[k].toNat true) := by
  have hp : prv L (k + 1) = some L[k] := by simp [prv, h]
  rw [hp]
  have e : ckP n (prv L k) (L.drop k) S = ckP n (some L[k]) (L.drop (k + 1)) (S.set L[k].toNat true) := by
    rw [← List.getElem_cons_drop h]
    simp only [ckP]
    rw [if_neg (by simpa using he)]
  unfold ckJ
  rw [e]
theorem ckJ_end {n k : Nat} {L : List Int} {rest : List (List Int)} {S : List Bool} {p : Option Int} (h : L.length ≤ k) : ckJ n p (L.drop k) rest S = ckPs n rest S := by
  rw [List.drop_eq_nil_of_le h]; simp [ckJ, ckP]
theorem prv_zero (L : List Int) : prv L 0 = none := rfl
theorem prv_pos {L : List Int} {k : Nat} (h : k < L.length) (h0 : 0 < k) : prv L k = some (L[k - 1]'(by omega)) := by
  unfold prv
  rw [if_neg (by omega), List.getElem?_eq_getElem (by omega)]
theorem count_set {S : List Bool} : ∀ {j : Nat}, j < S.length → S.getD j false = false → (S.set j true).count true = S.count true + 1 := by
  induction S with
  | nil => intro j h; simp at h
  | cons b S ih =>
    intro j h hg
    cases j with
    | zero => simp at hg; subst hg; simp
    | succ j =>
      have := ih (j := j) (by simpa using h) (by simpa using hg)
      simp only [List.set_cons_succ, List.count_cons, this]
      omega
theorem count_le (S : List Bool) : S.count true ≤ S.length := List.count_le_length
theorem all_met {S : List Bool} : S.contains false = decide (S.count true < S.length) := by
  induction S with
  | nil => simp
  | cons b S ih =>
    cases b with
    | true =>
      simp only [List.contains_cons, List.count_cons, List.length_cons] at *
      rw [ih]; simp
    | false =>
      have := count_le S
      simp
      omega
end Go.Proofs.Ytejipflkdigbbaa

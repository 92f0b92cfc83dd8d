/- Walks: the reference's Close (28). -/
import Derived.Test.YtjlmhfdigoogfaaClC
namespace Go.Proofs.Ytjlmhfdigoogfaa
open Go.RowKit Go.ChangeMaps

theorem seen0 (x : Ty) (w : World) (hx : x.Rd w) (hz : x.er.size ≤ 1000) : Calls Try.prog 57 #[.slice none 0 0, x.v] w fun e w' => (∃ v, e = .returned v ∧ OR 3 1 NC w' w.heap.size v (sn [] x.er)) ∧ Gr w w' := by
  refine (seen_any x w w.heap.size w (.slice none 0 0) [] hx (gr_refl _) (Nat.le_refl _) (Nat.le_refl _) OR.nil (by simpa using hz)).mono ?_
  rintro e w' ⟨v, rfl, h⟩
  exact ⟨⟨v, rfl, h.o⟩, h.gr (gr_refl _) OR.nil (Nat.le_refl _)⟩
/-- A variable for a variable. -/
def mkA (f : Int → Int) (x : Int) : As := ⟨x, yk 5 (f x)⟩
theorem mkA_er (f : Int → Int) (l : List Int) : (l.map (mkA f)).map As.er = l.map fun x => (x, vr (f x)) := by
  rw [List.map_map]
  refine List.map_congr_left fun x _ => ?_
  simp [mkA, As.er, Ty.er, vr]
theorem apf_map {g : Int → PT} {l : List Int} {u : Int} (h : u ∈ l) : apf (l.map fun x => (x, g x)) u = g u := by
  unfold apf
  cases hq : fidx u (l.map fun x => (x, g x)) with
  | none =>
    obtain ⟨j, hj⟩ := List.getElem?_of_mem h
    exfalso
    have h2 : ∀ (l : List PA) (j : Nat) p, l[j]? = some p → p.1 = u → fidx u l ≠ none := by
      intro l
      induction l with
      | nil => intro j p h; simp at h
      | cons q l ih =>
        intro j p hp hu
        simp only [fidx]
        split
        · simp
        · rename_i hne
          cases j with
          | zero => simp at hp; subst hp; exact absurd hu hne
          | succ j => have := ih j p (by simpa using hp) hu; simpa using this
    exact h2 _ j (u, g u) (by rw [List.getElem?_map, hj]; rfl) rfl hq
  | some i =>
    obtain ⟨p, hp, hu⟩ := fidx_at hq
    simp only [hp, Option.map_some, Option.getD_some]
    rw [List.getElem?_map] at hp
    obtain ⟨y, -, rfl⟩ := Option.map_eq_some_iff.1 hp
    simp only at hu ⊢
    rw [hu]
theorem rep_map {t : PT} (f : Int → Int) : t.rep (apf ((sn [] t).map fun x => (x, vr (f x)))) = t.rep fun n => vr (f n) := rep_congr fun u hu => apf_map (by rw [mem_sn]; exact .inr hu)
theorem nidx_snoc_yes {n : Int} : ∀ {l : List Int}, n ∉ l → nidx n (l ++ [n]) = some l.length
  | [], _ => by simp [nidx]
  | x :: l, h => by
    simp only [List.mem_cons, not_or] at h
    simp [nidx, h.1, nidx_snoc_yes h.2]
theorem nidx_snoc_no {n m : Int} (h : m ≠ n) : ∀ {l : List Int}, nidx n (l ++ [m]) = nidx n l
  | [] => by simp [nidx, Ne.symm h]
  | x :: l => by simp [nidx, nidx_snoc_no h]
/-- What a round of the innermost loop knows. -/
def cli (ow : List Int) (x : Int) (i : Nat) : Int := match nidx x (ow.take i) with | some a => (a : Int) | none => (ow.length : Int) + x
theorem cli_zero (ow : List Int) (x : Int) : cli ow x 0 = (ow.length : Int) + x := rfl
theorem cli_end (ow : List Int) {x : Int} (hx : 0 ≤ x ∧ x ≤ 999999) (hl : ow.length ≤ 200) : cli ow x ow.length = cln ow x := by
  unfold cli cln
  rw [List.take_length]
  cases nidx x ow with
  | some a => rfl
  | none =>
    simp only
    have : wr64 (x + (ow.length : Int)) = x + ow.length := IntWalk.i64_in _ (by omega)
    rw [this]; omega
theorem cli_yes {ow : List Int} {x : Int} {i : Nat} (h : ow[i]? = some x) (hn : ow.Nodup) : cli ow x (i + 1) = i := by
  have h0 : x ∉ ow.take i := by
    intro h1
    obtain ⟨j, hj⟩ := List.getElem?_of_mem h1
    rw [List.getElem?_take] at hj
    split at hj
    · have h3 := (List.getElem?_inj (by have := (List.getElem?_eq_some_iff.1 hj).1; exact this) hn).1 (hj.trans h.symm)
      omega
    · cases hj
  unfold cli
  rw [List.take_add_one, h, show ((some x : Option Int).toList) = [x] from rfl, nidx_snoc_yes h0]
  have hi := (List.getElem?_eq_some_iff.1 h).1
  simp
  omega
theorem cli_no {ow : List Int} {x y : Int} {i : Nat} (h : ow[i]? = some y) (hne : y ≠ x) : cli ow x (i + 1) = cli ow x i := by
  unfold cli
  rw [List.take_add_one, h, show ((some y : Option Int).toList) = [y] from rfl, nidx_snoc_no hne]
theorem cli_bd {ow : List Int} {x : Int} (i : Nat) (hx : 0 ≤ x ∧ x ≤ 999999) (hl : ow.length ≤ 200) : 0 ≤ cli ow x i ∧ cli ow x i ≤ 1000199 := by
  unfold cli
  cases hq : nidx x (ow.take i) with
  | some a =>
    have := (List.getElem?_eq_some_iff.1 (nidx_some hq)).1
    simp at this
    simp only
    omega
  | none => simp only; omega
theorem cln_in {ow : List Int} {x : Int} (h : x ∈ ow) : cln ow x < ow.length ∧ 0 ≤ cln ow x := by
  unfold cln
  cases hq : nidx x ow with
  | none => exact absurd h (nidx_none.1 hq)
  | some i =>
    have := (List.getElem?_eq_some_iff.1 (nidx_some hq)).1
    simp only
    omega
theorem cln_out {ow : List Int} {x : Int} (h : x ∉ ow) (hx : 0 ≤ x ∧ x ≤ 999999) (hl : ow.length ≤ 200) : cln ow x = x + ow.length := by
  unfold cln
  rw [nidx_none.2 h]
  exact IntWalk.i64_in _ (by omega)
end Go.Proofs.Ytjlmhfdigoogfaa

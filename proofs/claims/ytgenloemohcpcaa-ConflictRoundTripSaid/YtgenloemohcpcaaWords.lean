/- Words for memory: a slice of texts that reads as a list. -/
import Derived.WalkKit
import Derived.Deep.Draws
import Derived.Laws.Rows
import Derived.Sort.EncStr
import Derived.Test.YtgenloemohcpcaaProg
import Derived.Test.YtgenloemohcpcaaPure
namespace Go.Proofs.Ytgenloemohcpcaa
open Go.RowKit

/-- The value of a text. -/
abbrev tv (x : T) : Value := Value.string ⟨x.toArray⟩

theorem add_block (a : Addr) (n : Nat) : (a.add n).block = a.block := by unfold Addr.add; split <;> rfl

/-- From an address on (asked for only if the list is not empty) the texts of a list lie in memory. -/
def RD (w : World) (A : Option Addr) (L : List T) : Prop :=
  L = [] ∨ ∃ a, A = some a ∧ a.block < w.heap.size ∧ ∀ j x, L[j]? = some x → w.cell? (a.add j) = some (tv x)

theorem RD.nil (w : World) (A : Option Addr) : RD w A [] := .inl rfl
theorem RD.at {w : World} {A : Option Addr} {L : List T} (h : RD w A L) {k : Nat} (hk : k < L.length) :
    ∃ a, A = some a ∧ a.block < w.heap.size ∧ w.cell? (a.add k) = some (tv L[k]) := by
  rcases h with rfl | ⟨a, e, hb, hc⟩
  · simp at hk
  · exact ⟨a, e, hb, hc k _ (List.getElem?_eq_getElem hk)⟩
theorem RD.keep {w w' : World} {A : Option Addr} {L : List T} (h : RD w A L) (hs : w.heap.size ≤ w'.heap.size) (hk : ∀ p : Addr, p.block < w.heap.size → w'.cell? p = w.cell? p) : RD w' A L := by
  rcases h with rfl | ⟨a, e, hb, hc⟩
  · exact .inl rfl
  · exact .inr ⟨a, e, by omega, fun j x hx => (hk _ (by rw [add_block]; exact hb)).trans (hc j x hx)⟩
theorem RD.below {w w' : World} {A : Option Addr} {L : List T} (h : RD w A L) (hb : Below w.heap.size w w') : RD w' A L :=
  h.keep hb.size fun _ hp => hb.cell hp
theorem RD.drewN {w : World} {A : Option Addr} {L : List T} (h : RD w A L) (n : Nat) : RD (w.drewN n) A L := h
theorem RD.alloc {w : World} {A : Option Addr} {L : List T} (h : RD w A L) (o : Obj) : RD (w.alloc o) A L :=
  h.below ((Below.refl _ _).alloc (Nat.le_refl _) o)

theorem add_add' (a : Addr) (i j : Nat) : (a.add i).add j = a.add (i + j) := by
  unfold Addr.add
  by_cases hi : i = 0 <;> by_cases hj : j = 0 <;> simp [hi, hj, Nat.add_assoc]
theorem RD.take {w : World} {A : Option Addr} {L : List T} (h : RD w A L) (k : Nat) : RD w A (L.take k) := by
  rcases h with rfl | ⟨a, e, hb, hc⟩
  · exact .inl (by simp)
  · refine .inr ⟨a, e, hb, fun j x hj => hc j x ?_⟩
    rw [List.getElem?_take] at hj
    split at hj
    · exact hj
    · cases hj
/-- What is left behind the first k texts. -/
theorem RD.drop {w : World} {A : Option Addr} {L : List T} (h : RD w A L) (k : Nat) : RD w (A.map (·.add k)) (L.drop k) := by
  rcases h with rfl | ⟨a, rfl, hb, hc⟩
  · exact .inl (by simp)
  · refine .inr ⟨a.add k, rfl, by rw [add_block]; exact hb, fun j x hj => ?_⟩
    rw [add_add']
    exact hc _ x (by rw [← hj, List.getElem?_drop])
/-- The same, as the cut of a slice spells its address. -/
theorem RD.cut {w : World} {A : Option Addr} {L : List T} (h : RD w A L) (k c : Nat) (hc : L.length ≤ c) : RD w (if c = k then A else A.map (·.add k)) (L.drop k) := by
  by_cases e : c = k
  · rw [if_pos e]
    exact .inl (List.drop_eq_nil_of_le (by omega))
  · rw [if_neg e]
    exact h.drop k

theorem below_drewN {B : Nat} {a w : World} (h : Below B a w) (n : Nat) : Below B a (w.drewN n) := ⟨h.os, h.tape, h.output, h.size, h.block⟩

end Go.Proofs.Ytgenloemohcpcaa

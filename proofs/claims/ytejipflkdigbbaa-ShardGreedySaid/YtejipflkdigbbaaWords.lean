/- Words for memory: a slice that reads as a list; rows of numbers. -/
import Derived.WalkKit
import Derived.Deep.Draws
import Derived.Laws.Rows
import Derived.Deep.QuietTactic
import Derived.BigQuiet
import Derived.WalkLawsBesides
import Derived.WalkSpells
import Derived.Lib.Hide
import Derived.Test.YtejipflkdigbbaaProg
namespace Go.Proofs.Ytejipflkdigbbaa
open Go.RowKit

abbrev iv (x : Int) : Value := Value.int .i64 x
abbrev bv (x : Bool) : Value := Value.bool x

theorem add_block (a : Addr) (n : Nat) : (a.add n).block = a.block := by unfold Addr.add; split <;> rfl
theorem add_zero' (a : Addr) : a.add 0 = a := by simp [Addr.add]

/-- From an address on (asked for only if the list is not empty) the elements of a list lie in memory. -/
def RD {α : Type} (enc : α → Value) (w : World) (A : Option Addr) (L : List α) : Prop :=
  L = [] ∨ ∃ a, A = some a ∧ a.block < w.heap.size ∧ ∀ (j : Nat) x, L[j]? = some x → w.cell? (a.add j) = some (enc x)

section
variable {α : Type} {enc : α → Value}
theorem RD.nil (w : World) (A : Option Addr) : RD enc w A [] := .inl rfl
theorem RD.at {w : World} {A : Option Addr} {L : List α} (h : RD enc w A L) {k : Nat} (hk : k < L.length) :
    ∃ a, A = some a ∧ a.block < w.heap.size ∧ w.cell? (a.add k) = some (enc L[k]) := by
  rcases h with rfl | ⟨a, e, hb, hc⟩
  · simp at hk
  · exact ⟨a, e, hb, hc k _ (List.getElem?_eq_getElem hk)⟩
theorem RD.keep {w w' : World} {A : Option Addr} {L : List α} (h : RD enc w A L) (hs : w.heap.size ≤ w'.heap.size) (hk : ∀ p : Addr, p.block < w.heap.size → w'.cell? p = w.cell? p) : RD enc w' A L := by
  rcases h with rfl | ⟨a, e, hb, hc⟩
  · exact .inl rfl
  · exact .inr ⟨a, e, by omega, fun j x hx => (hk _ (by rw [add_block]; exact hb)).trans (hc j x hx)⟩
theorem RD.below {w w' : World} {A : Option Addr} {L : List α} (h : RD enc w A L) (hb : Below w.heap.size w w') : RD enc w' A L :=
  h.keep hb.size fun _ hp => hb.cell hp
theorem RD.drewN {w : World} {A : Option Addr} {L : List α} (h : RD enc w A L) (n : Nat) : RD enc (w.drewN n) A L := h
theorem RD.alloc {w : World} {A : Option Addr} {L : List α} (h : RD enc w A L) (o : Obj) : RD enc (w.alloc o) A L :=
  h.below ((Below.refl _ _).alloc (Nat.le_refl _) o)
theorem add_add' (a : Addr) (i j : Nat) : (a.add i).add j = a.add (i + j) := by
  unfold Addr.add
  by_cases hi : i = 0 <;> by_cases hj : j = 0 <;> simp [hi, hj, Nat.add_assoc]
theorem RD.take {w : World} {A : Option Addr} {L : List α} (h : RD enc w A L) (k : Nat) : RD enc w A (L.take k) := by
  rcases h with rfl | ⟨a, e, hb, hc⟩
  · exact .inl (by simp)
  · refine .inr ⟨a, e, hb, fun j x hj => hc j x ?_⟩
    rw [List.getElem?_take] at hj
    split at hj
    · exact hj
    · cases hj
theorem RD.drop {w : World} {A : Option Addr} {L : List α} (h : RD enc w A L) (k : Nat) : RD enc w (A.map (·.add k)) (L.drop k) := by
  rcases h with rfl | ⟨a, rfl, hb, hc⟩
  · exact .inl (by simp)
  · refine .inr ⟨a.add k, rfl, by rw [add_block]; exact hb, fun j x hj => ?_⟩
    rw [add_add']
    exact hc _ x (by rw [← hj, List.getElem?_drop])
theorem RD.cut {w : World} {A : Option Addr} {L : List α} (h : RD enc w A L) (k c : Nat) (hc : L.length ≤ c) : RD enc w (if c = k then A else A.map (·.add k)) (L.drop k) := by
  by_cases e : c = k
  · rw [if_pos e]
    exact .inl (List.drop_eq_nil_of_le (by omega))
  · rw [if_neg e]
    exact h.drop k
end

theorem below_drewN {B : Nat} {a w : World} (h : Below B a w) (n : Nat) : Below B a (w.drewN n) := ⟨h.os, h.tape, h.output, h.size, h.block⟩

/-- A row of numbers as it lies in memory. -/
structure Row where
  A : Option Addr
  c : Nat
  L : List Int
def Row.val (r : Row) : Value := .slice r.A r.L.length r.c
structure Row.Rd (w : World) (r : Row) : Prop where
  a : RD iv w r.A r.L
  c : r.L.length ≤ r.c
  l : r.L.length ≤ 9223372036854775807
theorem Row.Rd.below {w w' : World} {r : Row} (h : r.Rd w) (hb : Below w.heap.size w w') : r.Rd w' := ⟨h.a.below hb, h.c, h.l⟩
/-- Rows of numbers. -/
structure Rws (w : World) (A : Option Addr) (R : List Row) : Prop where
  a : RD Row.val w A R
  r : ∀ x ∈ R, x.Rd w
theorem Rws.below {w w' : World} {A : Option Addr} {R : List Row} (h : Rws w A R) (hb : Below w.heap.size w w') : Rws w' A R := ⟨h.a.below hb, fun x hx => (h.r x hx).below hb⟩
theorem Rws.drewN {w : World} {A : Option Addr} {R : List Row} (h : Rws w A R) (n : Nat) : Rws (w.drewN n) A R := ⟨h.a, fun x hx => ⟨(h.r x hx).a, (h.r x hx).c, (h.r x hx).l⟩⟩
/-- What the rows hold. -/
def lls (R : List Row) : List (List Int) := R.map Row.L

theorem ret_bool {a b : Bool} (h : a = b) : Ending.returned (.bool a) = .returned (.bool b) := by rw [h]
theorem ret_int {k : IntKind} {a b : Int} (h : a = b) : Ending.returned (.int k a) = .returned (.int k b) := by rw [h]
end Go.Proofs.Ytejipflkdigbbaa

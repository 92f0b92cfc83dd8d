/- Walk: the divisions of costs, one after the other: the closure place. -/
import Derived.RangeFuncNested
import Derived.RangeFuncBound
import Derived.RangeFuncCalls
import Derived.RangeFuncLeaves
import Derived.Shelf.Abstract
import Derived.Shelf.RegionOpen
import Derived.OwnWalkIn
import Derived.TacticsInMore
import Derived.LoopNIn
import Derived.LoopIn
import Derived.Test.YtejipflkdigbbaaBst
namespace Go.Proofs.Ytejipflkdigbbaa
open Go.RowKit Go.Shelf
attribute [local go_sem] Oper.semAt_some

/-- Of what was there, only the blocks X may have turned. -/
structure KP (X : List Nat) (W W' : World) : Prop where
  size : W.heap.size ≤ W'.heap.size
  same : ∀ k, k < W.heap.size → k ∉ X → W'.heap[k]? = W.heap[k]?
theorem KP.refl (X : List Nat) (W : World) : KP X W W := ⟨Nat.le_refl _, fun _ _ _ => rfl⟩
theorem KP.trans {X : List Nat} {A B C : World} (h : KP X A B) (k : KP X B C) : KP X A C := ⟨Nat.le_trans h.size k.size, fun j hj hx => (k.same j (Nat.lt_of_lt_of_le hj h.size) hx).trans (h.same j hj hx)⟩
theorem KP.of {X : List Nat} {A B : World} (h : Below A.heap.size A B) : KP X A B := ⟨h.size, fun j hj _ => h.block j hj⟩
theorem RD.kp {X : List Nat} {W W' : World} {A : Option Addr} {L : List Int} (h : RD iv W A L) (k : KP X W W') (hA : L ≠ [] → ∀ a, A = some a → a.block ∉ X) : RD iv W' A L := by
  rcases h with rfl | ⟨a, e, hb, hc⟩
  · exact .inl rfl
  · by_cases hL : L = []
    · exact .inl hL
    refine .inr ⟨a, e, Nat.lt_of_lt_of_le hb k.size, fun j x hx => ?_⟩
    have hs := k.same a.block hb (hA hL a e)
    have := hc j x hx
    rw [← this]
    unfold World.cell?
    rw [add_block, hs]
/-- What the closure place has captured: the costs, the loop's body, itself, the number of parts. -/
structure Cap (A : Option Addr) (c : Nat) (C : List Int) (n D Y Q l : Nat) (W : World) : Prop where
  d : W.heap[D]? = some (.cells #[.slice A C.length c] 22 (0, 0))
  e : W.heap[D + 1]? = some (.cells #[.int .i64 n] 3 (0, 0))
  y : W.heap[Y]? = some (.cells #[.func (.yield l) #[] #[]] 62 (0, 0))
  q : W.heap[Q]? = some (.cells #[.func (.func 52) #[] #[.pointer (some ⟨D, 0, none⟩), .pointer (some ⟨Y, 0, none⟩), .pointer (some ⟨Q, 0, none⟩), .pointer (some ⟨D + 1, 0, none⟩)]] 63 (0, 0))
  r : RD iv W A C
theorem heap_lt {w : World} {g : Nat} {o : Obj} (h : w.heap[g]? = some o) : g < w.heap.size := (Array.getElem?_eq_some_iff.1 h).1
theorem Cap.kp {X : List Nat} {A : Option Addr} {c : Nat} {C : List Int} {n D Y Q l : Nat} {W W' : World} (h : Cap A c C n D Y Q l W) (k : KP X W W') (hX : D ∉ X ∧ D + 1 ∉ X ∧ Y ∉ X ∧ Q ∉ X) (hA : C ≠ [] → ∀ a, A = some a → a.block ∉ X) : Cap A c C n D Y Q l W' :=
  ⟨(k.same _ (heap_lt h.d) hX.1).trans h.d, (k.same _ (heap_lt h.e) hX.2.1).trans h.e, (k.same _ (heap_lt h.y) hX.2.2.1).trans h.y, (k.same _ (heap_lt h.q) hX.2.2.2).trans h.q, h.r.kp k hA⟩
theorem cell_h {W : World} {g : Nat} {v : Value} {t : TypeId} {fz : Nat × Nat} (h : W.heap[g]? = some (.cells #[v] t fz)) : W.cell? ⟨g, 0, none⟩ = some v := by simp [World.cell?, h]

/-- Words of one range over the divisions: the loop's record l, the blocks X that its body turns, what holds between its rounds. -/
structure Rng (X : List Nat) (l m : Nat) (J : List (List Int) → World → Prop) : Prop where
  keep : ∀ s W W', J s W → Below W.heap.size W W' → J s W'
  yield : ∀ pre (S : List Int) B d W, J pre W → RD iv W B S → S.length ≤ 100 → (∀ s ∈ S, 0 ≤ s ∧ s ≤ 1099511627776000) →
    YieldAt Fence.wide m Try.prog l #[.slice B S.length d] W fun e W' => e = .returned (.bool true) ∧ J (pre ++ [S]) W' ∧ KP X W W'

def PlacePost (X : List Nat) (J : List (List Int) → World → Prop) (pre : List (List Int)) (ls : List (List Int)) (W : World) (e : Ending) (W' : World) : Prop :=
  e = .returned (.bool true) ∧ J (pre ++ ls) W' ∧ KP X W W'

set_option maxRecDepth 100000 in
set_option maxHeartbeats 4000000 in
theorem place_leaf {X : List Nat} {l m : Nat} {J : List (List Int) → World → Prop} (R : Rng X l m J) (A : Option Addr) (c : Nat) (C : List Int) (n D Y Q : Nat) (pre : List (List Int)) (S : List Int) (B : Option Addr) (d : Nat) (W : World)
    (hc : Cap A c C n D Y Q l W) (hJ : J pre W) (hB : RD iv W B S) (hb : Bnd [] S n) :
    Calls Try.prog 52 #[.int .i64 (C.length : Nat), .slice B S.length d, .pointer (some ⟨D, 0, none⟩), .pointer (some ⟨Y, 0, none⟩), .pointer (some ⟨Q, 0, none⟩), .pointer (some ⟨D + 1, 0, none⟩)] W (PlacePost X J pre [S] W) := by
  refine (callsIn_wide (n := m + 1)).1 ?_
  refine callsIn_of_wp Try.func52 rfl trivial ?_ rfl
  simp only [Try.ntmps52, List.size_toArray, List.length_cons, List.length_nil, Nat.reduceAdd, Nat.reduceSub, Array.replicate_succ, Array.replicate_zero, List.push_toArray, List.append_toArray, List.nil_append, List.cons_append]
  have c1 := cell_h hc.d
  have c2 := cell_h hc.y
  obtain ⟨fn, tmps, assign, body, hy, hR⟩ := R.yield pre S B d W hJ hB (by have := hb.sl; have := hb.n2; omega) (fun s hs => by have := hb.s s hs; simp at this; omega)
  have t1 : ((C.length : Int) == (C.length : Int)) = true := by simp
  gi_wp2
  refine hR.mono ?_
  rintro e W3 ⟨rfl, hJ3, hk3⟩
  gi_wp2
  go_ret
  exact ⟨rfl, hJ3, hk3⟩
end Go.Proofs.Ytejipflkdigbbaa

/- Walk: the numbers of the coding: digits' closure, for every loop body that keeps its word. -/
import Derived.RangeFuncNested
import Derived.RangeFuncBound
import Derived.RangeFuncCalls
import Derived.RangeFuncLeaves
import Derived.Shelf.Abstract
import Derived.Shelf.RegionOpen
import Derived.WalkKit
import Derived.OwnWalkIn
import Derived.TacticsInMore
import Derived.LoopNIn
import Derived.LoopIn
import Derived.Lib.Builder
import Derived.Test.YtgboboljgcfggaaGreatDoorM7
namespace Go.Proofs.YtgboboljgcfggaaGreatDoor
open Go.RowKit Go.Shelf
attribute [local go_sem] Oper.semAt_some

theorem dig_six {n : Nat} (h : n ≤ 1099511627776) : (dig n).length ≤ 6 := by
  have key : ∀ k n : Nat, n < 128 ^ (k + 1) → (dig n).length ≤ k + 1 := by
    intro k
    induction k with
    | zero => intro n h; rw [dig_small (by simpa using h)]; simp
    | succ k ih =>
      intro n h
      by_cases h1 : n < 128
      · rw [dig_small h1]; simp
      · rw [dig_large h1]
        have := ih (n / 128) (by rw [Nat.pow_succ] at h; omega)
        simp only [List.length_cons]
        omega
  exact key 5 n (by omega)
theorem dig_pre {pre : List UInt8} {u v : Nat} (h : pre ++ dig u = dig v) : pre.length < (dig v).length := by
  have h2 := List.length_pos_iff.2 (dig_ne u)
  rw [← h, List.length_append]
  omega

/-- The number in a box. -/
def natAt (g : Nat) (W : World) : Nat :=
  match W.cell? ⟨g, 0, none⟩ with
  | some (.int _ i) => i.toNat
  | _ => 0

theorem natAt_eq {g : Nat} {W : World} {v : Nat} (h : W.heap[g]? = some (.cells #[.int .i64 v] 3 (0, 0))) : natAt g W = v := by
  have := Lib.cell_of_heap h 0
  simp [natAt, this]

theorem byte_hi (v : Nat) : ((UInt8.ofNat (v % 128 + 128)).toNat : Int) = (v : Int) % 128 + 128 := by
  simp
  omega
theorem byte_lo {v : Nat} (h : v < 128) : ((UInt8.ofNat v).toNat : Int) = (v : Int) := by
  simp
  omega

set_option maxRecDepth 100000 in
set_option maxHeartbeats 4000000 in
theorem dig_in (n : Nat) (hn : 1 ≤ n) (l g : Nat) (J : List UInt8 → World → Prop)
    (hJ : ∀ s A u, J s A → J s (A.setCell ⟨g, 0, none⟩ u))
    (v : Nat) (hY : ∀ pre x W, J pre W → pre.length < (dig v).length → YieldAt Fence.wide (n - 1) Tryz.prog l #[.int .u8 (x.toNat : Int)] W fun e W' => e = .returned (.bool true) ∧ J (pre ++ [x]) W' ∧ W'.heap[g]? = W.heap[g]?)
    (hv : v ≤ 9223372036854775807) (W : World) (hg : W.heap[g]? = some (.cells #[.int .i64 v] 3 (0, 0))) (h0 : J [] W) :
    CallsIn Fence.wide n Tryz.prog 151 #[.func (.yield l) #[] #[], .pointer (some ⟨g, 0, none⟩)] W fun e W' => (∃ r, e = .returned r) ∧ J (dig v) W' := by
  refine callsIn_of_wp Tryz.func151 rfl trivial ?_ rfl
  simp only [Tryz.ntmps151, List.size_toArray, List.length_cons, List.length_nil, Nat.reduceAdd, Nat.reduceSub, Array.replicate_succ, Array.replicate_zero, List.push_toArray, List.append_toArray, List.nil_append, List.cons_append]
  gi_wp2
  gi_loopw [] (fun wr => ∃ (pre : List UInt8) (u : Nat), wr.heap[g]? = some (.cells #[.int .i64 u] 3 (0, 0)) ∧ u ≤ 9223372036854775807 ∧ pre ++ dig u = dig v ∧ J pre wr)
    (fun wr => natAt g wr)
  case atStart =>
    exact ⟨[], v, hg, hv, rfl, h0⟩
  case round =>
    obtain ⟨pre, u, hu, hu2, hx, hJs⟩ := hrel
    have hc := Lib.cell_of_heap hu 0
    have hf := Lib.frozen_of_heap hu 0
    simp only [List.getElem?_toArray, List.getElem?_cons_zero] at hc
    by_cases h : u < 128
    · have h1 : ((u : Int) ≥ 128) = False := by simp; omega
      obtain ⟨fn, tmps, assign, body, hy, hR⟩ := hY pre (UInt8.ofNat u) wr hJs (dig_pre hx)
      rw [byte_lo h] at hy
      gi_wp2
      refine hR.mono ?_
      rintro e W3 ⟨rfl, hJ3, hk3⟩
      gi_wp2
      go_end0
      refine ⟨⟨_, rfl⟩, ?_⟩
      rw [← hx, dig_small h]
      exact hJ3
    · have h1 : ((u : Int) ≥ 128) = True := by simp; omega
      obtain ⟨fn, tmps, assign, body, hy, hR⟩ := hY pre (UInt8.ofNat (u % 128 + 128)) wr hJs (dig_pre hx)
      rw [byte_hi u] at hy
      gi_wp2
      refine hR.mono ?_
      rintro e W3 ⟨rfl, hJ3, hk3⟩
      have hu3 := hk3.trans hu
      have hc3 := Lib.cell_of_heap hu3 0
      have hf3 := Lib.frozen_of_heap hu3 0
      simp only [List.getElem?_toArray, List.getElem?_cons_zero] at hc3
      gi_wp2
      have hd : (u : Int) / 128 = ((u / 128 : Nat) : Int) := by omega
      have hn3 : (W3.setCell ⟨g, 0, none⟩ (.int .i64 ((u : Int) / 128))).heap[g]? = some (.cells #[.int .i64 ((u / 128 : Nat) : Int)] 3 (0, 0)) := by
        rw [hd]; simp [World.setCell, Array.getElem?_modify, hu3]
      go_roundw
      case rel =>
        exact ⟨pre ++ [UInt8.ofNat (u % 128 + 128)], u / 128, hn3, by omega, by rw [← hx, dig_large h]; simp, hJ _ _ _ hJ3⟩
      case measure =>
        rw [natAt_eq hn3, natAt_eq hu]; omega
end Go.Proofs.YtgboboljgcfggaaGreatDoor

/- Walk: the numbers of the coding: digits' closure, for every loop body that keeps its word. -/
import Derived.RangeFuncNested
import Derived.RangeFuncBound
import Derived.RangeFuncCalls
import Derived.RangeFuncLeaves
import Derived.Shelf.Abstract
import Derived.Shelf.RegionOpen
import Derived.WalkKit
import Derived.OwnWalkIn
import Derived.TacticsInMore
import Derived.LoopNIn
import Derived.LoopIn
import Derived.Lib.Builder
import Derived.Test.YtgenloemohcpcaaWords
namespace Go.Proofs.Ytgenloemohcpcaa
open Go.RowKit Go.Shelf
attribute [local go_sem] Oper.semAt_some

/-- The digits of a number, base 128, least first, all but the last raised by 128. -/
def dig (n : Nat) : List UInt8 := if h : n < 128 then [UInt8.ofNat n] else UInt8.ofNat (n % 128 + 128) :: dig (n / 128)
termination_by n
decreasing_by omega

theorem dig_small {n : Nat} (h : n < 128) : dig n = [UInt8.ofNat n] := by rw [dig, dif_pos h]
theorem dig_large {n : Nat} (h : ¬ n < 128) : dig n = UInt8.ofNat (n % 128 + 128) :: dig (n / 128) := by rw [dig, dif_neg h]

theorem dig_ne (n : Nat) : dig n ≠ [] := by
  by_cases h : n < 128
  · simp [dig_small h]
  · simp [dig_large h]
theorem dig_len (n : Nat) : (dig n).length ≤ n + 1 := by
  induction n using Nat.strongRecOn with
  | ind n ih =>
    by_cases h : n < 128
    · simp [dig_small h]
    · rw [dig_large h]
      have := ih (n / 128) (by omega)
      simp only [List.length_cons]
      omega
theorem dig_pre {pre : List UInt8} {u v : Nat} (h : pre ++ dig u = dig v) : pre.length ≤ v := by
  have h1 := dig_len v
  have h2 := List.length_pos_iff.2 (dig_ne u)
  have h3 := congrArg List.length h
  simp only [List.length_append] at h3
  omega

/-- The number in a box. -/
def natAt (g : Nat) (W : World) : Nat :=
  match W.cell? ⟨g, 0, none⟩ with
  | some (.int _ i) => i.toNat
  | _ => 0

theorem natAt_eq {g : Nat} {W : World} {v : Nat} (h : W.heap[g]? = some (.cells #[.int .i64 v] 3 (0, 0))) : natAt g W = v := by
  have := Lib.cell_of_heap h 0
  simp [natAt, this]

theorem byte_hi (v : Nat) : ((UInt8.ofNat (v % 128 + 128)).toNat : Int) = (v : Int) % 128 + 128 := by
  simp
  omega
theorem byte_lo {v : Nat} (h : v < 128) : ((UInt8.ofNat v).toNat : Int) = (v : Int) := by
  simp
  omega

set_option maxRecDepth 100000 in
set_option maxHeartbeats 4000000 in
theorem dig_in (n : Nat) (hn : 1 ≤ n) (l g : Nat) (J : List UInt8 → World → Prop)
    (hJ : ∀ s A u, J s A → J s (A.setCell ⟨g, 0, none⟩ u))
    (v : Nat) (hY : ∀ pre x W, J pre W → pre.length ≤ v → YieldAt Fence.wide (n - 1) Try.prog l #[.int .u8 (x.toNat : Int)] W fun e W' => e = .returned (.bool true) ∧ J (pre ++ [x]) W' ∧ W'.heap[g]? = W.heap[g]?)
    (hv : v ≤ 9223372036854775807) (W : World) (hg : W.heap[g]? = some (.cells #[.int .i64 v] 3 (0, 0))) (h0 : J [] W) :
    CallsIn Fence.wide n Try.prog 76 #[.func (.yield l) #[] #[], .pointer (some ⟨g, 0, none⟩)] W fun e W' => (∃ r, e = .returned r) ∧ J (dig v) W' := by
  refine callsIn_of_wp Try.func76 rfl trivial ?_ rfl
  simp only [Try.ntmps76, List.size_toArray, List.length_cons, List.length_nil, Nat.reduceAdd, Nat.reduceSub, Array.replicate_succ, Array.replicate_zero, List.push_toArray, List.append_toArray, List.nil_append, List.cons_append]
  gi_wp2
  gi_loopw [] (fun wr => ∃ (pre : List UInt8) (u : Nat), wr.heap[g]? = some (.cells #[.int .i64 u] 3 (0, 0)) ∧ u ≤ 9223372036854775807 ∧ pre ++ dig u = dig v ∧ J pre wr)
    (fun wr => natAt g wr)
  case atStart =>
    exact ⟨[], v, hg, hv, rfl, h0⟩
  case round =>
    obtain ⟨pre, u, hu, hu2, hx, hJs⟩ := hrel
    have hc := Lib.cell_of_heap hu 0
    have hf := Lib.frozen_of_heap hu 0
    simp only [List.getElem?_toArray, List.getElem?_cons_zero] at hc
    by_cases h : u < 128
    · have h1 : ((u : Int) ≥ 128) = False := by simp; omega
      obtain ⟨fn, tmps, assign, body, hy, hR⟩ := hY pre (UInt8.ofNat u) wr hJs (dig_pre hx)
      rw [byte_lo h] at hy
      gi_wp2
      refine hR.mono ?_
      rintro e W3 ⟨rfl, hJ3, hk3⟩
      gi_wp2
      go_end0
      refine ⟨⟨_, rfl⟩, ?_⟩
      rw [← hx, dig_small h]
      exact hJ3
    · have h1 : ((u : Int) ≥ 128) = True := by simp; omega
      obtain ⟨fn, tmps, assign, body, hy, hR⟩ := hY pre (UInt8.ofNat (u % 128 + 128)) wr hJs (dig_pre hx)
      rw [byte_hi u] at hy
      gi_wp2
      refine hR.mono ?_
      rintro e W3 ⟨rfl, hJ3, hk3⟩
      have hu3 := hk3.trans hu
      have hc3 := Lib.cell_of_heap hu3 0
      have hf3 := Lib.frozen_of_heap hu3 0
      simp only [List.getElem?_toArray, List.getElem?_cons_zero] at hc3
      gi_wp2
      have hd : (u : Int) / 128 = ((u / 128 : Nat) : Int) := by omega
      have hn3 : (W3.setCell ⟨g, 0, none⟩ (.int .i64 ((u : Int) / 128))).heap[g]? = some (.cells #[.int .i64 ((u / 128 : Nat) : Int)] 3 (0, 0)) := by
        rw [hd]; simp [World.setCell, Array.getElem?_modify, hu3]
      go_roundw
      case rel =>
        exact ⟨pre ++ [UInt8.ofNat (u % 128 + 128)], u / 128, hn3, by omega, by rw [← hx, dig_large h]; simp, hJ _ _ _ hJ3⟩
      case measure =>
        rw [natAt_eq hn3, natAt_eq hu]; omega
end Go.Proofs.Ytgenloemohcpcaa

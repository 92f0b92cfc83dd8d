/- The walks and the words of the family machine, part 2: Opl, Cmr, LabA, LabB, Idx, LabC, LabD, ChkC, ChkD, ChkE. -/
import Derived.Test.YtdfllhmkgphcmaaDoorM1
import Derived.Laws.RangeString
import Derived.Laws.RangeAny
import Derived.Lib.Bytealg
import Derived.Laws.Externs
import Derived.RangeFuncNested
import Derived.RangeFuncBound
import Derived.RangeFuncCalls
import Derived.RangeFuncLeaves
import Derived.Shelf.Abstract
import Derived.Shelf.RegionOpen
import Derived.WalkKit
import Derived.OwnWalkIn
import Derived.TacticsInMore
import Derived.LoopNIn
import Derived.LoopIn
import Derived.Lib.Builder
import Derived.LoopTactic
import Derived.BigQuiet
import Derived.StillTailTactics
namespace Go.Proofs.YtdfllhmkgphcmaaDoor
open Go.RowKit

section
variable {o : Oper} {a : Act} {w : World}
theorem nx_some {v : Value} (h : o.dst.isSome = true) : nx o v = .value v := by
  unfold nx
  cases e : o.dst with
  | none => rw [e] at h; cases h
  | some t => rfl
theorem nx_none {v : Value} (h : o.dst.isSome = false) : nx o v = .skip := by
  unfold nx
  cases e : o.dst with
  | none => rfl
  | some t => rw [e] at h; cases h
theorem op_move {x : Operand} {v : Value} (hd : o.dst.isSome = true) (ho : o.op = .move x) (h : a.eval x = v) : (execOp a.eval o).run Tryd.prog w = .ok (nx o v) w := by
  rw [nx_some hd]
  obtain ⟨d, op, t, p, af, g⟩ := o
  simp only at ho
  subst ho
  subst h
  go_simp
theorem op_assign {x : Operand} {v : Value} (hd : o.dst.isSome = true) (ho : o.op = .assign x) (h : a.eval x = v) : (execOp a.eval o).run Tryd.prog w = .ok (nx o v) w := by
  rw [nx_some hd]
  obtain ⟨d, op, t, p, af, g⟩ := o
  simp only at ho
  subst ho
  subst h
  go_simp
theorem op_nil {x : Tmp} {p : Addr} (hd : o.dst.isSome = true) (ho : o.op = .nilCheck (.tmp x)) (h : a.eval (.tmp x) = .pointer (some p)) : (execOp a.eval o).run Tryd.prog w = .ok (nx o (.pointer (some p))) w := by
  rw [nx_some hd]
  unfold Act.eval at h
  obtain ⟨d, op, t, ps, af, gu⟩ := o
  simp only at ho
  subst ho
  go_simp
theorem op_len {x : Tmp} {T : TypeId} {A : Option Addr} {n c : Nat} (hd : o.dst.isSome = true) (hT : T = 33 ∨ T = 34 ∨ T = 41) (ho : o.op = .call { callee := .builtin .len, args := #[.tmp x], argTypes := #[T] }) (h : a.eval (.tmp x) = .slice A n c) : (execOp a.eval o).run Tryd.prog w = .ok (nx o (.int .i64 n)) w := by
  rw [nx_some hd]
  unfold Act.eval at h
  obtain ⟨d, op, t, ps, af, gu⟩ := o
  simp only at ho
  subst ho
  rcases hT with rfl | rfl | rfl <;> go_simp
theorem op_load1 {x : Tmp} {T : TypeId} {p : Addr} {v : Value} (hd : o.dst.isSome = true) (hT : T = 33 ∨ T = 34 ∨ T = 3 ∨ T = 32 ∨ T = 82 ∨ T = 22 ∨ T = 41 ∨ T = 9 ∨ T = 84 ∨ T = 85 ∨ T = 27 ∨ T = 4) (ho : o.op = .load T (.tmp x)) (h : a.eval (.tmp x) = .pointer (some p)) (hc : w.cell? p = some v) : (execOp a.eval o).run Tryd.prog w = .ok (nx o v) w := by
  rw [nx_some hd]
  unfold Act.eval at h
  obtain ⟨d, op, t, ps, af, gu⟩ := o
  simp only at ho
  subst ho
  rcases hT with rfl | rfl | rfl | rfl | rfl | rfl | rfl | rfl | rfl | rfl | rfl | rfl <;> go_simp
theorem op_load54 {x : Tmp} {g : Nat} {f : Nat} {vs : List Value} (hl : vs.length = 8) (hd : o.dst.isSome = true) (ho : o.op = .load 54 (.tmp x)) (h : a.eval (.tmp x) = .pointer (some ⟨g, f, none⟩)) (hc : ∀ i, i < 8 → w.cell? ⟨g, f + i, none⟩ = vs[i]?) : (execOp a.eval o).run Tryd.prog w = .ok (nx o (.agg vs.toArray)) w := by
  rw [nx_some hd]
  match vs, hl with
  | [x0, x1, x2, x3, x4, x5, x6, x7], _ =>
    have q0 := hc 0 (by omega)
    have q1 := hc 1 (by omega)
    have q2 := hc 2 (by omega)
    have q3 := hc 3 (by omega)
    have q4 := hc 4 (by omega)
    have q5 := hc 5 (by omega)
    have q6 := hc 6 (by omega)
    have q7 := hc 7 (by omega)
    simp at q0 q1 q2 q3 q4 q5 q6 q7
    clear hc hd
    unfold Act.eval at h
    obtain ⟨d, op, t, ps, af, gu⟩ := o
    simp only at ho
    subst ho
    go_simp
def faL : List (Nat × Nat × Nat) := [(87, 0, 0), (87, 1, 8), (87, 2, 9), (36, 0, 0), (36, 1, 2), (36, 2, 3), (36, 3, 4), (36, 4, 5), (36, 5, 6), (36, 6, 7), (25, 0, 0), (78, 0, 0), (78, 1, 1), (78, 2, 2), (43, 0, 0), (43, 2, 2), (45, 0, 0), (45, 1, 1), (45, 2, 2), (45, 3, 3), (54, 0, 0), (54, 1, 1), (54, 2, 2), (54, 3, 3), (131, 0, 0), (131, 1, 1)]
theorem op_fa {x : Tmp} {T : TypeId} {i k g f : Nat} (hd : o.dst.isSome = true) (hT : faL.contains (T, i, k) = true)
    (ho : o.op = .fieldAddr T (.tmp x) i) (h : a.eval (.tmp x) = .pointer (some ⟨g, f, none⟩)) : (execOp a.eval o).run Tryd.prog w = .ok (nx o (.pointer (some ⟨g, f + k, none⟩))) w := by
  rw [nx_some hd]
  unfold Act.eval at h
  obtain ⟨d, op, t, ps, af, gu⟩ := o
  simp only at ho
  subst ho
  simp [faL] at hT
  rcases hT with h1 | h1 | h1 | h1 | h1 | h1 | h1 | h1 | h1 | h1 | h1 | h1 | h1 | h1 | h1 | h1 | h1 | h1 | h1 | h1 | h1 | h1 | h1 | h1 | h1 | h1 <;> obtain ⟨rfl, rfl, rfl⟩ := h1 <;> go_simp
theorem op_store1 {x y : Tmp} {T : TypeId} {p : Addr} {v v0 : Value} (hd : o.dst.isSome = false) (hT : T = 33 ∨ T = 34 ∨ T = 3 ∨ T = 32 ∨ T = 27 ∨ T = 4 ∨ T = 84) (ho : o.op = .store T (.tmp x) (.tmp y)) (h : a.eval (.tmp x) = .pointer (some p)) (h' : a.eval (.tmp y) = v) (hc : w.cell? p = some v0) (hf : w.frozen? p = false) (hv : (∃ A n c, v = .slice A n c) ∨ (∃ k i, v = .int k i) ∨ (∃ b, v = .bool b) ∨ (∃ m, v = .map m) ∨ ∃ q, v = .pointer q) : (execOp a.eval o).run Tryd.prog w = .ok (nx o undef) (w.setCell p v) := by
  rw [nx_none hd]
  unfold Act.eval at h h'
  obtain ⟨d, op, t, ps, af, gu⟩ := o
  simp only at ho
  subst ho
  rcases hT with rfl | rfl | rfl | rfl | rfl | rfl | rfl <;> rcases hv with ⟨A, n, c, rfl⟩ | ⟨k, i, rfl⟩ | ⟨b, rfl⟩ | ⟨m, rfl⟩ | ⟨q, rfl⟩ <;> go_simp
theorem op_store1w {x y : Tmp} {T : TypeId} {p : Addr} {v v0 : Value} {w' : World} (hd : o.dst.isSome = false) (hT : T = 33 ∨ T = 34 ∨ T = 3 ∨ T = 32 ∨ T = 27 ∨ T = 4 ∨ T = 84) (ho : o.op = .store T (.tmp x) (.tmp y)) (h : a.eval (.tmp x) = .pointer (some p)) (h' : a.eval (.tmp y) = v) (hc : w.cell? p = some v0) (hf : w.frozen? p = false) (hv : (∃ A n c, v = .slice A n c) ∨ (∃ k i, v = .int k i) ∨ (∃ b, v = .bool b) ∨ (∃ m, v = .map m) ∨ ∃ q, v = .pointer q) (hw : w.setCell p v = w') : (execOp a.eval o).run Tryd.prog w = .ok (nx o undef) w' := by
  subst hw
  exact op_store1 hd hT ho h h' hc hf hv
theorem op_index {x y : Tmp} {T : TypeId} {sz g f n c : Nat} {k r : Nat} {ki : Int} (hr : f + k * sz = r) (hd : o.dst.isSome = true) (hT : (T = 33 ∧ sz = 8) ∨ (T = 34 ∧ sz = 3) ∨ (T = 22 ∧ sz = 3) ∨ (T = 41 ∧ sz = 4)) (ho : o.op = .indexAddr T (.tmp x) (.tmp y)) (h : a.eval (.tmp x) = .slice (some ⟨g, f, none⟩) n c) (h' : a.eval (.tmp y) = .int .i64 ki) (hki : ki = k) (hk : k < n) : (execOp a.eval o).run Tryd.prog w = .ok (nx o (.pointer (some ⟨g, r, none⟩))) w := by
  rw [nx_some hd]
  subst hki hr
  unfold Act.eval at h h'
  obtain ⟨d, op, t, ps, af, gu⟩ := o
  simp only at ho
  subst ho
  have t1 : (0 : Int) ≤ k := by omega
  have t2 : (k : Int) < n := by omega
  have t3 : ((k : Int)).toNat = k := by omega
  rcases hT with ⟨rfl, rfl⟩ | ⟨rfl, rfl⟩ | ⟨rfl, rfl⟩ | ⟨rfl, rfl⟩ <;> go_simp
theorem op_index0 {x : Tmp} {T : TypeId} {sz g f n c : Nat} (hd : o.dst.isSome = true) (hT : (T = 33 ∧ sz = 8)) (ho : o.op = .indexAddr T (.tmp x) (.const (.int .i64 0))) (h : a.eval (.tmp x) = .slice (some ⟨g, f, none⟩) n c) (hk : 0 < n) : (execOp a.eval o).run Tryd.prog w = .ok (nx o (.pointer (some ⟨g, f, none⟩))) w := by
  rw [nx_some hd]
  unfold Act.eval at h
  obtain ⟨d, op, t, ps, af, gu⟩ := o
  simp only at ho
  subst ho
  obtain ⟨rfl, rfl⟩ := hT
  have t2 : (0 : Int) < n := by omega
  go_simp
theorem op_sub1 {x : Tmp} {n : Nat} (hd : o.dst.isSome = true) (ho : o.op = .binOp .sub 3 (.tmp x) (.const (.int .i64 1)) 3) (h : a.eval (.tmp x) = .int .i64 n) (hn : 0 < n) (hn2 : n ≤ 1000000000) : (execOp a.eval o).run Tryd.prog w = .ok (nx o (.int .i64 ((n : Int) - 1))) w := by
  rw [nx_some hd]
  unfold Act.eval at h
  obtain ⟨d, op, t, ps, af, gu⟩ := o
  simp only at ho
  subst ho
  have t1 : IntKind.i64.wrap ((n : Int) - 1) = (n : Int) - 1 := IntWalk.i64_in _ (by omega)
  go_simp
theorem op_head {x y : Tmp} {T : TypeId} {A : Option Addr} {n c k : Nat} {ki : Int} (hd : o.dst.isSome = true) (hT : T = 33 ∨ T = 34) (ho : o.op = .slice T (.tmp x) none (some (.tmp y)) none) (h : a.eval (.tmp x) = .slice A n c) (h' : a.eval (.tmp y) = .int .i64 ki) (hki : ki = k) (hk : k ≤ c) : (execOp a.eval o).run Tryd.prog w = .ok (nx o (.slice A k c)) w := by
  rw [nx_some hd]
  subst hki
  unfold Act.eval at h h'
  obtain ⟨d, op, t, ps, af, gu⟩ := o
  simp only at ho
  subst ho
  have t1 : (0 : Int) ≤ k := by omega
  have t2 : (k : Int) ≤ c := by omega
  have t3 : ((k : Int)).toNat = k := by omega
  rcases hT with rfl | rfl <;> go_simp
theorem op_alloc54 (hd : o.dst.isSome = true) (ho : o.op = .alloc 54) : (execOp a.eval o).run Tryd.prog w = .ok (nx o (.pointer (some ⟨w.heap.size, 0, none⟩))) (w.alloc (.cells #[.int .i64 0, .int .i64 0, .slice none 0 0, .int .i64 0, .string ⟨#[]⟩, .string ⟨#[]⟩, .slice none 0 0, .slice none 0 0] 54)) := by
  rw [nx_some hd]
  obtain ⟨d, op, t, ps, af, gu⟩ := o
  simp only at ho
  subst ho
  go_simp
theorem op_st8 {x y : Tmp} {g f : Nat} {v : AV} (hd : o.dst.isSome = false) (ho : o.op = .store 54 (.tmp x) (.tmp y)) (h : a.eval (.tmp x) = .pointer (some ⟨g, f, none⟩)) (h' : a.eval (.tmp y) = v.v) (hc : ∀ i, i < 8 → (w.cell? ⟨g, f + i, none⟩).isSome = true) (hf : ∀ i, w.frozen? ⟨g, i, none⟩ = false) :
    (execOp a.eval o).run Tryd.prog w = .ok (nx o undef) (st8 w g f v) := by
  rw [nx_none hd]
  unfold AV.v at h'
  unfold st8
  obtain ⟨z0, q0⟩ := Option.isSome_iff_exists.1 (hc 0 (by omega))
  obtain ⟨z1, q1⟩ := Option.isSome_iff_exists.1 (hc 1 (by omega))
  obtain ⟨z2, q2⟩ := Option.isSome_iff_exists.1 (hc 2 (by omega))
  obtain ⟨z3, q3⟩ := Option.isSome_iff_exists.1 (hc 3 (by omega))
  obtain ⟨z4, q4⟩ := Option.isSome_iff_exists.1 (hc 4 (by omega))
  obtain ⟨z5, q5⟩ := Option.isSome_iff_exists.1 (hc 5 (by omega))
  obtain ⟨z6, q6⟩ := Option.isSome_iff_exists.1 (hc 6 (by omega))
  obtain ⟨z7, q7⟩ := Option.isSome_iff_exists.1 (hc 7 (by omega))
  simp at q0
  clear hc hd
  unfold Act.eval at h h'
  obtain ⟨d, op, t, p, af, gu⟩ := o
  simp only at ho
  subst ho
  go_simp
end
end Go.Proofs.YtdfllhmkgphcmaaDoor
namespace Go.Proofs.YtdfllhmkgphcmaaDoor
open Go.RowKit
theorem op_call46 {o : Oper} {a : Act} {w : World} {x y : Tmp} {u v : T} {r : Value} (ho : o.op = .call { callee := .value (.func 46), args := #[.tmp x, .tmp y], argTypes := #[9, 9] }) (h : a.eval (.tmp x) = tv u) (h' : a.eval (.tmp y) = tv v) (hC : Calls Tryd.prog 46 #[tv u, tv v] w fun e w'' => e = .returned r ∧ w'' = w) :
    ∃ f args, (execOp a.eval o).run Tryd.prog w = .ok (.enter f args) w ∧ Calls Tryd.prog f args w fun e w'' => e = .returned r ∧ w'' = w := by
  refine ⟨46, #[tv u, tv v], ?_, hC⟩
  unfold Act.eval at h h'
  clear hC
  obtain ⟨d, op, t, ps, af, gu⟩ := o
  simp only at ho
  subst ho
  go_simp
theorem op_call47 {o : Oper} {a : Act} {w : World} {x y : Tmp} {u v : Int} {r : Value} (ho : o.op = .call { callee := .value (.func 47), args := #[.tmp x, .tmp y], argTypes := #[3, 3] }) (h : a.eval (.tmp x) = iv u) (h' : a.eval (.tmp y) = iv v) (hC : Calls Tryd.prog 47 #[iv u, iv v] w fun e w'' => e = .returned r ∧ w'' = w) :
    ∃ f args, (execOp a.eval o).run Tryd.prog w = .ok (.enter f args) w ∧ Calls Tryd.prog f args w fun e w'' => e = .returned r ∧ w'' = w := by
  refine ⟨47, #[iv u, iv v], ?_, hC⟩
  unfold Act.eval at h h'
  clear hC
  obtain ⟨d, op, t, ps, af, gu⟩ := o
  simp only at ho
  subst ho
  go_simp
theorem op_fa31 {o : Oper} {a : Act} {w : World} {x : Tmp} {i g f : Nat} (hd : o.dst.isSome = true) (hT : i = 0 ∨ i = 1) (ho : o.op = .fieldAddr 31 (.tmp x) i) (h : a.eval (.tmp x) = .pointer (some ⟨g, f, none⟩)) : (execOp a.eval o).run Tryd.prog w = .ok (nx o (.pointer (some ⟨g, f + i, none⟩))) w := by
  rw [nx_some hd]
  unfold Act.eval at h
  obtain ⟨d, op, t, ps, af, gu⟩ := o
  simp only at ho
  subst ho
  rcases hT with rfl | rfl <;> go_simp

set_option maxRecDepth 100000 in
set_option maxHeartbeats 2000000 in
theorem compare_any (p : T) (i : Int) (q : T) (j : Int) (w : World) : Calls Tryd.prog 28 #[.agg #[tv p, .int .i64 i], .agg #[tv q, .int .i64 j]] w fun e w' => e = .returned (.int .i64 (cN p i q j)) ∧ Below w.heap.size w w' := by
  have C1 := fun W => cmpStr_any p q W
  have C2 := fun W => cmpInt_any i j W
  have C3 := fun g W h0 h1 => or2_any (cS p q) (cI i j) g W h0 h1
  have E : Hid ((if cS p q ≠ 0 then cS p q else cI i j) = cN p i q j) := Lib.hid rfl
  rw [E.out] at C3
  generalize cN p i q j = r at *
  generalize cS p q = a at *
  generalize cI i j = b at *
  have H1 := Lib.hid C1
  have H2 := Lib.hid C2
  have H3 := Lib.hid C3
  have NN : ∀ o o', (((w.alloc o).alloc o').drew.alloc (.cells #[iv a, iv b] 3)).cell? ⟨w.heap.size + 1 + 1, 0, none⟩ = some (iv a) ∧ (((w.alloc o).alloc o').drew.alloc (.cells #[iv a, iv b] 3)).cell? ⟨w.heap.size + 1 + 1, 1, none⟩ = some (iv b) := fun o o' => by
    have h := al_new ((w.alloc o).alloc o').drew (.cells #[iv a, iv b] 3)
    rw [show ((w.alloc o).alloc o').drew.heap.size = w.heap.size + 1 + 1 by simp] at h
    exact ⟨by rw [Lib.cell_of_heap h]; rfl, by rw [Lib.cell_of_heap h]; rfl⟩
  have NN := Lib.hid NN
  have bel : ∀ o o' o'' n, Below w.heap.size w ((((w.alloc o).alloc o').drewN n).alloc o'') := fun o o' o'' n => let h := bel3 w o o' o''; ⟨h.os, h.tape, h.output, h.size, h.block⟩
  have BEL := Lib.hid bel
  clear C1 C2 C3 E bel
  go_enter Tryd.func28, Tryd.ntmps28
  go_wp2
  have k0 := al_new w (.cells #[tv p, .int .i64 i] 31)
  have k1 := al_new (w.alloc (.cells #[tv p, .int .i64 i] 31)) (.cells #[tv q, .int .i64 j] 31)
  have c0 : ((w.alloc (.cells #[tv p, .int .i64 i] 31)).alloc (.cells #[tv q, .int .i64 j] 31)).cell? ⟨w.heap.size, 0, none⟩ = some (tv p) := by rw [World.cell?_of_block (w := w.alloc (.cells #[tv p, .int .i64 i] 31)) (Below.heap_alloc _ _ _ (by simp)), Lib.cell_of_heap k0]; rfl
  have c1 : ((w.alloc (.cells #[tv p, .int .i64 i] 31)).alloc (.cells #[tv q, .int .i64 j] 31)).cell? ⟨w.heap.size, 1, none⟩ = some (iv i) := by rw [World.cell?_of_block (w := w.alloc (.cells #[tv p, .int .i64 i] 31)) (Below.heap_alloc _ _ _ (by simp)), Lib.cell_of_heap k0]; rfl
  have sz : (w.alloc (.cells #[tv p, .int .i64 i] 31)).heap.size = w.heap.size + 1 := by simp
  rw [sz] at k1
  have c2 : ((w.alloc (.cells #[tv p, .int .i64 i] 31)).alloc (.cells #[tv q, .int .i64 j] 31)).cell? ⟨w.heap.size + 1, 0, none⟩ = some (tv q) := by rw [Lib.cell_of_heap k1]; rfl
  have c3 : ((w.alloc (.cells #[tv p, .int .i64 i] 31)).alloc (.cells #[tv q, .int .i64 j] 31)).cell? ⟨w.heap.size + 1, 1, none⟩ = some (iv j) := by rw [Lib.cell_of_heap k1]; rfl
  refine wp_phaseT [false, false, false, false, false, false, false, false, false, false] [[]] [Value.pointer (some ⟨w.heap.size, 0, none⟩), tv p, Value.pointer (some ⟨w.heap.size + 1, 0, none⟩), tv q, iv a, Value.pointer (some ⟨w.heap.size, 1, none⟩), iv i, Value.pointer (some ⟨w.heap.size + 1, 1, none⟩), iv j, iv b] [_] 0 10 (by decide) (by kernel_rfl) (by kernel_rfl) (by kernel_rfl) (by kernel_rfl) rfl (by kernel_rfl) (fun _ => by kernel_rfl) (fun _ => by kernel_rfl) rfl rfl ⟨?_, ?_, ?_, ?_, ?_, ?_, ?_, ?_, ?_, ?_, trivial⟩ rfl (by kernel_rfl) ?_
  · intro kk aa hk E
    have h2 : aa.eval (.tmp 2) = Value.pointer (some ⟨w.heap.size, 0, none⟩) := (E 2 (by kernel_rfl)).trans (by kernel_rfl)
    exact obl_pure (by kernel_rfl) rfl hk fun w => op_fa31 rfl (.inl rfl) rfl h2
  · intro kk aa hk E
    have h5 : aa.eval (.tmp 5) = Value.pointer (some ⟨w.heap.size, 0, none⟩) := (E 5 (by kernel_rfl)).trans (by kernel_rfl)
    refine obl_read (ks := [0]) (by kernel_rfl) (by kernel_rfl) rfl hk ⟨?_, trivial⟩
    · intro w' hw; cases hw; exact op_load1 rfl (by decide) rfl h5 c0
  · intro kk aa hk E
    have h3 : aa.eval (.tmp 3) = Value.pointer (some ⟨w.heap.size + 1, 0, none⟩) := (E 3 (by kernel_rfl)).trans (by kernel_rfl)
    exact obl_pure (by kernel_rfl) rfl hk fun w => op_fa31 rfl (.inl rfl) rfl h3
  · intro kk aa hk E
    have h7 : aa.eval (.tmp 7) = Value.pointer (some ⟨w.heap.size + 1, 0, none⟩) := (E 7 (by kernel_rfl)).trans (by kernel_rfl)
    refine obl_read (ks := [0]) (by kernel_rfl) (by kernel_rfl) rfl hk ⟨?_, trivial⟩
    · intro w' hw; cases hw; exact op_load1 rfl (by decide) rfl h7 c2
  · intro kk aa hk E
    have h6 : aa.eval (.tmp 6) = tv p := (E 6 (by kernel_rfl)).trans (by kernel_rfl)
    have h8 : aa.eval (.tmp 8) = tv q := (E 8 (by kernel_rfl)).trans (by kernel_rfl)
    refine obl_call (ks := [0]) (by kernel_rfl) (by kernel_rfl) rfl hk ⟨?_, trivial⟩
    · intro w' hw; cases hw; exact op_call46 rfl h6 h8 (H1.out _)
  · intro kk aa hk E
    have h2 : aa.eval (.tmp 2) = Value.pointer (some ⟨w.heap.size, 0, none⟩) := (E 2 (by kernel_rfl)).trans (by kernel_rfl)
    exact obl_pure (by kernel_rfl) rfl hk fun w => op_fa31 rfl (.inr rfl) rfl h2
  · intro kk aa hk E
    have h10 : aa.eval (.tmp 10) = Value.pointer (some ⟨w.heap.size, 1, none⟩) := (E 10 (by kernel_rfl)).trans (by kernel_rfl)
    refine obl_read (ks := [0]) (by kernel_rfl) (by kernel_rfl) rfl hk ⟨?_, trivial⟩
    · intro w' hw; cases hw; exact op_load1 rfl (by decide) rfl h10 c1
  · intro kk aa hk E
    have h3 : aa.eval (.tmp 3) = Value.pointer (some ⟨w.heap.size + 1, 0, none⟩) := (E 3 (by kernel_rfl)).trans (by kernel_rfl)
    exact obl_pure (by kernel_rfl) rfl hk fun w => op_fa31 rfl (.inr rfl) rfl h3
  · intro kk aa hk E
    have h12 : aa.eval (.tmp 12) = Value.pointer (some ⟨w.heap.size + 1, 1, none⟩) := (E 12 (by kernel_rfl)).trans (by kernel_rfl)
    refine obl_read (ks := [0]) (by kernel_rfl) (by kernel_rfl) rfl hk ⟨?_, trivial⟩
    · intro w' hw; cases hw; exact op_load1 rfl (by decide) rfl h12 c3
  · intro kk aa hk E
    have h11 : aa.eval (.tmp 11) = iv i := (E 11 (by kernel_rfl)).trans (by kernel_rfl)
    have h13 : aa.eval (.tmp 13) = iv j := (E 13 (by kernel_rfl)).trans (by kernel_rfl)
    refine obl_call (ks := [0]) (by kernel_rfl) (by kernel_rfl) rfl hk ⟨?_, trivial⟩
    · intro w' hw; cases hw; exact op_call47 rfl h11 h13 (H2.out _)
  intro af haf
  simp only [List.take_succ_cons, List.take_zero, finA, Act.put, List.setIfInBounds_toArray, List.set_cons_succ, List.set_cons_zero] at haf
  subst haf
  simp only [List.drop_succ_cons, List.drop_zero]
  clear k0 k1 c0 c1 c2 c3 sz
  go_wp2_with (go_at_call 45; refine (H3.out _ _ (NN.out _ _).1 (NN.out _ _).2).mono ?_; rintro e w1 ⟨rfl, rfl⟩)
  go_ret
  exact ⟨rfl, BEL.out _ _ _ 1⟩
end Go.Proofs.YtdfllhmkgphcmaaDoor
namespace Go.Proofs.YtdfllhmkgphcmaaDoor
open Go.RowKit

def isL (c : Int) : Bool := decide (97 ≤ c) && decide (c ≤ 122)
def isD (c : Int) : Bool := decide (48 ≤ c) && decide (c ≤ 57)
def bL (c : UInt8) : Bool := isL (c.toNat : Int)
def bD (c : UInt8) : Bool := isD (c.toNat : Int)
/-- A word: a letter, then letters and digits. -/
def wd (s : T) : Bool := (match s with | [] => false | c :: _ => bL c) && s.all (fun c => bL c || bD c)

set_option maxRecDepth 100000 in
theorem letter_any (c : Int) (w : World) : Calls Tryd.prog 62 #[.int .i32 c] w fun e w' => e = .returned (.bool (isL c)) ∧ w' = w := by
  unfold isL
  cases h : decide (97 ≤ c) with
  | false => go_enter Tryd.func62, Tryd.ntmps62; go_wp2; go_ret; exact ⟨rfl, rfl⟩
  | true => go_enter Tryd.func62, Tryd.ntmps62; go_wp2; go_ret; exact ⟨rfl, rfl⟩
set_option maxRecDepth 100000 in
theorem digit_any (c : Int) (w : World) : Calls Tryd.prog 63 #[.int .i32 c] w fun e w' => e = .returned (.bool (isD c)) ∧ w' = w := by
  unfold isD
  cases h : decide (48 ≤ c) with
  | false => go_enter Tryd.func63, Tryd.ntmps63; go_wp2; go_ret; exact ⟨rfl, rfl⟩
  | true => go_enter Tryd.func63, Tryd.ntmps63; go_wp2; go_ret; exact ⟨rfl, rfl⟩
set_option maxRecDepth 100000 in
theorem rletter_any (c : Int) (w : World) : Calls Tryd.prog 66 #[.int .u8 c] w fun e w' => e = .returned (.bool (isL c)) ∧ w' = w := by
  unfold isL
  cases h : decide (97 ≤ c) with
  | false => go_enter Tryd.func66, Tryd.ntmps66; go_wp2; go_ret; exact ⟨rfl, rfl⟩
  | true => go_enter Tryd.func66, Tryd.ntmps66; go_wp2; go_ret; exact ⟨rfl, rfl⟩
set_option maxRecDepth 100000 in
theorem rdigit_any (c : Int) (w : World) : Calls Tryd.prog 67 #[.int .u8 c] w fun e w' => e = .returned (.bool (isD c)) ∧ w' = w := by
  unfold isD
  cases h : decide (48 ≤ c) with
  | false => go_enter Tryd.func67, Tryd.ntmps67; go_wp2; go_ret; exact ⟨rfl, rfl⟩
  | true => go_enter Tryd.func67, Tryd.ntmps67; go_wp2; go_ret; exact ⟨rfl, rfl⟩

theorem wd_bad {s : T} {k : Nat} (hk : k < s.length) (h : (bL s[k] || bD s[k]) = false) : wd s = false := by
  unfold wd
  rw [Bool.and_eq_false_iff]
  right
  rw [List.all_eq_false]
  exact ⟨s[k], List.getElem_mem hk, by simp [h]⟩
theorem wd_first {s : T} (hk : 0 < s.length) (h : bL s[0] = false) : wd s = false := by
  cases s with
  | nil => simp at hk
  | cons c r => simp at h; simp [wd, h]
theorem wd_good {s : T} (hk : 0 < s.length) (h : bL s[0] = true) (ha : ∀ c ∈ s, (bL c || bD c) = true) : wd s = true := by
  cases s with
  | nil => simp at hk
  | cons c r =>
    unfold wd
    simp at h
    rw [Bool.and_eq_true, List.all_eq_true]
    exact ⟨h, ha⟩
theorem high_isL {n : Nat} (h : 128 ≤ n) : isL (n : Int) = false ∧ isD (n : Int) = false := by
  unfold isL isD
  constructor
  · have : decide ((n : Int) ≤ 122) = false := by simp; omega
    rw [this, Bool.and_false]
  · have : decide ((n : Int) ≤ 57) = false := by simp; omega
    rw [this, Bool.and_false]
theorem all_snoc {s : T} {k : Nat} (hk : k < s.length) (h : ∀ c ∈ s.take k, (bL c || bD c) = true) (h' : (bL s[k] || bD s[k]) = true) : ∀ c ∈ s.take (k + 1), (bL c || bD c) = true := by
  intro c hc
  rw [List.take_succ_eq_append_getElem hk, List.mem_append, List.mem_singleton] at hc
  rcases hc with hc | rfl
  · exact h c hc
  · exact h'

set_option maxRecDepth 100000 in
set_option maxHeartbeats 2000000 in
theorem word_any (s : T) (w : World) (hs : s.length ≤ 9223372036854775807) : Calls Tryd.prog 44 #[tv s] w fun e w' => e = .returned (.bool (wd s && decide (s.length ≤ 24))) ∧ Below w.heap.size w w' := by
  have hsz : (ByteArray.mk s.toArray).size = s.length := by simp [ByteArray.size]
  by_cases h0 : s = []
  · subst h0
    have e0 : (wd [] && decide (([] : T).length ≤ 24)) = false := rfl
    rw [e0]
    go_enter Tryd.func44, Tryd.ntmps44
    go_wp2
    go_ret
    exact ⟨rfl, Below.refl _ _⟩
  by_cases h24 : 24 < s.length
  · have e0 : (wd s && decide (s.length ≤ 24)) = false := by
      have : decide (s.length ≤ 24) = false := by simp; omega
      rw [this, Bool.and_false]
    rw [e0]
    have t1 : (s == []) = false := by simpa using h0
    have t2 : (24 : Int) < (s.length : Int) := by omega
    clear e0 h0
    go_enter Tryd.func44, Tryd.ntmps44
    go_wp2
    all_goals (go_ret; exact ⟨rfl, Below.refl _ _⟩)
  · have e0 : (wd s && decide (s.length ≤ 24)) = wd s := by
      have : decide (s.length ≤ 24) = true := by simp; omega
      rw [this, Bool.and_true]
    rw [e0]
    have hpos : 0 < s.length := List.length_pos_iff.2 h0
    have t1 : (s == []) = false := by simpa using h0
    have t2 : decide ((24 : Int) < (s.length : Int)) = false := by simp; omega
    have HSZ := Lib.hid hsz
    clear e0 h0 hsz
    go_enter Tryd.func44, Tryd.ntmps44
    go_wp2
    go_loopw [3, 4] (fun _ _ wr => ∃ k : Nat, k ≤ s.length ∧ wr = w.iter ⟨s.toArray⟩ k ∧ Hid (∀ c ∈ s.take k, (bL c || bD c) = true) ∧ Hid (0 < k → bL s[0] = true)) (fun _ _ wr => s.length - wr.iterPos w.heap.size)
    case atStart => exact ⟨0, Nat.zero_le _, rfl, by simp [Hid], Lib.hid (fun h => by omega)⟩
    case round =>
      obtain ⟨k, hk, rfl, HA, HF⟩ := hrel
      have bel : ∀ j, Below w.heap.size w (w.iter ⟨s.toArray⟩ j) := fun j => (Below.refl _ _).alloc (Nat.le_refl _) _
      have BEL := Lib.hid bel
      clear bel
      by_cases hlt : k < s.length
      · have hi : k < (ByteArray.mk s.toArray).size := by rw [HSZ.out]; exact hlt
        have hd : (ByteArray.mk s.toArray)[k]'hi = s[k] := rfl
        by_cases ha : s[k].toNat < 128
        · have hnx := fun ty => run_next_ascii (P := Tryd.prog) w ⟨s.toArray⟩ k ty hi (by rw [hd]; exact ha)
          rw [hd] at hnx
          have LE := fun W => letter_any (s[k].toNat : Int) W
          have DI := fun W => digit_any (s[k].toNat : Int) W
          have HLE := Lib.hid LE
          have HDI := Lib.hid DI
          have N1 := fun h => Lib.hid (all_snoc hlt HA.out h)
          have W1 : Hid ((bL s[k] || bD s[k]) = false → wd s = false) := Lib.hid (wd_bad hlt)
          have W2 : Hid (k = 0 → bL s[k] = false → wd s = false) := Lib.hid (fun e h => by subst e; exact wd_first hlt h)
          have F1 : Hid (bL s[k] = true → 0 < k + 1 → bL s[0] = true) := Lib.hid (fun h _ => by
            by_cases e : k = 0
            · subst e; exact h
            · exact HF.out (by omega))
          have F2 : Hid (k ≠ 0 → 0 < k + 1 → bL s[0] = true) := Lib.hid (fun e _ => HF.out (by omega))
          unfold bL bD at N1 W1
          unfold bL at W2 F1
          clear LE DI HA HF hd ha
          generalize (s[k].toNat : Int) = c at *
          cases hl : isL c with
          | true =>
            rw [hl] at HLE
            have HN := N1 (by rw [hl]; rfl)
            have HF' := Lib.hid (F1.out hl)
            clear N1 W1 W2 F1 F2 hl
            go_wp2_with (go_at_call 62; refine (HLE.out _).mono ?_; rintro e w1 ⟨rfl, rfl⟩)
            go_roundw
            case rel => exact ⟨k + 1, by omega, rfl, HN, HF'⟩
            case measure => simp; omega
          | false =>
            rw [hl] at HLE
            by_cases hk0 : k = 0
            · have HW := Lib.hid (W2.out hk0 hl)
              subst hk0
              clear N1 W1 W2 F1 F2 hl
              go_wp2_with (first | (go_at_call 62; refine (HLE.out _).mono ?_; rintro e w1 ⟨rfl, rfl⟩) | (go_at_call 63; refine (HDI.out _).mono ?_; rintro e w1 ⟨rfl, rfl⟩))
              go_ret
              exact ⟨by rw [HW.out]; rfl, BEL.out _⟩
            · have tk : ((k : Int) == 0) = false := by simp; omega
              cases hdg : isD c with
              | true =>
                rw [hdg] at HDI
                have HN := N1 (by rw [hl, hdg]; rfl)
                have HF' := Lib.hid (F2.out hk0)
                clear N1 W1 W2 F1 F2 hl hdg hk0
                go_wp2_with (first | (go_at_call 62; refine (HLE.out _).mono ?_; rintro e w1 ⟨rfl, rfl⟩) | (go_at_call 63; refine (HDI.out _).mono ?_; rintro e w1 ⟨rfl, rfl⟩))
                go_roundw
                case rel => exact ⟨k + 1, by omega, rfl, HN, HF'⟩
                case measure => simp; omega
              | false =>
                rw [hdg] at HDI
                have HW := Lib.hid (W1.out (by rw [hl, hdg]; rfl))
                clear N1 W1 W2 F1 F2 hl hdg hk0
                go_wp2_with (first | (go_at_call 62; refine (HLE.out _).mono ?_; rintro e w1 ⟨rfl, rfl⟩) | (go_at_call 63; refine (HDI.out _).mono ?_; rintro e w1 ⟨rfl, rfl⟩))
                go_ret
                exact ⟨by rw [HW.out]; rfl, BEL.out _⟩
        · have hnx := fun ty => run_next_any (P := Tryd.prog) w ⟨s.toArray⟩ k ty hi
          obtain ⟨hh1, -⟩ := decode_high ⟨s.toArray⟩ k hi (by rw [hd]; omega)
          obtain ⟨q1, q2⟩ := high_isL hh1
          have LE := fun W => letter_any ((Utf8.decode ⟨s.toArray⟩ k).1 : Int) W
          have DI := fun W => digit_any ((Utf8.decode ⟨s.toArray⟩ k).1 : Int) W
          rw [q1] at LE
          rw [q2] at DI
          have HLE := Lib.hid LE
          have HDI := Lib.hid DI
          have hw : wd s = false := wd_bad hlt (by
            unfold bL bD
            obtain ⟨q3, q4⟩ := high_isL (n := s[k].toNat) (by omega)
            rw [q3, q4]; rfl)
          have HW := Lib.hid hw
          generalize (Utf8.decode ⟨s.toArray⟩ k).1 = c at *
          generalize (Utf8.decode ⟨s.toArray⟩ k).2 = m at *
          clear LE DI q1 q2 hw HA HF hd ha
          by_cases hk0 : k = 0
          · subst hk0
            go_wp2_with (first | (go_at_call 62; refine (HLE.out _).mono ?_; rintro e w1 ⟨rfl, rfl⟩) | (go_at_call 63; refine (HDI.out _).mono ?_; rintro e w1 ⟨rfl, rfl⟩))
            go_ret
            exact ⟨by rw [HW.out]; rfl, BEL.out _⟩
          · have tk : ((k : Int) == 0) = false := by simp; omega
            go_wp2_with (first | (go_at_call 62; refine (HLE.out _).mono ?_; rintro e w1 ⟨rfl, rfl⟩) | (go_at_call 63; refine (HDI.out _).mono ?_; rintro e w1 ⟨rfl, rfl⟩))
            go_ret
            exact ⟨by rw [HW.out]; rfl, BEL.out _⟩
      · have hnx := fun ty => run_next_end (P := Tryd.prog) w ⟨s.toArray⟩ k ty (by rw [HSZ.out]; exact hlt)
        have hw : wd s = true := wd_good hpos (HF.out (by omega)) (fun c hc => HA.out c (by rw [List.take_of_length_le (by omega)]; exact hc))
        have HW := Lib.hid hw
        clear hw
        go_wp2
        go_ret
        exact ⟨by rw [HW.out]; rfl, BEL.out _⟩
end Go.Proofs.YtdfllhmkgphcmaaDoor
namespace Go.Proofs.YtdfllhmkgphcmaaDoor
open Go.RowKit

theorem ext_take (l : T) (n : Nat) : (⟨l.toArray⟩ : ByteArray).extract 0 n = ⟨(l.take n).toArray⟩ := by
  apply ByteArray.ext
  simp [ByteArray.data_extract]
theorem ext_drop (l : T) (a : Nat) : (⟨l.toArray⟩ : ByteArray).extract a l.length = ⟨(l.drop a).toArray⟩ := by
  apply ByteArray.ext
  simp [ByteArray.data_extract, List.take_of_length_le]
/-- Where the first slash stands, or the length. -/
def cutN (s : T) : Nat := (s.takeWhile (fun c => c != 47)).length
theorem cutN_le (s : T) : cutN s ≤ s.length := by
  unfold cutN
  exact (List.takeWhile_sublist _).length_le
theorem cutN_eq : ∀ (s : T) (k : Nat), k ≤ s.length → (∀ c ∈ s.take k, (c != 47) = true) → (∀ h : k < s.length, (s[k] != 47) = false) → cutN s = k
  | [], k, hk, _, _ => by simp at hk; subst hk; rfl
  | c :: s, 0, _, _, h2 => by
    have := h2 (by simp)
    simp at this
    subst this
    rfl
  | c :: s, k + 1, hk, h1, h2 => by
    have hc := h1 c (by simp)
    have ih := cutN_eq s k (by simpa using hk) (fun x hx => h1 x (by simp [hx])) (fun h => h2 (by simpa using h))
    unfold cutN at ih ⊢
    simp only [List.takeWhile_cons, hc, if_true, List.length_cons, ih]
def lenOf : Value → Nat | .string s => s.size | _ => 0
def wd20 (s : T) : Bool := wd s && decide (s.length ≤ 20)
/-- Words with slashes between them. -/
def labR (s : T) : Bool := if _h : cutN s < s.length then wd20 (s.take (cutN s)) && labR (s.drop (cutN s + 1)) else wd20 s
termination_by s.length
decreasing_by simp; omega
theorem labR_cut {s : T} (h : cutN s < s.length) : labR s = (wd20 (s.take (cutN s)) && labR (s.drop (cutN s + 1))) := by rw [labR, dif_pos h]
theorem labR_end {s : T} (h : ¬ cutN s < s.length) : labR s = wd20 s := by rw [labR, dif_neg h]
def lab (s : T) : Bool := decide (s.length ≤ 90) && labR s

set_option maxRecDepth 100000 in
set_option maxHeartbeats 2000000 in
theorem rword_any (s : T) (m : Int) (w : World) (hs : s.length ≤ 9223372036854775807) : Calls Tryd.prog 51 #[tv s, .int .i64 m] w fun e w' => e = .returned (.bool (wd s && decide ((s.length : Int) ≤ m))) ∧ w' = w := by
  by_cases h0 : s = []
  · subst h0
    have e0 : (wd [] && decide ((([] : T).length : Int) ≤ m)) = false := rfl
    rw [e0]
    go_enter Tryd.func51, Tryd.ntmps51
    go_wp2
    go_ret
    exact ⟨rfl, rfl⟩
  have hpos : 0 < s.length := List.length_pos_iff.2 h0
  by_cases h24 : m < (s.length : Int)
  · have e0 : (wd s && decide ((s.length : Int) ≤ m)) = false := by
      have : decide ((s.length : Int) ≤ m) = false := by simp; omega
      rw [this, Bool.and_false]
    rw [e0]
    have t2 : decide ((s.length : Int) < 1) = false := by simp; omega
    clear e0 h0
    go_enter Tryd.func51, Tryd.ntmps51
    go_wp2
    go_ret
    exact ⟨rfl, rfl⟩
  · have e0 : (wd s && decide ((s.length : Int) ≤ m)) = wd s := by
      have : decide ((s.length : Int) ≤ m) = true := by simp; omega
      rw [this, Bool.and_true]
    rw [e0]
    have t2 : decide ((s.length : Int) < 1) = false := by simp; omega
    have t3 : decide (m < (s.length : Int)) = false := by simp; omega
    obtain ⟨d, hd⟩ : ∃ d, ({ data := s.toArray } : ByteArray)[0]'hpos = d := ⟨_, rfl⟩
    have HD : Hid (s[0] = d) := Lib.hid hd
    have LE := fun W => rletter_any (d.toNat : Int) W
    cases hl : isL (d.toNat : Int) with
    | false =>
      rw [hl] at LE
      have hw : wd s = false := wd_first hpos (by unfold bL; rw [HD.out]; exact hl)
      rw [hw]
      have HLE := Lib.hid LE
      clear e0 h0 hw hl LE
      go_enter Tryd.func51, Tryd.ntmps51
      go_wp2_with (go_at_call 66; refine (HLE.out _).mono ?_; rintro e w1 ⟨rfl, rfl⟩)
      go_ret
      exact ⟨rfl, rfl⟩
    | true =>
      rw [hl] at LE
      have HLE := Lib.hid LE
      have HF : Hid (bL s[0] = true) := Lib.hid (by unfold bL; rw [HD.out]; exact hl)
      clear e0 h0 hl LE
      go_enter Tryd.func51, Tryd.ntmps51
      go_wp2_with (go_at_call 66; refine (HLE.out _).mono ?_; rintro e w1 ⟨rfl, rfl⟩)
      clear hd HD HLE
      go_loop [5] (fun i => ∃ k : Nat, k ≤ s.length ∧ i = .int .i64 k ∧ Hid (∀ c ∈ s.take k, (bL c || bD c) = true)) (fun i => s.length - (intOf i).toNat)
      case atStart => exact ⟨0, Nat.zero_le _, rfl, by simp [Hid]⟩
      case round =>
        obtain ⟨k, hk, rfl, HA⟩ := hrel
        by_cases hlt : k < s.length
        · obtain ⟨d, hd⟩ : ∃ d, ({ data := s.toArray } : ByteArray)[k]'hlt = d := ⟨_, rfl⟩
          have HD : Hid (s[k] = d) := Lib.hid hd
          have LE := fun W => rletter_any (d.toNat : Int) W
          have DI := fun W => rdigit_any (d.toNat : Int) W
          have N1 := fun h => Lib.hid (all_snoc hlt HA.out h)
          have W1 : Hid ((bL s[k] || bD s[k]) = false → wd s = false) := Lib.hid (wd_bad hlt)
          rw [HD.out] at N1 W1
          unfold bL bD at N1 W1
          have HDI := Lib.hid DI
          have t6 : (k : Int) < (s.length : Int) := by omega
          cases hl : isL (d.toNat : Int) with
          | true =>
            rw [hl] at LE
            have HLE := Lib.hid LE
            have HN := N1 (by rw [hl]; rfl)
            clear N1 W1 hl LE DI HA
            go_wp2_with (go_at_call 66; refine (HLE.out _).mono ?_; rintro e w1 ⟨rfl, rfl⟩)
            go_round
            case rel => exact ⟨k + 1, by omega, by go_num, HN⟩
            case measure => simp [intOf]; omega
          | false =>
            rw [hl] at LE
            have HLE := Lib.hid LE
            cases hdg : isD (d.toNat : Int) with
            | true =>
              rw [hdg] at HDI
              have HN := N1 (by rw [hl, hdg]; rfl)
              clear N1 W1 hl hdg LE DI HA
              go_wp2_with (first | (go_at_call 66; refine (HLE.out _).mono ?_; rintro e w1 ⟨rfl, rfl⟩) | (go_at_call 67; refine (HDI.out _).mono ?_; rintro e w1 ⟨rfl, rfl⟩))
              go_round
              case rel => exact ⟨k + 1, by omega, by go_num, HN⟩
              case measure => simp [intOf]; omega
            | false =>
              rw [hdg] at HDI
              have HW := Lib.hid (W1.out (by rw [hl, hdg]; rfl))
              clear N1 W1 hl hdg LE DI HA
              go_wp2_with (first | (go_at_call 66; refine (HLE.out _).mono ?_; rintro e w1 ⟨rfl, rfl⟩) | (go_at_call 67; refine (HDI.out _).mono ?_; rintro e w1 ⟨rfl, rfl⟩))
              go_ret
              exact ⟨by rw [HW.out]; rfl, rfl⟩
        · have HW : Hid (wd s = true) := Lib.hid (wd_good hpos HF.out (fun c hc => HA.out c (by rw [List.take_of_length_le (by omega)]; exact hc)))
          have t6 : ¬ (k : Int) < (s.length : Int) := by omega
          go_wp2
          go_ret
          exact ⟨by rw [HW.out]; rfl, rfl⟩

set_option maxRecDepth 100000 in
set_option maxHeartbeats 2000000 in
theorem slash_any (s : T) (w : World) (hs : s.length ≤ 9223372036854775807) : Calls Tryd.prog 50 #[tv s] w fun e w' => e = .returned (.int .i64 (cutN s)) ∧ w' = w := by
  go_enter Tryd.func50, Tryd.ntmps50
  go_wp2
  go_loop [3] (fun i => ∃ k : Nat, k ≤ s.length ∧ i = .int .i64 k ∧ Hid (∀ c ∈ s.take k, (c != 47) = true)) (fun i => s.length - (intOf i).toNat)
  case atStart => exact ⟨0, Nat.zero_le _, rfl, by simp [Hid]⟩
  case round =>
    obtain ⟨k, hk, rfl, HA⟩ := hrel
    by_cases hlt : k < s.length
    · obtain ⟨d, hd⟩ : ∃ d, ({ data := s.toArray } : ByteArray)[k]'hlt = d := ⟨_, rfl⟩
      have HD : Hid (s[k] = d) := Lib.hid hd
      have t6 : (k : Int) < (s.length : Int) := by omega
      by_cases h47 : d = 47
      · have HC : Hid (cutN s = k) := Lib.hid (cutN_eq s k hk HA.out (fun h => by rw [HD.out, h47]; rfl))
        have t7 : ((d.toNat : Int) != 47) = false := by subst h47; rfl
        clear HA h47
        go_wp2
        go_ret
        exact ⟨by rw [HC.out]; rfl, rfl⟩
      · have t7 : ((d.toNat : Int) != 47) = true := by
          simp
          intro e
          have e' : d.toNat = 47 := by omega
          exact h47 (UInt8.toNat_inj.1 e')
        have HN : Hid (∀ c ∈ s.take (k + 1), (c != 47) = true) := Lib.hid (by
          intro c hc
          rw [List.take_succ_eq_append_getElem hlt, List.mem_append, List.mem_singleton] at hc
          rcases hc with hc | rfl
          · exact HA.out c hc
          · rw [HD.out]; simpa using h47)
        clear HA h47
        go_wp2
        go_round
        case rel => exact ⟨k + 1, by omega, by go_num, HN⟩
        case measure => simp [intOf]; omega
    · have HC : Hid (cutN s = k) := Lib.hid (cutN_eq s k hk HA.out (fun h => absurd h hlt))
      have t6 : decide ((k : Int) < (s.length : Int)) = false := by simp; omega
      go_wp2
      go_ret
      exact ⟨by rw [HC.out]; rfl, rfl⟩

set_option maxRecDepth 100000 in
set_option maxHeartbeats 2000000 in
theorem rLabel_any (s : T) (w : World) (hs : s.length ≤ 9223372036854775807) : Calls Tryd.prog 31 #[tv s] w fun e w' => e = .returned (.bool (lab s)) ∧ w' = w := by
  by_cases h90 : 90 < s.length
  · have e0 : lab s = false := by
      have : decide (s.length ≤ 90) = false := by simp; omega
      simp [lab, this]
    rw [e0]
    go_enter Tryd.func31, Tryd.ntmps31
    go_wp2
    go_ret
    exact ⟨rfl, rfl⟩
  · have e0 : lab s = labR s := by
      have : decide (s.length ≤ 90) = true := by simp; omega
      simp [lab, this]
    rw [e0]
    have hl0 : s.length ≤ 90 := by omega
    go_enter Tryd.func31, Tryd.ntmps31
    go_wp2_with (go_at_call 50; refine (slash_any s _ hs).mono ?_; rintro e w1 ⟨rfl, rfl⟩)
    go_loop [0, 3] (fun a b => ∃ (q : T) (n : Nat), a = tv q ∧ b = .int .i64 n ∧ Hid (n = cutN q) ∧ q.length ≤ 90 ∧ Hid (labR s = labR q)) (fun a _ => lenOf a)
    case atStart => exact ⟨s, _, rfl, rfl, Lib.hid rfl, hl0, Lib.hid rfl⟩
    case round =>
      obtain ⟨q, n, rfl, rfl, EN, hq, EL⟩ := hrel
      have hnq : n ≤ q.length := by rw [EN.out]; exact cutN_le q
      have SL := fun (u : T) (hu : u.length ≤ 90) W => slash_any u W (by omega)
      have WD := fun (u : T) (hu : u.length ≤ 90) W => rword_any u 20 W (by omega)
      have HSL := Lib.hid SL
      have HWD := Lib.hid WD
      clear SL WD
      by_cases hlt : n < q.length
      · have t1 : (n : Int) < (q.length : Int) := by omega
        have e1 := ext_take q n
        have e2 := ext_drop q (n + 1)
        have l1 : (q.take n).length ≤ 90 := by simp; omega
        have l2 : (q.drop (n + 1)).length ≤ 90 := by simp; omega
        have l3 : Hid ((q.drop (n + 1)).length < q.length) := Lib.hid (by simp; omega)
        have LQ : Hid (labR s = (wd20 (q.take n) && labR (q.drop (n + 1)))) := Lib.hid (by rw [EL.out, labR_cut (by rw [← EN.out]; exact hlt), ← EN.out])
        have WQ : Hid ((wd (q.take n) && decide (((q.take n).length : Int) ≤ 20)) = wd20 (q.take n)) := Lib.hid (by unfold wd20; congr 1; simp only [decide_eq_decide]; omega)
        obtain ⟨u, hu⟩ : ∃ u, q.take n = u := ⟨_, rfl⟩
        obtain ⟨v, hv⟩ : ∃ v, q.drop (n + 1) = v := ⟨_, rfl⟩
        rw [hu] at e1 l1 LQ WQ
        rw [hv] at e2 l2 l3 LQ
        have W2 := fun W => HWD.out u l1 W
        rw [WQ.out] at W2
        have S2 := fun W => HSL.out v l2 W
        have HS2 := Lib.hid S2
        clear hu hv S2 HSL HWD EN
        cases hw : wd20 u with
        | false =>
          rw [hw] at W2
          have HW2 := Lib.hid W2
          have HL : Hid (labR s = false) := Lib.hid (by rw [LQ.out, hw]; rfl)
          clear W2 hw
          go_wp2_with (go_at_call 51; refine (HW2.out _).mono ?_; rintro e w1 ⟨rfl, rfl⟩)
          go_ret
          exact ⟨by rw [HL.out]; rfl, rfl⟩
        | true =>
          rw [hw] at W2
          have HW2 := Lib.hid W2
          have HL : Hid (labR s = labR v) := Lib.hid (by rw [LQ.out, hw]; rfl)
          clear W2 hw
          go_wp2_with (first | (go_at_call 51; refine (HW2.out _).mono ?_; rintro e w1 ⟨rfl, rfl⟩) | (go_at_call 50; refine (HS2.out _).mono ?_; rintro e w1 ⟨rfl, rfl⟩))
          go_round
          case rel => exact ⟨v, _, rfl, rfl, Lib.hid rfl, l2, HL⟩
          case measure => have := l3.out; simp [lenOf, ByteArray.size]; omega
      · have t1 : ¬ (n : Int) < (q.length : Int) := by omega
        have WQ : Hid ((wd q && decide ((q.length : Int) ≤ 20)) = wd20 q) := Lib.hid (by unfold wd20; congr 1; simp only [decide_eq_decide]; omega)
        have HL : Hid (labR s = wd20 q) := Lib.hid (by rw [EL.out, labR_end (by rw [← EN.out]; exact hlt)])
        have W2 := fun W => HWD.out q hq W
        rw [WQ.out] at W2
        have HW2 := Lib.hid W2
        clear W2 EN
        generalize wd20 q = r at *
        go_wp2_with (go_at_call 51; refine (HW2.out _).mono ?_; rintro e w1 ⟨rfl, rfl⟩)
        go_ret
        exact ⟨by rw [HL.out]; rfl, rfl⟩
end Go.Proofs.YtdfllhmkgphcmaaDoor
namespace Go.Proofs.YtdfllhmkgphcmaaDoor
open Go.RowKit

theorem r99 (s : ByteArray) (c : Int) (w : World) : (callFunc 99 #[.string s, .int .u8 c]).run Tryd.prog w = .ok (.value (.int .i64 (Lib.indexByte s.data.toList c.toNat.toUInt8))) w := by
  rw [run_callFunc_extern Tryd.func99 (by kernel_rfl) (by kernel_rfl) (by kernel_rfl) (e := Extern.BytealgIndexByte.indexByte) (by kernel_rfl), Lib.run_indexByteString]
  rfl
set_option maxRecDepth 100000 in
theorem indexByte_any (s : ByteArray) (c : Int) (w : World) : Calls Tryd.prog 94 #[.string s, .int .u8 c] w fun e w' => e = .returned (.int .i64 (Lib.indexByte s.data.toList c.toNat.toUInt8)) ∧ w' = w := by
  have h := r99 s c w
  go_enter Tryd.func94, Tryd.ntmps94
  go_wp2
  go_ret
  exact ⟨rfl, rfl⟩
set_option maxRecDepth 100000 in
theorem index1_any (s : ByteArray) (c : UInt8) (w : World) : Calls Tryd.prog 89 #[.string s, .string ⟨#[c]⟩] w fun e w' => e = .returned (.int .i64 (Lib.indexByte s.data.toList c)) ∧ w' = w := by
  have h := indexByte_any s (c.toNat : Int) w
  have hc : ((c.toNat : Int).toNat.toUInt8) = c := by simp
  rw [hc] at h
  have HI := Lib.hid h
  clear h hc
  cases hs : ([c] == s.toList) with
  | true =>
    have e0 : Lib.indexByte s.data.toList c = 0 := by
      have h1 : [c] = s.toList := by simpa using hs
      rw [← ByteArray.toList_eq, ← h1]
      simp [Lib.indexByte]
    rw [e0]
    go_enter Tryd.func89, Tryd.ntmps89
    go_wp2
    go_ret
    exact ⟨rfl, rfl⟩
  | false =>
    go_enter Tryd.func89, Tryd.ntmps89
    go_wp2_with (go_at_call 94; refine HI.out.mono ?_; rintro e w1 ⟨rfl, rfl⟩)
    go_ret
    exact ⟨rfl, rfl⟩
set_option maxRecDepth 100000 in
theorem strIndex1_any (s : ByteArray) (c : UInt8) (w : World) : Calls Tryd.prog 60 #[.string s, .string ⟨#[c]⟩] w fun e w' => e = .returned (.int .i64 (Lib.indexByte s.data.toList c)) ∧ w' = w := by
  have HI := Lib.hid (index1_any s c w)
  go_enter Tryd.func60, Tryd.ntmps60
  go_wp2_with (go_at_call 89; refine HI.out.mono ?_; rintro e w1 ⟨rfl, rfl⟩)
  go_ret
  exact ⟨rfl, rfl⟩
set_option maxRecDepth 100000 in
theorem contains1_any (s : ByteArray) (c : UInt8) (w : World) : Calls Tryd.prog 41 #[.string s, .string ⟨#[c]⟩] w fun e w' => e = .returned (.bool (decide (0 ≤ Lib.indexByte s.data.toList c))) ∧ w' = w := by
  have HI := Lib.hid (strIndex1_any s c w)
  generalize Lib.indexByte s.data.toList c = k at *
  go_enter Tryd.func41, Tryd.ntmps41
  go_wp2_with (go_at_call 60; refine HI.out.mono ?_; rintro e w1 ⟨rfl, rfl⟩)
  go_ret
  exact ⟨rfl, rfl⟩
end Go.Proofs.YtdfllhmkgphcmaaDoor
namespace Go.Proofs.YtdfllhmkgphcmaaDoor
open Go.RowKit Go.Shelf
attribute [local go_sem] Oper.semAt_some

theorem index_cut : ∀ q : T, Lib.indexByte q 47 = if cutN q < q.length then (cutN q : Int) else -1
  | [] => by simp [Lib.indexByte, cutN]
  | c :: q => by
    have ih := index_cut q
    by_cases h : c = 47
    · subst h
      simp [Lib.indexByte, cutN]
    · have e1 : cutN (c :: q) = cutN q + 1 := by
        unfold cutN
        have : (c != 47) = true := by simpa using h
        simp [this]
      have e2 : (c == 47) = false := by simpa using h
      have e3 : (c :: q).length = q.length + 1 := rfl
      rw [e1, e3, Lib.indexByte, e2, ih]
      by_cases h2 : cutN q < q.length
      · have a1 : (if cutN q < q.length then (cutN q : Int) else -1) = cutN q := if_pos h2
        have a2 : (if cutN q + 1 < q.length + 1 then ((cutN q + 1 : Nat) : Int) else -1) = ((cutN q + 1 : Nat) : Int) := if_pos (by omega)
        have a3 : ((cutN q : Int) == -1) = false := by rw [beq_eq_false_iff_ne]; omega
        rw [a1, a2, a3]
        simp
      · have a1 : (if cutN q < q.length then (cutN q : Int) else -1) = -1 := if_neg h2
        have a2 : (if cutN q + 1 < q.length + 1 then ((cutN q + 1 : Nat) : Int) else -1) = -1 := if_neg (by omega)
        rw [a1, a2]
        rfl
/-- One of two outcomes. -/
def Fin2 (b : Bool) (J Js : World → Prop) (W : World) : Prop := if b = true then J W else Js W
theorem Fin2.yes {b : Bool} {J Js : World → Prop} {W : World} (h : Fin2 b J Js W) (hb : b = true) : J W := by unfold Fin2 at h; rwa [if_pos hb] at h
theorem Fin2.no {b : Bool} {J Js : World → Prop} {W : World} (h : Fin2 b J Js W) (hb : b = false) : Js W := by unfold Fin2 at h; rwa [if_neg (by simp [hb])] at h
theorem fin2_no {b : Bool} {J Js : World → Prop} {W : World} (h : Js W) (hb : b = false) : Fin2 b J Js W := by unfold Fin2; rwa [if_neg (by simp [hb])]
theorem fin2_yes {b : Bool} {J Js : World → Prop} {W : World} (h : J W) (hb : b = true) : Fin2 b J Js W := by unfold Fin2; rwa [if_pos hb]
/-- The length of the text in a box. -/
def lenAt (g : Nat) (W : World) : Nat :=
  match W.cell? ⟨g, 0, none⟩ with
  | some v => lenOf v
  | _ => 0
theorem lenAt_eq {g : Nat} {W : World} {q : T} (h : W.heap[g]? = some (.cells #[tv q] 9 (0, 0))) : lenAt g W = q.length := by
  have := Lib.cell_of_heap h 0
  simp [lenAt, this, lenOf, ByteArray.size]

set_option maxRecDepth 100000 in
set_option maxHeartbeats 4000000 in
theorem split_in (n : Nat) (hn : 1 ≤ n) (l g gp gz : Nat) (hgp : gp ≠ g) (hgz : gz ≠ g) (J Js : World → Prop)
    (hJ : ∀ A u, J A → J (A.setCell ⟨g, 0, none⟩ u))
    (hY : ∀ (x : T) W, J W → x.length ≤ 90 → YieldAt Fence.wide (n - 1) Tryd.prog l #[tv x] W fun e W' => e = .returned (.bool (wd20 x)) ∧ Fin2 (wd20 x) J Js W' ∧ W'.heap[g]? = W.heap[g]? ∧ W'.heap[gp]? = W.heap[gp]? ∧ W'.heap[gz]? = W.heap[gz]?)
    (s : T) (hs : s.length ≤ 90) (W : World) (hg : W.heap[g]? = some (.cells #[tv s] 9 (0, 0))) (hp : W.heap[gp]? = some (.cells #[.string ⟨#[47]⟩] 9 (0, 0))) (hz : W.heap[gz]? = some (.cells #[.int .i64 0] 3 (0, 0))) (h0 : J W) :
    CallsIn Fence.wide n Tryd.prog 90 #[.func (.yield l) #[] #[], .pointer (some ⟨gp, 0, none⟩), .pointer (some ⟨g, 0, none⟩), .pointer (some ⟨gz, 0, none⟩)] W fun e W' => (∃ r, e = .returned r) ∧ Fin2 (labR s) J Js W' := by
  have cp := Lib.cell_of_heap hp 0
  simp only [List.getElem?_toArray, List.getElem?_cons_zero] at cp
  refine callsIn_of_wp Tryd.func90 rfl trivial ?_ rfl
  simp only [Tryd.ntmps90, List.size_toArray, List.length_cons, List.length_nil, Nat.reduceAdd, Nat.reduceSub, Array.replicate_succ, Array.replicate_zero, List.push_toArray, List.append_toArray, List.nil_append, List.cons_append]
  gi_wp2
  clear cp
  gi_loopw [7, 8] (fun _ _ wr => ∃ q : T, Hid (wr.heap[g]? = some (.cells #[tv q] 9 (0, 0))) ∧ Hid (wr.heap[gp]? = some (.cells #[.string ⟨#[47]⟩] 9 (0, 0))) ∧ Hid (wr.heap[gz]? = some (.cells #[.int .i64 0] 3 (0, 0))) ∧ q.length ≤ 90 ∧ Hid (labR s = labR q) ∧ Hid (J wr)) (fun _ _ wr => lenAt g wr)
  case atStart => exact ⟨s, Lib.hid hg, Lib.hid hp, Lib.hid hz, hs, Lib.hid rfl, Lib.hid h0⟩
  case round =>
    obtain ⟨q, hu, hp2, hz2, hq, EL, hJs⟩ := hrel
    have hc := Lib.cell_of_heap hu.out 0
    have hf := Lib.frozen_of_heap hu.out 0
    have cp := Lib.cell_of_heap hp2.out 0
    have cz := Lib.cell_of_heap hz2.out 0
    simp only [List.getElem?_toArray, List.getElem?_cons_zero] at hc cp cz
    have IX := fun W => strIndex1_any ⟨q.toArray⟩ 47 W
    have ei : Lib.indexByte (ByteArray.mk q.toArray).data.toList 47 = if cutN q < q.length then (cutN q : Int) else -1 := index_cut q
    rw [ei] at IX
    clear ei
    by_cases h : cutN q < q.length
    · rw [if_pos h] at IX
      have LQ : Hid (labR s = (wd20 (q.take (cutN q)) && labR (q.drop (cutN q + 1)))) := Lib.hid (by rw [EL.out, labR_cut h])
      have HIX := Lib.hid IX
      have e1 := ext_take q (cutN q)
      have e2 := ext_drop q (cutN q + 1)
      have l1 : (q.take (cutN q)).length ≤ 90 := by simp; omega
      have l2 : (q.drop (cutN q + 1)).length ≤ 90 := by simp; omega
      have l3 : Hid ((q.drop (cutN q + 1)).length < q.length) := Lib.hid (by simp; omega)
      obtain ⟨fn, tmps, assign, body, hy, hR⟩ := hY (q.take (cutN q)) wr hJs.out l1
      obtain ⟨u, hu1⟩ : ∃ u, q.take (cutN q) = u := ⟨_, rfl⟩
      obtain ⟨v, hv1⟩ : ∃ v, q.drop (cutN q + 1) = v := ⟨_, rfl⟩
      rw [hu1] at e1 LQ hy hR
      rw [hv1] at e2 LQ l2 l3
      clear hu1 hv1 IX l1
      generalize cutN q = k at *
      have t1 : ¬ (k : Int) < 0 := by omega
      gi_wp2_with (refine ⟨trivial, ?_⟩; gi_at_call 60; refine (callsIn_wide.2 (HIX.out _)).mono ?_; rintro e w1 ⟨rfl, rfl⟩)
      refine hR.mono ?_
      rintro e W3 ⟨rfl, hJ3, k1, k2, k3⟩
      cases hw : wd20 u with
      | false =>
        have FN : Hid (Fin2 (labR s) J Js W3) := Lib.hid (fin2_no (hJ3.no hw) (by rw [LQ.out, hw]; rfl))
        clear hJ3 hw
        gi_wp2
        first | go_end0 | refine bodyPost_ret (results_none rfl _ _ _) rfl ?_
        exact ⟨⟨_, rfl⟩, FN.out⟩
      | true =>
        replace hJ3 := hJ3.yes hw
        have HL : Hid (labR s = labR v) := Lib.hid (by rw [LQ.out, hw]; rfl)
        have u3 := k1.trans hu.out
        have p3 := k2.trans hp2.out
        have z3 := k3.trans hz2.out
        have hc3 := Lib.cell_of_heap u3 0
        have hf3 := Lib.frozen_of_heap u3 0
        have cp3 := Lib.cell_of_heap p3 0
        simp only [List.getElem?_toArray, List.getElem?_cons_zero] at hc3 cp3
        have hn3 : Hid ((W3.setCell ⟨g, 0, none⟩ (tv v)).heap[g]? = some (.cells #[tv v] 9 (0, 0))) := Lib.hid (by simp [World.setCell, Array.getElem?_modify, u3])
        have hp4 : Hid ((W3.setCell ⟨g, 0, none⟩ (tv v)).heap[gp]? = some (.cells #[.string ⟨#[47]⟩] 9 (0, 0))) := Lib.hid ((Below.heap_setCell _ _ _ _ hgp).trans p3)
        have hz4 : Hid ((W3.setCell ⟨g, 0, none⟩ (tv v)).heap[gz]? = some (.cells #[.int .i64 0] 3 (0, 0))) := Lib.hid ((Below.heap_setCell _ _ _ _ hgz).trans z3)
        have HJ4 := Lib.hid (hJ _ (tv v) hJ3)
        have t5 : k ≤ 90 := by omega
        clear hJ3 hw k1 k2 k3 u3 p3 z3 hc cp cz hf
        gi_wp2
        go_roundw
        case rel => exact ⟨v, hn3, hp4, hz4, l2, HL, HJ4⟩
        case measure => rw [lenAt_eq hn3.out, lenAt_eq hu.out]; exact l3.out
    · rw [if_neg h] at IX
      have HIX := Lib.hid IX
      have LQ : Hid (labR s = wd20 q) := Lib.hid (by rw [EL.out, labR_end h])
      obtain ⟨fn, tmps, assign, body, hy, hR⟩ := hY q wr hJs.out hq
      clear IX
      gi_wp2_with (refine ⟨trivial, ?_⟩; gi_at_call 60; refine (callsIn_wide.2 (HIX.out _)).mono ?_; rintro e w1 ⟨rfl, rfl⟩)
      refine hR.mono ?_
      rintro e W3 ⟨rfl, hJ3, k1, k2, k3⟩
      have FN : Hid (Fin2 (labR s) J Js W3) := Lib.hid (by rw [LQ.out]; exact hJ3)
      clear hJ3
      gi_wp2
      go_end0
      exact ⟨⟨_, rfl⟩, FN.out⟩
end Go.Proofs.YtdfllhmkgphcmaaDoor
namespace Go.Proofs.YtdfllhmkgphcmaaDoor
open Go.RowKit Go.Shelf
attribute [local go_sem] Oper.semAt_some

/-- A range over a closure starts: its record and the block for deferred calls lie behind the world. -/
theorem range_start {P : Program} {n : Nat} {g : Operand} {ps : Array Tmp} {assign body : Code} {Q : Exit → Act → World → Prop} {a : Act} {w : World} {gf : Nat} {lb : Array Value}
    (hg : a.eval g = .func (.func gf) #[] lb) (eg : ∀ args w, (callFunc gf args).run P w = .ok (.enter gf args) w)
    (h : ∀ fn, CallsIn Fence.wide (n - 1) P gf (#[.func (.yield (w.heap.size + 1)) #[] #[]] ++ lb)
      ((w.alloc (.deferred (some []))).alloc (.loop { state := .ready, pending := none, fn, tmps := a.tmps, params := ps, assign, body, defers := w.heap.size }))
      (rangePost Fence.wide n P (w.heap.size + 1) Q { a with defers := { target := .collected w.heap.size, args := #[] } :: a.defers })) :
    (Code.rangeFunc g ps assign body).wpIn Fence.wide n P Q a w := by
  refine wpIn_rangeFunc ?_
  intro fn _
  obtain ⟨W1, hW1⟩ : ∃ W1, (w.alloc (.deferred (some []))).alloc (.loop { state := .ready, pending := none, fn, tmps := a.tmps, params := ps, assign, body, defers := w.heap.size }) = W1 := ⟨_, rfl⟩
  refine ⟨w.heap.size + 1, [{ target := .collected w.heap.size, args := #[] }], W1, { target := .fn (.func gf) lb, args := #[.func (.yield (w.heap.size + 1)) #[] #[]] }, W1, gf,
    #[.func (.yield (w.heap.size + 1)) #[] #[]] ++ lb, W1, ?_, ?_, fun _ _ => trivial, ?_, fun h => (by cases h), ?_⟩
  · rw [← hW1]; exact run_enterLoop_outer _ _ _ _ _
  · simp only [resolve, hg]
    simp [go_sem]
  · simp [invoke, go_sem, eg]
  · rw [← hW1]; exact h fn

set_option maxRecDepth 100000 in
theorem splitSeq_any (s p : ByteArray) (w : World) :
    Calls Tryd.prog 43 #[.string s, .string p] w fun e w' => e = .returned (.func (.func 90) #[] #[.pointer (some ⟨w.heap.size + 1, 0, none⟩), .pointer (some ⟨w.heap.size, 0, none⟩), .pointer (some ⟨w.heap.size + 1 + 1, 0, none⟩)]) ∧ w' = ((w.alloc (.cells #[.string s] 9)).alloc (.cells #[.string p] 9)).alloc (.cells #[.int .i64 0] 3) := by
  have hmf : ∀ (fn : Fn) (first cap : Array Value) (w : World), (Instr.makeFunc fn first cap).run Tryd.prog w = .ok (.func fn first cap) w := fun _ _ _ _ => rfl
  go_enter Tryd.func43, Tryd.ntmps43
  go_wp2
  go_ret
  exact ⟨rfl, rfl⟩

/-- Between two rounds of Label's loop. -/
structure LJ (w : World) (L : Nat) (r : Loop) (W : World) : Prop where
  res : W.heap[w.heap.size]? = some (.cells #[.bool false] 4 (0, 0))
  l : W.heap[L + 1]? = some (.loop r)
  d : W.heap[L]? = some (.deferred (some []))
  be : Below w.heap.size w W
theorem LJ.set {w : World} {L : Nat} {r : Loop} {W : World} (h : LJ w L r W) (hL : w.heap.size + 4 ≤ L) (u : Value) : LJ w L r (W.setCell ⟨w.heap.size + 1, 0, none⟩ u) := by
  have ht : ∀ i, i ≠ w.heap.size + 1 → (W.setCell ⟨w.heap.size + 1, 0, none⟩ u).heap[i]? = W.heap[i]? := fun i hi => Below.heap_setCell _ _ _ _ (fun e => hi (by simpa using e))
  exact ⟨(ht _ (by omega)).trans h.res, (ht _ (by omega)).trans h.l, (ht _ (by omega)).trans h.d, h.be.setCell (p := ⟨w.heap.size + 1, 0, none⟩) (by show w.heap.size ≤ w.heap.size + 1; omega) _⟩
theorem LJ.put {w : World} {L : Nat} {r : Loop} {W : World} (h : LJ w L r W) (hL : w.heap.size + 4 ≤ L) (r' : Loop) : LJ w L r' (W.putObj (L + 1) (.loop r')) := by
  have ht : ∀ i, i ≠ L + 1 → (W.putObj (L + 1) (.loop r')).heap[i]? = W.heap[i]? := fun i hi => World.putObj_heap_other (by omega)
  exact ⟨(ht _ (by omega)).trans h.res, World.putObj_heap_same (Array.getElem?_eq_some_iff.1 h.l).1, (ht _ (by omega)).trans h.d, h.be.trans ⟨rfl, rfl, rfl, by simp [World.putObj], fun k hk => ht k (by omega)⟩⟩

theorem LJ.store {w : World} {L : Nat} {r : Loop} {W : World} (h : LJ w L r W) (hL : w.heap.size + 4 ≤ L) : LJ w L r (W.setCell ⟨w.heap.size, 0, none⟩ (.bool false)) := by
  have ht : ∀ i, i ≠ w.heap.size → (W.setCell ⟨w.heap.size, 0, none⟩ (.bool false)).heap[i]? = W.heap[i]? := fun i hi => Below.heap_setCell _ _ _ _ (fun e => hi (by simpa using e))
  refine ⟨?_, (ht _ (by omega)).trans h.l, (ht _ (by omega)).trans h.d, h.be.setCell (p := ⟨w.heap.size, 0, none⟩) (Nat.le_refl _) _⟩
  simp [World.setCell, Array.getElem?_modify, h.res]
theorem LJ.below {w : World} {L : Nat} {r : Loop} {W W' : World} (h : LJ w L r W) (hb : Below W.heap.size W W') : LJ w L r W' :=
  ⟨(hb.block _ (Array.getElem?_eq_some_iff.1 h.res).1).trans h.res, (hb.block _ (Array.getElem?_eq_some_iff.1 h.l).1).trans h.l, (hb.block _ (Array.getElem?_eq_some_iff.1 h.d).1).trans h.d, h.be.trans (hb.mono h.be.size)⟩
theorem results_cell1 {fn : Func} {p : Tmp} {ty : TypeId} (h : fn.results = #[.cell p ty]) (tmps : Array Value) (P : Program) (w : World) :
    (results fn tmps).run P w = ((asAddr (tmps.getD p undef)).run P w).andThen fun a w₁ => (loadVar ty a).run P w₁ := by
  simp only [results, h]
  simp [Sem.run_bind]
theorem results_bool {fn : Func} {p : Tmp} (h : fn.results = #[.cell p 4]) (tmps : Array Value) (w : World) (a : Addr) (v : Value) (hp : tmps.getD p undef = .pointer (some a)) (hc : w.cell? a = some v) : (results fn tmps).run Tryd.prog w = .ok v w := by
  have ha := Tryd.isAgg4
  rw [results_cell1 h, hp]
  simp [go_sem, ha, loadVar, hc]
theorem al4 (w : World) (a b c d : Obj) : ((((w.alloc a).alloc b).alloc c).alloc d).heap[w.heap.size]? = some a ∧ ((((w.alloc a).alloc b).alloc c).alloc d).heap[w.heap.size + 1]? = some b ∧ ((((w.alloc a).alloc b).alloc c).alloc d).heap[w.heap.size + 2]? = some c ∧ ((((w.alloc a).alloc b).alloc c).alloc d).heap[w.heap.size + 3]? = some d := by
  have h1 := World.alloc_heap_new w a
  have h2 := World.alloc_heap_new (w.alloc a) b
  have h3 := World.alloc_heap_new ((w.alloc a).alloc b) c
  have h4 := World.alloc_heap_new (((w.alloc a).alloc b).alloc c) d
  simp only [World.size_alloc] at h2 h3 h4
  refine ⟨?_, ?_, ?_, h4⟩
  · exact (((Below.heap_alloc _ _ _ (by simp; omega)).trans (Below.heap_alloc _ _ _ (by simp; omega))).trans (Below.heap_alloc _ _ _ (by simp))).trans h1
  · exact ((Below.heap_alloc _ _ _ (by simp)).trans (Below.heap_alloc _ _ _ (by simp))).trans h2
  · exact (Below.heap_alloc _ _ _ (by simp)).trans h3

set_option maxRecDepth 100000 in
set_option maxHeartbeats 4000000 in
theorem label_any (s : T) (w : World) (hs : s.length ≤ 9223372036854775807) : Calls Tryd.prog 26 #[tv s] w fun e w' => e = .returned (.bool (lab s)) ∧ Below w.heap.size w w' := by
  by_cases h90 : 90 < s.length
  · have e0 : lab s = false := by
      have : decide (s.length ≤ 90) = false := by simp; omega
      simp [lab, this]
    rw [e0]
    have t90 : (90 : Int) < (s.length : Int) := by omega
    refine (callsIn_wide (n := 5)).1 ?_
    refine callsIn_of_wp_marks Tryd.func26 rfl trivial ?_ rfl
    simp only [Tryd.ntmps26, List.size_toArray, List.length_cons, List.length_nil, Nat.reduceAdd, Nat.reduceSub, Array.replicate_succ, Array.replicate_zero, List.push_toArray, List.append_toArray, List.nil_append, List.cons_append]
    gi_wp2
    refine ⟨_, results_bool rfl _ _ ⟨w.heap.size, 0, none⟩ (.bool false) rfl (by simp), rfl, (Below.refl _ _).alloc (Nat.le_refl _) _⟩
  · have e0 : lab s = labR s := by
      have : decide (s.length ≤ 90) = true := by simp; omega
      simp [lab, this]
    rw [e0]
    have t90 : ¬ (90 : Int) < (s.length : Int) := by omega
    refine (callsIn_wide (n := 5)).1 ?_
    refine callsIn_of_wp_marks Tryd.func26 rfl trivial ?_ rfl
    simp only [Tryd.ntmps26, List.size_toArray, List.length_cons, List.length_nil, Nat.reduceAdd, Nat.reduceSub, Array.replicate_succ, Array.replicate_zero, List.push_toArray, List.append_toArray, List.nil_append, List.cons_append]
    gi_wp2_with (refine ⟨trivial, ?_⟩; gi_at_call 43; refine (callsIn_wide.2 (splitSeq_any _ _ _)).mono ?_; rintro e w' ⟨rfl, rfl⟩)
    obtain ⟨W0, hW0⟩ : ∃ W0, (((w.alloc (.cells #[.bool false] 4)).alloc (.cells #[tv s] 9)).alloc (.cells #[.string ⟨#[47]⟩] 9)).alloc (.cells #[.int .i64 0] 3) = W0 := ⟨_, rfl⟩
    have s0 : W0.heap.size = w.heap.size + 4 := by rw [← hW0]; simp
    obtain ⟨r0, g0, p0, z0⟩ : W0.heap[w.heap.size]? = some (.cells #[.bool false] 4 (0, 0)) ∧ W0.heap[w.heap.size + 1]? = some (.cells #[tv s] 9 (0, 0)) ∧ W0.heap[w.heap.size + 2]? = some (.cells #[.string ⟨#[47]⟩] 9 (0, 0)) ∧ W0.heap[w.heap.size + 3]? = some (.cells #[.int .i64 0] 3 (0, 0)) := by rw [← hW0]; exact al4 _ _ _ _ _
    have b0 : Below w.heap.size w W0 := by rw [← hW0]; exact ((((Below.refl _ w).alloc (Nat.le_refl _) _).alloc (by simp) _).alloc (by simp; omega) _).alloc (by simp; omega) _
    rw [hW0]
    have hD : w.heap.size + 4 ≤ W0.heap.size := by omega
    clear hW0 s0
    refine range_start (gf := 90) (lb := #[.pointer (some ⟨w.heap.size + 2, 0, none⟩), .pointer (some ⟨w.heap.size + 1, 0, none⟩), .pointer (some ⟨w.heap.size + 3, 0, none⟩)]) rfl (enters_of Tryd.func90 (by kernel_rfl) rfl) ?_
    intro fn
    generalize hr : ({ state := .ready, pending := none, fn := fn, tmps := _, params := _, assign := _, body := _, defers := W0.heap.size } : Loop) = r
    obtain ⟨W1, hW1⟩ : ∃ W1, (W0.alloc (.deferred (some []))).alloc (.loop r) = W1 := ⟨_, rfl⟩
    have ho : ∀ k, k < W0.heap.size → W1.heap[k]? = W0.heap[k]? := fun k hk => by rw [← hW1]; exact (Below.heap_alloc _ _ _ (by simp; omega)).trans (Below.heap_alloc _ _ _ hk)
    have j0 : LJ w W0.heap.size r W1 := by
      refine ⟨(ho _ (by omega)).trans r0, ?_, ?_, ?_⟩
      · rw [← hW1]; have := World.alloc_heap_new (W0.alloc (.deferred (some []))) (.loop r); rwa [World.size_alloc] at this
      · rw [← hW1]; exact (Below.heap_alloc _ _ _ (by simp)).trans (World.alloc_heap_new W0 _)
      · rw [← hW1]; exact (b0.alloc (by omega) _).alloc (by simp; omega) _
    have g1 := (ho _ (by omega)).trans g0
    have p1 := (ho _ (by omega)).trans p0
    have z1 := (ho _ (by omega)).trans z0
    rw [hW1]
    clear hW1 ho
    refine (split_in 4 (by omega) (W0.heap.size + 1) (w.heap.size + 1) (w.heap.size + 2) (w.heap.size + 3) (by omega) (by omega) (LJ w W0.heap.size r) (LJ w W0.heap.size { r with state := .done, pending := some .ret }) (fun A u hA => hA.set hD u) ?_ s (by omega) W1 g1 p1 z1 j0).mono ?_
    · intro x W hj hx
      have hy := run_yield (P := Tryd.prog) (args := #[tv x]) hj.l (by rw [← hr]; rfl)
      rw [← hr] at hy
      refine ⟨_, _, _, _, hy, roundIn_of_wpIn trivial ?_⟩
      clear hy
      simp only [List.zip_toArray, List.zip_cons_cons, List.zip_nil_right, List.foldl_toArray, List.foldl_cons, List.foldl_nil, List.setIfInBounds_toArray, List.set_cons_succ, List.set_cons_zero]
      gi_wp2
      refine ⟨_, run_beginRound hj.l (by rw [← hr]), ?_⟩
      have hj2 := hj.put hD { r with state := .busy }
      have hg2 : ∀ k, k ≠ W0.heap.size + 1 → (W.putObj (W0.heap.size + 1) (.loop { r with state := .busy })).heap[k]? = W.heap[k]? := fun k hk => World.putObj_heap_other (by omega)
      generalize W.putObj (W0.heap.size + 1) (.loop { r with state := .busy }) = W2 at *
      have HJ2 := Lib.hid hj2
      have HG2 := Lib.hid hg2
      clear hj2 hg2
      by_cases h20 : 20 < x.length
      · have t1 : (20 : Int) < (x.length : Int) := by omega
        have c1 := Lib.cell_of_heap HJ2.out.res 0
        have f1 := Lib.frozen_of_heap HJ2.out.res 0
        simp only [List.getElem?_toArray, List.getElem?_cons_zero] at c1
        have hw : wd20 x = false := by
          unfold wd20
          have : decide (x.length ≤ 20) = false := by simp; omega
          rw [this, Bool.and_false]
        have HW := Lib.hid hw
        clear hw
        gi_wp2_with (refine ⟨trivial, ?_⟩)
        have hj3 := HJ2.out.store hD
        have hend := run_endRound (P := Tryd.prog) (some .ret) hj3.l
        refine ⟨_, _, hend, by rw [HW.out]; rfl, fin2_no (hj3.put hD _) HW.out, ?_, ?_, ?_⟩
        all_goals (rw [World.putObj_heap_other (by omega), Below.heap_setCell _ _ _ _ (by show _ ≠ w.heap.size; omega), HG2.out _ (by omega)])
      · have t1 : ¬ (20 : Int) < (x.length : Int) := by omega
        have WA := fun W => word_any x W (by omega)
        have hw : (wd x && decide (x.length ≤ 24)) = wd20 x := by
          unfold wd20
          have h1 : decide (x.length ≤ 24) = true := by simp; omega
          have h2 : decide (x.length ≤ 20) = true := by simp; omega
          rw [h1, h2]
        rw [hw] at WA
        have HWA := Lib.hid WA
        clear WA hw
        cases hb : wd20 x with
        | false =>
          rw [hb] at HWA
          gi_wp2_with (refine ⟨trivial, ?_⟩; gi_at_call 44; refine (CallsIn.inRound _ (callsIn_wide.2 (HWA.out _))).mono ?_; rintro e W3 ⟨rfl, k3⟩; have HJ3 := Lib.hid (HJ2.out.below k3); have K3 := Lib.hid k3; have c1 := Lib.cell_of_heap HJ3.out.res 0; have f1 := Lib.frozen_of_heap HJ3.out.res 0; simp only [List.getElem?_toArray, List.getElem?_cons_zero] at c1; clear k3)
          have hj3 := HJ3.out.store hD
          have hend := run_endRound (P := Tryd.prog) (some .ret) hj3.l
          have kb : ∀ k, k < W2.heap.size → k ≠ w.heap.size → k ≠ W0.heap.size + 1 → ((W3.setCell ⟨w.heap.size, 0, none⟩ (.bool false)).putObj (W0.heap.size + 1) (.loop { { { r with state := .busy } with state := .done } with pending := some .ret })).heap[k]? = W.heap[k]? := fun k h1 h2 h3 => by
            rw [World.putObj_heap_other (by omega), Below.heap_setCell _ _ _ _ (by show _ ≠ w.heap.size; omega), K3.out.block _ h1, HG2.out _ h3]
          have hlt := (Array.getElem?_eq_some_iff.1 HJ2.out.l).1
          refine ⟨_, _, hend, rfl, fin2_no (hj3.put hD _) rfl, kb _ (by omega) (by omega) (by omega), kb _ (by omega) (by omega) (by omega), kb _ (by omega) (by omega) (by omega)⟩
        | true =>
          rw [hb] at HWA
          gi_wp2_with (refine ⟨trivial, ?_⟩; gi_at_call 44; refine (CallsIn.inRound _ (callsIn_wide.2 (HWA.out _))).mono ?_; rintro e W3 ⟨rfl, k3⟩; have HJ3 := Lib.hid (HJ2.out.below k3); have K3 := Lib.hid k3; clear k3)
          have hj3 := HJ3.out
          have hend := run_endRound (P := Tryd.prog) none hj3.l
          have hrr : ({ { r with state := .busy } with state := if (none : Option Code).isNone = true then .ready else .done, pending := none } : Loop) = r := by rw [← hr]; rfl
          rw [hrr] at hend
          have kb : ∀ k, k < W2.heap.size → k ≠ W0.heap.size + 1 → (W3.putObj (W0.heap.size + 1) (.loop r)).heap[k]? = W.heap[k]? := fun k h1 h3 => by
            rw [World.putObj_heap_other (by omega), K3.out.block _ h1, HG2.out _ h3]
          have hlt := (Array.getElem?_eq_some_iff.1 HJ2.out.l).1
          refine ⟨_, _, hend, rfl, fin2_yes (hj3.put hD _) rfl, kb _ (by omega) (by omega), kb _ (by omega) (by omega), kb _ (by omega) (by omega)⟩
    · rintro e W2 ⟨⟨v', rfl⟩, hj⟩
      cases hl : labR s with
      | true =>
        have hj1 := hj.yes hl
        have HL := Lib.hid hl
        have hend := run_endLoop (P := Tryd.prog) hj1.l (by rw [← hr]; simp)
        have hp : r.pending = none := by rw [← hr]
        rw [hp] at hend
        have hj4 := hj1.put hD { r with state := .exhausted, pending := none }
        refine ⟨none, _, hend, ?_⟩
        generalize W2.putObj (W0.heap.size + 1) _ = W3 at *
        have HJ4 := Lib.hid hj4
        have c1 := Lib.cell_of_heap HJ4.out.res 0
        have f1 := Lib.frozen_of_heap HJ4.out.res 0
        simp only [List.getElem?_toArray, List.getElem?_cons_zero] at c1
        clear hj4 hp hj1 hj hl
        gi_wp2
        have hd : (W3.setCell ⟨w.heap.size, 0, none⟩ (.bool true)).heap[W0.heap.size]? = some (.deferred (some [])) := (Below.heap_setCell _ _ _ _ (by show _ ≠ w.heap.size; omega)).trans HJ4.out.d
        refine ⟨by simp, .inl ⟨_, _, rfl, run_takeDeferred hd, ?_⟩⟩
        refine ⟨_, results_bool rfl _ _ ⟨w.heap.size, 0, none⟩ (.bool true) rfl ?_, by rw [HL.out], ?_⟩
        · have h1 : ((W3.setCell ⟨w.heap.size, 0, none⟩ (.bool true)).putObj W0.heap.size (.deferred none)).heap[w.heap.size]? = some (.cells #[.bool true] 4 (0, 0)) := by
            rw [World.putObj_heap_other (by omega)]
            simp [World.setCell, Array.getElem?_modify, HJ4.out.res]
          simpa using Lib.cell_of_heap h1 0
        · exact (HJ4.out.be.setCell (p := ⟨w.heap.size, 0, none⟩) (Nat.le_refl _) _).trans ⟨rfl, rfl, rfl, by simp, fun k hk => World.putObj_heap_other (by omega)⟩
      | false =>
        have hj1 := hj.no hl
        have hend := run_endLoop (P := Tryd.prog) hj1.l (by simp)
        have hj4 := hj1.put hD { r with state := .exhausted, pending := some .ret }
        refine ⟨some .ret, _, hend, ?_⟩
        have HJ4 := Lib.hid hj4
        have HL := Lib.hid hl
        gi_wp2
        refine ⟨by simp, .inl ⟨_, _, rfl, run_takeDeferred HJ4.out.d, ?_⟩⟩
        refine ⟨_, results_bool rfl _ _ ⟨w.heap.size, 0, none⟩ (.bool false) rfl ?_, by rw [HL.out], ?_⟩
        · have h1 := (World.putObj_heap_other (o := .deferred none) (show w.heap.size ≠ W0.heap.size by omega)).trans HJ4.out.res
          simpa using Lib.cell_of_heap h1 0
        · exact HJ4.out.be.trans ⟨rfl, rfl, rfl, by simp, fun k hk => World.putObj_heap_other (by omega)⟩
end Go.Proofs.YtdfllhmkgphcmaaDoor
namespace Go.Proofs.YtdfllhmkgphcmaaDoor
open Go.RowKit

/-- The names of operations. -/
def nmOk (t : T) : Bool := t == [43] || t == [45] || t == [42] || t == [61] || t == [60]
theorem nmOk_one (c : UInt8) : decide (0 ≤ Lib.indexByte [43, 45, 42, 61, 60] c) = nmOk [c] := by
  by_cases h1 : c = 43
  · subst h1; rfl
  · by_cases h2 : c = 45
    · subst h2; rfl
    · by_cases h3 : c = 42
      · subst h3; rfl
      · by_cases h4 : c = 61
        · subst h4; rfl
        · by_cases h5 : c = 60
          · subst h5; rfl
          · have q : Lib.indexByte [43, 45, 42, 61, 60] c = -1 := by simp [Lib.indexByte, Ne.symm h1, Ne.symm h2, Ne.symm h3, Ne.symm h4, Ne.symm h5]
            rw [q]
            simp [nmOk, h1, h2, h3, h4, h5]
theorem nmOk_len {t : T} (h : t.length ≠ 1) : nmOk t = false := by
  have : ∀ c : UInt8, t ≠ [c] := fun c e => by rw [e] at h; simp at h
  simp [nmOk, this]
/-- The error of an instruction, by what it has. -/
def ckB (K A B Nm R : Bool) (a b : Int) (name : T) : Int :=
  if K = false then 9
  else if (!A && a != 0) || (!B && b != 0) || (!Nm && name != []) then 1
  else if Nm && !nmOk name then 6
  else if R = false then 2 else 0
/-- The error of an instruction. -/
def ckI (bs : List Blk) (nb : Nat) (op a b : Int) (name : T) : Int := ckB (fK op) (fA op) (fB op) (fN op) (inR bs nb op a b) a b name
theorem shapes {op : Int} (h : fK op = true) : (fA op = true ∧ fB op = false ∧ fN op = false) ∨ (fA op = false ∧ fB op = false ∧ fN op = true) ∨ (fA op = true ∧ fB op = true ∧ fN op = false) ∨ (fA op = false ∧ fB op = false ∧ fN op = false) := by
  rcases op_split op with rfl | rfl | rfl | rfl | rfl | rfl | rfl | rfl | rfl | rfl | rfl | rfl | rfl | rfl | rfl | rfl | ⟨h1, h2, h3, h4, h5, h6, h7, h8, h9, h10, h11, h12, h13, h14, h15, h16⟩
  rotate_right
  · simp [fK, fA, *] at h
  all_goals decide

set_option maxRecDepth 100000 in
set_option maxHeartbeats 4000000 in
theorem checkInstr_any (p : Prg) (x : Blk) (op a b : Int) (name : T) (w : World) (hp : p.Rd w)(hnl : name.length ≤ 9223372036854775807) :
    Calls Tryd.prog 25 #[p.v, x.v, (Ins.mk op a b name).v] w fun e w' => e = .returned (.int .i64 (ckI p.bs x.ins.length op a b name)) ∧ Below w.heap.size w w' := by
  have PL := fun (W : World) (hb : Below w.heap.size w W) => inRange_any p x op a b name W (hp.below hb)
  have FI := fun W => fields_any op W
  unfold Prg.v Blk.v Ins.v at PL
  unfold Prg.v Blk.v Ins.v
  simp only [] at PL ⊢
  have CT := fun (c : UInt8) (W : World) => contains1_any ⟨#[43, 45, 42, 61, 60]⟩ c W
  simp only [nmOk_one] at CT
  have HCT := Lib.hid CT
  clear CT
  have SH := fun h : fK op = true => shapes h
  unfold ckI
  generalize inR p.bs x.ins.length op a b = R at *
  generalize fK op = K at *
  generalize fA op = A at *
  generalize fB op = B at *
  generalize fN op = Nm at *
  cases K with
  | false =>
    have HFI := Lib.hid FI
    clear FI SH PL hp
    have hs : ckB false A B Nm R a b name = 9 := rfl
    rw [hs]
    clear hs
    go_enter Tryd.func25, Tryd.ntmps25
    go_wp2_with (go_at_call 40; refine (HFI.out _).mono ?_; rintro e w1 ⟨rfl, rfl⟩)
    go_ret
    exact ⟨rfl, bel3 _ _ _ _⟩
  | true =>
    have hsh := SH rfl
    have HPL := Lib.hid PL
    have HFI := Lib.hid FI
    clear FI SH PL hp
    rcases hsh with ⟨rfl, rfl, rfl⟩ | ⟨rfl, rfl, rfl⟩ | ⟨rfl, rfl, rfl⟩ | ⟨rfl, rfl, rfl⟩
    · -- 1 0 0
      by_cases qb' : b = 0
      rotate_right
      · have qb : (b != 0) = true := by simpa using qb'
        have hs : ckB true true false false R a b name = 1 := by simp [ckB, qb']
        rw [hs]
        clear hs
        clear qb'
        go_enter Tryd.func25, Tryd.ntmps25
        go_wp2_with (first | (go_at_call 40; refine (HFI.out _).mono ?_; rintro e w1 ⟨rfl, rfl⟩) | (go_at_call 41; refine (HCTc.out _).mono ?_; rintro e w3 ⟨rfl, rfl⟩) | (go_at_call 42; refine (HPL.out _ (bel3 _ _ _ _)).mono ?_; rintro e w2 ⟨rfl, k2⟩))
        go_ret
        exact ⟨rfl, bel3 _ _ _ _⟩
      subst qb'
      have qb : ((0 : Int) != 0) = false := rfl
      by_cases qn' : name = []
      rotate_right
      · have qn : (name != []) = true := by simpa using qn'
        have qn2 : name.isEmpty = false := by simpa using qn'
        have hs : ckB true true false false R a 0 name = 1 := by simp [ckB, qn']
        rw [hs]
        clear hs
        clear qn'
        go_enter Tryd.func25, Tryd.ntmps25
        go_wp2_with (first | (go_at_call 40; refine (HFI.out _).mono ?_; rintro e w1 ⟨rfl, rfl⟩) | (go_at_call 41; refine (HCTc.out _).mono ?_; rintro e w3 ⟨rfl, rfl⟩) | (go_at_call 42; refine (HPL.out _ (bel3 _ _ _ _)).mono ?_; rintro e w2 ⟨rfl, k2⟩))
        go_ret
        exact ⟨rfl, bel3 _ _ _ _⟩
      subst qn'
      have qn : (([] : T) != []) = false := rfl
      cases R with
      | false =>
        have hs : ckB true true false false false a 0 [] = 2 := by simp [ckB]
        rw [hs]
        clear hs
        go_enter Tryd.func25, Tryd.ntmps25
        go_wp2_with (first | (go_at_call 40; refine (HFI.out _).mono ?_; rintro e w1 ⟨rfl, rfl⟩) | (go_at_call 41; refine (HCTc.out _).mono ?_; rintro e w3 ⟨rfl, rfl⟩) | (go_at_call 42; refine (HPL.out _ (bel3 _ _ _ _)).mono ?_; rintro e w2 ⟨rfl, k2⟩))
        go_ret
        exact ⟨rfl, (bel3 w _ _ _).trans (k2.mono (bel3 w _ _ _).size)⟩
      | true =>
        have hs : ckB true true false false true a 0 [] = 0 := by simp [ckB]
        rw [hs]
        clear hs
        go_enter Tryd.func25, Tryd.ntmps25
        go_wp2_with (first | (go_at_call 40; refine (HFI.out _).mono ?_; rintro e w1 ⟨rfl, rfl⟩) | (go_at_call 41; refine (HCTc.out _).mono ?_; rintro e w3 ⟨rfl, rfl⟩) | (go_at_call 42; refine (HPL.out _ (bel3 _ _ _ _)).mono ?_; rintro e w2 ⟨rfl, k2⟩))
        go_ret
        exact ⟨rfl, (bel3 w _ _ _).trans (k2.mono (bel3 w _ _ _).size)⟩
    · -- 0 0 1
      by_cases qa' : a = 0
      rotate_right
      · have qa : (a != 0) = true := by simpa using qa'
        have hs : ckB true false false true R a b name = 1 := by simp [ckB, qa']
        rw [hs]
        clear hs
        clear qa'
        go_enter Tryd.func25, Tryd.ntmps25
        go_wp2_with (first | (go_at_call 40; refine (HFI.out _).mono ?_; rintro e w1 ⟨rfl, rfl⟩) | (go_at_call 41; refine (HCTc.out _).mono ?_; rintro e w3 ⟨rfl, rfl⟩) | (go_at_call 42; refine (HPL.out _ (bel3 _ _ _ _)).mono ?_; rintro e w2 ⟨rfl, k2⟩))
        go_ret
        exact ⟨rfl, bel3 _ _ _ _⟩
      subst qa'
      have qa : ((0 : Int) != 0) = false := rfl
      by_cases qb' : b = 0
      rotate_right
      · have qb : (b != 0) = true := by simpa using qb'
        have hs : ckB true false false true R 0 b name = 1 := by simp [ckB, qb']
        rw [hs]
        clear hs
        clear qb'
        go_enter Tryd.func25, Tryd.ntmps25
        go_wp2_with (first | (go_at_call 40; refine (HFI.out _).mono ?_; rintro e w1 ⟨rfl, rfl⟩) | (go_at_call 41; refine (HCTc.out _).mono ?_; rintro e w3 ⟨rfl, rfl⟩) | (go_at_call 42; refine (HPL.out _ (bel3 _ _ _ _)).mono ?_; rintro e w2 ⟨rfl, k2⟩))
        go_ret
        exact ⟨rfl, bel3 _ _ _ _⟩
      subst qb'
      have qb : ((0 : Int) != 0) = false := rfl
      by_cases z : name.length = 1
      · obtain ⟨c, rfl⟩ := List.length_eq_one_iff.1 z
        clear z
        have hcc := HCT.out c
        have HCTc := Lib.hid hcc
        clear HCT hcc
        obtain ⟨ok, hok⟩ : ∃ ok, nmOk [c] = ok := ⟨_, rfl⟩
        rw [hok] at HCTc
        cases ok with
        | false =>
          have hs : ckB true false false true R 0 0 [c] = 6 := by simp [ckB, hok]
          rw [hs]
          clear hs
          go_enter Tryd.func25, Tryd.ntmps25
          go_wp2_with (first | (go_at_call 40; refine (HFI.out _).mono ?_; rintro e w1 ⟨rfl, rfl⟩) | (go_at_call 41; refine (HCTc.out _).mono ?_; rintro e w3 ⟨rfl, rfl⟩) | (go_at_call 42; refine (HPL.out _ (bel3 _ _ _ _)).mono ?_; rintro e w2 ⟨rfl, k2⟩))
          go_ret
          exact ⟨rfl, bel3 _ _ _ _⟩
        | true =>
          cases R with
          | false =>
            have hs : ckB true false false true false 0 0 [c] = 2 := by simp [ckB, hok]
            rw [hs]
            clear hs
            go_enter Tryd.func25, Tryd.ntmps25
            go_wp2_with (first | (go_at_call 40; refine (HFI.out _).mono ?_; rintro e w1 ⟨rfl, rfl⟩) | (go_at_call 41; refine (HCTc.out _).mono ?_; rintro e w3 ⟨rfl, rfl⟩) | (go_at_call 42; refine (HPL.out _ (bel3 _ _ _ _)).mono ?_; rintro e w2 ⟨rfl, k2⟩))
            go_ret
            exact ⟨rfl, (bel3 w _ _ _).trans (k2.mono (bel3 w _ _ _).size)⟩
          | true =>
            have hs : ckB true false false true true 0 0 [c] = 0 := by simp [ckB, hok]
            rw [hs]
            clear hs
            go_enter Tryd.func25, Tryd.ntmps25
            go_wp2_with (first | (go_at_call 40; refine (HFI.out _).mono ?_; rintro e w1 ⟨rfl, rfl⟩) | (go_at_call 41; refine (HCTc.out _).mono ?_; rintro e w3 ⟨rfl, rfl⟩) | (go_at_call 42; refine (HPL.out _ (bel3 _ _ _ _)).mono ?_; rintro e w2 ⟨rfl, k2⟩))
            go_ret
            exact ⟨rfl, (bel3 w _ _ _).trans (k2.mono (bel3 w _ _ _).size)⟩
      · have hk := nmOk_len z
        have z2 : ((name.length : Int) != 1) = true := by simp; omega
        have hs : ckB true false false true R 0 0 name = 6 := by simp [ckB, hk]
        rw [hs]
        clear hs
        clear z hk
        go_enter Tryd.func25, Tryd.ntmps25
        go_wp2_with (first | (go_at_call 40; refine (HFI.out _).mono ?_; rintro e w1 ⟨rfl, rfl⟩) | (go_at_call 41; refine (HCTc.out _).mono ?_; rintro e w3 ⟨rfl, rfl⟩) | (go_at_call 42; refine (HPL.out _ (bel3 _ _ _ _)).mono ?_; rintro e w2 ⟨rfl, k2⟩))
        go_ret
        exact ⟨rfl, bel3 _ _ _ _⟩
    · -- 1 1 0
      by_cases qn' : name = []
      rotate_right
      · have qn : (name != []) = true := by simpa using qn'
        have qn2 : name.isEmpty = false := by simpa using qn'
        have hs : ckB true true true false R a b name = 1 := by simp [ckB, qn']
        rw [hs]
        clear hs
        clear qn'
        go_enter Tryd.func25, Tryd.ntmps25
        go_wp2_with (first | (go_at_call 40; refine (HFI.out _).mono ?_; rintro e w1 ⟨rfl, rfl⟩) | (go_at_call 41; refine (HCTc.out _).mono ?_; rintro e w3 ⟨rfl, rfl⟩) | (go_at_call 42; refine (HPL.out _ (bel3 _ _ _ _)).mono ?_; rintro e w2 ⟨rfl, k2⟩))
        go_ret
        exact ⟨rfl, bel3 _ _ _ _⟩
      subst qn'
      have qn : (([] : T) != []) = false := rfl
      cases R with
      | false =>
        have hs : ckB true true true false false a b [] = 2 := by simp [ckB]
        rw [hs]
        clear hs
        go_enter Tryd.func25, Tryd.ntmps25
        go_wp2_with (first | (go_at_call 40; refine (HFI.out _).mono ?_; rintro e w1 ⟨rfl, rfl⟩) | (go_at_call 41; refine (HCTc.out _).mono ?_; rintro e w3 ⟨rfl, rfl⟩) | (go_at_call 42; refine (HPL.out _ (bel3 _ _ _ _)).mono ?_; rintro e w2 ⟨rfl, k2⟩))
        go_ret
        exact ⟨rfl, (bel3 w _ _ _).trans (k2.mono (bel3 w _ _ _).size)⟩
      | true =>
        have hs : ckB true true true false true a b [] = 0 := by simp [ckB]
        rw [hs]
        clear hs
        go_enter Tryd.func25, Tryd.ntmps25
        go_wp2_with (first | (go_at_call 40; refine (HFI.out _).mono ?_; rintro e w1 ⟨rfl, rfl⟩) | (go_at_call 41; refine (HCTc.out _).mono ?_; rintro e w3 ⟨rfl, rfl⟩) | (go_at_call 42; refine (HPL.out _ (bel3 _ _ _ _)).mono ?_; rintro e w2 ⟨rfl, k2⟩))
        go_ret
        exact ⟨rfl, (bel3 w _ _ _).trans (k2.mono (bel3 w _ _ _).size)⟩
    · -- 0 0 0
      by_cases qa' : a = 0
      rotate_right
      · have qa : (a != 0) = true := by simpa using qa'
        have hs : ckB true false false false R a b name = 1 := by simp [ckB, qa']
        rw [hs]
        clear hs
        clear qa'
        go_enter Tryd.func25, Tryd.ntmps25
        go_wp2_with (first | (go_at_call 40; refine (HFI.out _).mono ?_; rintro e w1 ⟨rfl, rfl⟩) | (go_at_call 41; refine (HCTc.out _).mono ?_; rintro e w3 ⟨rfl, rfl⟩) | (go_at_call 42; refine (HPL.out _ (bel3 _ _ _ _)).mono ?_; rintro e w2 ⟨rfl, k2⟩))
        go_ret
        exact ⟨rfl, bel3 _ _ _ _⟩
      subst qa'
      have qa : ((0 : Int) != 0) = false := rfl
      by_cases qb' : b = 0
      rotate_right
      · have qb : (b != 0) = true := by simpa using qb'
        have hs : ckB true false false false R 0 b name = 1 := by simp [ckB, qb']
        rw [hs]
        clear hs
        clear qb'
        go_enter Tryd.func25, Tryd.ntmps25
        go_wp2_with (first | (go_at_call 40; refine (HFI.out _).mono ?_; rintro e w1 ⟨rfl, rfl⟩) | (go_at_call 41; refine (HCTc.out _).mono ?_; rintro e w3 ⟨rfl, rfl⟩) | (go_at_call 42; refine (HPL.out _ (bel3 _ _ _ _)).mono ?_; rintro e w2 ⟨rfl, k2⟩))
        go_ret
        exact ⟨rfl, bel3 _ _ _ _⟩
      subst qb'
      have qb : ((0 : Int) != 0) = false := rfl
      by_cases qn' : name = []
      rotate_right
      · have qn : (name != []) = true := by simpa using qn'
        have qn2 : name.isEmpty = false := by simpa using qn'
        have hs : ckB true false false false R 0 0 name = 1 := by simp [ckB, qn']
        rw [hs]
        clear hs
        clear qn'
        go_enter Tryd.func25, Tryd.ntmps25
        go_wp2_with (first | (go_at_call 40; refine (HFI.out _).mono ?_; rintro e w1 ⟨rfl, rfl⟩) | (go_at_call 41; refine (HCTc.out _).mono ?_; rintro e w3 ⟨rfl, rfl⟩) | (go_at_call 42; refine (HPL.out _ (bel3 _ _ _ _)).mono ?_; rintro e w2 ⟨rfl, k2⟩))
        go_ret
        exact ⟨rfl, bel3 _ _ _ _⟩
      subst qn'
      have qn : (([] : T) != []) = false := rfl
      cases R with
      | false =>
        have hs : ckB true false false false false 0 0 [] = 2 := by simp [ckB]
        rw [hs]
        clear hs
        go_enter Tryd.func25, Tryd.ntmps25
        go_wp2_with (first | (go_at_call 40; refine (HFI.out _).mono ?_; rintro e w1 ⟨rfl, rfl⟩) | (go_at_call 41; refine (HCTc.out _).mono ?_; rintro e w3 ⟨rfl, rfl⟩) | (go_at_call 42; refine (HPL.out _ (bel3 _ _ _ _)).mono ?_; rintro e w2 ⟨rfl, k2⟩))
        go_ret
        exact ⟨rfl, (bel3 w _ _ _).trans (k2.mono (bel3 w _ _ _).size)⟩
      | true =>
        have hs : ckB true false false false true 0 0 [] = 0 := by simp [ckB]
        rw [hs]
        clear hs
        go_enter Tryd.func25, Tryd.ntmps25
        go_wp2_with (first | (go_at_call 40; refine (HFI.out _).mono ?_; rintro e w1 ⟨rfl, rfl⟩) | (go_at_call 41; refine (HCTc.out _).mono ?_; rintro e w3 ⟨rfl, rfl⟩) | (go_at_call 42; refine (HPL.out _ (bel3 _ _ _ _)).mono ?_; rintro e w2 ⟨rfl, k2⟩))
        go_ret
        exact ⟨rfl, (bel3 w _ _ _).trans (k2.mono (bel3 w _ _ _).size)⟩
end Go.Proofs.YtdfllhmkgphcmaaDoor
namespace Go.Proofs.YtdfllhmkgphcmaaDoor
open Go.RowKit

set_option maxRecDepth 100000 in
set_option maxHeartbeats 4000000 in
theorem instr_any (p : Prg) (x : Blk) (op a b : Int) (name : T) (w : World) (hp : p.Rd w)(hpl : p.bs.length ≤ 9223372036854775807) :
    Calls Tryd.prog 30 #[p.v, x.v, (Ins.mk op a b name).v] w fun e w' => e = .returned (.int .i64 (ckI p.bs x.ins.length op a b name)) ∧ Below w.heap.size w w' := by
  have PL := fun (W : World) (hb : Below w.heap.size w W) => ranged_any p x op a b name W (hp.below hb) hpl
  have FI := fun W => shape_any op W
  unfold Prg.v Blk.v Ins.v at PL
  unfold Prg.v Blk.v Ins.v
  simp only [] at PL ⊢
  have SH := fun h : fK op = true => shapes h
  unfold ckI
  generalize inR p.bs x.ins.length op a b = R at *
  generalize fK op = K at *
  generalize fA op = A at *
  generalize fB op = B at *
  generalize fN op = Nm at *
  cases K with
  | false =>
    have HFI := Lib.hid FI
    clear FI SH PL hp
    have hs : ckB false A B Nm R a b name = 9 := rfl
    rw [hs]
    clear hs
    go_enter Tryd.func30, Tryd.ntmps30
    go_wp2_with (go_at_call 48; refine (HFI.out _).mono ?_; rintro e w1 ⟨rfl, rfl⟩)
    go_ret
    exact ⟨rfl, bel3 _ _ _ _⟩
  | true =>
    have hsh := SH rfl
    have HPL := Lib.hid PL
    have HFI := Lib.hid FI
    clear FI SH PL hp
    rcases hsh with ⟨rfl, rfl, rfl⟩ | ⟨rfl, rfl, rfl⟩ | ⟨rfl, rfl, rfl⟩ | ⟨rfl, rfl, rfl⟩
    · -- 1 0 0
      by_cases qb' : b = 0
      rotate_right
      · have qb : (b != 0) = true := by simpa using qb'
        have hs : ckB true true false false R a b name = 1 := by simp [ckB, qb']
        rw [hs]
        clear hs
        clear qb'
        go_enter Tryd.func30, Tryd.ntmps30
        go_wp2_with (first | (go_at_call 48; refine (HFI.out _).mono ?_; rintro e w1 ⟨rfl, rfl⟩) | (go_at_call 49; refine (HPL.out _ (bel3 _ _ _ _)).mono ?_; rintro e w2 ⟨rfl, k2⟩))
        go_ret
        exact ⟨rfl, bel3 _ _ _ _⟩
      subst qb'
      have qb : ((0 : Int) != 0) = false := rfl
      by_cases qn' : name = []
      rotate_right
      · have qn : (name != []) = true := by simpa using qn'
        have qn2 : name.isEmpty = false := by simpa using qn'
        have hs : ckB true true false false R a 0 name = 1 := by simp [ckB, qn']
        rw [hs]
        clear hs
        clear qn'
        go_enter Tryd.func30, Tryd.ntmps30
        go_wp2_with (first | (go_at_call 48; refine (HFI.out _).mono ?_; rintro e w1 ⟨rfl, rfl⟩) | (go_at_call 49; refine (HPL.out _ (bel3 _ _ _ _)).mono ?_; rintro e w2 ⟨rfl, k2⟩))
        go_ret
        exact ⟨rfl, bel3 _ _ _ _⟩
      subst qn'
      have qn : (([] : T) != []) = false := rfl
      cases R with
      | false =>
        have hs : ckB true true false false false a 0 [] = 2 := by simp [ckB]
        rw [hs]
        clear hs
        go_enter Tryd.func30, Tryd.ntmps30
        go_wp2_with (first | (go_at_call 48; refine (HFI.out _).mono ?_; rintro e w1 ⟨rfl, rfl⟩) | (go_at_call 49; refine (HPL.out _ (bel3 _ _ _ _)).mono ?_; rintro e w2 ⟨rfl, k2⟩))
        go_ret
        exact ⟨rfl, (bel3 w _ _ _).trans (k2.mono (bel3 w _ _ _).size)⟩
      | true =>
        have hs : ckB true true false false true a 0 [] = 0 := by simp [ckB]
        rw [hs]
        clear hs
        go_enter Tryd.func30, Tryd.ntmps30
        go_wp2_with (first | (go_at_call 48; refine (HFI.out _).mono ?_; rintro e w1 ⟨rfl, rfl⟩) | (go_at_call 49; refine (HPL.out _ (bel3 _ _ _ _)).mono ?_; rintro e w2 ⟨rfl, k2⟩))
        go_ret
        exact ⟨rfl, (bel3 w _ _ _).trans (k2.mono (bel3 w _ _ _).size)⟩
    · -- 0 0 1
      by_cases qa' : a = 0
      rotate_right
      · have qa : (a != 0) = true := by simpa using qa'
        have hs : ckB true false false true R a b name = 1 := by simp [ckB, qa']
        rw [hs]
        clear hs
        clear qa'
        go_enter Tryd.func30, Tryd.ntmps30
        go_wp2_with (first | (go_at_call 48; refine (HFI.out _).mono ?_; rintro e w1 ⟨rfl, rfl⟩) | (go_at_call 49; refine (HPL.out _ (bel3 _ _ _ _)).mono ?_; rintro e w2 ⟨rfl, k2⟩))
        go_ret
        exact ⟨rfl, bel3 _ _ _ _⟩
      subst qa'
      have qa : ((0 : Int) != 0) = false := rfl
      by_cases qb' : b = 0
      rotate_right
      · have qb : (b != 0) = true := by simpa using qb'
        have hs : ckB true false false true R 0 b name = 1 := by simp [ckB, qb']
        rw [hs]
        clear hs
        clear qb'
        go_enter Tryd.func30, Tryd.ntmps30
        go_wp2_with (first | (go_at_call 48; refine (HFI.out _).mono ?_; rintro e w1 ⟨rfl, rfl⟩) | (go_at_call 49; refine (HPL.out _ (bel3 _ _ _ _)).mono ?_; rintro e w2 ⟨rfl, k2⟩))
        go_ret
        exact ⟨rfl, bel3 _ _ _ _⟩
      subst qb'
      have qb : ((0 : Int) != 0) = false := rfl
      by_cases z43 : name = [43]
      · subst z43
        have hk : nmOk [43] = true := rfl
        cases R with
        | false =>
          have hs : ckB true false false true false 0 0 [43] = 2 := by simp [ckB, hk]
          rw [hs]
          clear hs
          go_enter Tryd.func30, Tryd.ntmps30
          go_wp2_with (first | (go_at_call 48; refine (HFI.out _).mono ?_; rintro e w1 ⟨rfl, rfl⟩) | (go_at_call 49; refine (HPL.out _ (bel3 _ _ _ _)).mono ?_; rintro e w2 ⟨rfl, k2⟩))
          go_ret
          exact ⟨rfl, (bel3 w _ _ _).trans (k2.mono (bel3 w _ _ _).size)⟩
        | true =>
          have hs : ckB true false false true true 0 0 [43] = 0 := by simp [ckB, hk]
          rw [hs]
          clear hs
          go_enter Tryd.func30, Tryd.ntmps30
          go_wp2_with (first | (go_at_call 48; refine (HFI.out _).mono ?_; rintro e w1 ⟨rfl, rfl⟩) | (go_at_call 49; refine (HPL.out _ (bel3 _ _ _ _)).mono ?_; rintro e w2 ⟨rfl, k2⟩))
          go_ret
          exact ⟨rfl, (bel3 w _ _ _).trans (k2.mono (bel3 w _ _ _).size)⟩
      by_cases z45 : name = [45]
      · subst z45
        have hk : nmOk [45] = true := rfl
        cases R with
        | false =>
          have hs : ckB true false false true false 0 0 [45] = 2 := by simp [ckB, hk]
          rw [hs]
          clear hs
          go_enter Tryd.func30, Tryd.ntmps30
          go_wp2_with (first | (go_at_call 48; refine (HFI.out _).mono ?_; rintro e w1 ⟨rfl, rfl⟩) | (go_at_call 49; refine (HPL.out _ (bel3 _ _ _ _)).mono ?_; rintro e w2 ⟨rfl, k2⟩))
          go_ret
          exact ⟨rfl, (bel3 w _ _ _).trans (k2.mono (bel3 w _ _ _).size)⟩
        | true =>
          have hs : ckB true false false true true 0 0 [45] = 0 := by simp [ckB, hk]
          rw [hs]
          clear hs
          go_enter Tryd.func30, Tryd.ntmps30
          go_wp2_with (first | (go_at_call 48; refine (HFI.out _).mono ?_; rintro e w1 ⟨rfl, rfl⟩) | (go_at_call 49; refine (HPL.out _ (bel3 _ _ _ _)).mono ?_; rintro e w2 ⟨rfl, k2⟩))
          go_ret
          exact ⟨rfl, (bel3 w _ _ _).trans (k2.mono (bel3 w _ _ _).size)⟩
      by_cases z42 : name = [42]
      · subst z42
        have hk : nmOk [42] = true := rfl
        cases R with
        | false =>
          have hs : ckB true false false true false 0 0 [42] = 2 := by simp [ckB, hk]
          rw [hs]
          clear hs
          go_enter Tryd.func30, Tryd.ntmps30
          go_wp2_with (first | (go_at_call 48; refine (HFI.out _).mono ?_; rintro e w1 ⟨rfl, rfl⟩) | (go_at_call 49; refine (HPL.out _ (bel3 _ _ _ _)).mono ?_; rintro e w2 ⟨rfl, k2⟩))
          go_ret
          exact ⟨rfl, (bel3 w _ _ _).trans (k2.mono (bel3 w _ _ _).size)⟩
        | true =>
          have hs : ckB true false false true true 0 0 [42] = 0 := by simp [ckB, hk]
          rw [hs]
          clear hs
          go_enter Tryd.func30, Tryd.ntmps30
          go_wp2_with (first | (go_at_call 48; refine (HFI.out _).mono ?_; rintro e w1 ⟨rfl, rfl⟩) | (go_at_call 49; refine (HPL.out _ (bel3 _ _ _ _)).mono ?_; rintro e w2 ⟨rfl, k2⟩))
          go_ret
          exact ⟨rfl, (bel3 w _ _ _).trans (k2.mono (bel3 w _ _ _).size)⟩
      by_cases z61 : name = [61]
      · subst z61
        have hk : nmOk [61] = true := rfl
        cases R with
        | false =>
          have hs : ckB true false false true false 0 0 [61] = 2 := by simp [ckB, hk]
          rw [hs]
          clear hs
          go_enter Tryd.func30, Tryd.ntmps30
          go_wp2_with (first | (go_at_call 48; refine (HFI.out _).mono ?_; rintro e w1 ⟨rfl, rfl⟩) | (go_at_call 49; refine (HPL.out _ (bel3 _ _ _ _)).mono ?_; rintro e w2 ⟨rfl, k2⟩))
          go_ret
          exact ⟨rfl, (bel3 w _ _ _).trans (k2.mono (bel3 w _ _ _).size)⟩
        | true =>
          have hs : ckB true false false true true 0 0 [61] = 0 := by simp [ckB, hk]
          rw [hs]
          clear hs
          go_enter Tryd.func30, Tryd.ntmps30
          go_wp2_with (first | (go_at_call 48; refine (HFI.out _).mono ?_; rintro e w1 ⟨rfl, rfl⟩) | (go_at_call 49; refine (HPL.out _ (bel3 _ _ _ _)).mono ?_; rintro e w2 ⟨rfl, k2⟩))
          go_ret
          exact ⟨rfl, (bel3 w _ _ _).trans (k2.mono (bel3 w _ _ _).size)⟩
      by_cases z60 : name = [60]
      · subst z60
        have hk : nmOk [60] = true := rfl
        cases R with
        | false =>
          have hs : ckB true false false true false 0 0 [60] = 2 := by simp [ckB, hk]
          rw [hs]
          clear hs
          go_enter Tryd.func30, Tryd.ntmps30
          go_wp2_with (first | (go_at_call 48; refine (HFI.out _).mono ?_; rintro e w1 ⟨rfl, rfl⟩) | (go_at_call 49; refine (HPL.out _ (bel3 _ _ _ _)).mono ?_; rintro e w2 ⟨rfl, k2⟩))
          go_ret
          exact ⟨rfl, (bel3 w _ _ _).trans (k2.mono (bel3 w _ _ _).size)⟩
        | true =>
          have hs : ckB true false false true true 0 0 [60] = 0 := by simp [ckB, hk]
          rw [hs]
          clear hs
          go_enter Tryd.func30, Tryd.ntmps30
          go_wp2_with (first | (go_at_call 48; refine (HFI.out _).mono ?_; rintro e w1 ⟨rfl, rfl⟩) | (go_at_call 49; refine (HPL.out _ (bel3 _ _ _ _)).mono ?_; rintro e w2 ⟨rfl, k2⟩))
          go_ret
          exact ⟨rfl, (bel3 w _ _ _).trans (k2.mono (bel3 w _ _ _).size)⟩
      have hk : nmOk name = false := by simp [nmOk, *]
      have y43 : (name == [43]) = false := by simpa using z43
      have y45 : (name == [45]) = false := by simpa using z45
      have y42 : (name == [42]) = false := by simpa using z42
      have y61 : (name == [61]) = false := by simpa using z61
      have y60 : (name == [60]) = false := by simpa using z60
      have hs : ckB true false false true R 0 0 name = 6 := by simp [ckB, hk]
      rw [hs]
      clear hs
      clear z43 z45 z42 z61 z60
      go_enter Tryd.func30, Tryd.ntmps30
      go_wp2_with (first | (go_at_call 48; refine (HFI.out _).mono ?_; rintro e w1 ⟨rfl, rfl⟩) | (go_at_call 49; refine (HPL.out _ (bel3 _ _ _ _)).mono ?_; rintro e w2 ⟨rfl, k2⟩))
      go_ret
      exact ⟨rfl, bel3 _ _ _ _⟩
    · -- 1 1 0
      by_cases qn' : name = []
      rotate_right
      · have qn : (name != []) = true := by simpa using qn'
        have qn2 : name.isEmpty = false := by simpa using qn'
        have hs : ckB true true true false R a b name = 1 := by simp [ckB, qn']
        rw [hs]
        clear hs
        clear qn'
        go_enter Tryd.func30, Tryd.ntmps30
        go_wp2_with (first | (go_at_call 48; refine (HFI.out _).mono ?_; rintro e w1 ⟨rfl, rfl⟩) | (go_at_call 49; refine (HPL.out _ (bel3 _ _ _ _)).mono ?_; rintro e w2 ⟨rfl, k2⟩))
        go_ret
        exact ⟨rfl, bel3 _ _ _ _⟩
      subst qn'
      have qn : (([] : T) != []) = false := rfl
      cases R with
      | false =>
        have hs : ckB true true true false false a b [] = 2 := by simp [ckB]
        rw [hs]
        clear hs
        go_enter Tryd.func30, Tryd.ntmps30
        go_wp2_with (first | (go_at_call 48; refine (HFI.out _).mono ?_; rintro e w1 ⟨rfl, rfl⟩) | (go_at_call 49; refine (HPL.out _ (bel3 _ _ _ _)).mono ?_; rintro e w2 ⟨rfl, k2⟩))
        go_ret
        exact ⟨rfl, (bel3 w _ _ _).trans (k2.mono (bel3 w _ _ _).size)⟩
      | true =>
        have hs : ckB true true true false true a b [] = 0 := by simp [ckB]
        rw [hs]
        clear hs
        go_enter Tryd.func30, Tryd.ntmps30
        go_wp2_with (first | (go_at_call 48; refine (HFI.out _).mono ?_; rintro e w1 ⟨rfl, rfl⟩) | (go_at_call 49; refine (HPL.out _ (bel3 _ _ _ _)).mono ?_; rintro e w2 ⟨rfl, k2⟩))
        go_ret
        exact ⟨rfl, (bel3 w _ _ _).trans (k2.mono (bel3 w _ _ _).size)⟩
    · -- 0 0 0
      by_cases qa' : a = 0
      rotate_right
      · have qa : (a != 0) = true := by simpa using qa'
        have hs : ckB true false false false R a b name = 1 := by simp [ckB, qa']
        rw [hs]
        clear hs
        clear qa'
        go_enter Tryd.func30, Tryd.ntmps30
        go_wp2_with (first | (go_at_call 48; refine (HFI.out _).mono ?_; rintro e w1 ⟨rfl, rfl⟩) | (go_at_call 49; refine (HPL.out _ (bel3 _ _ _ _)).mono ?_; rintro e w2 ⟨rfl, k2⟩))
        go_ret
        exact ⟨rfl, bel3 _ _ _ _⟩
      subst qa'
      have qa : ((0 : Int) != 0) = false := rfl
      by_cases qb' : b = 0
      rotate_right
      · have qb : (b != 0) = true := by simpa using qb'
        have hs : ckB true false false false R 0 b name = 1 := by simp [ckB, qb']
        rw [hs]
        clear hs
        clear qb'
        go_enter Tryd.func30, Tryd.ntmps30
        go_wp2_with (first | (go_at_call 48; refine (HFI.out _).mono ?_; rintro e w1 ⟨rfl, rfl⟩) | (go_at_call 49; refine (HPL.out _ (bel3 _ _ _ _)).mono ?_; rintro e w2 ⟨rfl, k2⟩))
        go_ret
        exact ⟨rfl, bel3 _ _ _ _⟩
      subst qb'
      have qb : ((0 : Int) != 0) = false := rfl
      by_cases qn' : name = []
      rotate_right
      · have qn : (name != []) = true := by simpa using qn'
        have qn2 : name.isEmpty = false := by simpa using qn'
        have hs : ckB true false false false R 0 0 name = 1 := by simp [ckB, qn']
        rw [hs]
        clear hs
        clear qn'
        go_enter Tryd.func30, Tryd.ntmps30
        go_wp2_with (first | (go_at_call 48; refine (HFI.out _).mono ?_; rintro e w1 ⟨rfl, rfl⟩) | (go_at_call 49; refine (HPL.out _ (bel3 _ _ _ _)).mono ?_; rintro e w2 ⟨rfl, k2⟩))
        go_ret
        exact ⟨rfl, bel3 _ _ _ _⟩
      subst qn'
      have qn : (([] : T) != []) = false := rfl
      cases R with
      | false =>
        have hs : ckB true false false false false 0 0 [] = 2 := by simp [ckB]
        rw [hs]
        clear hs
        go_enter Tryd.func30, Tryd.ntmps30
        go_wp2_with (first | (go_at_call 48; refine (HFI.out _).mono ?_; rintro e w1 ⟨rfl, rfl⟩) | (go_at_call 49; refine (HPL.out _ (bel3 _ _ _ _)).mono ?_; rintro e w2 ⟨rfl, k2⟩))
        go_ret
        exact ⟨rfl, (bel3 w _ _ _).trans (k2.mono (bel3 w _ _ _).size)⟩
      | true =>
        have hs : ckB true false false false true 0 0 [] = 0 := by simp [ckB]
        rw [hs]
        clear hs
        go_enter Tryd.func30, Tryd.ntmps30
        go_wp2_with (first | (go_at_call 48; refine (HFI.out _).mono ?_; rintro e w1 ⟨rfl, rfl⟩) | (go_at_call 49; refine (HPL.out _ (bel3 _ _ _ _)).mono ?_; rintro e w2 ⟨rfl, k2⟩))
        go_ret
        exact ⟨rfl, (bel3 w _ _ _).trans (k2.mono (bel3 w _ _ _).size)⟩
end Go.Proofs.YtdfllhmkgphcmaaDoor
namespace Go.Proofs.YtdfllhmkgphcmaaDoor
open Go.RowKit

/-- How many instructions, as an int counts them. -/
def cntW (bs : List Blk) : Int := bs.foldl (fun c b => Go.RowKit.wrap64 (c + b.ins.length)) 0
theorem cntW_succ {bs : List Blk} {k : Nat} (hk : k < bs.length) : cntW (bs.take (k + 1)) = Go.RowKit.wrap64 (cntW (bs.take k) + bs[k].ins.length) := by
  unfold cntW
  rw [List.take_succ_eq_append_getElem hk, List.foldl_append]
  rfl
/-- The first error. -/
def fe : List Int → Int
  | [] => 0
  | x :: l => if x = 0 then fe l else x
theorem fe_snoc (l : List Int) (x : Int) (h : fe l = 0) : fe (l ++ [x]) = x := by
  induction l with
  | nil => by_cases hx : x = 0 <;> simp [fe, hx]
  | cons y l ih =>
    by_cases hy : y = 0
    · simp only [List.cons_append, fe, if_pos hy] at h ⊢
      exact ih h
    · simp only [fe, if_neg hy] at h
      exact absurd h hy
theorem fe_app (l m : List Int) (h : fe l ≠ 0) : fe (l ++ m) = fe l := by
  induction l with
  | nil => exact absurd rfl h
  | cons y l ih =>
    by_cases hy : y = 0
    · simp only [List.cons_append, fe, if_pos hy] at h ⊢
      exact ih h
    · simp only [List.cons_append, fe, if_neg hy]
theorem fe_at {L : List Int} {k : Nat} (hk : k < L.length) (h0 : fe (L.take k) = 0) : (L[k] ≠ 0 → fe L = L[k]) ∧ (L[k] = 0 → fe (L.take (k + 1)) = 0) := by
  have h1 := fe_snoc (L.take k) L[k] h0
  rw [← List.take_succ_eq_append_getElem hk] at h1
  refine ⟨fun h => ?_, fun h => h1.trans h⟩
  have h2 := fe_app (L.take (k + 1)) (L.drop (k + 1)) (by rw [h1]; exact h)
  rw [List.take_append_drop] at h2
  exact h2.trans h1
def errI (bs : List Blk) (b : Blk) : List Int := b.ins.map fun x => ckI bs b.ins.length x.op x.a x.b x.name
def errB (bs : List Blk) (b : Blk) : Int := if b.cap < 0 ∨ 1000 < b.cap then 2 else fe (errI bs b)
def ordS (ss : List Stt) (s : Stt) : Nat → Int
  | 0 => 0
  | j + 1 => match ss[j]? with
    | none => 0
    | some q => if nmLt q.pack q.id s.pack s.id then 0 else 10
theorem ordS_succ {ss : List Stt} {s q : Stt} {j : Nat} (h : ss[j]? = some q) : ordS ss s (j + 1) = if nmLt q.pack q.id s.pack s.id then 0 else 10 := by simp only [ordS, h]
def errS (bs : List Blk) (ss : List Stt) (i : Nat) : Int := match ss[i]? with
  | none => 0
  | some s => if lab s.pack = false then 6 else if s.id < 1 ∨ 999999 < s.id ∨ plainB bs s.block = false then 2 else ordS ss s i
def errP (p : Prg) : Int := if 2000 < p.bs.length ∨ 20000 < cntW p.bs then 4 else if fe (p.bs.map (errB p.bs)) ≠ 0 then fe (p.bs.map (errB p.bs)) else fe ((List.range p.ss.length).map (errS p.bs p.ss))

theorem heap_lt_cell {w : World} {b i : Nat} {v : Value} (h : w.cell? ⟨b, i, none⟩ = some v) : b < w.heap.size := by
  unfold World.cell? at h
  split at h
  · rename_i hh; exact (Array.getElem?_eq_some_iff.1 hh).1
  · cases h
theorem bAl (w : World) (o : Obj) : Below w.heap.size w (w.alloc o) := (Below.refl _ _).alloc (Nat.le_refl _) _
set_option maxRecDepth 100000 in
set_option maxHeartbeats 8000000 in
theorem check_any (p : Prg) (w : World) (hp : p.Rd w) (hb : p.bs.length ≤ 9223372036854775807) (hs : p.ss.length ≤ 9223372036854775807) (hi : ∀ b ∈ p.bs, b.ins.length ≤ 9223372036854775807) (hnl : ∀ b ∈ p.bs, ∀ x ∈ b.ins, x.name.length ≤ 9223372036854775807) (hnp : ∀ s ∈ p.ss, s.pack.length ≤ 9223372036854775807) :
    Calls Tryd.prog 12 #[p.v] w fun e w' => e = .returned (.int .i64 (errP p)) ∧ Below w.heap.size w w' := by
  unfold Prg.v
  obtain ⟨W, hW⟩ : ∃ W, W = w.alloc (.cells #[.slice p.bA p.bs.length p.bc, .slice p.sA p.ss.length p.sc] 25) := ⟨_, rfl⟩
  have hB0 : Below w.heap.size w W := by rw [hW]; exact (Below.refl _ _).alloc (Nat.le_refl _) _
  have hbx : W.heap[w.heap.size]? = some (.cells #[.slice p.bA p.bs.length p.bc, .slice p.sA p.ss.length p.sc] 25 (0, 0)) := by rw [hW]; exact al_new w _
  have ALL := Lib.hid (fun (V : World) (h : Below W.heap.size W V) => show p.Rd V ∧ V.cell? ⟨w.heap.size, 0, none⟩ = some (.slice p.bA p.bs.length p.bc) ∧ V.cell? ⟨w.heap.size, 1, none⟩ = some (.slice p.sA p.ss.length p.sc) from by
    have hk := (h.block _ (heap_lt hbx)).trans hbx
    exact ⟨(hp.below hB0).below h, by rw [Lib.cell_of_heap hk]; rfl, by rw [Lib.cell_of_heap hk]; rfl⟩)
  obtain ⟨-, x0, x1⟩ := ALL.out W (Below.refl _ _)
  have HB0 := Lib.hid hB0
  have HW := Lib.hid hW
  clear hW hB0 hbx hp
  go_enter Tryd.func12, Tryd.ntmps12
  go_wp2
  rw [← HW.out]
  go_loopw [3, 5, 16] (fun c _ i wr => ∃ k : Nat, k ≤ p.bs.length ∧ i = .int .i64 k ∧ c = .int .i64 (cntW (p.bs.take k)) ∧ Hid (Below W.heap.size W wr)) (fun _ _ i _ => p.bs.length - (intOf i).toNat)
  case atStart => exact ⟨0, Nat.zero_le _, rfl, rfl, Lib.hid (Below.refl _ _)⟩
  case round =>
    obtain ⟨k, hk, rfl, rfl, HB⟩ := hrel
    by_cases hlt : k < p.bs.length
    · obtain ⟨hpr, y0, y1⟩ := ALL.out wr HB.out
      obtain ⟨a, a1, hA, ha, hab, c0, c1, c2⟩ := hpr.b.blk hlt
      have hcs := cntW_succ hlt
      have HCS := Lib.hid hcs
      have HBN := fun o => Lib.hid (HB.out.alloc HB.out.size o)
      have hA' := Lib.hid hA
      rw [hA]
      clear hcs hpr x0 x1 hA
      go_wp2
      exact ⟨⟨k + 1, by omega, by simp, by rw [HCS.out], HBN _⟩, by simp [intOf]; omega⟩
    · obtain rfl : k = p.bs.length := by omega
      rw [List.take_length]
      obtain ⟨hpr, y0, y1⟩ := ALL.out wr HB.out
      have HB1 := Lib.hid (HB0.out.trans (HB.out.mono HB0.out.size))
      by_cases h4 : 2000 < p.bs.length ∨ 20000 < cntW p.bs
      · have hE : Hid (errP p = 4) := Lib.hid (by unfold errP; rw [if_pos h4])
        clear hpr x0 x1
        by_cases h5 : 2000 < p.bs.length
        · have z1 : (2000 : Int) < (p.bs.length : Int) := by omega
          go_wp2
          go_ret
          exact ⟨by rw [hE.out]; rfl, HB1.out⟩
        · have z1 : ¬ (2000 : Int) < (p.bs.length : Int) := by omega
          have z2 : 20000 < cntW p.bs := h4.resolve_left h5
          go_wp2
          go_ret
          exact ⟨by rw [hE.out]; rfl, HB1.out⟩
      · have z1 : ¬ (2000 : Int) < (p.bs.length : Int) := by omega
        have z2 : ¬ 20000 < cntW p.bs := fun h => h4 (.inr h)
        have hE : Hid (errP p = if fe (p.bs.map (errB p.bs)) ≠ 0 then fe (p.bs.map (errB p.bs)) else fe ((List.range p.ss.length).map (errS p.bs p.ss))) := Lib.hid (by unfold errP; rw [if_neg h4])
        clear hpr x0 x1 HB1 h4
        have FB := Lib.hid (Nat.le_refl 0)
        go_wp2
        go_loopw [7, 9, 10, 37, 49, 50, 51, 52] (fun _ _ _ i _ _ _ _ wr => ∃ k : Nat, k ≤ p.bs.length ∧ i = .int .i64 k ∧ Hid (Below W.heap.size W wr) ∧ Hid (fe ((p.bs.map (errB p.bs)).take k) = 0)) (fun _ _ _ i _ _ _ _ _ => p.bs.length - (intOf i).toNat)
        case atStart => exact ⟨0, Nat.zero_le _, rfl, HB, Lib.hid rfl⟩
        case round =>
          clear HB
          obtain ⟨k, hk, rfl, HB, HF⟩ := hrel
          by_cases hlt : k < p.bs.length
          · obtain ⟨hpr, y0', y1'⟩ := ALL.out wr HB.out
            obtain ⟨a, a1, hA, ha, hab, c0, c1, c2⟩ := hpr.b.blk hlt
            have hA' := Lib.hid hA
            obtain ⟨blk, hblk⟩ : ∃ blk, blk = p.bs[k] := ⟨_, rfl⟩
            rw [← hblk] at c0 c1 c2
            have HBK := Lib.hid hblk
            have hml : k < (p.bs.map (errB p.bs)).length := by simpa using hlt
            obtain ⟨f1, f2⟩ := fe_at hml HF.out
            rw [List.getElem_map, ← hblk] at f1 f2
            have F1 := Lib.hid f1
            have F2 := Lib.hid f2
            have hbm : blk ∈ p.bs := by rw [hblk]; exact List.getElem_mem hlt
            have hil := hi blk hbm
            have HBM := Lib.hid hbm
            rw [hA]
            clear f1 f2 hpr hblk hA hbm y0 y1
            by_cases hc : blk.cap < 0 ∨ 1000 < blk.cap
            · have e2 : errB p.bs blk = 2 := by unfold errB; rw [if_pos hc]
              have hE2 : Hid (errP p = 2) := Lib.hid (by rw [hE.out, F1.out (by rw [e2]; decide), e2]; rfl)
              have HB1 := fun o => Lib.hid (HB0.out.trans ((HB.out.alloc HB.out.size o).mono HB0.out.size))
              clear e2
              by_cases hc0 : blk.cap < 0
              · go_wp2
                go_ret
                exact ⟨by rw [hE2.out]; rfl, (HB1 _).out⟩
              · have hc1 : 1000 < blk.cap := hc.resolve_left hc0
                go_wp2
                go_ret
                exact ⟨by rw [hE2.out]; rfl, (HB1 _).out⟩
            · have hc0 : ¬ blk.cap < 0 := fun h => hc (.inl h)
              have hc1 : ¬ 1000 < blk.cap := fun h => hc (.inr h)
              have eB : Hid (errB p.bs blk = fe (errI p.bs blk)) := Lib.hid (by unfold errB; rw [if_neg hc])
              have eL : (errI p.bs blk).length = blk.ins.length := by simp [errI]
              have HBA := fun o => Lib.hid (HB.out.alloc HB.out.size o)
              have kn := fun o => Lib.hid (al_new wr o)
              clear hc
              go_wp2
              generalize hM7 : wr.heap.size = M7 at *
              have kn7 := kn (.cells #[.int .i64 blk.cap, .bool blk.param, .slice blk.A blk.ins.length blk.c] 43)
              have hb7 := HBA (.cells #[.int .i64 blk.cap, .bool blk.param, .slice blk.A blk.ins.length blk.c] 43)
              clear kn HBA
              generalize wr.alloc (.cells #[.int .i64 blk.cap, .bool blk.param, .slice blk.A blk.ins.length blk.c] 43) = V7 at *
              have ALL7 := Lib.hid (fun (v : World) (h : Below V7.heap.size V7 v) => show (p.Rd v ∧ v.cell? ⟨w.heap.size, 0, none⟩ = some (.slice p.bA p.bs.length p.bc) ∧ v.cell? ⟨w.heap.size, 1, none⟩ = some (.slice p.sA p.ss.length p.sc)) ∧ v.cell? ⟨M7, 0, none⟩ = some (.int .i64 blk.cap) ∧ v.cell? ⟨M7, 1, none⟩ = some (.bool blk.param) ∧ v.cell? ⟨M7, 2, none⟩ = some (.slice blk.A blk.ins.length blk.c) ∧ Below W.heap.size W v from by
                have hk := (h.block _ (heap_lt kn7.out)).trans kn7.out
                have hb := hb7.out.trans (h.mono hb7.out.size)
                exact ⟨ALL.out v hb, by rw [Lib.cell_of_heap hk]; rfl, by rw [Lib.cell_of_heap hk]; rfl, by rw [Lib.cell_of_heap hk]; rfl, hb⟩)
              clear hM7 hb7 kn7
              go_loopw [9, 10, 52] (fun _ _ i v => ∃ j : Nat, j ≤ blk.ins.length ∧ i = .int .i64 j ∧ Hid (Below V7.heap.size V7 v) ∧ Hid (fe ((errI p.bs blk).take j) = 0)) (fun _ _ i _ => blk.ins.length - (intOf i).toNat)
              case atStart => exact ⟨0, Nat.zero_le _, rfl, Lib.hid (Below.refl _ _), Lib.hid rfl⟩
              case round =>
                obtain ⟨j, hj, rfl, HV, HG⟩ := hrel
                obtain ⟨⟨pv, y0, y1⟩, d0, d1, d2, bv⟩ := ALL7.out _ HV.out
                by_cases hjl : j < blk.ins.length
                · obtain ⟨b', b1, hbA, hb1, hbb, i0, i1, i2, i3⟩ := (pv.i blk HBM.out).ins hjl
                  obtain ⟨x, hx⟩ : ∃ x, x = blk.ins[j] := ⟨_, rfl⟩
                  rw [← hx] at i0 i1 i2 i3
                  have hxm : x ∈ blk.ins := by rw [hx]; exact List.getElem_mem hjl
                  obtain ⟨g1, g2⟩ := fe_at (L := errI p.bs blk) (by rw [eL]; exact hjl) HG.out
                  have eg : (errI p.bs blk)[j]'(by rw [eL]; exact hjl) = ckI p.bs blk.ins.length x.op x.a x.b x.name := by simp [errI, hx]
                  rw [eg] at g1 g2
                  have G1 := Lib.hid g1
                  have G2 := Lib.hid g2
                  have yl := heap_lt_cell y0
                  have dl := heap_lt_cell d0
                  have y0a := fun o => cell_al y0 yl o
                  have y1a := fun o => cell_al y1 yl o
                  have d0a := fun o => cell_al d0 dl o
                  have d1a := fun o => cell_al d1 dl o
                  have d2a := fun o => cell_al d2 dl o
                  have CK : ∀ o, Calls Tryd.prog 25 #[.agg #[.slice p.bA p.bs.length p.bc, .slice p.sA p.ss.length p.sc], .agg #[.int .i64 blk.cap, .bool blk.param, .slice blk.A blk.ins.length blk.c], .agg #[.int .i64 x.op, .int .i64 x.a, .int .i64 x.b, .string ⟨x.name.toArray⟩]] (wr.alloc o) fun e w' => e = .returned (.int .i64 (ckI p.bs blk.ins.length x.op x.a x.b x.name)) ∧ Below wr.heap.size wr w' := fun o =>
                    (checkInstr_any p blk x.op x.a x.b x.name (wr.alloc o) (pv.below (bAl _ o)) (hnl blk HBM.out x hxm)).mono fun e w' h => ⟨h.1, (bAl wr o).trans (h.2.mono (by simp))⟩
                  have eRet : ckI p.bs blk.ins.length x.op x.a x.b x.name ≠ 0 → errP p = ckI p.bs blk.ins.length x.op x.a x.b x.name := fun h => by
                    have h1 := g1 h
                    have h2 : errB p.bs blk = ckI p.bs blk.ins.length x.op x.a x.b x.name := eB.out.trans h1
                    have h3 := F1.out (by rw [h2]; exact h)
                    rw [hE.out, h3, h2, if_pos h]
                  have ER := Lib.hid eRet
                  generalize ckI p.bs blk.ins.length x.op x.a x.b x.name = ck at *
                  have CK := Lib.hid CK
                  have BV := Lib.hid bv
                  rw [hbA]
                  clear g1 g2 eg hbA hx hxm pv bv eRet yl dl c0 c1 c2 y0' y1'
                  by_cases hck : ck = 0
                  · have t1 : (ck != 0) = false := by simp [hck]
                    have G3 := Lib.hid (G2.out hck)
                    have NB : ∀ w', Below wr.heap.size wr w' → Below V7.heap.size V7 w' := fun w' h => HV.out.trans (h.mono HV.out.size)
                    have NB := Lib.hid NB
                    clear hck
                    go_wp2_with (go_at_call 25; refine (CK.out _).mono ?_; rintro e w3 ⟨rfl, b3⟩; have B3 := Lib.hid b3; clear b3)
                    exact ⟨⟨j + 1, by omega, by simp, Lib.hid (NB.out _ B3.out), G3⟩, by simp [intOf]; omega⟩
                  · have t1 : (ck != 0) = true := by simpa using hck
                    have E3 := Lib.hid (ER.out hck)
                    have NB : ∀ w', Below wr.heap.size wr w' → Below w.heap.size w w' := fun w' h => HB0.out.trans ((BV.out.trans (h.mono BV.out.size)).mono HB0.out.size)
                    have NB := Lib.hid NB
                    clear hck
                    go_wp2_with (go_at_call 25; refine (CK.out _).mono ?_; rintro e w3 ⟨rfl, b3⟩; have B3 := Lib.hid b3; clear b3)
                    go_ret
                    exact ⟨by rw [E3.out]; rfl, NB.out _ B3.out⟩
                · obtain rfl : j = blk.ins.length := by omega
                  have h0 := HG.out
                  rw [← eL, List.take_length] at h0
                  have F3 := Lib.hid (F2.out (by rw [eB.out]; exact h0))
                  have BV := Lib.hid bv
                  clear h0 pv bv c0 c1 c2 y0' y1'
                  go_wp2
                  exact ⟨⟨k + 1, by omega, by simp, BV, F3⟩, by simp [intOf]; omega⟩
          · obtain rfl : k = p.bs.length := by omega
            have h0 := HF.out
            rw [show (p.bs.map (errB p.bs)).take p.bs.length = p.bs.map (errB p.bs) from List.take_of_length_le (by simp)] at h0
            have hE3 : Hid (errP p = fe ((List.range p.ss.length).map (errS p.bs p.ss))) := Lib.hid (by rw [hE.out, h0]; rfl)
            obtain ⟨hpr, y0, y1⟩ := ALL.out wr HB.out
            clear h0 HF hE hpr
            go_wp2
            clear y0 y1
            go_loopw [11, 12, 68, 69, 70, 71, 72, 73] (fun _ _ i _ _ _ _ _ wr => ∃ k : Nat, k ≤ p.ss.length ∧ i = .int .i64 k ∧ Hid (Below W.heap.size W wr) ∧ Hid (fe (((List.range p.ss.length).map (errS p.bs p.ss)).take k) = 0)) (fun _ _ i _ _ _ _ _ _ => p.ss.length - (intOf i).toNat)
            case atStart => exact ⟨0, Nat.zero_le _, rfl, HB, Lib.hid rfl⟩
            case round =>
              clear HB
              obtain ⟨k, hk, rfl, HB, HF⟩ := hrel
              by_cases hlt : k < p.ss.length
              · obtain ⟨hpr, y0, y1⟩ := ALL.out _ HB.out
                obtain ⟨a, a1, hA, ha, hab, c0, c1, c2⟩ := hpr.s.stt hlt
                obtain ⟨s, hs'⟩ : ∃ s, s = p.ss[k] := ⟨_, rfl⟩
                rw [← hs'] at c0 c1 c2
                have hsm : s ∈ p.ss := by rw [hs']; exact List.getElem_mem hlt
                have hsk : p.ss[k]? = some s := by rw [hs']; simp [hlt]
                obtain ⟨f1, f2⟩ := fe_at (L := (List.range p.ss.length).map (errS p.bs p.ss)) (by simpa using hlt) HF.out
                have eg : ((List.range p.ss.length).map (errS p.bs p.ss))[k]'(by simpa using hlt) = errS p.bs p.ss k := by simp
                rw [eg] at f1 f2
                have ER : Hid (errS p.bs p.ss k ≠ 0 → errP p = errS p.bs p.ss k) := Lib.hid fun h => hE3.out.trans (f1 h)
                have F2 := Lib.hid f2
                have yl := heap_lt_cell y0
                have y0a := fun o => cell_al y0 yl o
                have y1a := fun o => cell_al y1 yl o
                have LA : ∀ o, Calls Tryd.prog 26 #[tv s.pack] (wr.alloc o) fun e w' => e = .returned (.bool (lab s.pack)) ∧ Below (wr.alloc o).heap.size (wr.alloc o) w' := fun o => label_any s.pack (wr.alloc o) (hnp s hsm)
                have LA := Lib.hid LA
                have HSK := Lib.hid hsk
                have HPR := Lib.hid hpr
                have HA := Lib.hid hA
                have NB : ∀ o w', Below (wr.alloc o).heap.size (wr.alloc o) w' → Below W.heap.size W w' ∧ Below w.heap.size w w' := fun o w' h => by
                  have h1 := HB.out.trans (((bAl wr o).trans (h.mono (by simp))).mono HB.out.size)
                  exact ⟨h1, HB0.out.trans (h1.mono HB0.out.size)⟩
                have NB := Lib.hid NB
                rw [hA]
                clear f1 f2 eg hsm hsk hpr hA hs'
                cases hlab : lab s.pack with
                | false =>
                  have E6 : Hid (errP p = 6) := Lib.hid (by
                    have : errS p.bs p.ss k = 6 := by unfold errS; rw [HSK.out]; simp only [hlab, if_true]
                    rw [ER.out (by rw [this]; decide), this])
                  rw [hlab] at LA
                  clear hlab
                  go_wp2_with (go_at_call 26; refine (LA.out _).mono ?_; rintro e w3 ⟨rfl, b3⟩; have B3 := Lib.hid (NB.out _ _ b3); clear b3)
                  go_ret
                  exact ⟨by rw [E6.out]; rfl, B3.out.2⟩
                | true =>
                  rw [hlab] at LA
                  have hsA := HA.out
                  have PL : ∀ V, Below W.heap.size W V → Calls Tryd.prog 27 #[.agg #[.slice p.bA p.bs.length p.bc, .slice (some a) p.ss.length p.sc], .int .i64 s.block] V fun e w' => e = .returned (.bool (plainB p.bs s.block)) ∧ Below V.heap.size V w' := fun V hV => by
                    have h := plain_any p s.block V (ALL.out V hV).1
                    unfold Prg.v at h
                    rw [hsA] at h
                    exact h
                  have PL := Lib.hid PL
                  have BOX : ∀ o w', Below (wr.alloc (.cells #[.string ⟨s.pack.toArray⟩, .int .i64 s.id, .int .i64 s.block] 69)).heap.size (wr.alloc (.cells #[.string ⟨s.pack.toArray⟩, .int .i64 s.id, .int .i64 s.block] 69)) w' → o = (0 : Nat) → w'.cell? ⟨wr.heap.size, 0, none⟩ = some (.string ⟨s.pack.toArray⟩) ∧ w'.cell? ⟨wr.heap.size, 1, none⟩ = some (.int .i64 s.id) ∧ w'.cell? ⟨wr.heap.size, 2, none⟩ = some (.int .i64 s.block) ∧ w'.cell? ⟨w.heap.size, 0, none⟩ = some (.slice p.bA p.bs.length p.bc) ∧ w'.cell? ⟨w.heap.size, 1, none⟩ = some (.slice (some a) p.ss.length p.sc) := fun o w' h _ => by
                    have k3 := (h.block wr.heap.size (by simp)).trans (al_new wr _)
                    obtain ⟨_, k4, k5⟩ := ALL.out w' (NB.out _ _ h).1
                    rw [hsA] at k5
                    exact ⟨by rw [Lib.cell_of_heap k3]; rfl, by rw [Lib.cell_of_heap k3]; rfl, by rw [Lib.cell_of_heap k3]; rfl, k4, k5⟩
                  have BOX := Lib.hid BOX
                  clear hsA y0 y1 y0a y1a
                  by_cases hbad : s.id < 1 ∨ 999999 < s.id ∨ plainB p.bs s.block = false
                  · have E2 : Hid (errP p = 2) := Lib.hid (by
                      have : errS p.bs p.ss k = 2 := by unfold errS; rw [HSK.out]; simp only [hlab, Bool.true_eq_false, if_false, if_pos hbad]
                      rw [ER.out (by rw [this]; decide), this])
                    clear hlab
                    by_cases hb1 : s.id < 1
                    · go_wp2_with (go_at_call 26; refine (LA.out _).mono ?_; rintro e w3 ⟨rfl, b3⟩; obtain ⟨q0, q1, q2, q3, q4⟩ := BOX.out 0 w3 b3 rfl; have B3 := Lib.hid (NB.out _ _ b3); clear b3)
                      go_ret
                      exact ⟨by rw [E2.out]; rfl, B3.out.2⟩
                    · by_cases hb2 : 999999 < s.id
                      · go_wp2_with (go_at_call 26; refine (LA.out _).mono ?_; rintro e w3 ⟨rfl, b3⟩; obtain ⟨q0, q1, q2, q3, q4⟩ := BOX.out 0 w3 b3 rfl; have B3 := Lib.hid (NB.out _ _ b3); clear b3)
                        go_ret
                        exact ⟨by rw [E2.out]; rfl, B3.out.2⟩
                      · have hb3 : plainB p.bs s.block = false := (hbad.resolve_left hb1).resolve_left hb2
                        rw [hb3] at PL
                        clear hb3 hbad
                        go_wp2_with (first | (go_at_call 26; refine (LA.out _).mono ?_; rintro e w3 ⟨rfl, b3⟩; obtain ⟨q0, q1, q2, q3, q4⟩ := BOX.out 0 w3 b3 rfl; have B3 := Lib.hid (NB.out _ _ b3); clear b3) | (go_at_call 27; refine (PL.out _ B3.out.1).mono ?_; rintro e w4 ⟨rfl, b4⟩; have B4 := Lib.hid (B3.out.2.trans (b4.mono B3.out.2.size)); clear b4))
                        go_ret
                        exact ⟨by rw [E2.out]; rfl, B4.out⟩
                  · have hb1 : ¬ s.id < 1 := fun h => hbad (.inl h)
                    have hb2 : ¬ 999999 < s.id := fun h => hbad (.inr (.inl h))
                    have hb3 : plainB p.bs s.block = true := by
                      cases h : plainB p.bs s.block with
                      | true => rfl
                      | false => exact absurd (.inr (.inr h)) hbad
                    rw [hb3] at PL
                    have eS : errS p.bs p.ss k = ordS p.ss s k := by
                      unfold errS
                      rw [HSK.out]
                      simp only [hlab, Bool.true_eq_false, if_false, if_neg hbad]
                    have ES := Lib.hid eS
                    clear eS hb3 hbad hlab
                    go_wp2_with (first | (go_at_call 26; refine (LA.out _).mono ?_; rintro e w3 ⟨rfl, b3⟩; obtain ⟨q0, q1, q2, q3, q4⟩ := BOX.out 0 w3 b3 rfl; have B3 := Lib.hid (NB.out _ _ b3); have BB3 := Lib.hid b3; clear b3) | (go_at_call 27; refine (PL.out _ B3.out.1).mono ?_; rintro e w4 ⟨rfl, b4⟩; clear q0 q1 q2 q3 q4; have b5 := BB3.out.trans (b4.mono BB3.out.size); obtain ⟨q0, q1, q2, q3, q4⟩ := BOX.out 0 w4 b5 rfl; have B4 := Lib.hid (NB.out _ _ b5); clear b4 b5))
                    by_cases hk0 : k = 0
                    · subst hk0
                      have F3 := Lib.hid (F2.out (by rw [ES.out]; rfl))
                      have D4 := Lib.hid (fun n => show Below W.heap.size W (w4.drewN n) from ⟨B4.out.1.os, B4.out.1.tape, B4.out.1.output, B4.out.1.size, B4.out.1.block⟩)
                      clear ES ER
                      go_quiet (fail)
                      go_wp2
                      exact ⟨⟨1, by omega, rfl, Lib.hid (D4.out _), F3⟩, by simp [intOf]; omega⟩
                    · obtain ⟨j, hkj⟩ : ∃ j, k = j + 1 := ⟨k - 1, by omega⟩
                      have hjl : j < p.ss.length := by omega
                      obtain ⟨a', e1, hA', he1, heb, v0, v1, v2⟩ := (ALL.out w4 B4.out.1).1.s.stt hjl
                      obtain rfl : a' = a := by have := HA.out; rw [hA'] at this; exact Option.some.inj this
                      obtain ⟨q, hq⟩ : ∃ q, q = p.ss[j] := ⟨_, rfl⟩
                      rw [← hq] at v0 v1 v2
                      have hqk : p.ss[j]? = some q := by rw [hq]; simp [hjl]
                      have eo : errS p.bs p.ss k = if nmLt q.pack q.id s.pack s.id then 0 else 10 := by
                        rw [ES.out, hkj, ordS_succ hqk]
                      have hcn := cN_lt q.pack q.id s.pack s.id
                      have CMP : ∀ V, Calls Tryd.prog 28 #[.agg #[.string ⟨q.pack.toArray⟩, .int .i64 q.id], .agg #[.string ⟨s.pack.toArray⟩, .int .i64 s.id]] V fun e w' => e = .returned (.int .i64 (cN q.pack q.id s.pack s.id)) ∧ Below V.heap.size V w' := fun V => compare_any q.pack q.id s.pack s.id V
                      have CMP := Lib.hid CMP
                      have EO := Lib.hid eo
                      have w1' : IntKind.i64.wrap ((k : Int) - 1) = (j : Int) := by rw [IntWalk.i64_in _ (by omega)]; omega
                      have w2' : (0 : Int) < (k : Int) := by omega
                      have w2n : 0 < k := by omega
                      have w3' : ((j : Int)).toNat = j := by omega
                      have w4' : (0 : Int) ≤ (j : Int) := by omega
                      have w5' : (j : Int) < (p.ss.length : Int) := by omega
                      have D4 := Lib.hid (fun n (w' : World) (h : Below (w4.drewN n).heap.size (w4.drewN n) w') => show Below W.heap.size W w' ∧ Below w.heap.size w w' from by
                        have h1 : Below W.heap.size W w' := B4.out.1.trans (Below.mono (⟨h.os, h.tape, h.output, h.size, h.block⟩ : Below w4.heap.size w4 w') B4.out.1.size)
                        exact ⟨h1, HB0.out.trans (h1.mono HB0.out.size)⟩)
                      generalize nmLt q.pack q.id s.pack s.id = LT at *
                      generalize cN q.pack q.id s.pack s.id = CN at *
                      clear eo hqk hq hA' hkj ES
                      have hcn' : (0 : Int) ≤ CN ↔ LT = false := by
                        cases LT <;> simpa using hcn
                      clear hcn
                      cases LT with
                      | true =>
                        have g0 : ¬ (0 : Int) ≤ CN := fun h => by have := hcn'.1 h; cases this
                        have F3 := Lib.hid (F2.out (by rw [EO.out]; rfl))
                        clear hcn'
                        go_still_tail 12, (by kernel_rfl)
                        change wpList _ _ _ _ _ w4.drew
                        generalize hw5 : w4.drew = w5
                        have d5 : ∀ w', Below w5.heap.size w5 w' → Below W.heap.size W w' ∧ Below w.heap.size w w' := fun w' h => D4.out 1 w' (by subst hw5; exact h)
                        have D5 := Lib.hid d5
                        clear d5 hw5 D4
                        go_wp2_with (go_at_call 28; refine (CMP.out _).mono ?_; rintro e w6 ⟨rfl, b6⟩; have B6 := Lib.hid (D5.out _ b6); clear b6)
                        exact ⟨⟨k + 1, by omega, by simp, Lib.hid B6.out.1, F3⟩, by simp [intOf]; omega⟩
                      | false =>
                        have g0 : (0 : Int) ≤ CN := hcn'.2 rfl
                        have E10 : Hid (errP p = 10) := Lib.hid (by rw [ER.out (by rw [EO.out]; decide), EO.out]; rfl)
                        clear hcn'
                        go_still_tail 12, (by kernel_rfl)
                        change wpList _ _ _ _ _ w4.drew
                        generalize hw5 : w4.drew = w5
                        have d5 : ∀ w', Below w5.heap.size w5 w' → Below W.heap.size W w' ∧ Below w.heap.size w w' := fun w' h => D4.out 1 w' (by subst hw5; exact h)
                        have D5 := Lib.hid d5
                        clear d5 hw5 D4
                        go_wp2_with (go_at_call 28; refine (CMP.out _).mono ?_; rintro e w6 ⟨rfl, b6⟩; have B6 := Lib.hid (D5.out _ b6); clear b6)
                        go_ret
                        exact ⟨by rw [E10.out]; rfl, B6.out.2⟩
              · obtain rfl : k = p.ss.length := by omega
                have h0 := HF.out
                rw [List.take_of_length_le (by simp)] at h0
                have E0 : Hid (errP p = 0) := Lib.hid (by rw [hE3.out, h0])
                have HB1 := Lib.hid (HB0.out.trans (HB.out.mono HB0.out.size))
                clear h0
                go_wp2
                go_ret
                exact ⟨by rw [E0.out]; rfl, HB1.out⟩
end Go.Proofs.YtdfllhmkgphcmaaDoor

/- Single operations at a frame that is a letter. -/
import Derived.Test.YtgenloemohcpcaaInv
namespace Go.Proofs.Ytgenloemohcpcaa
open Go.RowKit

theorem wp_of_value {P : Program} {o : Oper} {a : Act} {w w' : World} {K : Act → World → Prop} {Q : Exit → Act → World → Prop} {v : Value} (h : (execOp a.eval o).run P w = .ok (.value v) w') (hK : K (a.put o.dst v) w') : o.wp P a w K Q := by
  unfold Oper.wp; rw [h]; exact hK
theorem wp_of_skip {P : Program} {o : Oper} {a : Act} {w w' : World} {K : Act → World → Prop} {Q : Exit → Act → World → Prop} (h : (execOp a.eval o).run P w = .ok .skip w') (hK : K (a.put o.dst undef) w') : o.wp P a w K Q := by
  unfold Oper.wp; rw [h]; exact hK
theorem wp_of_enter {P : Program} {o : Oper} {a : Act} {w w' : World} {K : Act → World → Prop} {Q : Exit → Act → World → Prop} {f : FuncId} {args : Array Value} (h : (execOp a.eval o).run P w = .ok (.enter f args) w')
    (hK : Calls P f args w' fun e w'' => ∃ v, e = .returned v ∧ K (a.put o.dst v) w'') : o.wp P a w K Q := by
  unfold Oper.wp; rw [h, Oper.upon_enter]
  refine hK.mono ?_
  rintro e w'' ⟨v, rfl, h⟩
  exact h

theorem op_index {o : Oper} {A : Act} {w : World} (G : Nat) (ev : A.eval (.tmp 3) = .pointer (some ⟨G, 0, none⟩)) (k : Nat) (hk : k < 4) (ho : o.op = .indexAddr 33 (.tmp 3) (.const (.int .i64 k))) :
    (execOp A.eval o).run Try.prog w = .ok (.value (.pointer (some ⟨G, k, none⟩))) w := by
  obtain ⟨d, op, t, p, af, g⟩ := o
  simp only at ho
  subst ho
  unfold Act.eval at ev
  have : k = 0 ∨ k = 1 ∨ k = 2 ∨ k = 3 := by omega
  rcases this with rfl | rfl | rfl | rfl <;> go_simp
theorem op_load {o : Oper} {A : Act} {w : World} (t0 : Nat) (p : Addr) (v : Value) (ev : A.eval (.tmp t0) = .pointer (some p)) (hc : w.cell? p = some v) (ho : o.op = .load 9 (.tmp t0)) :
    (execOp A.eval o).run Try.prog w = .ok (.value v) w := by
  obtain ⟨d, op, t, p, af, g⟩ := o
  simp only at ho
  subst ho
  unfold Act.eval at ev
  go_simp
theorem op_of {o : Oper} {A : Act} {w : World} (t0 : Nat) (v : Value) (ev : A.eval (.tmp t0) = v) (ho : ∃ ts, o.op = .call { callee := .value (.func 16), args := #[.tmp t0], argTypes := ts }) :
    (execOp A.eval o).run Try.prog w = .ok (.enter 16 #[v]) w := by
  obtain ⟨d, op, t, p, af, g⟩ := o
  obtain ⟨ts, ho⟩ := ho
  simp only at ho
  subst ho
  unfold Act.eval at ev
  go_simp
theorem op_alloc {o : Oper} {A : Act} {w : World} (ho : o.op = .alloc 24) :
    (execOp A.eval o).run Try.prog w = .ok (.value (.pointer (some ⟨w.heap.size, 0, none⟩))) (w.alloc (.cells #[.slice none 0 0, .slice none 0 0] 24)) := by
  obtain ⟨d, op, t, p, af, g⟩ := o
  simp only at ho
  subst ho
  go_simp
theorem op_store {o : Oper} {A : Act} {w : World} (t0 t1 g : Nat) (s : SR) (ev : A.eval (.tmp t0) = .pointer (some ⟨g, 0, none⟩)) (ev' : A.eval (.tmp t1) = s.val) (bk : BK w g (.slice none 0 0) (.slice none 0 0)) (ho : o.op = .store 24 (.tmp t0) (.tmp t1)) :
    (execOp A.eval o).run Try.prog w = .ok .skip ((w.setCell ⟨g, 0, none⟩ (.slice s.A s.L.length s.c)).setCell ⟨g, 1, none⟩ (.slice s.B s.M.length s.d)) := by
  obtain ⟨d, op, t, p, af, gg⟩ := o
  simp only at ho
  subst ho
  have f0 := bk.c0
  have f1 := bk.c1
  have f2 := bk.f0 0
  have f3 := bk.f0 1
  unfold Act.eval at ev ev'
  unfold SR.val sv at ev'
  go_simp
end Go.Proofs.Ytgenloemohcpcaa

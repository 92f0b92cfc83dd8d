/- Rows of instructions that a law puts together. -/
import Derived.Test.YtdfllhmkgphcmaaDoorLtA
namespace Go.Proofs.YtdfllhmkgphcmaaDoor
open Go.RowKit

/-- A row of the law's own in a slice value. -/
structure CR (w : World) (L : List Ins) (v : Value) (V : World) : Prop where
  o : OR 45 4 Ins.cs V w.heap.size v L
  gr : w.grownBy V none
theorem CR.start (w : World) : CR w [] (.slice (some ⟨w.heap.size, 0, none⟩) 0 0) (w.alloc (.cells #[] 45)) := ⟨OR.empty (Nat.le_refl _), World.grownBy_alloc w _ none⟩
theorem CR.grow {w V V' : World} {L : List Ins} {v : Value} (h : CR w L v V) (g : V.grownBy V' none) : CR w L v V' := ⟨h.o.grow g, h.gr.trans g⟩
theorem CR.some {w V : World} {L : List Ins} {v : Value} (h : CR w L v V) (hL : L ≠ []) : ∃ g c, v = .slice (some ⟨g, 0, none⟩) L.length c ∧ g < V.heap.size ∧ w.heap.size ≤ g := by
  have h0 := h.o
  rcases h0.2 with ⟨rfl, hl⟩ | ⟨g, cap, cur, rfl, hg, hh, hnc, hm, hs, hx⟩
  · exact absurd (List.eq_nil_of_length_eq_zero hl) hL
  · exact ⟨g, cap, rfl, (h.o.lt g rfl).2, (h.o.lt g rfl).1⟩
theorem CR.rd {w V : World} {L : List Ins} {A : Option Addr} {c : Nat} (h : CR w L (.slice A L.length c) V) : RD 4 Ins.cs V A L := by
  obtain ⟨A', c', e, hr⟩ := h.o.form Ins.cs_len
  cases e
  exact hr
theorem wpList_appC {w V W : World} {ops : Array Oper} {rest : List Oper} {o : Oper} {a : Act} {Q : Exit → Act → World → Prop} (hgd : o.guard = none) (s x : Operand)
    (ho : o.op = .call { callee := .builtin .append, args := #[s, x], argTypes := #[41, 41] }) {v : Value} {L : List Ins} {cs : Array Value} (hW : W = V.alloc (.cells cs 45)) (hown : CR w L v V) (hs : a.eval s = v)
    (M : List Ins) {m : Nat} (hm : M.length = m) (hx : a.eval x = .slice (some ⟨V.heap.size, 0, none⟩) m m) (hM : cs = (M.flatMap Ins.cs).toArray) (hsz : L.length + M.length ≤ 1000000)
    (h : ∀ v' w', CR w (L ++ M) v' w' → wpList Tryd.prog ops Q rest (a.put o.dst v') w') : wpList Tryd.prog ops Q (o :: rest) a W := by
  subst hW
  refine wpList_appI _ hgd s x ho w.heap.size hs (hown.o.alloc _) hm hx (ri_new V M hM) (by simp) hsz (by have := hown.gr.size; simp; omega) fun v' w' h1 h2 _ => ?_
  exact h v' w' ⟨h1, OR.gr (hown.gr.trans (World.grownBy_alloc V _ none)) (hown.o.alloc _) (Nat.le_refl _) h2⟩
end Go.Proofs.YtdfllhmkgphcmaaDoor

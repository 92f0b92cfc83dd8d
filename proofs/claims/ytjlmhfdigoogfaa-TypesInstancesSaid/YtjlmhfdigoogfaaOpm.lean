/- Three schemes that came in. -/
import Derived.Test.YtjlmhfdigoogfaaOpn
import Derived.OpenShut
namespace Go.Proofs.Ytjlmhfdigoogfaa
open Go.ChangeShapes Go.WideShapes Go.ChangeAt Go.RowKit Go.Joins

section
variable {H : Type} {enc : TypeId × Value → H} {W : World} {base : Nat} {spare : Nat → Bool} {held : Bool}
def Sc.cs (s : Sc) : List Value := [iv s.vars, iv s.ty.kind, iv s.ty.var, .slice s.ty.A s.ty.sub.length s.ty.c]
set_option maxRecDepth 100000 in
theorem read_sc (k : Nat) (vs : List Value) (y : DataW H × List MemPlace) (h : DataW.trod enc Try.prog W base spare held k 47 vs = some y) (hl : vs.length = 4) : ∃ x : Sc, vs = x.cs ∧ x.ty.Rd W := by
  obtain ⟨n, y0, y1, hn, h0, h1⟩ := fuel2 Try.underlying47 h
  obtain ⟨a, b, c, d, rfl⟩ := list4 hl
  simp only [cells3, cells24, List.drop_zero, List.drop_succ_cons, List.take_succ_cons, List.take_zero] at h0 h1
  obtain ⟨n0, e0, _⟩ := DataW.trod_int Try.underlying3 h0
  obtain ⟨x, e1, hx⟩ := read_ty _ _ _ h1 rfl
  simp only [Ty.cs, List.cons.injEq, and_true] at e0 e1
  obtain ⟨rfl, rfl, rfl⟩ := e1
  subst e0
  exact ⟨⟨n0, x⟩, rfl, hx⟩
theorem cells55 : Try.prog.cellsOf 55 = 12 := by kernel_rfl
set_option maxRecDepth 100000 in
theorem aggA_of {r : Reach} {b0 : Nat} {v : Value} (hv : Value.okWide Try.prog W r b0 55 v) : ∃ l : List Value, v = .agg l.toArray ∧ l.length = 12 := by
  simp only [Value.okWide, Try.underlying55] at hv
  obtain ⟨cs, rfl, hsz, -⟩ := hv
  exact ⟨cs.toList, by simp, by simpa [cells55] using hsz⟩
set_option maxRecDepth 100000 in
theorem open_arr {r : Reach} {b0 : Nat} {v : Value} {d : DataW H} {ps : List MemPlace} (hv : Value.okWide Try.prog W r b0 55 v) (h : DataW.Trod enc Try.prog W base spare held 55 v d ps) : ∃ p q r : Sc, v = .agg #[iv p.vars, iv p.ty.kind, iv p.ty.var, .slice p.ty.A p.ty.sub.length p.ty.c, iv q.vars, iv q.ty.kind, iv q.ty.var, .slice q.ty.A q.ty.sub.length q.ty.c, iv r.vars, iv r.ty.kind, iv r.ty.var, .slice r.ty.A r.ty.sub.length r.ty.c] ∧ p.ty.Rd W ∧ q.ty.Rd W ∧ r.ty.Rd W := by
  obtain ⟨l, rfl, hl⟩ := aggA_of hv
  obtain ⟨k, hk⟩ := h
  obtain ⟨xs, m, -, -, -, hx, hf⟩ := DataW.trod_array Try.underlying55 (show DataW.trod enc Try.prog W base spare held k 55 l = some (d, ps) by simpa [Value.cells] using hk)
  match xs, hx with
  | [y0, y1, y2], _ =>
    have f0 := hf 0 (by omega)
    have f1 := hf 1 (by omega)
    have f2 := hf 2 (by omega)
    rw [cells47] at f0 f1 f2
    obtain ⟨p, e0, r0⟩ := read_sc _ _ y0 (by simpa using f0) (by simp; omega)
    obtain ⟨q, e1, r1⟩ := read_sc _ _ y1 (by simpa using f1) (by simp; omega)
    obtain ⟨r, e2, r2⟩ := read_sc _ _ y2 (by simpa using f2) (by simp; omega)
    have el : l = p.cs ++ (q.cs ++ r.cs) := by
      rw [← e0, ← e1, ← e2]
      match l, hl with
      | [a, b, c, d, e, f, g, h, i, j, k, m], _ => rfl
    exact ⟨p, q, r, by rw [el]; rfl, r0, r1, r2⟩
end
end Go.Proofs.Ytjlmhfdigoogfaa

/- Arguments that are names and numbers, opened. -/
import Derived.Test.YtdfllhmkgphcmaaDoorM9
namespace Go.Proofs.YtdfllhmkgphcmaaDoor
open Go.ChangeShapes Go.WideShapes Go.ChangeAt Go.RowKit Go.Joins Go.Deep

section
variable {H : Type} {enc : TypeId × Value → H} {W : World} {base : Nat} {spare : Nat → Bool} {held : Bool}
set_option maxRecDepth 100000 in
/-- A name that came in. -/
theorem open_name {r : Reach} {b0 : Nat} {v : Value} {d : DataW H} {ps : List MemPlace} (hv : Value.okWide Tryd.prog W r b0 31 v) (h : DataW.Trod enc Tryd.prog W base spare held 31 v d ps) : ∃ (t : T) (n : Int), v = .agg #[tv t, iv n] ∧ t.length ≤ 9223372036854775807 := by
  obtain ⟨v0, v1, y0, y1, n, rfl, _, _, h0, h1⟩ := open_agg2 Tryd.underlying31 (by kernel_rfl) (by kernel_rfl) hv h
  obtain ⟨s, e0, _, hs⟩ := DataW.trod_string Tryd.underlying9 h0
  obtain ⟨n1, e1, _⟩ := DataW.trod_int Tryd.underlying3 h1
  simp only [List.cons.injEq, and_true] at e0 e1
  subst e0; subst e1
  refine ⟨s.data.toList, n1, rfl, ?_⟩
  have : s.data.toList.length = s.size := Array.length_toList
  rw [this]
  unfold maxLen at hs
  omega
set_option maxRecDepth 100000 in
/-- A slice of numbers that came in. -/
theorem open_nums {r : Reach} {b0 : Nat} {v : Value} {d : DataW H} {ps : List MemPlace} (hv : Value.okWide Tryd.prog W r b0 50 v) (h : DataW.Trod enc Tryd.prog W base spare held 50 v d ps) : ∃ (A : Option Addr) (c : Nat) (L : List Int), v = .slice A L.length c ∧ L.length ≤ 9223372036854775807 ∧ RD 1 (fun n : Int => [iv n]) W A L := by
  have hs : ∃ A n c, v = .slice A n c := by
    simp only [Value.okWide, Tryd.underlying50, Cell.okWide] at hv
    cases v <;> simp_all [Cell.ok]
  obtain ⟨A, n, c, rfl⟩ := hs
  obtain ⟨fuel, hf⟩ := h
  obtain ⟨A', c', L, e, hl, hr, _⟩ := open_recs (α := Int) (cs := fun n : Int => [iv n]) (ok := fun _ => True) Tryd.underlying50 (show Tryd.prog.cellsOf 3 = 1 by kernel_rfl) (by decide) (fun k vs y h hl => by
    obtain ⟨n0, e0, _⟩ := DataW.trod_int Tryd.underlying3 h
    subst e0
    exact ⟨n0, rfl, trivial⟩) hf
  exact ⟨A', c', L, e, hl, hr⟩
end
end Go.Proofs.YtdfllhmkgphcmaaDoor

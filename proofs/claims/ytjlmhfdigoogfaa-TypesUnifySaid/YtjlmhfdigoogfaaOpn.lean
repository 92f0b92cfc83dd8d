/- Arguments that are types, assignments, schemes and lists of numbers, opened. -/
import Derived.Test.YtjlmhfdigoogfaaRows
import Derived.Test.YtjlmhfdigoogfaaM5
import Derived.ProofKit
import Derived.OpenShut
import Derived.Deep.Slices
import Derived.ChangeSlices
import Derived.Lib.SmallJoins
namespace Go.Proofs.Ytjlmhfdigoogfaa
open Go.ChangeShapes Go.WideShapes Go.ChangeAt Go.RowKit Go.Joins Go.Deep

theorem own : ownKnob Try.prog.godebug = none := by kernel_rfl
theorem laidOut : laidOutB Try.prog = true := by kernel_rfl
theorem cells3 : Try.prog.cellsOf 3 = 1 := by kernel_rfl
theorem cells22 : Try.prog.cellsOf 22 = 1 := by kernel_rfl
theorem cells24 : Try.prog.cellsOf 24 = 3 := by kernel_rfl
theorem cells43 : Try.prog.cellsOf 43 = 4 := by kernel_rfl
theorem cells47 : Try.prog.cellsOf 47 = 4 := by kernel_rfl
section
variable {H : Type} {enc : TypeId × Value → H} {P : Program} {W : World} {base : Nat} {spare : Nat → Bool} {held : Bool}
/-- A slice of records that came in. -/
theorem open_recs {α : Type} [Inhabited α] {t e : TypeId} {n : Nat} {cs : α → List Value} {ok : α → Prop} {fuel : Nat} {u : List Value} {x : DataW H × List MemPlace} (ht : P.underlying t = some (.slice e)) (hn : P.cellsOf e = n) (h0 : 0 < n)
    (hr : ∀ (k : Nat) (vs : List Value) (y : DataW H × List MemPlace), k < fuel → DataW.trod enc P W base spare held k e vs = some y → vs.length = n → ∃ x : α, vs = cs x ∧ ok x)
    (h : DataW.trod enc P W base spare held fuel t u = some x) :
    ∃ (A : Option Addr) (c : Nat) (L : List α), u = [.slice A L.length c] ∧ L.length ≤ c ∧ c ≤ 9223372036854775807 ∧ (A = none → c = 0) ∧ RD n cs W A L ∧ ∀ x ∈ L, ok x := by
  rcases DataW.trod_slice ht h with ⟨rfl, _⟩ | ⟨a, len, cap, elems, rest, k, hk, rfl, _, hb, hl, hm, hlen, hx, _⟩
  · exact ⟨none, 0, [], rfl, by simp, by omega, fun _ => rfl, .inl rfl, by simp⟩
  · have hm' : cap ≤ 9223372036854775807 := by unfold maxLen at hm; omega
    rw [hn] at hx
    obtain ⟨X, hX⟩ := choose_lt (α := α) (n := len) (p := fun i x => (∀ j v, (cs x)[j]? = some v → W.cell? (a.add (i * n + j)) = some v) ∧ (cs x).length = n ∧ ok x) (fun i hi => by
      have h1 := hx i hi
      rw [List.getElem?_eq_getElem (by omega)] at h1
      obtain ⟨cs', h2, h3⟩ := Option.bind_eq_some_iff.1 h1
      obtain ⟨_, hlen, hcell⟩ := World.cells?_some h2
      obtain ⟨x, rfl, hok⟩ := hr k cs' _ (by omega) h3 hlen
      refine ⟨x, fun j v hj => ?_, hlen, hok⟩
      have hjn : j < n := by
        rcases Nat.lt_or_ge j n with h' | h'
        · exact h'
        · rw [List.getElem?_eq_none (by omega)] at hj; cases hj
      rw [← add_add', hcell j hjn]
      exact hj)
    refine ⟨some a, cap, (List.range len).map X, by simp, by simpa using hl, hm', (fun h => by cases h), ?_, fun x hx' => ?_⟩
    · rcases Nat.eq_zero_or_pos len with h9 | h9
      · left; subst h9; simp
      · refine .inr ⟨a, rfl, ?_, fun j y hj i v hi => ?_⟩
        · obtain ⟨h1, h2, _⟩ := hX 0 (by omega)
          have h3 := h1 0 _ (List.getElem?_eq_getElem (by omega))
          have := World.block_lt_of_cell? W _ h3
          rwa [add_block] at this
        · rw [List.getElem?_map] at hj
          by_cases hjl : j < len
          · rw [List.getElem?_range hjl] at hj
            simp only [Option.map_some, Option.some.injEq] at hj
            subst hj
            exact (hX j (by omega)).1 i v hi
          · rw [List.getElem?_eq_none (by simp; omega)] at hj; simp at hj
    · obtain ⟨i, hi, rfl⟩ := List.mem_map.1 hx'
      rw [List.mem_range] at hi
      exact (hX i (by omega)).2.2
end
section
variable {H : Type} {enc : TypeId × Value → H} {W : World} {base : Nat} {spare : Nat → Bool} {held : Bool}
instance : Inhabited Ty := ⟨.mk 0 0 none 0 []⟩
instance : Inhabited As := ⟨⟨0, .mk 0 0 none 0 []⟩⟩
theorem list3 {α : Type} {l : List α} (h : l.length = 3) : ∃ a b c, l = [a, b, c] := by
  match l, h with
  | [a, b, c], _ => exact ⟨a, b, c, rfl⟩
theorem list4 {α : Type} {l : List α} (h : l.length = 4) : ∃ a b c d, l = [a, b, c, d] := by
  match l, h with
  | [a, b, c, d], _ => exact ⟨a, b, c, d, rfl⟩
theorem fuel3 {t : TypeId} {f0 f1 f2 : Field} {fuel : Nat} {cs : List Value} {x : DataW H × List MemPlace} (ht : Try.prog.underlying t = some (.struct #[f0, f1, f2])) (h : DataW.trod enc Try.prog W base spare held fuel t cs = some x) :
    ∃ n y0 y1 y2, fuel = n + 1 ∧ DataW.trod enc Try.prog W base spare held n f0.type ((cs.drop f0.offset).take (Try.prog.cellsOf f0.type)) = some y0 ∧ DataW.trod enc Try.prog W base spare held n f1.type ((cs.drop f1.offset).take (Try.prog.cellsOf f1.type)) = some y1 ∧ DataW.trod enc Try.prog W base spare held n f2.type ((cs.drop f2.offset).take (Try.prog.cellsOf f2.type)) = some y2 := by
  obtain ⟨xs, n, e, -, -, hl, hf⟩ := DataW.trod_struct ht h
  match xs, hl with
  | [y0, y1, y2], _ => exact ⟨n, y0, y1, y2, e, by simpa using hf 0 f0 rfl, by simpa using hf 1 f1 rfl, by simpa using hf 2 f2 rfl⟩
theorem fuel2 {t : TypeId} {f0 f1 : Field} {fuel : Nat} {cs : List Value} {x : DataW H × List MemPlace} (ht : Try.prog.underlying t = some (.struct #[f0, f1])) (h : DataW.trod enc Try.prog W base spare held fuel t cs = some x) :
    ∃ n y0 y1, fuel = n + 1 ∧ DataW.trod enc Try.prog W base spare held n f0.type ((cs.drop f0.offset).take (Try.prog.cellsOf f0.type)) = some y0 ∧ DataW.trod enc Try.prog W base spare held n f1.type ((cs.drop f1.offset).take (Try.prog.cellsOf f1.type)) = some y1 := by
  obtain ⟨xs, n, e, -, -, hl, hf⟩ := DataW.trod_struct ht h
  match xs, hl with
  | [y0, y1], _ => exact ⟨n, y0, y1, e, by simpa using hf 0 f0 rfl, by simpa using hf 1 f1 rfl⟩
set_option maxRecDepth 100000 in
theorem read_ty : ∀ (k : Nat) (vs : List Value) (y : DataW H × List MemPlace), DataW.trod enc Try.prog W base spare held k 24 vs = some y → vs.length = 3 → ∃ x : Ty, vs = x.cs ∧ x.Rd W := by
  intro k
  induction k using Nat.strongRecOn with
  | ind k ih =>
    intro vs y h hl
    obtain ⟨n, y0, y1, y2, hn, h0, h1, h2⟩ := fuel3 Try.underlying24 h
    obtain ⟨a, b, c, rfl⟩ := list3 hl
    simp only [cells3, cells22, List.drop_zero, List.drop_succ_cons, List.take_succ_cons, List.take_zero] at h0 h1 h2
    obtain ⟨n0, e0, _⟩ := DataW.trod_int Try.underlying3 h0
    obtain ⟨n1, e1, _⟩ := DataW.trod_int Try.underlying3 h1
    obtain ⟨A, cc, L, e2, g1, g2, g3, hrd, hok⟩ := open_recs (cs := Ty.cs) (ok := fun x : Ty => x.Rd W) Try.underlying22 cells24 (by decide) (fun k' vs y hk h hl => ih k' (by omega) vs y h hl) h2
    simp only [List.cons.injEq, and_true] at e0 e1 e2
    subst e0; subst e1; subst e2
    exact ⟨.mk n0 n1 A cc L, rfl, .mk g1 g2 g3 hrd hok⟩
set_option maxRecDepth 100000 in
theorem read_as (k : Nat) (vs : List Value) (y : DataW H × List MemPlace) (h : DataW.trod enc Try.prog W base spare held k 43 vs = some y) (hl : vs.length = 4) : ∃ x : As, vs = x.cs ∧ x.ty.Rd W := by
  obtain ⟨n, y0, y1, hn, h0, h1⟩ := fuel2 Try.underlying43 h
  obtain ⟨a, b, c, d, rfl⟩ := list4 hl
  simp only [cells3, cells24, List.drop_zero, List.drop_succ_cons, List.take_succ_cons, List.take_zero] at h0 h1
  obtain ⟨n0, e0, _⟩ := DataW.trod_int Try.underlying3 h0
  obtain ⟨x, e1, hx⟩ := read_ty _ _ _ h1 rfl
  simp only [Ty.cs, List.cons.injEq, and_true] at e0 e1
  obtain ⟨rfl, rfl, rfl⟩ := e1
  subst e0
  exact ⟨⟨n0, x⟩, rfl, hx⟩
set_option maxRecDepth 100000 in
theorem agg_of {r : Reach} {b0 : Nat} {t : TypeId} {fs : Array Field} {v : Value} {n : Nat} (hs : Try.prog.underlying t = some (.struct fs)) (hC : Try.prog.cellsOf t = n) (hv : Value.okWide Try.prog W r b0 t v) : ∃ l : List Value, v = .agg l.toArray ∧ l.length = n := by
  obtain ⟨cs, rfl, hsz⟩ := okWide_struct hs hv
  exact ⟨cs.toList, by simp, by simpa [hC] using hsz⟩
set_option maxRecDepth 100000 in
/-- A type that came in. -/
theorem open_ty {r : Reach} {b0 : Nat} {v : Value} {d : DataW H} {ps : List MemPlace} (hv : Value.okWide Try.prog W r b0 24 v) (h : DataW.Trod enc Try.prog W base spare held 24 v d ps) : ∃ x : Ty, v = x.v ∧ x.Rd W := by
  obtain ⟨l, rfl, hl⟩ := agg_of Try.underlying24 cells24 hv
  obtain ⟨k, hk⟩ := h
  obtain ⟨x, e, hx⟩ := read_ty k _ _ (by simpa [Value.cells] using hk) hl
  exact ⟨x, by rw [e]; rfl, hx⟩
set_option maxRecDepth 100000 in
/-- A scheme that came in. -/
theorem open_sc {r : Reach} {b0 : Nat} {v : Value} {d : DataW H} {ps : List MemPlace} (hv : Value.okWide Try.prog W r b0 47 v) (h : DataW.Trod enc Try.prog W base spare held 47 v d ps) : ∃ s : Sc, v = s.v ∧ s.ty.Rd W := by
  obtain ⟨l, rfl, hl⟩ := agg_of Try.underlying47 cells47 hv
  obtain ⟨k, hk⟩ := h
  obtain ⟨n, y0, y1, hn, h0, h1⟩ := fuel2 Try.underlying47 (show DataW.trod enc Try.prog W base spare held k 47 l = some (d, ps) by simpa [Value.cells] using hk)
  obtain ⟨a, b, c, d, rfl⟩ := list4 hl
  simp only [cells3, cells24, List.drop_zero, List.drop_succ_cons, List.take_succ_cons, List.take_zero] at h0 h1
  obtain ⟨n0, e0, _⟩ := DataW.trod_int Try.underlying3 h0
  obtain ⟨x, e1, hx⟩ := read_ty _ _ _ h1 rfl
  simp only [Ty.cs, List.cons.injEq, and_true] at e0 e1
  obtain ⟨rfl, rfl, rfl⟩ := e1
  subst e0
  exact ⟨⟨n0, x⟩, rfl, hx⟩
set_option maxRecDepth 100000 in
theorem sliceVal {r : Reach} {b0 : Nat} {t e : TypeId} {v : Value} (ht : Try.prog.underlying t = some (.slice e)) (hv : Value.okWide Try.prog W r b0 t v) : ∃ A n c, v = .slice A n c := by
  simp only [Value.okWide, ht, Cell.okWide] at hv
  cases v <;> simp_all [Cell.ok]
set_option maxRecDepth 100000 in
/-- An assignment that came in. -/
theorem open_as {r : Reach} {b0 : Nat} {v : Value} {d : DataW H} {ps : List MemPlace} (hv : Value.okWide Try.prog W r b0 27 v) (h : DataW.Trod enc Try.prog W base spare held 27 v d ps) : ∃ A c L, v = .slice A (List.length L) c ∧ L.length ≤ c ∧ c ≤ 9223372036854775807 ∧ (A = none → c = 0) ∧ ARd W A L := by
  obtain ⟨A, n, c, rfl⟩ := sliceVal Try.underlying27 hv
  obtain ⟨k, hk⟩ := h
  obtain ⟨A', c', L, e, h1, h2, h3, h4, h5⟩ := open_recs (cs := As.cs) (ok := fun x : As => x.ty.Rd W) Try.underlying27 cells43 (by decide) (fun k vs y _ h hl => read_as k vs y h hl) (show DataW.trod enc Try.prog W base spare held k 27 [.slice A n c] = some (d, ps) by simpa [Value.cells] using hk)
  exact ⟨A', c', L, by simpa using e, h1, h2, h3, ⟨h4, h5⟩⟩
set_option maxRecDepth 100000 in
/-- Numbers that came in. -/
theorem open_nums {r : Reach} {b0 : Nat} {v : Value} {d : DataW H} {ps : List MemPlace} (hv : Value.okWide Try.prog W r b0 35 v) (h : DataW.Trod enc Try.prog W base spare held 35 v d ps) : ∃ A c L, v = .slice A (List.length L) c ∧ L.length ≤ c ∧ c ≤ 9223372036854775807 ∧ (A = none → c = 0) ∧ RD 1 NC W A L := by
  obtain ⟨A, n, c, rfl⟩ := sliceVal Try.underlying35 hv
  obtain ⟨k, hk⟩ := h
  obtain ⟨A', c', L, e, h1, h2, h3, h4, -⟩ := open_recs (cs := NC) (ok := fun _ : Int => True) Try.underlying35 cells3 (by decide) (fun k vs y _ h hl => by
    obtain ⟨n0, e0, _⟩ := DataW.trod_int Try.underlying3 h
    exact ⟨n0, e0, trivial⟩) (show DataW.trod enc Try.prog W base spare held k 35 [.slice A n c] = some (d, ps) by simpa [Value.cells] using hk)
  exact ⟨A', c', L, by simpa using e, h1, h2, h3, h4⟩
end
end Go.Proofs.Ytjlmhfdigoogfaa

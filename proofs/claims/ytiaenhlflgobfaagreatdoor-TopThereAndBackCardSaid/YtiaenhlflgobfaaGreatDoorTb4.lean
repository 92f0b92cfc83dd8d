/- Arguments that are modules, opened. -/
import Derived.Test.YtiaenhlflgobfaaGreatDoorTb3
import Derived.Test.YtiaenhlflgobfaaGreatDoorRows
import Derived.Test.YtiaenhlflgobfaaGreatDoorTie
import Derived.Test.YtiaenhlflgobfaaGreatDoorCards
import Derived.ProofKit
import Derived.OpenShut
import Derived.LaidMore
import Derived.Lay
import Derived.SevenTiedAt
import Derived.Stop.Joined
import Derived.Deep.Slices
import Derived.ChangeSlices
import Derived.Lib.SmallJoins
namespace Go.Proofs.YtiaenhlflgobfaaGreatDoor
open Go.ChangeShapes Go.WideShapes Go.ChangeAt Go.RowKit Go.Joins Go.Deep
theorem own : ownKnob Tryz.prog.godebug = none := by kernel_rfl
theorem laidOut : laidOutB Tryz.prog = true := by kernel_rfl
theorem cells3 : Tryz.prog.cellsOf 3 = 1 := by kernel_rfl
theorem cells4 : Tryz.prog.cellsOf 4 = 1 := by kernel_rfl
theorem Qi9 : Tryz.prog.cellsOf 9 = 1 := by kernel_rfl
theorem cells30 : Tryz.prog.cellsOf 30 = 1 := by kernel_rfl
theorem Qkq : Tryz.prog.cellsOf 37 = 1 := by kernel_rfl
theorem cells41 : Tryz.prog.cellsOf 41 = 1 := by kernel_rfl
theorem Qkp : Tryz.prog.cellsOf 43 = 6 := by kernel_rfl
theorem cells45 : Tryz.prog.cellsOf 45 = 11 := by kernel_rfl
theorem cells39 : Tryz.prog.cellsOf 39 = 3 := by kernel_rfl
section
variable {H : Type} {enc : TypeId × Value → H} {P : Program} {W : World} {base : Nat} {spare : Nat → Bool} {held : Bool}
theorem Qa9 {α : Type} [Inhabited α] {t e : TypeId} {n : Nat} {cs : α → List Value} {ok : α → Prop} {fuel : Nat} {u : List Value} {x : DataW H × List MemPlace} (ht : P.underlying t = some (.slice e)) (hn : P.cellsOf e = n) (h0 : 0 < n)
 (hr : ∀ (k : Nat) (vs : List Value) (y : DataW H × List MemPlace), k < fuel → DataW.trod enc P W base spare held k e vs = some y → vs.length = n → ∃ x : α, vs = cs x ∧ ok x)
 (h : DataW.trod enc P W base spare held fuel t u = some x) :
 ∃ (A : Option Addr) (c : Nat) (L : List α), u = [.slice A L.length c] ∧ L.length ≤ c ∧ c ≤ 9223372036854775807 ∧ (A = none → c = 0) ∧ RD n cs W A L ∧ ∀ x ∈ L, ok x := by
 rcases DataW.trod_slice ht h with ⟨rfl, _⟩ | ⟨a, len, cap, elems, rest, k, hk, rfl, _, hb, hl, hm, hlen, hx, _⟩
 ·exact ⟨none, 0, [], rfl, by simp, by omega, fun _ => rfl, .inl rfl, by simp⟩
 ·have hm' : cap ≤ 9223372036854775807 := by unfold maxLen at hm; omega
  rw [hn] at hx
  obtain ⟨X, hX⟩ := choose_lt (α := α) (n := len) (p := fun i x => (∀ j v, (cs x)[j]? = some v → W.cell? (a.add (i * n + j)) = some v) ∧ (cs x).length = n ∧ ok x) (fun i hi => by
   have h1 := hx i hi
   rw [List.getElem?_eq_getElem (by omega)] at h1
   obtain ⟨cs', h2, h3⟩ := Option.bind_eq_some_iff.1 h1
   obtain ⟨_, hlen, hcell⟩ := World.cells?_some h2
   obtain ⟨x, rfl, hok⟩ := hr k cs' _ (by omega) h3 hlen
   refine ⟨x, fun j v hj => ?_, hlen, hok⟩
   have hjn : j < n := by
    rcases Nat.lt_or_ge j n with h' | h'
    ·exact h'
    ·rw [List.getElem?_eq_none (by omega)] at hj; cases hj
   rw [← add_add', hcell j hjn]
   exact hj)
  refine ⟨some a, cap, (List.range len).map X, by simp, by simpa using hl, hm', (fun h => by cases h), ?_, fun x hx' => ?_⟩
  ·rcases Nat.eq_zero_or_pos len with h9 | h9
   ·left; subst h9; simp
   ·refine .inr ⟨a, rfl, ?_, fun j y hj i v hi => ?_⟩
    ·obtain ⟨h1, h2, _⟩ := hX 0 (by omega)
     have h3 := h1 0 _ (List.getElem?_eq_getElem (by omega))
     have := World.block_lt_of_cell? W _ h3
     rwa [add_block] at this
    ·rw [List.getElem?_map] at hj
     by_cases hjl : j < len
     ·rw [List.getElem?_range hjl] at hj
      simp only [Option.map_some, Option.some.injEq] at hj
      subst hj
      exact (hX j (by omega)).1 i v hi
     ·rw [List.getElem?_eq_none (by simp; omega)] at hj; simp at hj
  ·obtain ⟨i, hi, rfl⟩ := List.mem_map.1 hx'
   rw [List.mem_range] at hi
   exact (hX i (by omega)).2.2
end
section
variable {H : Type} {enc : TypeId × Value → H} {W : World} {base : Nat} {spare : Nat → Bool} {held : Bool}
instance : Inhabited Ex := ⟨.mk 0 [] [] 0 0 none 0 []⟩
instance : Inhabited Dec := ⟨⟨0, 0, false, none, 0, [], false, default⟩⟩
instance : Inhabited Mod := ⟨⟨[], none, 0, [], none, 0, []⟩⟩
theorem list3 {α : Type} {l : List α} (h : l.length = 3) : ∃ a0 a1 a2, l = [a0, a1, a2] := by
 match l, h with
 | [a0, a1, a2], _ => exact ⟨a0, a1, a2, rfl⟩
theorem list6 {α : Type} {l : List α} (h : l.length = 6) : ∃ a0 a1 a2 a3 a4 a5, l = [a0, a1, a2, a3, a4, a5] := by
 match l, h with
 | [a0, a1, a2, a3, a4, a5], _ => exact ⟨a0, a1, a2, a3, a4, a5, rfl⟩
theorem list11 {α : Type} {l : List α} (h : l.length = 11) : ∃ a0 a1 a2 a3 a4 a5 a6 a7 a8 a9 a10, l = [a0, a1, a2, a3, a4, a5, a6, a7, a8, a9, a10] := by
 match l, h with
 | [a0, a1, a2, a3, a4, a5, a6, a7, a8, a9, a10], _ => exact ⟨a0, a1, a2, a3, a4, a5, a6, a7, a8, a9, a10, rfl⟩
theorem fuel3 {t : TypeId} {f0 f1 f2 : Field} {fuel : Nat} {cs : List Value} {x : DataW H × List MemPlace} (ht : Tryz.prog.underlying t = some (.struct #[f0, f1, f2])) (h : DataW.trod enc Tryz.prog W base spare held fuel t cs = some x) :
 ∃ n y0 y1 y2, fuel = n + 1 ∧ DataW.trod enc Tryz.prog W base spare held n f0.type ((cs.drop f0.offset).take (Tryz.prog.cellsOf f0.type)) = some y0 ∧ DataW.trod enc Tryz.prog W base spare held n f1.type ((cs.drop f1.offset).take (Tryz.prog.cellsOf f1.type)) = some y1 ∧ DataW.trod enc Tryz.prog W base spare held n f2.type ((cs.drop f2.offset).take (Tryz.prog.cellsOf f2.type)) = some y2 := by
 obtain ⟨xs, n, e, -, -, hl, hf⟩ := DataW.trod_struct ht h
 match xs, hl with
 | [y0, y1, y2], _ => exact ⟨n, y0, y1, y2, e, by simpa using hf 0 f0 rfl, by simpa using hf 1 f1 rfl, by simpa using hf 2 f2 rfl⟩
theorem fuel6 {t : TypeId} {f0 f1 f2 f3 f4 f5 : Field} {fuel : Nat} {cs : List Value} {x : DataW H × List MemPlace} (ht : Tryz.prog.underlying t = some (.struct #[f0, f1, f2, f3, f4, f5])) (h : DataW.trod enc Tryz.prog W base spare held fuel t cs = some x) :
 ∃ n y0 y1 y2 y3 y4 y5, fuel = n + 1 ∧ DataW.trod enc Tryz.prog W base spare held n f0.type ((cs.drop f0.offset).take (Tryz.prog.cellsOf f0.type)) = some y0 ∧ DataW.trod enc Tryz.prog W base spare held n f1.type ((cs.drop f1.offset).take (Tryz.prog.cellsOf f1.type)) = some y1 ∧ DataW.trod enc Tryz.prog W base spare held n f2.type ((cs.drop f2.offset).take (Tryz.prog.cellsOf f2.type)) = some y2 ∧ DataW.trod enc Tryz.prog W base spare held n f3.type ((cs.drop f3.offset).take (Tryz.prog.cellsOf f3.type)) = some y3 ∧ DataW.trod enc Tryz.prog W base spare held n f4.type ((cs.drop f4.offset).take (Tryz.prog.cellsOf f4.type)) = some y4 ∧ DataW.trod enc Tryz.prog W base spare held n f5.type ((cs.drop f5.offset).take (Tryz.prog.cellsOf f5.type)) = some y5 := by
 obtain ⟨xs, n, e, -, -, hl, hf⟩ := DataW.trod_struct ht h
 match xs, hl with
 | [y0, y1, y2, y3, y4, y5], _ => exact ⟨n, y0, y1, y2, y3, y4, y5, e, by simpa using hf 0 f0 rfl, by simpa using hf 1 f1 rfl, by simpa using hf 2 f2 rfl, by simpa using hf 3 f3 rfl, by simpa using hf 4 f4 rfl, by simpa using hf 5 f5 rfl⟩
theorem Qfh {s : ByteArray} (h : s.size ≤ maxLen) : sOk s.data.toList := by
 have h1 : s.data.toList.length = s.size := Array.length_toList
 show s.data.toList.length ≤ _
 rw [h1]
 unfold maxLen at h
 omega
set_option maxRecDepth 100000 in
theorem Qer {fuel : Nat} {u : List Value} {x : DataW H × List MemPlace} (h : DataW.trod enc Tryz.prog W base spare held fuel 37 u = some x) : ∃ (A : Option Addr) (c : Nat) (L : List T), u = [.slice A L.length c] ∧ SRd W A c L := by
 obtain ⟨A, c, L, e, g1, g2, g3, hrd, hok⟩ := Qa9 (cs := scs) (ok := sOk) Tryz.underlying37 Qi9 (by decide) (fun k vs y _ h hl => by
  obtain ⟨s, e, _, hs⟩ := DataW.trod_string Tryz.underlying9 h
  exact ⟨s.data.toList, by rw [e]; rfl, Qfh hs⟩) h
 exact ⟨A, c, L, e, ⟨g1, g2, g3, hrd⟩, hok⟩
set_option maxRecDepth 100000 in
theorem read_ex : ∀ (k : Nat) (vs : List Value) (y : DataW H × List MemPlace), DataW.trod enc Tryz.prog W base spare held k 43 vs = some y → vs.length = 6 → ∃ x : Ex, vs = x.cs ∧ x.Rd W := by
 intro k
 induction k using Nat.strongRecOn with
 | ind k ih =>
   intro vs y h hl
   obtain ⟨n, y0, y1, y2, y3, y4, y5, hn, h0, h1, h2, h3, h4, h5⟩ := fuel6 Tryz.underlying43 h
   obtain ⟨a0, a1, a2, a3, a4, a5, rfl⟩ := list6 hl
   simp only [cells3, Qi9, cells41, List.drop_zero, List.drop_succ_cons, List.take_succ_cons, List.take_zero] at h0 h1 h2 h3 h4 h5
   obtain ⟨n0, e0, _⟩ := DataW.trod_int Tryz.underlying3 h0
   obtain ⟨s1, e1, _, hs1⟩ := DataW.trod_string Tryz.underlying9 h1
   obtain ⟨s2, e2, _, hs2⟩ := DataW.trod_string Tryz.underlying9 h2
   obtain ⟨n3, e3, _⟩ := DataW.trod_int Tryz.underlying3 h3
   obtain ⟨n4, e4, _⟩ := DataW.trod_int Tryz.underlying3 h4
   obtain ⟨A, cc, L, e5, g1, g2, g3, hrd, hok⟩ := Qa9 (cs := Ex.cs) (ok := fun x : Ex => x.Rd W) Tryz.underlying41 Qkp (by decide) (fun k' vs y hk h hl => ih k' (by omega) vs y h hl) h5
   simp only [List.cons.injEq, and_true] at e0 e1 e2 e3 e4 e5
   subst e0; subst e1; subst e2; subst e3; subst e4; subst e5
   exact ⟨.mk n0 s1.data.toList s2.data.toList n3 n4 A cc L, rfl, ⟨XRd.of ⟨g1, g2, g3, hrd⟩ hok, Qfh hs1, Qfh hs2⟩⟩
set_option maxRecDepth 100000 in
theorem Qm1 (k : Nat) (vs : List Value) (y : DataW H × List MemPlace) (h : DataW.trod enc Tryz.prog W base spare held k 45 vs = some y) (hl : vs.length = 11) : ∃ x : Dec, vs = x.cs ∧ x.Rd W := by
 obtain ⟨n, y0, y1, y2, y3, y4, y5, hn, h0, h1, h2, h3, h4, h5⟩ := fuel6 Tryz.underlying45 h
 obtain ⟨a0, a1, a2, a3, a4, a5, a6, a7, a8, a9, a10, rfl⟩ := list11 hl
 simp only [cells3, cells4, Qkq, Qkp, List.drop_zero, List.drop_succ_cons, List.take_succ_cons, List.take_zero] at h0 h1 h2 h3 h4 h5
 obtain ⟨n0, e0, _⟩ := DataW.trod_int Tryz.underlying3 h0
 obtain ⟨n1, e1, _⟩ := DataW.trod_int Tryz.underlying3 h1
 obtain ⟨q2, e2, _⟩ := DataW.trod_bool Tryz.underlying4 h2
 obtain ⟨A, cc, L, e3, hs⟩ := Qer h3
 obtain ⟨q4, e4, _⟩ := DataW.trod_bool Tryz.underlying4 h4
 obtain ⟨x, e5, hx⟩ := read_ex _ _ _ h5 rfl
 simp only [Ex.cs, List.cons.injEq, and_true] at e0 e1 e2 e3 e4 e5
 obtain ⟨rfl, rfl, rfl, rfl, rfl, rfl⟩ := e5
 subst e0; subst e1; subst e2; subst e3; subst e4
 exact ⟨⟨n0, n1, q2, A, cc, L, q4, x⟩, rfl, ⟨hs, hx⟩⟩
set_option maxRecDepth 100000 in
theorem Qm0 (k : Nat) (vs : List Value) (y : DataW H × List MemPlace) (h : DataW.trod enc Tryz.prog W base spare held k 39 vs = some y) (hl : vs.length = 3) : ∃ x : Mod, vs = x.cs ∧ x.Rd W := by
 obtain ⟨n, y0, y1, y2, hn, h0, h1, h2⟩ := fuel3 Tryz.underlying39 h
 obtain ⟨a0, a1, a2, rfl⟩ := list3 hl
 simp only [Qi9, Qkq, cells30, List.drop_zero, List.drop_succ_cons, List.take_succ_cons, List.take_zero] at h0 h1 h2
 obtain ⟨s0, e0, _, hs0⟩ := DataW.trod_string Tryz.underlying9 h0
 obtain ⟨A, cc, L, e1, hs⟩ := Qer h1
 obtain ⟨B, dd, M, e2, g1, g2, g3, hrd, hok⟩ := Qa9 (cs := Dec.cs) (ok := fun x : Dec => x.Rd W) Tryz.underlying30 cells45 (by decide) (fun k' vs y _ h hl => Qm1 k' vs y h hl) h2
 simp only [List.cons.injEq, and_true] at e0 e1 e2
 subst e0; subst e1; subst e2
 exact ⟨⟨s0.data.toList, A, cc, L, B, dd, M⟩, rfl, ⟨Qfh hs0, hs, ⟨⟨g1, g2, g3, hrd⟩, hok⟩⟩⟩
set_option maxRecDepth 100000 in
theorem Qmv {r : Reach} {b0 : Nat} {t e : TypeId} {v : Value} (ht : Tryz.prog.underlying t = some (.slice e)) (hv : Value.okWide Tryz.prog W r b0 t v) : ∃ A n c, v = .slice A n c := by
 simp only [Value.okWide, ht, Cell.okWide] at hv
 cases v <;> simp_all [Cell.ok]
set_option maxRecDepth 100000 in
theorem Qet {r : Reach} {b0 : Nat} {v : Value} {d : DataW H} {ps : List MemPlace} (hv : Value.okWide Tryz.prog W r b0 22 v) (h : DataW.Trod enc Tryz.prog W base spare held 22 v d ps) : ∃ (A : Option Addr) (c : Nat) (L : List Mod), v = .slice A L.length c ∧ MRd W A c L := by
 obtain ⟨A, n, c, rfl⟩ := Qmv Tryz.underlying22 hv
 obtain ⟨k, hk⟩ := h
 obtain ⟨A', c', L, e, g1, g2, g3, hrd, hok⟩ := Qa9 (cs := Mod.cs) (ok := fun x : Mod => x.Rd W) Tryz.underlying22 cells39 (by decide) (fun k vs y _ h hl => Qm0 k vs y h hl) (show DataW.trod enc Tryz.prog W base spare held k 22 [.slice A n c] = some (d, ps) by simpa [Value.cells] using hk)
 exact ⟨A', c', L, by simpa using e, ⟨g1, g2, g3, hrd⟩, hok⟩
end
end Go.Proofs.YtiaenhlflgobfaaGreatDoor

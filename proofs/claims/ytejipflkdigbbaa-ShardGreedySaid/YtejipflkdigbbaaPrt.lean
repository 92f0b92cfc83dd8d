/- Words: the parts of Greedy as they lie in memory. -/
import Derived.Test.YtejipflkdigbbaaStf
import Derived.Shelf.SortM.Plain
import Derived.Shelf.SortM.SortNone
namespace Go.Proofs.Ytejipflkdigbbaa
open Go.RowKit Go.Shelf Go.Sort

structure PT (w : World) (base B gp n : Nat) (V : List Value) (P : List (List Int)) : Prop where
  row : w.ownsRow base 22 1 (.slice (some ⟨gp, 0, none⟩) n n) n V
  lenP : P.length = n
  own : ∀ (k : Nat) v L, V[k]? = some v → P[k]? = some L → OT w B v L
  apart : ∀ (j k : Nat) u v, V[j]? = some u → V[k]? = some v → j ≠ k → u.ownBlock = none ∨ u.ownBlock ≠ v.ownBlock
  low : gp < B
  sz : B ≤ w.heap.size
theorem PT.lenV {w : World} {base B gp n : Nat} {V : List Value} {P : List (List Int)} (h : PT w base B gp n V P) : V.length = n := by have := h.row.1; omega
theorem PT.kept {w w' : World} {base B gp n : Nat} {V : List Value} {P : List (List Int)} {row : Option Nat} (h : PT w base B gp n V P) (hg : w.grownBy w' row) (hr : ∀ k, row = some k → k < B ∧ k ≠ gp) : PT w' base B gp n V P where
  row := World.ownsRow.kept h.row hg (.inr fun e => (hr gp e.symm).2 rfl)
  lenP := h.lenP
  own k v L hv hL := (h.own k v L hv hL).kept hg (by
    cases hb : v.ownBlock with
    | none => exact .inl rfl
    | some b =>
      refine .inr fun e => ?_
      have h1 := (World.ownsRow.lt (h.own k v L hv hL) b hb).1
      have := hr b e.symm
      omega)
  apart := h.apart
  low := h.low
  sz := Nat.le_trans h.sz hg.size
theorem PT.cell {w : World} {base B gp n : Nat} {V : List Value} {P : List (List Int)} (h : PT w base B gp n V P) {k : Nat} (hk : k < n) : ∃ v L, V[k]? = some v ∧ P[k]? = some L ∧ w.cell? ⟨gp, k, none⟩ = some v ∧ OT w B v L := by
  have h1 : k < V.length := by rw [h.lenV]; exact hk
  have h2 : k < P.length := by rw [h.lenP]; exact hk
  refine ⟨V[k], P[k], List.getElem?_eq_getElem h1, List.getElem?_eq_getElem h2, ?_, h.own k _ _ (List.getElem?_eq_getElem h1) (List.getElem?_eq_getElem h2)⟩
  rw [World.ownsRow.cellAt h.row k (by omega), List.getElem?_eq_getElem h1]
/-- A part that was appended to, and laid back in its place. -/
theorem PT.put {w w' : World} {base B gp n : Nat} {V : List Value} {P : List (List Int)} (h : PT w base B gp n V P) {k : Nat} {v v' : Value} {L' : List Int} (hv : V[k]? = some v) (ho : OT w' B v' L') (hg : w.grownBy w' v.ownBlock) (hb : v'.ownBlock = v.ownBlock ∨ ∀ b, v'.ownBlock = some b → w.heap.size ≤ b) :
    PT (w'.setCell ⟨gp, k, none⟩ v') base B gp n (V.set k v') (P.set k L') ∧ w'.grownBy (w'.setCell ⟨gp, k, none⟩ v') (some gp) := by
  have hkn : k < n := by
    rcases Nat.lt_or_ge k n with h1 | h1
    · exact h1
    · rw [List.getElem?_eq_none (by rw [h.lenV]; exact h1)] at hv; cases hv
  have hL : P[k]? = some P[k]! := by rw [List.getElem?_eq_getElem (by rw [h.lenP]; exact hkn)]; simp [h.lenP, hkn]
  have how := h.own k v _ hv hL
  have hgne : some gp ≠ v.ownBlock := fun e => by have := (World.ownsRow.lt how gp e.symm).1; have := h.low; omega
  have r1 : w'.ownsRow base 22 1 (.slice (some ⟨gp, 0, none⟩) n n) n V := World.ownsRow.kept h.row hg (.inr hgne)
  obtain ⟨r2, g2⟩ := World.ownsRow.stored r1 k v'
  have other : ∀ (j : Nat) u M, j ≠ k → V[j]? = some u → P[j]? = some M → OT (w'.setCell ⟨gp, k, none⟩ v') B u M := fun j u M hj hu hM => by
    have h1 := (h.own j u M hu hM).kept hg (h.apart j k u v hu hv hj)
    refine h1.kept g2 ?_
    cases hub : u.ownBlock with
    | none => exact .inl rfl
    | some b =>
      refine .inr fun e => ?_
      cases e
      have := (World.ownsRow.lt h1 gp hub).1
      have := h.low
      omega
  have far : ∀ (j : Nat) u, j ≠ k → V[j]? = some u → u.ownBlock = none ∨ u.ownBlock ≠ v'.ownBlock := fun j u hj hu => by
    rcases hb with e | e
    · rw [e]; exact h.apart j k u v hu hv hj
    · cases hub : u.ownBlock with
      | none => exact .inl rfl
      | some b =>
        refine .inr fun e2 => ?_
        have hjn : j < P.length := by
          rcases Nat.lt_or_ge j n with h1 | h1
          · rw [h.lenP]; exact h1
          · rw [List.getElem?_eq_none (by rw [h.lenV]; exact h1)] at hu; cases hu
        have h3 := (World.ownsRow.lt (h.own j u _ hu (List.getElem?_eq_getElem hjn)) _ hub).2
        have h4 := e b e2.symm
        omega
  refine ⟨⟨r2, by rw [List.length_set]; exact h.lenP, ?_, ?_, h.low, Nat.le_trans h.sz (Nat.le_trans hg.size g2.size)⟩, g2⟩
  · intro j u M hu hM
    by_cases hj : j = k
    · subst hj
      rw [List.getElem?_set_self (by rw [h.lenV]; exact hkn)] at hu
      rw [List.getElem?_set_self (by rw [h.lenP]; exact hkn)] at hM
      cases hu; cases hM
      refine ho.kept g2 ?_
      cases hub : v'.ownBlock with
      | none => exact .inl rfl
      | some b =>
        refine .inr fun e => ?_
        cases e
        have := (World.ownsRow.lt ho gp hub).1
        have := h.low
        omega
    · rw [List.getElem?_set_ne (Ne.symm hj)] at hu hM
      exact other j u M hj hu hM
  · intro i j u u' hu hu' hij
    by_cases hi : i = k
    · subst hi
      rw [List.getElem?_set_self (by rw [h.lenV]; exact hkn)] at hu
      cases hu
      rw [List.getElem?_set_ne hij] at hu'
      rcases far j u' (Ne.symm hij) hu' with e | e
      · cases hvb : v'.ownBlock with
        | none => exact .inl rfl
        | some b => rw [e]; exact .inr (by simp)
      · exact .inr (Ne.symm e)
    · rw [List.getElem?_set_ne (Ne.symm hi)] at hu
      by_cases hj : j = k
      · subst hj
        rw [List.getElem?_set_self (by rw [h.lenV]; exact hkn)] at hu'
        cases hu'
        exact far i u hi hu
      · rw [List.getElem?_set_ne (Ne.symm hj)] at hu'
        exact h.apart i j u u' hu hu' hij

/-- Numbers in ascending order. -/
def ascd (L : List Int) : List Int := L.mergeSort fun x y => decide (x ≤ y)
theorem ascd_len (L : List Int) : (ascd L).length = L.length := by simp [ascd]
/-- A row of the call's own, sorted in its place. -/
theorem OT.sorted {w : World} {B : Nat} {g cap : Nat} {L : List Int} (h : OT w B (.slice (some ⟨g, 0, none⟩) L.length cap) L) (M : List Int) (hl : M.length = L.length) (n : Nat) (os : Array Obj) :
    OT (grow (putRow iv (Sort.ahead w n) g 0 M.toArray) os) B (.slice (some ⟨g, 0, none⟩) L.length cap) M ∧ w.grownBy (grow (putRow iv (Sort.ahead w n) g 0 M.toArray) os) (some g) := by
  rcases h.2 with ⟨h', _⟩ | ⟨g', cap', cur, h', hb, hg, hnc, hcm, hcs, htake⟩
  · simp at h'
  · simp only [Value.slice.injEq, Option.some.injEq, Addr.mk.injEq, and_true, true_and] at h'
    obtain ⟨rfl, rfl⟩ := h'
    have hlt := heap_lt hg
    have hsz : (putRow iv (Sort.ahead w n) g 0 M.toArray).heap.size = w.heap.size := by simp [putRow, mapBlock, Sort.ahead]
    have hat : (grow (putRow iv (Sort.ahead w n) g 0 M.toArray) os).heap[g]? = some (.cells (putCells iv 0 M.toArray cur) 3 (0, 0)) := by
      rw [heap_grow_old _ _ (by rw [hsz]; exact hlt)]
      simp only [putRow, mapBlock, Sort.ahead, Array.getElem?_modify, if_true, hg, Option.map_some]
      rfl
    refine ⟨⟨by simp, .inr ⟨g, cap, _, by rw [hl], hb, hat, by omega, hcm, by simp [putCells]; omega, ?_⟩⟩, ⟨rfl, rfl, rfl, ?_, fun k hk hne => ?_⟩⟩
    · apply List.ext_getElem?
      intro j
      rw [List.getElem?_take]
      by_cases hj : j < M.length * 1
      · rw [if_pos hj]
        have hjc : j < cur.size := by omega
        have : j < M.length := by omega
        simp [putCells, hjc, this]
      · rw [if_neg hj, List.getElem?_eq_none (by simp; omega)]
    · simp only [grow, Array.size_append, hsz]; omega
    · rw [heap_grow_old _ _ (by rw [hsz]; exact hk)]
      have hne' : g ≠ k := fun e => hne (by rw [e])
      simp [putRow, mapBlock, Sort.ahead, Array.getElem?_modify, hne']

/-- A part sorted in its place. -/
theorem PT.sortedAt {w w' : World} {base B gp n : Nat} {V : List Value} {P : List (List Int)} (h : PT w base B gp n V P) {k : Nat} {v : Value} {M : List Int} (hv : V[k]? = some v) (ho : OT w' B v M) (hg : w.grownBy w' v.ownBlock) : PT w' base B gp n V (P.set k M) := by
  have hkn : k < n := by
    rcases Nat.lt_or_ge k n with h1 | h1
    · exact h1
    · rw [List.getElem?_eq_none (by rw [h.lenV]; exact h1)] at hv; cases hv
  have hL : P[k]? = some P[k]! := by rw [List.getElem?_eq_getElem (by rw [h.lenP]; exact hkn)]; simp [h.lenP, hkn]
  have how := h.own k v _ hv hL
  have hgne : some gp ≠ v.ownBlock := fun e => by have := (World.ownsRow.lt how gp e.symm).1; have := h.low; omega
  refine ⟨World.ownsRow.kept h.row hg (.inr hgne), by rw [List.length_set]; exact h.lenP, ?_, h.apart, h.low, Nat.le_trans h.sz hg.size⟩
  intro j u M' hu hM
  by_cases hj : j = k
  · subst hj
    rw [List.getElem?_set_self (by rw [h.lenP]; exact hkn)] at hM
    rw [hv] at hu
    cases hu; cases hM
    exact ho
  · rw [List.getElem?_set_ne (Ne.symm hj)] at hM
    exact (h.own j u M' hu hM).kept hg (h.apart j k u v hu hv hj)
/-- slices.Sort at a part. -/
theorem sort35 {w : World} {B : Nat} {v : Value} {L : List Int} (ho : OT w B v L) (hl : L.length ≤ 100000) : Calls Try.prog 35 #[v] w fun e w' => e = .returned (.tuple #[]) ∧ OT w' B v (ascd L) ∧ w.grownBy w' v.ownBlock := by
  by_cases hL : L = []
  · subst hL
    obtain ⟨A, c, rfl, hc, hr, -⟩ := ho.form
    have hS := AnyM.slices_Sort_int_none Try.sortI A c w
    change Calls Try.prog 35 _ _ _ at hS
    refine hS.mono ?_
    rintro e w' ⟨rfl, rfl⟩
    exact ⟨rfl, by simpa [ascd] using ho, World.grownBy.refl _ _⟩
  · obtain ⟨g, cap, rfl, hg1, hg2, hc⟩ := ho.inBlock hL
    have hS := AnyM.slices_Sort_int Try.sortI g 0 cap L w ho.holds hg2 (by omega)
    change Calls Try.prog 35 _ _ _ at hS
    refine hS.mono ?_
    rintro e w' ⟨rfl, n, os, rfl⟩
    obtain ⟨h1, h2⟩ := ho.sorted (ascd L) (ascd_len L) n os
    exact ⟨rfl, h1, h2⟩
/-- A row by its value. -/
def rowOf (v : Value) (L : List Int) : Row := match v with
  | .slice A _ c => ⟨A, c, L⟩
  | _ => ⟨none, 0, L⟩
theorem rowOf_l (v : Value) (L : List Int) : (rowOf v L).L = L := by unfold rowOf; split <;> rfl
theorem PT.rws {w : World} {base B gp n : Nat} {V : List Value} {P : List (List Int)} (h : PT w base B gp n V P) (hP : ∀ L ∈ P, L.length ≤ 100000) : Rws w (some ⟨gp, 0, none⟩) (List.zipWith rowOf V P) ∧ lls (List.zipWith rowOf V P) = P ∧ (List.zipWith rowOf V P).length = n := by
  have hlV := h.lenV
  have hlP := h.lenP
  have key : ∀ (k : Nat) x, (List.zipWith rowOf V P)[k]? = some x → ∃ v L, V[k]? = some v ∧ P[k]? = some L ∧ x = rowOf v L ∧ x.val = v ∧ x.Rd w := by
    intro k x hx
    rw [List.getElem?_zipWith] at hx
    cases hv : V[k]? with
    | none => rw [hv] at hx; simp at hx
    | some v =>
      cases hL : P[k]? with
      | none => rw [hv, hL] at hx; simp at hx
      | some L =>
        rw [hv, hL] at hx
        simp at hx
        subst hx
        have ho := h.own k v L hv hL
        obtain ⟨A, c, rfl, hc, hr, -⟩ := ho.form
        have := hP L (List.mem_of_getElem? hL)
        exact ⟨_, L, rfl, rfl, rfl, rfl, ⟨hr, hc, by show L.length ≤ _; omega⟩⟩
  refine ⟨⟨.inr ⟨_, rfl, ?_, fun j x hj => ?_⟩, fun x hx => ?_⟩, ?_, by simp [hlV, hlP]⟩
  · have := h.low
    have := h.sz
    show gp < _
    omega
  · obtain ⟨v, L, hv, hL, rfl, e, _⟩ := key j x hj
    have hjn : j < n := by
      rcases Nat.lt_or_ge j n with h1 | h1
      · exact h1
      · rw [List.getElem?_eq_none (by rw [hlV]; exact h1)] at hv; cases hv
    obtain ⟨v', L', hv', _, hc, _⟩ := h.cell hjn
    rw [e]
    rw [hv] at hv'
    cases hv'
    rw [← hc]
    unfold Addr.add
    split
    · rename_i h0; subst h0; rfl
    · simp
  · obtain ⟨k, hk⟩ := List.mem_iff_getElem?.1 hx
    obtain ⟨_, _, _, _, _, _, hr⟩ := key k x hk
    exact hr
  · unfold lls
    apply List.ext_getElem?
    intro k
    rw [List.getElem?_map, List.getElem?_zipWith]
    cases hL : P[k]? with
    | none => cases V[k]? <;> simp
    | some L =>
      have hkn : k < V.length := by
        rcases Nat.lt_or_ge k n with h1 | h1
        · rw [hlV]; exact h1
        · rw [List.getElem?_eq_none (by rw [hlP]; exact h1)] at hL; cases hL
      rw [List.getElem?_eq_getElem hkn]
      simp [rowOf_l]
end Go.Proofs.Ytejipflkdigbbaa

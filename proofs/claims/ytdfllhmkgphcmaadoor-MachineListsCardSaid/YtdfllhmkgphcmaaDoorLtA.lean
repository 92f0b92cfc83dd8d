/- Rows of records of the call's own; append. -/
import Derived.Maps.AppendAt
import Derived.WalkSpells
import Derived.OwnWalk
import Derived.Laws.OwnMore
import Derived.Test.YtdfllhmkgphcmaaDoorM9
namespace Go.Proofs.YtdfllhmkgphcmaaDoor
open Go.RowKit

/-- A slice value that owns the records of a list: n cells each, of type e. -/
def OR {α : Type} (e : TypeId) (n : Nat) (cs : α → List Value) (w : World) (base : Nat) (v : Value) (L : List α) : Prop := w.ownsRow base e n v L.length (L.flatMap cs)
section
variable {α : Type} {e : TypeId} {n : Nat} {cs : α → List Value} {w w' : World} {base : Nat} {v : Value} {L : List α}
theorem OR.nil : OR e n cs w base (.slice none 0 0) [] := World.ownsRow_nil w base e n
theorem OR.form (hn : ∀ x, (cs x).length = n) (h : OR e n cs w base v L) : ∃ A c, v = .slice A L.length c ∧ RD n cs w A L := by
  have h0 := h
  rcases h0.2 with ⟨rfl, hl⟩ | ⟨g, cap, cur, rfl, hg, hh, hnc, hm, hs, hx⟩
  · have : L = [] := List.eq_nil_of_length_eq_zero hl
    subst this
    exact ⟨none, 0, rfl, .inl rfl⟩
  · refine ⟨some ⟨g, 0, none⟩, cap, rfl, .inr ⟨_, rfl, (h.lt g rfl).2, fun j x hj i u hi => ?_⟩⟩
    have hin : i < n := by
      rcases Nat.lt_or_ge i n with h' | h'
      · exact h'
      · rw [List.getElem?_eq_none (by rw [hn]; exact h')] at hi; cases hi
    exact World.ownsRow.cells h rfl _ u (by rw [flat_at cs n hn hin L j hj]; exact hi)
theorem OR.kept {row : Option Nat} (h : OR e n cs w base v L) (hg : w.grownBy w' row) (hne : v.ownBlock = none ∨ v.ownBlock ≠ row) : OR e n cs w' base v L := World.ownsRow.kept h hg hne
theorem OR.grow (h : OR e n cs w base v L) (hg : w.grownBy w' none) : OR e n cs w' base v L := h.kept hg (by
  cases hv : v.ownBlock with
  | none => exact .inl rfl
  | some g => exact .inr (by simp))
theorem OR.alloc (h : OR e n cs w base v L) (o : Obj) : OR e n cs (w.alloc o) base v L := World.ownsRow.alloc h o
theorem OR.empty (hb : base ≤ w.heap.size) : OR e n cs (w.alloc (.cells #[] e)) base (.slice (some ⟨w.heap.size, 0, none⟩) 0 0) ([] : List α) :=
  World.ownsRow_made w #[] 0 hb (by unfold maxLen; omega) (by simp)
theorem OR.lt (h : OR e n cs w base v L) : ∀ k, v.ownBlock = some k → base ≤ k ∧ k < w.heap.size := World.ownsRow.lt h
/-- Changes of a row of the call's own leave what was. -/
theorem OR.gr {W : World} (g0 : W.grownBy w none) (h : OR e n cs w base v L) (hb : W.heap.size ≤ base) (g : w.grownBy w' v.ownBlock) : W.grownBy w' none :=
  ⟨g.os.trans g0.os, g.tape.trans g0.tape, g.output.trans g0.output, Nat.le_trans g0.size g.size, fun k hk _ => (g.block k (Nat.lt_of_lt_of_le hk g0.size) (by
    intro e1
    have := h.lt k e1.symm
    omega)).trans (g0.block k hk (by simp))⟩

theorem run_appR (t ty : TypeId) {z : Value} {bytes : Nat} (hn : ∀ x, (cs x).length = n) (h1 : ∀ x, ∀ u ∈ cs x, u.oneCell' = true) (ht : Tryd.prog.underlying t = some (.slice e)) (hinfo : (Tryd.prog.info? e).map (fun i => (i.zero, i.size, i.bytes)) = some (some z, n, bytes)) (hz : z.cells.size = n) (hn0 : 0 < n) (hby : bytes ≤ 1000)
    (hown : OR e n cs w base v L) {A : Option Addr} {M : List α} (c : Nat) (hr : RD n cs w A M) (hA : A ≠ none) (hsz : L.length + M.length ≤ 1000000) (hb : base ≤ w.heap.size) :
    ∃ v' w', (Builtin.append_ #[t, t] ty #[v, .slice A M.length c]).run Tryd.prog w = .ok v' w' ∧ OR e n cs w' base v' (L ++ M) ∧ w.grownBy w' v.ownBlock ∧ (v'.ownBlock = v.ownBlock ∨ v'.ownBlock = some w.heap.size) := by
  obtain ⟨i0, hi, hz0, hz1, hz2⟩ := info_parts hinfo
  obtain ⟨a, rfl⟩ : ∃ a, A = some a := by
    cases A with
    | none => exact absurd rfl hA
    | some a => exact ⟨a, rfl⟩
  have hc : ∀ j u, (M.flatMap cs)[j]? = some u → w.cell? (a.add j) = some u := by
    intro j u hu
    have hj : j < M.length * n := by
      rw [← flat_len cs n hn M]
      exact (List.getElem?_eq_some_iff.1 hu).1
    have e0 : j / n < M.length := Nat.div_lt_of_lt_mul (by rw [Nat.mul_comm]; exact hj)
    have e1 : j % n < n := Nat.mod_lt _ hn0
    have e2 : j = j / n * n + j % n := by rw [Nat.mul_comm]; exact (Nat.div_add_mod j n).symm
    rcases hr with rfl | ⟨a', e', _, hc⟩
    · simp at hu
    · cases e'
      have e3 := List.getElem?_eq_getElem e0
      have e4 := flat_at cs n hn e1 M _ e3
      rw [← e2, hu] at e4
      rw [e2]
      exact hc _ _ e3 _ _ e4.symm
  obtain ⟨v', w', hrun, h2, h3, _, h5⟩ := run_append_own_at (P := Tryd.prog) w base t ty e i0 z n bytes ht hi hz0 hz1 hz2 hz hn0 v L.length (L.flatMap cs) hown a M.length c (M.flatMap cs) (flat_len cs n hn M) hc
    (by intro u hu; obtain ⟨x, _, hx⟩ := List.mem_flatMap.1 hu; exact h1 x u hx) (by unfold maxLen; omega) (by have := Nat.mul_le_mul (show L.length + M.length ≤ 1000000 from hsz) hby; omega) hb
  exact ⟨v', w', hrun, by unfold OR; simpa using h2, h3, h5⟩
end

theorem Ins.cell1 (x : Ins) : ∀ u ∈ x.cs, u.oneCell' = true := by
  intro u hu
  simp only [Ins.cs, List.mem_cons, List.not_mem_nil, or_false] at hu
  rcases hu with rfl | rfl | rfl | rfl <;> rfl
theorem Blk.cell1 (x : Blk) : ∀ u ∈ x.cs, u.oneCell' = true := by
  intro u hu
  simp only [Blk.cs, List.mem_cons, List.not_mem_nil, or_false] at hu
  rcases hu with rfl | rfl | rfl <;> rfl
set_option maxRecDepth 100000 in
theorem info45 : (Tryd.prog.info? 45).map (fun i => (i.zero, i.size, i.bytes)) = some (some (.agg #[iv 0, iv 0, iv 0, tv []]), 4, 40) := by kernel_rfl
set_option maxRecDepth 100000 in
theorem info43 : (Tryd.prog.info? 43).map (fun i => (i.zero, i.size, i.bytes)) = some (some (.agg #[iv 0, .bool false, .slice none 0 0]), 3, 40) := by kernel_rfl
theorem Blk.cs_len' (x : Blk) : x.cs.length = 3 := rfl

theorem wpList_appI (w : World) {ops : Array Oper} {rest : List Oper} {o : Oper} {a : Act} {Q : Exit → Act → World → Prop} (hgd : o.guard = none) (s x : Operand)
    (ho : o.op = .call { callee := .builtin .append, args := #[s, x], argTypes := #[41, 41] }) (base : Nat) {v : Value} {L : List Ins} (hs : a.eval s = v) (hown : OR 45 4 Ins.cs w base v L)
    {A : Option Addr} {M : List Ins} {m c : Nat} (hm : M.length = m) (hx : a.eval x = .slice A m c) (hr : RD 4 Ins.cs w A M) (hA : A ≠ none) (hsz : L.length + M.length ≤ 1000000) (hb : base ≤ w.heap.size)
    (h : ∀ v' w', OR 45 4 Ins.cs w' base v' (L ++ M) → w.grownBy w' v.ownBlock → (v'.ownBlock = v.ownBlock ∨ v'.ownBlock = some w.heap.size) → wpList Tryd.prog ops Q rest (a.put o.dst v') w') : wpList Tryd.prog ops Q (o :: rest) a w := by
  subst hm
  refine wpList_plain hgd fun K hK => ?_
  obtain ⟨v', w', hrun, h2, h3, h4⟩ := run_appR (t := 41) (ty := o.type) Ins.cs_len Ins.cell1 Tryd.underlying41 info45 rfl (by decide) (by decide) hown c hr hA hsz hb
  unfold Oper.wp execOp
  simp only [ho, resolve, invoke, builtin, Sem.run_bind, Sem.run_pure, Result.andThen_ok, List.map_toArray, List.map_cons, List.map_nil, hs, hx, hrun]
  exact hK _ _ (h v' w' h2 h3 h4)
theorem wpList_appB (w : World) {ops : Array Oper} {rest : List Oper} {o : Oper} {a : Act} {Q : Exit → Act → World → Prop} (hgd : o.guard = none) (s x : Operand)
    (ho : o.op = .call { callee := .builtin .append, args := #[s, x], argTypes := #[22, 22] }) (base : Nat) {v : Value} {L : List Blk} (hs : a.eval s = v) (hown : OR 43 3 Blk.cs w base v L)
    {A : Option Addr} {M : List Blk} {m c : Nat} (hm : M.length = m) (hx : a.eval x = .slice A m c) (hr : RD 3 Blk.cs w A M) (hA : A ≠ none) (hsz : L.length + M.length ≤ 1000000) (hb : base ≤ w.heap.size)
    (h : ∀ v' w', OR 43 3 Blk.cs w' base v' (L ++ M) → w.grownBy w' v.ownBlock → (v'.ownBlock = v.ownBlock ∨ v'.ownBlock = some w.heap.size) → wpList Tryd.prog ops Q rest (a.put o.dst v') w') : wpList Tryd.prog ops Q (o :: rest) a w := by
  subst hm
  refine wpList_plain hgd fun K hK => ?_
  obtain ⟨v', w', hrun, h2, h3, h4⟩ := run_appR (t := 22) (ty := o.type) Blk.cs_len' Blk.cell1 Tryd.underlying22 info43 rfl (by decide) (by decide) hown c hr hA hsz hb
  unfold Oper.wp execOp
  simp only [ho, resolve, invoke, builtin, Sem.run_bind, Sem.run_pure, Result.andThen_ok, List.map_toArray, List.map_cons, List.map_nil, hs, hx, hrun]
  exact hK _ _ (h v' w' h2 h3 h4)
/-- New instructions in a block of their own. -/
theorem ri_new (w : World) (L : List Ins) {cs : Array Value} (h : cs = (L.flatMap Ins.cs).toArray) : RD 4 Ins.cs (w.alloc (.cells cs 45)) (some ⟨w.heap.size, 0, none⟩) L := rd_cells Ins.cs_len (by subst h; exact al_new w _)
/-- An instruction of a row gets another number. -/
theorem OR.setA {w : World} {base g c : Nat} {L : List Ins} (h : OR 45 4 Ins.cs w base (.slice (some ⟨g, 0, none⟩) L.length c) L) {j : Nat} {x : Ins} (hj : L[j]? = some x) (u : Int) :
    OR 45 4 Ins.cs (w.setCell ⟨g, j * 4 + 1, none⟩ (iv u)) base (.slice (some ⟨g, 0, none⟩) L.length c) (L.set j { x with a := u }) ∧ w.grownBy (w.setCell ⟨g, j * 4 + 1, none⟩ (iv u)) (some g) := by
  have h1 := World.ownsRow.stored h (j * 4 + 1) (iv u)
  have e : (L.flatMap Ins.cs).set (j * 4 + 1) (iv u) = (L.set j { x with a := u }).flatMap Ins.cs := by
    clear h h1
    induction L generalizing j with
    | nil => simp at hj
    | cons y L ih =>
      cases j with
      | zero =>
        simp at hj
        subst hj
        simp [Ins.cs]
      | succ j =>
        simp only [List.getElem?_cons_succ] at hj
        have := ih hj
        simp only [List.flatMap_cons, List.set_cons_succ]
        rw [← this]
        simp [Ins.cs, show (j + 1) * 4 + 1 = (j * 4 + 1) + 4 by omega]
  unfold OR
  rw [List.length_set, ← e]
  exact h1

/-- The program of plain; its blocks lie in a row of its own. -/
structure PlO (A : Option Addr) (c : Nat) (L : List Ins) (B1 B2 : Nat) (w V : World) : Prop where
  gr : w.grownBy V none
  b : OR 43 3 Blk.cs V w.heap.size (.slice (some ⟨B1, 0, none⟩) 1 1) [⟨0, false, A, c, L⟩]
  p : (plP A c L B1 B2).Rd V
  ne : B1 ≠ B2
set_option maxRecDepth 100000 in
set_option maxHeartbeats 4000000 in
theorem plainL_own (A : Option Addr) (c : Nat) (L : List Ins) (w : World) (hL : RD 4 Ins.cs w A L) :
    Calls Tryd.prog 21 #[.slice A L.length c] w fun e w' => ∃ B1 B2, e = .returned (plP A c L B1 B2).v ∧ PlO A c L B1 B2 w w' := by
  have HL := Lib.hid hL
  clear hL
  generalize hn : L.length = n at *
  have HN := Lib.hid hn
  clear hn
  go_enter Tryd.func21, Tryd.ntmps21
  go_wp2
  have k1 := al_new (w.alloc (Obj.cells #[Value.slice (some { block := w.heap.size + 1, off := 0 }) 1 1, Value.slice (some { block := w.heap.size + 1 + 1, off := 0 }) 1 1] 25)) (Obj.cells #[Value.int IntKind.i64 0, Value.bool false, Value.slice A n c] 43)
  have k2 := al_new ((w.alloc (Obj.cells #[Value.slice (some { block := w.heap.size + 1, off := 0 }) 1 1, Value.slice (some { block := w.heap.size + 1 + 1, off := 0 }) 1 1] 25)).alloc (Obj.cells #[Value.int IntKind.i64 0, Value.bool false, Value.slice A n c] 43)) (Obj.cells #[Value.string { data := #[109] }, Value.int IntKind.i64 1, Value.int IntKind.i64 0] 69)
  have k3 := (Below.heap_alloc _ (Obj.cells #[Value.string { data := #[109] }, Value.int IntKind.i64 1, Value.int IntKind.i64 0] 69) _ (heap_lt k1)).trans k1
  rw [show (w.alloc (Obj.cells #[Value.slice (some { block := w.heap.size + 1, off := 0 }) 1 1, Value.slice (some { block := w.heap.size + 1 + 1, off := 0 }) 1 1] 25)).heap.size = w.heap.size + 1 by simp] at k3
  rw [show ((w.alloc (Obj.cells #[Value.slice (some { block := w.heap.size + 1, off := 0 }) 1 1, Value.slice (some { block := w.heap.size + 1 + 1, off := 0 }) 1 1] 25)).alloc (Obj.cells #[Value.int IntKind.i64 0, Value.bool false, Value.slice A n c] 43)).heap.size = w.heap.size + 1 + 1 by simp] at k2
  have gr := ((World.grownBy_alloc w (Obj.cells #[Value.slice (some { block := w.heap.size + 1, off := 0 }) 1 1, Value.slice (some { block := w.heap.size + 1 + 1, off := 0 }) 1 1] 25) none).trans (World.grownBy_alloc _ (Obj.cells #[Value.int IntKind.i64 0, Value.bool false, Value.slice A n c] 43) none)).trans (World.grownBy_alloc _ (Obj.cells #[Value.string { data := #[109] }, Value.int IntKind.i64 1, Value.int IntKind.i64 0] 69) none)
  have W9 := Lib.hid (show ∃ B1 B2, Ending.returned (.agg #[Value.slice (some { block := w.heap.size + 1, off := 0 }) 1 1, Value.slice (some { block := w.heap.size + 1 + 1, off := 0 }) 1 1]) = .returned (plP A c L B1 B2).v ∧ PlO A c L B1 B2 w _ from ⟨_, _, rfl, gr, ⟨rfl, .inr ⟨_, 1, _, rfl, by omega, k3, by simp, by unfold maxLen; omega, rfl, by rw [← HN.out]; rfl⟩⟩, plP_rd (HL.out.below ⟨gr.os, gr.tape, gr.output, gr.size, fun k hk => gr.block k hk (by simp)⟩) (by rw [HN.out]; exact k3) k2, by omega⟩)
  clear k1 k2 k3 gr
  refine bodyPost_ret (v := .agg #[Value.slice (some { block := w.heap.size + 1, off := 0 }) 1 1, Value.slice (some { block := w.heap.size + 1 + 1, off := 0 }) 1 1]) ?_ rfl W9.out
  simp [results, Tryd.results21, go_sem]
end Go.Proofs.YtdfllhmkgphcmaaDoor

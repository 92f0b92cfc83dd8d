/- Words: a block while the reference reads it. -/
import Derived.Test.YtgboboljgcfggaaGreatDoorRfR
namespace Go.Proofs.YtgboboljgcfggaaGreatDoor
open Go.RowKit

theorem results_bk {fn : Func} {p q : Tmp} (h : fn.results = #[.cell p 69, .cell q 82]) (tmps : Array Value) (w : World) (a b : Addr) (x y z u v : Value) (hp : tmps.getD p undef = .pointer (some a)) (hq : tmps.getD q undef = .pointer (some b)) (h0 : w.cell? a = some x) (h1 : w.cell? ⟨a.block, a.off + 1, none⟩ = some y) (h2 : w.cell? ⟨a.block, a.off + 2, none⟩ = some z) (g0 : w.cell? b = some u) (g1 : w.cell? ⟨b.block, b.off + 1, none⟩ = some v) : (results fn tmps).run Tryz.prog w = .ok (.tuple #[.agg #[x, y, z], .agg #[u, v]]) w := by
  have ha := Tryz.isAgg69
  have hz := Tryz.sizeOf69
  have ha2 := Tryz.isAgg82
  have hz2 := Tryz.sizeOf82
  have hp' : tmps[p]?.getD undef = .pointer (some a) := by simpa using hp
  have hq' : tmps[q]?.getD undef = .pointer (some b) := by simpa using hq
  clear hp hq
  simp only [results, h]
  simp [Sem.run_bind, hp', hq', asAddr, go_sem, ha, hz, ha2, hz2, loadVar, h0, h1, h2, g0, g1]
theorem dcel4 {V : World} {k : Nat} {x y z u : Value} {t : TypeId} (h : V.heap[k]? = some (.cells #[x, y, z, u] t (0, 0))) : V.cell? ⟨k, 0, none⟩ = some x ∧ V.cell? ⟨k, 1, none⟩ = some y ∧ V.cell? ⟨k, 2, none⟩ = some z ∧ V.cell? ⟨k, 3, none⟩ = some u ∧ ∀ j, V.frozen? ⟨k, j, none⟩ = false :=
  ⟨by rw [Lib.cell_of_heap h]; rfl, by rw [Lib.cell_of_heap h]; rfl, by rw [Lib.cell_of_heap h]; rfl, by rw [Lib.cell_of_heap h]; rfl, frz h⟩
theorem set4 {V : World} {k : Nat} {x y z u : Value} {t : TypeId} (h : V.heap[k]? = some (.cells #[x, y, z, u] t (0, 0))) (a : Value) : (V.setCell ⟨k, 0, none⟩ a).heap[k]? = some (.cells #[a, y, z, u] t (0, 0)) ∧ (V.setCell ⟨k, 1, none⟩ a).heap[k]? = some (.cells #[x, a, z, u] t (0, 0)) ∧ (V.setCell ⟨k, 2, none⟩ a).heap[k]? = some (.cells #[x, y, a, u] t (0, 0)) ∧ (V.setCell ⟨k, 3, none⟩ a).heap[k]? = some (.cells #[x, y, z, a] t (0, 0)) := by
  refine ⟨?_, ?_, ?_, ?_⟩ <;> simp [World.setCell, Array.getElem?_modify, h]
/-- The reference's reader in a box. -/
def RrS (rb : Nat) (s : RS) (V : World) : Prop := V.heap[rb]? = some (.cells #[.string ⟨s.rest.toArray⟩, .bool s.bad] 82 (0, 0))
theorem msrAt_eqR {rb : Nat} {s : RS} {V : World} (h : RrS rb s V) : msrAt rb V = msr s := by
  obtain ⟨c0, c1, -⟩ := dcel2 h
  unfold msrAt msr
  rw [c0, c1]
  rfl
theorem RrS.set {rb : Nat} {s : RS} {V : World} (h : RrS rb s V) (s' : RS) : RrS rb s' ((V.setCell ⟨rb, 0, none⟩ (.string ⟨s'.rest.toArray⟩)).setCell ⟨rb, 1, none⟩ (.bool s'.bad)) := (dset2 (dset2 h _).1 _).2
/-- A block that is being read. -/
structure DK (w0 : World) (rb : Nat) (cap : Int) (pm : Bool) (s : RS) (v : Value) (L : List Ins) (V : World) : Prop where
  r : RrS rb s V
  z : V.heap[rb + 1]? = some (.cells #[.int .i64 0, .bool false, .slice none 0 0] 69 (0, 0))
  z3 : V.heap[rb + 2]? = some (.cells #[.string ⟨#[]⟩, .bool false] 82 (0, 0))
  b : V.heap[rb + 3]? = some (.cells #[.int .i64 cap, .bool pm, v] 69 (0, 0))
  o : OR 71 4 Ins.cs V (rb + 4) v L
  g : Gr w0 V
  lt : w0.heap.size = rb ∧ rb + 4 ≤ V.heap.size
section
variable {w0 V V' : World} {rb ky : Nat} {cap : Int} {pm : Bool} {s s' : RS} {v v' y0 y1 y2 y3 : Value} {L : List Ins}
theorem DK.gr (h : DK w0 rb cap pm s v L V) (g : Gr V V') : DK w0 rb cap pm s v L V' :=
  ⟨gr_h g h.r, gr_h g h.z, gr_h g h.z3, gr_h g h.b, h.o.gr g, h.g.trans g, h.lt.1, Nat.le_trans h.lt.2 g.size⟩
theorem DK.own (h : DK w0 rb cap pm s v L V) (k : Nat) (hk : k < rb + 4) : v.ownBlock = none ∨ v.ownBlock ≠ some k := by
  cases hq : v.ownBlock with
  | none => exact .inl rfl
  | some j => right; intro e; have := (h.o.lt j hq).1; have := Option.some.inj e; omega
theorem DK.gs (h : DK w0 rb cap pm s v L V) (k i : Nat) (u : Value) (hk : rb ≤ k) : Gr w0 (V.setCell ⟨k, i, none⟩ u) :=
  gr_but h.g (grown_set k i u) (fun j e => by have := Option.some.inj e; have := h.lt; omega)
/-- The reader has gone on. -/
theorem DK.rd (h : DK w0 rb cap pm s v L V) (s' : RS) : DK w0 rb cap pm s' v L ((V.setCell ⟨rb, 0, none⟩ (.string ⟨s'.rest.toArray⟩)).setCell ⟨rb, 1, none⟩ (.bool s'.bad)) := by
  have g := (grown_set (w := V) rb 0 (.string ⟨s'.rest.toArray⟩)).trans (grown_set rb 1 (.bool s'.bad))
  have q : ∀ k, k ≠ rb → ((V.setCell ⟨rb, 0, none⟩ (.string ⟨s'.rest.toArray⟩)).setCell ⟨rb, 1, none⟩ (.bool s'.bad)).heap[k]? = V.heap[k]? := fun k hk => (set_oth _ hk).trans (set_oth _ hk)
  exact ⟨h.r.set s', (q _ (by omega)).trans h.z, (q _ (by omega)).trans h.z3, (q _ (by omega)).trans h.b, h.o.kept g (h.own rb (by omega)), gr_but h.g g (fun j e => by have := Option.some.inj e; have := h.lt; omega), h.lt.1, Nat.le_trans h.lt.2 g.size⟩
theorem DK.scap (h : DK w0 rb cap pm s v L V) (c : Int) : DK w0 rb c pm s v L (V.setCell ⟨rb + 3, 0, none⟩ (.int .i64 c)) := by
  have g : V.grownBy (V.setCell ⟨rb + 3, 0, none⟩ (.int .i64 c)) (some (rb + 3)) := grown_set (rb + 3) 0 _
  have q : ∀ k, k ≠ rb + 3 → (V.setCell ⟨rb + 3, 0, none⟩ (.int .i64 c)).heap[k]? = V.heap[k]? := fun k hk => set_oth _ hk
  exact ⟨(q _ (by omega)).trans h.r, (q _ (by omega)).trans h.z, (q _ (by omega)).trans h.z3, (set3 h.b _).1, h.o.kept g (h.own _ (by omega)), h.gs _ _ _ (by omega), h.lt.1, Nat.le_trans h.lt.2 g.size⟩
theorem DK.spm (h : DK w0 rb cap pm s v L V) (c : Bool) : DK w0 rb cap c s v L (V.setCell ⟨rb + 3, 1, none⟩ (.bool c)) := by
  have g : V.grownBy (V.setCell ⟨rb + 3, 1, none⟩ (.bool c)) (some (rb + 3)) := grown_set (rb + 3) 1 _
  have q : ∀ k, k ≠ rb + 3 → (V.setCell ⟨rb + 3, 1, none⟩ (.bool c)).heap[k]? = V.heap[k]? := fun k hk => set_oth _ hk
  exact ⟨(q _ (by omega)).trans h.r, (q _ (by omega)).trans h.z, (q _ (by omega)).trans h.z3, (set3 h.b _).2.1, h.o.kept g (h.own _ (by omega)), h.gs _ _ _ (by omega), h.lt.1, Nat.le_trans h.lt.2 g.size⟩
theorem DK.c (h : DK w0 rb cap pm s v L V) : V.cell? ⟨rb, 0, none⟩ = some (.string ⟨s.rest.toArray⟩) ∧ V.cell? ⟨rb, 1, none⟩ = some (.bool s.bad) ∧ V.frozen? ⟨rb, 0, none⟩ = false ∧ V.frozen? ⟨rb, 1, none⟩ = false := dcel2 h.r
theorem DK.cb (h : DK w0 rb cap pm s v L V) : V.cell? ⟨rb + 3, 0, none⟩ = some (.int .i64 cap) ∧ V.cell? ⟨rb + 3, 1, none⟩ = some (.bool pm) ∧ V.cell? ⟨rb + 3, 2, none⟩ = some v ∧ V.frozen? ⟨rb + 3, 0, none⟩ = false ∧ V.frozen? ⟨rb + 3, 1, none⟩ = false ∧ V.frozen? ⟨rb + 3, 2, none⟩ = false := by
  obtain ⟨a, b, c, f⟩ := dcel3 h.b
  exact ⟨a, b, c, f 0, f 1, f 2⟩
/-- An instruction in its box. -/
structure DKI (w0 : World) (rb : Nat) (cap : Int) (pm : Bool) (s : RS) (v : Value) (L : List Ins) (ky : Nat) (y0 y1 y2 y3 : Value) (V : World) : Prop where
  d : DK w0 rb cap pm s v L V
  y : V.heap[ky]? = some (.cells #[y0, y1, y2, y3] 71 (0, 0))
  n : rb + 4 ≤ ky ∧ v.ownBlock ≠ some ky
theorem DK.ins (h : DK w0 rb cap pm s v L V) : DKI w0 rb cap pm s v L V.heap.size (.int .i64 0) (.int .i64 0) (.int .i64 0) (.string ⟨#[]⟩) (V.alloc (.cells #[.int .i64 0, .int .i64 0, .int .i64 0, .string ⟨#[]⟩] 71)) :=
  ⟨h.gr (gr_al _ _), al_new _ _, h.lt.2, fun e => by have := (h.o.lt _ e).2; omega⟩
theorem DKI.gr (h : DKI w0 rb cap pm s v L ky y0 y1 y2 y3 V) (g : Gr V V') : DKI w0 rb cap pm s v L ky y0 y1 y2 y3 V' := ⟨h.d.gr g, gr_h g h.y, h.n⟩
theorem DKI.rd (h : DKI w0 rb cap pm s v L ky y0 y1 y2 y3 V) (s' : RS) : DKI w0 rb cap pm s' v L ky y0 y1 y2 y3 ((V.setCell ⟨rb, 0, none⟩ (.string ⟨s'.rest.toArray⟩)).setCell ⟨rb, 1, none⟩ (.bool s'.bad)) :=
  ⟨h.d.rd s', (set_oth _ (by have := h.n; omega)).trans ((set_oth _ (by have := h.n; omega)).trans h.y), h.n⟩
theorem DKI.set (h : DKI w0 rb cap pm s v L ky y0 y1 y2 y3 V) (i : Nat) (u : Value) : DK w0 rb cap pm s v L (V.setCell ⟨ky, i, none⟩ u) := by
  have g : V.grownBy (V.setCell ⟨ky, i, none⟩ u) (some ky) := grown_set ky i u
  obtain ⟨n1, n2⟩ := h.n
  have q : ∀ k, k ≠ ky → (V.setCell ⟨ky, i, none⟩ u).heap[k]? = V.heap[k]? := fun k hk => set_oth _ hk
  exact ⟨(q _ (by omega)).trans h.d.r, (q _ (by omega)).trans h.d.z, (q _ (by omega)).trans h.d.z3, (q _ (by omega)).trans h.d.b, h.d.o.kept g (.inr n2), h.d.gs _ _ _ (by omega), h.d.lt.1, Nat.le_trans h.d.lt.2 g.size⟩
theorem DKI.f0 (h : DKI w0 rb cap pm s v L ky y0 y1 y2 y3 V) (u : Value) : DKI w0 rb cap pm s v L ky u y1 y2 y3 (V.setCell ⟨ky, 0, none⟩ u) := ⟨h.set 0 u, (set4 h.y u).1, h.n⟩
theorem DKI.f1 (h : DKI w0 rb cap pm s v L ky y0 y1 y2 y3 V) (u : Value) : DKI w0 rb cap pm s v L ky y0 u y2 y3 (V.setCell ⟨ky, 1, none⟩ u) := ⟨h.set 1 u, (set4 h.y u).2.1, h.n⟩
theorem DKI.f2 (h : DKI w0 rb cap pm s v L ky y0 y1 y2 y3 V) (u : Value) : DKI w0 rb cap pm s v L ky y0 y1 u y3 (V.setCell ⟨ky, 2, none⟩ u) := ⟨h.set 2 u, (set4 h.y u).2.2.1, h.n⟩
theorem DKI.f3 (h : DKI w0 rb cap pm s v L ky y0 y1 y2 y3 V) (u : Value) : DKI w0 rb cap pm s v L ky y0 y1 y2 u (V.setCell ⟨ky, 3, none⟩ u) := ⟨h.set 3 u, (set4 h.y u).2.2.2, h.n⟩
theorem DKI.c (h : DKI w0 rb cap pm s v L ky y0 y1 y2 y3 V) : V.cell? ⟨ky, 0, none⟩ = some y0 ∧ V.cell? ⟨ky, 1, none⟩ = some y1 ∧ V.cell? ⟨ky, 2, none⟩ = some y2 ∧ V.cell? ⟨ky, 3, none⟩ = some y3 ∧ V.frozen? ⟨ky, 0, none⟩ = false ∧ V.frozen? ⟨ky, 1, none⟩ = false ∧ V.frozen? ⟨ky, 2, none⟩ = false ∧ V.frozen? ⟨ky, 3, none⟩ = false ∧ ¬ ky = rb ∧ ¬ rb = ky := by
  obtain ⟨a, b, c, d, f⟩ := dcel4 h.y
  exact ⟨a, b, c, d, f 0, f 1, f 2, f 3, by have := h.n; omega, by have := h.n; omega⟩
/-- The row has grown. -/
theorem DK.mid (h : DK w0 rb cap pm s v L V) (g : V.grownBy V' v.ownBlock) : V'.heap[rb + 3]? = some (.cells #[.int .i64 cap, .bool pm, v] 69 (0, 0)) ∧ V'.cell? ⟨rb + 3, 2, none⟩ = some v ∧ V'.frozen? ⟨rb + 3, 2, none⟩ = false := by
  have hb := (g.block (rb + 3) (heap_lt h.b) (fun e => by have := (h.o.lt _ e.symm).1; omega)).trans h.b
  obtain ⟨-, -, c, f⟩ := dcel3 hb
  exact ⟨hb, c, f 2⟩
theorem DK.put (h : DK w0 rb cap pm s v L V) {M : List Ins} (g : V.grownBy V' v.ownBlock) (o : OR 71 4 Ins.cs V' (rb + 4) v' M) : DK w0 rb cap pm s v' M (V'.setCell ⟨rb + 3, 2, none⟩ v') := by
  obtain ⟨hb, -, -⟩ := h.mid g
  have q : ∀ k, k < rb + 4 → some k ≠ v.ownBlock := fun k hk e => by have := (h.o.lt k e.symm).1; omega
  have gs : V'.grownBy (V'.setCell ⟨rb + 3, 2, none⟩ v') (some (rb + 3)) := grown_set (rb + 3) 2 v'
  refine ⟨(set_oth _ (by omega)).trans ((g.block rb (heap_lt h.r) (q rb (by omega))).trans h.r), (set_oth _ (by omega)).trans ((g.block (rb + 1) (heap_lt h.z) (q _ (by omega))).trans h.z), (set_oth _ (by omega)).trans ((g.block (rb + 2) (heap_lt h.z3) (q _ (by omega))).trans h.z3), (set3 hb v').2.2, ?_, gr_but (gr_but h.g g (fun j e => by have := (h.o.lt j e).1; have := h.lt; omega)) gs (fun j e => by have := Option.some.inj e; have := h.lt; omega), h.lt.1, Nat.le_trans h.lt.2 (Nat.le_trans g.size gs.size)⟩
  refine o.kept gs ?_
  cases hq : v'.ownBlock with
  | none => exact .inl rfl
  | some j => right; intro e; have := (o.lt j hq).1; have := Option.some.inj e; omega
/-- The end: the boxes' cells go into the results'. -/
theorem DK.fin (h : DK w0 rb cap pm s v L V) : ∃ W, W = (((((V.setCell ⟨rb + 1, 0, none⟩ (.int .i64 cap)).setCell ⟨rb + 1, 1, none⟩ (.bool pm)).setCell ⟨rb + 1, 2, none⟩ (v)).setCell ⟨rb + 2, 0, none⟩ (.string ⟨s.rest.toArray⟩)).setCell ⟨rb + 2, 1, none⟩ (.bool s.bad)) ∧ W.heap[rb + 1]? = some (.cells #[.int .i64 cap, .bool pm, v] 69 (0, 0)) ∧ W.heap[rb + 2]? = some (.cells #[.string ⟨s.rest.toArray⟩, .bool s.bad] 82 (0, 0)) ∧ OR 71 4 Ins.cs W w0.heap.size v L ∧ Gr w0 W := by
  refine ⟨_, rfl, ?_, ?_, ?_, ?_⟩
  · exact (set_oth _ (by omega)).trans ((set_oth _ (by omega)).trans (set3 (set3 (set3 h.z _).1 _).2.1 _).2.2)
  · exact (dset2 (dset2 ((set_oth _ (by omega)).trans ((set_oth _ (by omega)).trans ((set_oth _ (by omega)).trans h.z3))) _).1 _).2
  · have o1 := h.o.kept (((grown_set (w := V) (rb + 1) 0 (.int .i64 cap)).trans (grown_set (rb + 1) 1 (.bool pm))).trans (grown_set (rb + 1) 2 v)) (h.own _ (by omega))
    have o2 := o1.kept ((grown_set (rb + 2) 0 (.string ⟨s.rest.toArray⟩)).trans (grown_set (rb + 2) 1 (.bool s.bad))) (h.own _ (by omega))
    exact or_low o2 (by have := h.lt; omega)
  · have g1 := gr_but h.g (((grown_set (w := V) (rb + 1) 0 (.int .i64 cap)).trans (grown_set (rb + 1) 1 (.bool pm))).trans (grown_set (rb + 1) 2 v)) (fun j e => by have := Option.some.inj e; have := h.lt; omega)
    exact gr_but g1 ((grown_set (rb + 2) 0 (.string ⟨s.rest.toArray⟩)).trans (grown_set (rb + 2) 1 (.bool s.bad))) (fun j e => by have := Option.some.inj e; have := h.lt; omega)
end
/-- What the reference's reading of a block leaves. -/
def RkP (s : RS) (V : World) (e : Ending) (V' : World) : Prop := ∃ v : Value, e = .returned (.tuple #[.agg #[.int .i64 (rdB false s).1.cap, .bool (rdB false s).1.param, v], .agg #[.string ⟨(rdB false s).2.rest.toArray⟩, .bool (rdB false s).2.bad]]) ∧ OR 71 4 Ins.cs V' V.heap.size v (rdB false s).1.ins ∧ Gr V V'
theorem rkp_of {s s' : RS} {V W : World} {cap : Int} {pm : Bool} {v : Value} {L : List Ins} (E : rdB false s = (⟨cap, pm, L⟩, s')) (o : OR 71 4 Ins.cs W V.heap.size v L) (g : Gr V W) : RkP s V (.returned (.tuple #[.agg #[.int .i64 cap, .bool pm, v], .agg #[.string ⟨s'.rest.toArray⟩, .bool s'.bad]])) W :=
  ⟨v, by rw [E], by rw [E]; exact o, g⟩
end Go.Proofs.YtgboboljgcfggaaGreatDoor

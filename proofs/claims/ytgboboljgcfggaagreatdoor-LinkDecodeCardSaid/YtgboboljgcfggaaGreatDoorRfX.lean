/- Words: a program while the reference reads it. -/
import Derived.Test.YtgboboljgcfggaaGreatDoorRfW
namespace Go.Proofs.YtgboboljgcfggaaGreatDoor
open Go.RowKit

/-- A program that is being read. -/
structure DT (w0 : World) (rb k2 kp base : Nat) (s : RS) (v1 v2 : Value) (Bs : List Blk) (Ss : List Stt) (V : World) : Prop where
  r : RrS rb s V
  z : V.heap[k2]? = some (.cells #[.slice none 0 0, .slice none 0 0] 26 (0, 0))
  b : V.heap[kp]? = some (.cells #[v1, v2] 26 (0, 0))
  o1 : OR 69 3 Blk.cs V base v1 Bs
  o2 : OR 79 3 Stt.cs V base v2 Ss
  ne : ∀ j, v1.ownBlock = some j → v2.ownBlock ≠ some j
  i : ∀ x ∈ Bs, InsAt base v1 v2 V x
  g : Gr w0 V
  lt : w0.heap.size ≤ rb ∧ w0.heap.size ≤ k2 ∧ w0.heap.size ≤ kp ∧ rb ≠ k2 ∧ rb ≠ kp ∧ k2 ≠ kp ∧ rb < base ∧ k2 < base ∧ kp < base ∧ base ≤ V.heap.size
section
variable {w0 V V' : World} {rb k2 kp base : Nat} {s s' : RS} {v1 v2 v' : Value} {Bs : List Blk} {Ss : List Stt}
/-- The reader has gone on. -/
theorem DT.rd (h : DT w0 rb k2 kp base s v1 v2 Bs Ss V) (r : RrS rb s' V') (g : V.grownBy V' (some rb)) : DT w0 rb k2 kp base s' v1 v2 Bs Ss V' := by
  obtain ⟨l1, l2, l3, l4, l5, l6, l7, l8, l9, l0⟩ := h.lt
  refine ⟨r, (g.block k2 (heap_lt h.z) (fun e => l4 (Option.some.inj e).symm)).trans h.z, (g.block kp (heap_lt h.b) (fun e => l5 (Option.some.inj e).symm)).trans h.b, h.o1.kept g (or_ne h.o1 l7), h.o2.kept g (or_ne h.o2 l7), h.ne, fun x hx => ?_, gr_but h.g g (fun j e => by have := Option.some.inj e; omega), l1, l2, l3, l4, l5, l6, l7, l8, l9, Nat.le_trans l0 g.size⟩
  obtain ⟨q1, q2⟩ := h.i x hx
  exact ⟨q1.but g (fun a e => by have := (q2 a e).1; intro e2; have := Option.some.inj e2; omega), fun a e => ⟨(q2 a e).1, Nat.lt_of_lt_of_le (q2 a e).2.1 g.size, (q2 a e).2.2⟩⟩
theorem DT.gr (h : DT w0 rb k2 kp base s v1 v2 Bs Ss V) (g : Gr V V') : DT w0 rb k2 kp base s v1 v2 Bs Ss V' := by
  obtain ⟨l1, l2, l3, l4, l5, l6, l7, l8, l9, l0⟩ := h.lt
  refine ⟨gr_h g h.r, gr_h g h.z, gr_h g h.b, h.o1.gr g, h.o2.gr g, h.ne, fun x hx => ?_, h.g.trans g, l1, l2, l3, l4, l5, l6, l7, l8, l9, Nat.le_trans l0 g.size⟩
  obtain ⟨q1, q2⟩ := h.i x hx
  exact ⟨q1.gr g, fun a e => ⟨(q2 a e).1, Nat.lt_of_lt_of_le (q2 a e).2.1 g.size, (q2 a e).2.2⟩⟩
theorem DT.c (h : DT w0 rb k2 kp base s v1 v2 Bs Ss V) : V.cell? ⟨kp, 0, none⟩ = some v1 ∧ V.cell? ⟨kp, 1, none⟩ = some v2 ∧ V.frozen? ⟨kp, 0, none⟩ = false ∧ V.frozen? ⟨kp, 1, none⟩ = false := dcel2 h.b
theorem DT.mid {v : Value} (h : DT w0 rb k2 kp base s v1 v2 Bs Ss V) (g : V.grownBy V' v.ownBlock) (hv : ∀ j, v.ownBlock = some j → base ≤ j) : V'.heap[kp]? = some (.cells #[v1, v2] 26 (0, 0)) ∧ V'.frozen? ⟨kp, 0, none⟩ = false ∧ V'.frozen? ⟨kp, 1, none⟩ = false ∧ V'.cell? ⟨kp, 0, none⟩ = some v1 ∧ V'.cell? ⟨kp, 1, none⟩ = some v2 := by
  obtain ⟨l1, l2, l3, l4, l5, l6, l7, l8, l9, l0⟩ := h.lt
  have hb := (g.block kp (heap_lt h.b) (fun e => by have := hv kp e.symm; omega)).trans h.b
  obtain ⟨c0, c1, f0, f1⟩ := dcel2 hb
  exact ⟨hb, f0, f1, c0, c1⟩
/-- A block has been put to the others. -/
theorem DT.putB (h : DT w0 rb k2 kp base s v1 v2 Bs Ss V) {x : Blk} (hx : InsAt base v1 v2 V x) (g : V.grownBy V' v1.ownBlock) (o : OR 69 3 Blk.cs V' base v' (Bs ++ [x])) (hv : v'.ownBlock = v1.ownBlock ∨ v'.ownBlock = some V.heap.size) : DT w0 rb k2 kp base s v' v2 (Bs ++ [x]) Ss (V'.setCell ⟨kp, 0, none⟩ v') := by
  obtain ⟨l1, l2, l3, l4, l5, l6, l7, l8, l9, l0⟩ := h.lt
  have q : ∀ k, k < base → some k ≠ v1.ownBlock := fun k hk e => by have := (h.o1.lt k e.symm).1; omega
  obtain ⟨hb, -⟩ := h.mid g (fun j e => (h.o1.lt j e).1)
  have gs : V'.grownBy (V'.setCell ⟨kp, 0, none⟩ v') (some kp) := grown_set kp 0 v'
  have n1 : ∀ j, v'.ownBlock = some j → v1.ownBlock = some j ∨ j = V.heap.size := fun j e => by
    rcases hv with h1 | h1
    · exact .inl (h1 ▸ e)
    · right; rw [h1] at e; exact (Option.some.inj e).symm
  have o2 : OR 79 3 Stt.cs V' base v2 Ss := h.o2.kept g (by
    cases hq : v2.ownBlock with
    | none => exact .inl rfl
    | some j => right; intro e; exact h.ne j e.symm hq)
  refine ⟨(set_oth _ (by omega)).trans ((g.block rb (heap_lt h.r) (q rb l7)).trans h.r), (set_oth _ (by omega)).trans ((g.block k2 (heap_lt h.z) (q k2 l8)).trans h.z), (dset2 hb v').1, o.kept gs (or_ne o l9), o2.kept gs (or_ne o2 l9), fun j e e2 => ?_, fun y hy => ?_, gr_but (gr_but h.g g (fun j e => by have := (h.o1.lt j e).1; omega)) gs (fun j e => by have := Option.some.inj e; omega), l1, l2, l3, l4, l5, l6, l7, l8, l9, Nat.le_trans l0 (Nat.le_trans g.size gs.size)⟩
  · rcases n1 j e with h1 | h1
    · exact h.ne j h1 e2
    · have := (h.o2.lt j e2).2; omega
  · have hy' : InsAt base v1 v2 V y := by
      rcases List.mem_append.1 hy with h1 | h1
      · exact h.i y h1
      · simp only [List.mem_cons, List.not_mem_nil, or_false] at h1
        exact h1 ▸ hx
    obtain ⟨q1, q2⟩ := hy'
    refine ⟨(q1.but g (fun a e e2 => (q2 a e).2.2.1 e2.symm)).but gs (fun a e => by have := (q2 a e).1; intro e2; have := Option.some.inj e2; omega), fun a e => ?_⟩
    obtain ⟨m1, m2, m3, m4⟩ := q2 a e
    refine ⟨m1, Nat.lt_of_lt_of_le m2 (Nat.le_trans g.size gs.size), fun e2 => ?_, m4⟩
    rcases n1 _ e2 with h1 | h1
    · exact m3 h1
    · omega
/-- A start has been put to the others. -/
theorem DT.putS (h : DT w0 rb k2 kp base s v1 v2 Bs Ss V) {x : Stt} (g : V.grownBy V' v2.ownBlock) (o : OR 79 3 Stt.cs V' base v' (Ss ++ [x])) (hv : v'.ownBlock = v2.ownBlock ∨ v'.ownBlock = some V.heap.size) : DT w0 rb k2 kp base s v1 v' Bs (Ss ++ [x]) (V'.setCell ⟨kp, 1, none⟩ v') := by
  obtain ⟨l1, l2, l3, l4, l5, l6, l7, l8, l9, l0⟩ := h.lt
  have q : ∀ k, k < base → some k ≠ v2.ownBlock := fun k hk e => by have := (h.o2.lt k e.symm).1; omega
  obtain ⟨hb, -⟩ := h.mid g (fun j e => (h.o2.lt j e).1)
  have gs : V'.grownBy (V'.setCell ⟨kp, 1, none⟩ v') (some kp) := grown_set kp 1 v'
  have n1 : ∀ j, v'.ownBlock = some j → v2.ownBlock = some j ∨ j = V.heap.size := fun j e => by
    rcases hv with h1 | h1
    · exact .inl (h1 ▸ e)
    · right; rw [h1] at e; exact (Option.some.inj e).symm
  have o1 : OR 69 3 Blk.cs V' base v1 Bs := h.o1.kept g (by
    cases hq : v1.ownBlock with
    | none => exact .inl rfl
    | some j => right; intro e; exact h.ne j hq e.symm)
  refine ⟨(set_oth _ (by omega)).trans ((g.block rb (heap_lt h.r) (q rb l7)).trans h.r), (set_oth _ (by omega)).trans ((g.block k2 (heap_lt h.z) (q k2 l8)).trans h.z), (dset2 hb v').2, o1.kept gs (or_ne o1 l9), o.kept gs (or_ne o l9), fun j e e2 => ?_, fun y hy => ?_, gr_but (gr_but h.g g (fun j e => by have := (h.o2.lt j e).1; omega)) gs (fun j e => by have := Option.some.inj e; omega), l1, l2, l3, l4, l5, l6, l7, l8, l9, Nat.le_trans l0 (Nat.le_trans g.size gs.size)⟩
  · rcases n1 j e2 with h1 | h1
    · exact h.ne j e h1
    · have := (h.o1.lt j e).2; omega
  · obtain ⟨q1, q2⟩ := h.i y hy
    refine ⟨(q1.but g (fun a e e2 => (q2 a e).2.2.2 e2.symm)).but gs (fun a e => by have := (q2 a e).1; intro e2; have := Option.some.inj e2; omega), fun a e => ?_⟩
    obtain ⟨m1, m2, m3, m4⟩ := q2 a e
    refine ⟨m1, Nat.lt_of_lt_of_le m2 (Nat.le_trans g.size gs.size), m3, fun e2 => ?_⟩
    rcases n1 _ e2 with h1 | h1
    · exact m4 h1
    · omega
/-- The program as it lies. -/
theorem DT.prg {A1 A2 : Option Addr} {c1 c2 m1 m2 : Nat} (h : DT w0 rb k2 kp base s (.slice A1 m1 c1) (.slice A2 m2 c2) Bs Ss V) : Prg.Rd V ⟨A1, c1, Bs, A2, c2, Ss⟩ := by
  obtain ⟨B1, d1, e1, r1⟩ := h.o1.form elB.hn
  obtain ⟨B2, d2, e2, r2⟩ := h.o2.form elSt.hn
  rw [← (Value.slice.inj e1).1] at r1
  rw [← (Value.slice.inj e2).1] at r2
  exact ⟨r1, fun x hx => (h.i x hx).1, r2⟩

theorem DT.res (h : DT w0 rb k2 kp base s v1 v2 Bs Ss V) (u1 u2 : Value) : ((V.setCell ⟨k2, 0, none⟩ u1).setCell ⟨k2, 1, none⟩ u2).heap[k2]? = some (.cells #[u1, u2] 26 (0, 0)) ∧ Gr w0 ((V.setCell ⟨k2, 0, none⟩ u1).setCell ⟨k2, 1, none⟩ u2) := by
  refine ⟨(dset2 (dset2 h.z u1).1 u2).2, ?_⟩
  obtain ⟨l1, l2, -⟩ := h.lt
  exact gr_but h.g ((grown_set k2 0 u1).trans (grown_set k2 1 u2)) (fun j e => by have := Option.some.inj e; omega)
theorem DT.rds (h : DT w0 rb k2 kp base s v1 v2 Bs Ss V) (s' : RS) : DT w0 rb k2 kp base s' v1 v2 Bs Ss ((V.setCell ⟨rb, 0, none⟩ (.string ⟨s'.rest.toArray⟩)).setCell ⟨rb, 1, none⟩ (.bool s'.bad)) :=
  h.rd (h.r.set s') ((grown_set rb 0 _).trans (grown_set rb 1 _))
/-- A start in its box. -/
structure DTI (w0 : World) (rb k2 kp base : Nat) (s : RS) (v1 v2 : Value) (Bs : List Blk) (Ss : List Stt) (kx : Nat) (y0 y1 y2 : Value) (V : World) : Prop where
  d : DT w0 rb k2 kp base s v1 v2 Bs Ss V
  y : V.heap[kx]? = some (.cells #[y0, y1, y2] 79 (0, 0))
  n : base ≤ kx ∧ v1.ownBlock ≠ some kx ∧ v2.ownBlock ≠ some kx ∧ ∀ x ∈ Bs, ∀ a, x.A = some a → a.block ≠ kx
variable {kx : Nat} {y0 y1 y2 : Value}
theorem DT.box (h : DT w0 rb k2 kp base s v1 v2 Bs Ss V) : DTI w0 rb k2 kp base s v1 v2 Bs Ss V.heap.size (.string ⟨#[]⟩) (.int .i64 0) (.int .i64 0) (V.alloc (.cells #[.string ⟨#[]⟩, .int .i64 0, .int .i64 0] 79)) :=
  ⟨h.gr (gr_al _ _), al_new _ _, by have := h.lt; omega, fun e => by have := (h.o1.lt _ e).2; omega, fun e => by have := (h.o2.lt _ e).2; omega, fun x hx a ha => by have := ((h.i x hx).2 a ha).2.1; omega⟩
theorem DTI.gr (h : DTI w0 rb k2 kp base s v1 v2 Bs Ss kx y0 y1 y2 V) (g : Gr V V') : DTI w0 rb k2 kp base s v1 v2 Bs Ss kx y0 y1 y2 V' := ⟨h.d.gr g, gr_h g h.y, h.n⟩
theorem DTI.rds (h : DTI w0 rb k2 kp base s v1 v2 Bs Ss kx y0 y1 y2 V) (s' : RS) : DTI w0 rb k2 kp base s' v1 v2 Bs Ss kx y0 y1 y2 ((V.setCell ⟨rb, 0, none⟩ (.string ⟨s'.rest.toArray⟩)).setCell ⟨rb, 1, none⟩ (.bool s'.bad)) :=
  ⟨h.d.rds s', (set_oth _ (by have := h.n.1; have := h.d.lt; omega)).trans ((set_oth _ (by have := h.n.1; have := h.d.lt; omega)).trans h.y), h.n⟩
theorem DTI.set (h : DTI w0 rb k2 kp base s v1 v2 Bs Ss kx y0 y1 y2 V) (i : Nat) (u : Value) : DT w0 rb k2 kp base s v1 v2 Bs Ss (V.setCell ⟨kx, i, none⟩ u) := by
  have g : V.grownBy (V.setCell ⟨kx, i, none⟩ u) (some kx) := grown_set kx i u
  obtain ⟨n1, n2, n3, n4⟩ := h.n
  obtain ⟨l1, l2, l3, l4, l5, l6, l7, l8, l9, l0⟩ := h.d.lt
  refine ⟨(set_oth _ (by omega)).trans h.d.r, (set_oth _ (by omega)).trans h.d.z, (set_oth _ (by omega)).trans h.d.b, h.d.o1.kept g (.inr n2), h.d.o2.kept g (.inr n3), h.d.ne, fun x hx => ?_, gr_but h.d.g g (fun j e => by have := Option.some.inj e; omega), l1, l2, l3, l4, l5, l6, l7, l8, l9, Nat.le_trans l0 g.size⟩
  obtain ⟨q1, q2⟩ := h.d.i x hx
  exact ⟨q1.but g (fun a e => by have := n4 x hx a e; intro e2; exact this (Option.some.inj e2)), fun a e => ⟨(q2 a e).1, Nat.lt_of_lt_of_le (q2 a e).2.1 g.size, (q2 a e).2.2⟩⟩
theorem DTI.f0 (h : DTI w0 rb k2 kp base s v1 v2 Bs Ss kx y0 y1 y2 V) (u : Value) : DTI w0 rb k2 kp base s v1 v2 Bs Ss kx u y1 y2 (V.setCell ⟨kx, 0, none⟩ u) := ⟨h.set 0 u, (set3 h.y u).1, h.n⟩
theorem DTI.f1 (h : DTI w0 rb k2 kp base s v1 v2 Bs Ss kx y0 y1 y2 V) (u : Value) : DTI w0 rb k2 kp base s v1 v2 Bs Ss kx y0 u y2 (V.setCell ⟨kx, 1, none⟩ u) := ⟨h.set 1 u, (set3 h.y u).2.1, h.n⟩
theorem DTI.f2 (h : DTI w0 rb k2 kp base s v1 v2 Bs Ss kx y0 y1 y2 V) (u : Value) : DTI w0 rb k2 kp base s v1 v2 Bs Ss kx y0 y1 u (V.setCell ⟨kx, 2, none⟩ u) := ⟨h.set 2 u, (set3 h.y u).2.2, h.n⟩
theorem DTI.c (h : DTI w0 rb k2 kp base s v1 v2 Bs Ss kx y0 y1 y2 V) : V.cell? ⟨kx, 0, none⟩ = some y0 ∧ V.cell? ⟨kx, 1, none⟩ = some y1 ∧ V.cell? ⟨kx, 2, none⟩ = some y2 ∧ V.frozen? ⟨kx, 0, none⟩ = false ∧ V.frozen? ⟨kx, 1, none⟩ = false ∧ V.frozen? ⟨kx, 2, none⟩ = false ∧ ¬ kx = rb ∧ ¬ rb = kx := by
  obtain ⟨a, b, c, f⟩ := dcel3 h.y
  exact ⟨a, b, c, f 0, f 1, f 2, by have := h.n.1; have := h.d.lt; omega, by have := h.n.1; have := h.d.lt; omega⟩
end
end Go.Proofs.YtgboboljgcfggaaGreatDoor

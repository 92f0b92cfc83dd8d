/- Words: a program while it is read. -/
import Derived.Test.YtgboboljgcfggaaGreatDoorDeB
import Derived.Test.YtgboboljgcfggaaGreatDoorM7
import Derived.Test.YtgboboljgcfggaaGreatDoorEnP
namespace Go.Proofs.YtgboboljgcfggaaGreatDoor
open Go.RowKit

theorem elSt : EL 24 79 3 Stt.cs where
  hn _ := rfl
  h1 x u hu := by
    simp only [Stt.cs, List.mem_cons, List.not_mem_nil, or_false] at hu
    rcases hu with rfl | rfl | rfl <;> rfl
  ht := Tryz.underlying24
  hi := ⟨.agg #[.string ⟨#[]⟩, iv 0, iv 0], 32, by kernel_rfl, rfl, by decide⟩
  h0 := by decide
theorem results_pd {fn : Func} {p q : Tmp} (h : fn.results = #[.cell p 26, .tmp q]) (tmps : Array Value) (w : World) (a : Addr) (x y u : Value) (hp : tmps.getD p undef = .pointer (some a)) (hq : tmps.getD q undef = u) (h0 : w.cell? a = some x) (h1 : w.cell? ⟨a.block, a.off + 1, none⟩ = some y) : (results fn tmps).run Tryz.prog w = .ok (.tuple #[.agg #[x, y], u]) w := by
  have ha := Tryz.isAgg26
  have hz := Tryz.sizeOf26
  have hp' : tmps[p]?.getD undef = .pointer (some a) := by simpa using hp
  have hq' : tmps[q]?.getD undef = u := by simpa using hq
  clear hp hq
  simp only [results, h]
  simp [Sem.run_bind, hp', hq', asAddr, go_sem, ha, hz, loadVar, h0, h1]
theorem dcel2 {V : World} {k : Nat} {x y : Value} {t : TypeId} (h : V.heap[k]? = some (.cells #[x, y] t (0, 0))) : V.cell? ⟨k, 0, none⟩ = some x ∧ V.cell? ⟨k, 1, none⟩ = some y ∧ V.frozen? ⟨k, 0, none⟩ = false ∧ V.frozen? ⟨k, 1, none⟩ = false :=
  ⟨by rw [Lib.cell_of_heap h]; rfl, by rw [Lib.cell_of_heap h]; rfl, Lib.frozen_of_heap h 0, Lib.frozen_of_heap h 1⟩
theorem dset2 {V : World} {k : Nat} {x y : Value} {t : TypeId} (h : V.heap[k]? = some (.cells #[x, y] t (0, 0))) (u : Value) : (V.setCell ⟨k, 0, none⟩ u).heap[k]? = some (.cells #[u, y] t (0, 0)) ∧ (V.setCell ⟨k, 1, none⟩ u).heap[k]? = some (.cells #[x, u] t (0, 0)) := by
  refine ⟨?_, ?_⟩ <;> simp [World.setCell, Array.getElem?_modify, h]
/-- A row of instructions lies away from the two rows that grow. -/
def InsAt (base : Nat) (v1 v2 : Value) (V : World) (x : Blk) : Prop := RD 4 Ins.cs V x.A x.ins ∧ ∀ a, x.A = some a → base ≤ a.block ∧ a.block < V.heap.size ∧ v1.ownBlock ≠ some a.block ∧ v2.ownBlock ≠ some a.block
/-- A program that is being read. -/
structure DS (w0 : World) (rb k2 kp base : Nat) (s : RS) (v1 v2 : Value) (Bs : List Blk) (Ss : List Stt) (V : World) : Prop where
  r : RdS rb s V
  z : V.heap[k2]? = some (.cells #[.slice none 0 0, .slice none 0 0] 26 (0, 0))
  b : V.heap[kp]? = some (.cells #[v1, v2] 26 (0, 0))
  o1 : OR 69 3 Blk.cs V base v1 Bs
  o2 : OR 79 3 Stt.cs V base v2 Ss
  ne : ∀ j, v1.ownBlock = some j → v2.ownBlock ≠ some j
  i : ∀ x ∈ Bs, InsAt base v1 v2 V x
  g : Gr w0 V
  lt : w0.heap.size ≤ rb ∧ w0.heap.size ≤ k2 ∧ w0.heap.size ≤ kp ∧ rb ≠ k2 ∧ rb ≠ kp ∧ k2 ≠ kp ∧ rb < base ∧ k2 < base ∧ kp < base ∧ base ≤ V.heap.size
section
variable {w0 V V' : World} {rb k2 kp base : Nat} {s s' : RS} {v1 v2 v' : Value} {Bs : List Blk} {Ss : List Stt}
theorem or_ne {α : Type} {e : TypeId} {n : Nat} {cs : α → List Value} {L : List α} {v : Value} (h : OR e n cs V base v L) (hr : rb < base) : v.ownBlock = none ∨ v.ownBlock ≠ some rb := by
  cases hq : v.ownBlock with
  | none => exact .inl rfl
  | some j => right; intro e; have := (h.lt j hq).1; have := Option.some.inj e; omega
theorem gr_but {r : Option Nat} (h : Gr w0 V) (g : V.grownBy V' r) (hr : ∀ j, r = some j → w0.heap.size ≤ j) : Gr w0 V' :=
  ⟨g.os.trans h.os, g.tape.trans h.tape, g.output.trans h.output, Nat.le_trans h.size g.size, fun k hk hn => (g.block k (Nat.lt_of_lt_of_le hk h.size) (fun e => by have := hr k e.symm; omega)).trans (h.block k hk hn)⟩
/-- The reader has gone on. -/
theorem DS.rd (h : DS w0 rb k2 kp base s v1 v2 Bs Ss V) (r : RdS rb s' V') (g : V.grownBy V' (some rb)) : DS w0 rb k2 kp base s' v1 v2 Bs Ss V' := by
  obtain ⟨l1, l2, l3, l4, l5, l6, l7, l8, l9, l0⟩ := h.lt
  refine ⟨r, (g.block k2 (heap_lt h.z) (fun e => l4 (Option.some.inj e).symm)).trans h.z, (g.block kp (heap_lt h.b) (fun e => l5 (Option.some.inj e).symm)).trans h.b, h.o1.kept g (or_ne h.o1 l7), h.o2.kept g (or_ne h.o2 l7), h.ne, fun x hx => ?_, gr_but h.g g (fun j e => by have := Option.some.inj e; omega), l1, l2, l3, l4, l5, l6, l7, l8, l9, Nat.le_trans l0 g.size⟩
  obtain ⟨q1, q2⟩ := h.i x hx
  exact ⟨q1.but g (fun a e => by have := (q2 a e).1; intro e2; have := Option.some.inj e2; omega), fun a e => ⟨(q2 a e).1, Nat.lt_of_lt_of_le (q2 a e).2.1 g.size, (q2 a e).2.2⟩⟩
theorem DS.gr (h : DS w0 rb k2 kp base s v1 v2 Bs Ss V) (g : Gr V V') : DS w0 rb k2 kp base s v1 v2 Bs Ss V' := by
  obtain ⟨l1, l2, l3, l4, l5, l6, l7, l8, l9, l0⟩ := h.lt
  refine ⟨gr_h g h.r, gr_h g h.z, gr_h g h.b, h.o1.gr g, h.o2.gr g, h.ne, fun x hx => ?_, h.g.trans g, l1, l2, l3, l4, l5, l6, l7, l8, l9, Nat.le_trans l0 g.size⟩
  obtain ⟨q1, q2⟩ := h.i x hx
  exact ⟨q1.gr g, fun a e => ⟨(q2 a e).1, Nat.lt_of_lt_of_le (q2 a e).2.1 g.size, (q2 a e).2.2⟩⟩
theorem DS.c (h : DS w0 rb k2 kp base s v1 v2 Bs Ss V) : V.cell? ⟨kp, 0, none⟩ = some v1 ∧ V.cell? ⟨kp, 1, none⟩ = some v2 ∧ V.frozen? ⟨kp, 0, none⟩ = false ∧ V.frozen? ⟨kp, 1, none⟩ = false := dcel2 h.b
theorem DS.mid {v : Value} (h : DS w0 rb k2 kp base s v1 v2 Bs Ss V) (g : V.grownBy V' v.ownBlock) (hv : ∀ j, v.ownBlock = some j → base ≤ j) : V'.heap[kp]? = some (.cells #[v1, v2] 26 (0, 0)) ∧ V'.frozen? ⟨kp, 0, none⟩ = false ∧ V'.frozen? ⟨kp, 1, none⟩ = false ∧ V'.cell? ⟨kp, 0, none⟩ = some v1 ∧ V'.cell? ⟨kp, 1, none⟩ = some v2 := by
  obtain ⟨l1, l2, l3, l4, l5, l6, l7, l8, l9, l0⟩ := h.lt
  have hb := (g.block kp (heap_lt h.b) (fun e => by have := hv kp e.symm; omega)).trans h.b
  obtain ⟨c0, c1, f0, f1⟩ := dcel2 hb
  exact ⟨hb, f0, f1, c0, c1⟩
/-- A block has been put to the others. -/
theorem DS.putB (h : DS w0 rb k2 kp base s v1 v2 Bs Ss V) {x : Blk} (hx : InsAt base v1 v2 V x) (g : V.grownBy V' v1.ownBlock) (o : OR 69 3 Blk.cs V' base v' (Bs ++ [x])) (hv : v'.ownBlock = v1.ownBlock ∨ v'.ownBlock = some V.heap.size) : DS w0 rb k2 kp base s v' v2 (Bs ++ [x]) Ss (V'.setCell ⟨kp, 0, none⟩ v') := by
  obtain ⟨l1, l2, l3, l4, l5, l6, l7, l8, l9, l0⟩ := h.lt
  have q : ∀ k, k < base → some k ≠ v1.ownBlock := fun k hk e => by have := (h.o1.lt k e.symm).1; omega
  obtain ⟨hb, -⟩ := h.mid g (fun j e => (h.o1.lt j e).1)
  have gs : V'.grownBy (V'.setCell ⟨kp, 0, none⟩ v') (some kp) := grown_set kp 0 v'
  have n1 : ∀ j, v'.ownBlock = some j → v1.ownBlock = some j ∨ j = V.heap.size := fun j e => by
    rcases hv with h1 | h1
    · exact .inl (h1 ▸ e)
    · right; rw [h1] at e; exact (Option.some.inj e).symm
  have o2 : OR 79 3 Stt.cs V' base v2 Ss := h.o2.kept g (by
    cases hq : v2.ownBlock with
    | none => exact .inl rfl
    | some j => right; intro e; exact h.ne j e.symm hq)
  refine ⟨(set_oth _ (by omega)).trans ((g.block rb (heap_lt h.r) (q rb l7)).trans h.r), (set_oth _ (by omega)).trans ((g.block k2 (heap_lt h.z) (q k2 l8)).trans h.z), (dset2 hb v').1, o.kept gs (or_ne o l9), o2.kept gs (or_ne o2 l9), fun j e e2 => ?_, fun y hy => ?_, gr_but (gr_but h.g g (fun j e => by have := (h.o1.lt j e).1; omega)) gs (fun j e => by have := Option.some.inj e; omega), l1, l2, l3, l4, l5, l6, l7, l8, l9, Nat.le_trans l0 (Nat.le_trans g.size gs.size)⟩
  · rcases n1 j e with h1 | h1
    · exact h.ne j h1 e2
    · have := (h.o2.lt j e2).2; omega
  · have hy' : InsAt base v1 v2 V y := by
      rcases List.mem_append.1 hy with h1 | h1
      · exact h.i y h1
      · simp only [List.mem_cons, List.not_mem_nil, or_false] at h1
        exact h1 ▸ hx
    obtain ⟨q1, q2⟩ := hy'
    refine ⟨(q1.but g (fun a e e2 => (q2 a e).2.2.1 e2.symm)).but gs (fun a e => by have := (q2 a e).1; intro e2; have := Option.some.inj e2; omega), fun a e => ?_⟩
    obtain ⟨m1, m2, m3, m4⟩ := q2 a e
    refine ⟨m1, Nat.lt_of_lt_of_le m2 (Nat.le_trans g.size gs.size), fun e2 => ?_, m4⟩
    rcases n1 _ e2 with h1 | h1
    · exact m3 h1
    · omega
/-- A start has been put to the others. -/
theorem DS.putS (h : DS w0 rb k2 kp base s v1 v2 Bs Ss V) {x : Stt} (g : V.grownBy V' v2.ownBlock) (o : OR 79 3 Stt.cs V' base v' (Ss ++ [x])) (hv : v'.ownBlock = v2.ownBlock ∨ v'.ownBlock = some V.heap.size) : DS w0 rb k2 kp base s v1 v' Bs (Ss ++ [x]) (V'.setCell ⟨kp, 1, none⟩ v') := by
  obtain ⟨l1, l2, l3, l4, l5, l6, l7, l8, l9, l0⟩ := h.lt
  have q : ∀ k, k < base → some k ≠ v2.ownBlock := fun k hk e => by have := (h.o2.lt k e.symm).1; omega
  obtain ⟨hb, -⟩ := h.mid g (fun j e => (h.o2.lt j e).1)
  have gs : V'.grownBy (V'.setCell ⟨kp, 1, none⟩ v') (some kp) := grown_set kp 1 v'
  have n1 : ∀ j, v'.ownBlock = some j → v2.ownBlock = some j ∨ j = V.heap.size := fun j e => by
    rcases hv with h1 | h1
    · exact .inl (h1 ▸ e)
    · right; rw [h1] at e; exact (Option.some.inj e).symm
  have o1 : OR 69 3 Blk.cs V' base v1 Bs := h.o1.kept g (by
    cases hq : v1.ownBlock with
    | none => exact .inl rfl
    | some j => right; intro e; exact h.ne j hq e.symm)
  refine ⟨(set_oth _ (by omega)).trans ((g.block rb (heap_lt h.r) (q rb l7)).trans h.r), (set_oth _ (by omega)).trans ((g.block k2 (heap_lt h.z) (q k2 l8)).trans h.z), (dset2 hb v').2, o1.kept gs (or_ne o1 l9), o.kept gs (or_ne o l9), fun j e e2 => ?_, fun y hy => ?_, gr_but (gr_but h.g g (fun j e => by have := (h.o2.lt j e).1; omega)) gs (fun j e => by have := Option.some.inj e; omega), l1, l2, l3, l4, l5, l6, l7, l8, l9, Nat.le_trans l0 (Nat.le_trans g.size gs.size)⟩
  · rcases n1 j e2 with h1 | h1
    · exact h.ne j e h1
    · have := (h.o1.lt j e).2; omega
  · obtain ⟨q1, q2⟩ := h.i y hy
    refine ⟨(q1.but g (fun a e e2 => (q2 a e).2.2.2 e2.symm)).but gs (fun a e => by have := (q2 a e).1; intro e2; have := Option.some.inj e2; omega), fun a e => ?_⟩
    obtain ⟨m1, m2, m3, m4⟩ := q2 a e
    refine ⟨m1, Nat.lt_of_lt_of_le m2 (Nat.le_trans g.size gs.size), m3, fun e2 => ?_⟩
    rcases n1 _ e2 with h1 | h1
    · exact m4 h1
    · omega
/-- The program as it lies. -/
theorem DS.prg {A1 A2 : Option Addr} {c1 c2 m1 m2 : Nat} (h : DS w0 rb k2 kp base s (.slice A1 m1 c1) (.slice A2 m2 c2) Bs Ss V) : Prg.Rd V ⟨A1, c1, Bs, A2, c2, Ss⟩ := by
  obtain ⟨B1, d1, e1, r1⟩ := h.o1.form elB.hn
  obtain ⟨B2, d2, e2, r2⟩ := h.o2.form elSt.hn
  rw [← (Value.slice.inj e1).1] at r1
  rw [← (Value.slice.inj e2).1] at r2
  exact ⟨r1, fun x hx => (h.i x hx).1, r2⟩
/-- A row that a call has made since lies away. -/
theorem ins_at {e : TypeId} {x : Blk} {W : World} {v : Value} {n : Nat} (h1 : OR 69 3 Blk.cs W base v1 Bs) (h2 : OR 79 3 Stt.cs W base v2 Ss) (hb : base ≤ W.heap.size) (hv : v = .slice x.A n x.c) (o : OR e 4 Ins.cs V W.heap.size v x.ins) : InsAt base v1 v2 V x := by
  obtain ⟨B, d, e0, r⟩ := o.form elI.hn
  rw [hv] at e0 o
  rw [← (Value.slice.inj e0).1] at r
  refine ⟨r, fun a ha => ?_⟩
  rcases o.2 with ⟨e3, -⟩ | ⟨g, cap, cur, e3, h4, h5, -⟩
  · have := (Value.slice.inj e3).1; rw [ha] at this; cases this
  · have h6 := (Value.slice.inj e3).1
    rw [ha] at h6
    have h7 : a = ⟨g, 0, none⟩ := Option.some.inj h6
    subst h7
    refine ⟨by show base ≤ g; omega, heap_lt h5, fun e => ?_, fun e => ?_⟩
    · have h8 := (h1.lt g e).2; omega
    · have h8 := (h2.lt g e).2; omega
end
/-- What Decode answers. -/
def decV (t : T) : PP × Int := if (rdP true ⟨t, false⟩).2.bad = false ∧ (rdP true ⟨t, false⟩).2.rest = [] ∧ errQ (rdP true ⟨t, false⟩).1.bs (rdP true ⟨t, false⟩).1.ss = 0 then ((rdP true ⟨t, false⟩).1, 0) else (⟨[], []⟩, 13)
theorem app_blk {L : List Blk} {x : Blk} {m b : Nat} {v7 : Value} {U : World} (hn : L.length = m) (o : OR 69 3 Blk.cs U b v7 (L ++ [x])) : ∃ A c, v7 = .slice A (m + 1) c := by
  obtain ⟨A, c, e, -⟩ := o.form elB.hn
  exact ⟨A, c, by rw [e, List.length_append, hn]; rfl⟩
theorem app_stt {L : List Stt} {x : Stt} {m b : Nat} {v7 : Value} {U : World} (hn : L.length = m) (o : OR 79 3 Stt.cs U b v7 (L ++ [x])) : ∃ A c, v7 = .slice A (m + 1) c := by
  obtain ⟨A, c, e, -⟩ := o.form elSt.hn
  exact ⟨A, c, by rw [e, List.length_append, hn]; rfl⟩
end Go.Proofs.YtgboboljgcfggaaGreatDoor

/- The walks and the words of the family link, part 1: Words, Phs, Opl, Own, App, ChkA, ChkB, Idx, ChkC, CoA, CoB, LabA. -/
import Derived.WalkKit
import Derived.Deep.Draws
import Derived.Deep.QuietTactic
import Derived.BigQuiet
import Derived.BigRegion
import Derived.Laws.Rows
import Derived.Below
import Derived.Lib.Hide
import Derived.Test.YtgboboljgcfggaaGreatDoorProg
import Derived.Orders
import Derived.StillTail
import Derived.MapKept
import Derived.Maps.AppendAt
import Derived.WalkSpells
import Derived.OwnWalk
import Derived.Laws.OwnMore
import Derived.Deep.RegionLaw
import Derived.Deep.CutRange
import Derived.StillTailTactics
import Derived.RangeFuncRecord
import Derived.Lib.Builder
import Derived.Deep.RegionHeld3
import Derived.Lib.Bytealg
import Derived.Laws.Externs
import Derived.Laws.RangeString
import Derived.Laws.RangeAny
namespace Go.Proofs.YtgboboljgcfggaaGreatDoor
open Go.RowKit

abbrev T := List UInt8
abbrev tv (x : T) : Value := Value.string ⟨x.toArray⟩
abbrev iv (n : Int) : Value := .int .i64 n
theorem add_block (a : Addr) (n : Nat) : (a.add n).block = a.block := by unfold Addr.add; split <;> rfl
theorem add_add' (a : Addr) (i j : Nat) : (a.add i).add j = a.add (i + j) := by
  unfold Addr.add
  by_cases hi : i = 0 <;> by_cases hj : j = 0 <;> simp [hi, hj, Nat.add_assoc]

/-- From an address on the records of a list lie in memory, n cells each. -/
def RD {α : Type} (n : Nat) (cs : α → List Value) (w : World) (A : Option Addr) (L : List α) : Prop :=
  L = [] ∨ ∃ a, A = some a ∧ a.block < w.heap.size ∧ ∀ j x, L[j]? = some x → ∀ i v, (cs x)[i]? = some v → w.cell? (a.add (j * n + i)) = some v
section
variable {α : Type} {n : Nat} {cs : α → List Value} {w w' : World} {A : Option Addr} {L : List α}
theorem RD.nil : RD n cs w A ([] : List α) := .inl rfl
theorem RD.at (h : RD n cs w A L) {k : Nat} (hk : k < L.length) : ∃ a, A = some a ∧ a.block < w.heap.size ∧ ∀ i v, (cs L[k])[i]? = some v → w.cell? (a.add (k * n + i)) = some v := by
  rcases h with rfl | ⟨a, e, hb, hc⟩
  · simp at hk
  · exact ⟨a, e, hb, hc k _ (List.getElem?_eq_getElem hk)⟩
theorem RD.keep (h : RD n cs w A L) (hs : w.heap.size ≤ w'.heap.size) (hk : ∀ p : Addr, p.block < w.heap.size → w'.cell? p = w.cell? p) : RD n cs w' A L := by
  rcases h with rfl | ⟨a, e, hb, hc⟩
  · exact .inl rfl
  · exact .inr ⟨a, e, by omega, fun j x hx i v hv => (hk _ (by rw [add_block]; exact hb)).trans (hc j x hx i v hv)⟩
theorem RD.below (h : RD n cs w A L) (hb : Below w.heap.size w w') : RD n cs w' A L := h.keep hb.size fun _ hp => hb.cell hp
end

/-- An instruction. -/
structure Ins where
  op : Int
  a : Int
  b : Int
  name : T
deriving DecidableEq
def Ins.cs (x : Ins) : List Value := [iv x.op, iv x.a, iv x.b, tv x.name]
/-- A block as it lies in memory. -/
structure Blk where
  cap : Int
  param : Bool
  A : Option Addr
  c : Nat
  ins : List Ins
def Blk.cs (x : Blk) : List Value := [iv x.cap, .bool x.param, .slice x.A x.ins.length x.c]
/-- A start. -/
structure Stt where
  pack : T
  id : Int
  block : Int
deriving DecidableEq
def Stt.cs (x : Stt) : List Value := [tv x.pack, iv x.id, iv x.block]
/-- A program as it lies in memory. -/
structure Prg where
  bA : Option Addr
  bc : Nat
  bs : List Blk
  sA : Option Addr
  sc : Nat
  ss : List Stt
def Prg.v (p : Prg) : Value := .agg #[.slice p.bA p.bs.length p.bc, .slice p.sA p.ss.length p.sc]
structure Prg.Rd (w : World) (p : Prg) : Prop where
  b : RD 3 Blk.cs w p.bA p.bs
  i : ∀ x ∈ p.bs, RD 4 Ins.cs w x.A x.ins
  s : RD 3 Stt.cs w p.sA p.ss
theorem Prg.Rd.below {w w' : World} {p : Prg} (h : p.Rd w) (hb : Below w.heap.size w w') : p.Rd w' := ⟨h.b.below hb, fun x hx => (h.i x hx).below hb, h.s.below hb⟩

/-- A plain block's number. -/
def plainB (bs : List Blk) (n : Int) : Bool := decide (0 ≤ n) && (match bs[n.toNat]? with | some b => (b.cap == 0) && !b.param | none => false)

theorem fld_add (a : Addr) (i : Nat) (hi : i ≠ 0) : a.add i = ⟨a.block, a.off + i, none⟩ := by unfold Addr.add; rw [if_neg hi]
theorem RD.blk {w : World} {A : Option Addr} {L : List Blk} (h : RD 3 Blk.cs w A L) {k : Nat} (hk : k < L.length) : ∃ a a1 : Addr, A = some a ∧ a.add (k * 3) = a1 ∧ a1.block < w.heap.size ∧ w.cell? a1 = some (.int .i64 L[k].cap) ∧ w.cell? ⟨a1.block, a1.off + 1, none⟩ = some (.bool L[k].param) ∧ w.cell? ⟨a1.block, a1.off + 2, none⟩ = some (.slice L[k].A L[k].ins.length L[k].c) := by
  obtain ⟨a, e, hb, hc⟩ := h.at hk
  refine ⟨a, _, e, rfl, by rw [add_block]; exact hb, by simpa using hc 0 _ rfl, ?_, ?_⟩
  · rw [← fld_add _ 1 (by omega), add_add']; exact hc 1 _ rfl
  · rw [← fld_add _ 2 (by omega), add_add']; exact hc 2 _ rfl
theorem RD.ins {w : World} {A : Option Addr} {L : List Ins} (h : RD 4 Ins.cs w A L) {k : Nat} (hk : k < L.length) : ∃ a a1 : Addr, A = some a ∧ a.add (k * 4) = a1 ∧ a1.block < w.heap.size ∧ w.cell? a1 = some (.int .i64 L[k].op) ∧ w.cell? ⟨a1.block, a1.off + 1, none⟩ = some (.int .i64 L[k].a) ∧ w.cell? ⟨a1.block, a1.off + 2, none⟩ = some (.int .i64 L[k].b) ∧ w.cell? ⟨a1.block, a1.off + 3, none⟩ = some (.string ⟨L[k].name.toArray⟩) := by
  obtain ⟨a, e, hb, hc⟩ := h.at hk
  refine ⟨a, _, e, rfl, by rw [add_block]; exact hb, by simpa using hc 0 _ rfl, ?_, ?_, ?_⟩
  · rw [← fld_add _ 1 (by omega), add_add']; exact hc 1 _ rfl
  · rw [← fld_add _ 2 (by omega), add_add']; exact hc 2 _ rfl
  · rw [← fld_add _ 3 (by omega), add_add']; exact hc 3 _ rfl
theorem RD.stt {w : World} {A : Option Addr} {L : List Stt} (h : RD 3 Stt.cs w A L) {k : Nat} (hk : k < L.length) : ∃ a a1 : Addr, A = some a ∧ a.add (k * 3) = a1 ∧ a1.block < w.heap.size ∧ w.cell? a1 = some (.string ⟨L[k].pack.toArray⟩) ∧ w.cell? ⟨a1.block, a1.off + 1, none⟩ = some (.int .i64 L[k].id) ∧ w.cell? ⟨a1.block, a1.off + 2, none⟩ = some (.int .i64 L[k].block) := by
  obtain ⟨a, e, hb, hc⟩ := h.at hk
  refine ⟨a, _, e, rfl, by rw [add_block]; exact hb, by simpa using hc 0 _ rfl, ?_, ?_⟩
  · rw [← fld_add _ 1 (by omega), add_add']; exact hc 1 _ rfl
  · rw [← fld_add _ 2 (by omega), add_add']; exact hc 2 _ rfl
theorem cell_al {w : World} {a : Addr} {v : Value} (h : w.cell? a = some v) (hb : a.block < w.heap.size) (o : Obj) : (w.alloc o).cell? a = some v := by
  rw [((Below.refl _ w).alloc (Nat.le_refl _) o).cell hb]; exact h

set_option maxRecDepth 100000 in
theorem plain_any (p : Prg) (n : Int) (w : World) (hp : p.Rd w) :
    Calls Tryz.prog 53 #[p.v, .int .i64 n] w fun e w' => e = .returned (.bool (plainB p.bs n)) ∧ Below w.heap.size w w' := by
  unfold Prg.v
  have bel : ∀ o, Below w.heap.size w (w.alloc o) := fun o => (Below.refl _ _).alloc (Nat.le_refl _) _
  by_cases h1 : 0 ≤ n
  · obtain ⟨N, rfl⟩ : ∃ N : Nat, n = N := ⟨n.toNat, by omega⟩
    by_cases h2 : N < p.bs.length
    · obtain ⟨a, a1, e, ea, hb, c0, c1, -⟩ := hp.b.blk h2
      have hs : plainB p.bs N = ((p.bs[N].cap == 0) && !p.bs[N].param) := by simp [plainB, h2]
      rw [e, hs]
      have d0 := fun o => cell_al c0 hb o
      have d1 := fun o => cell_al c1 hb o
      have t2 : (N : Int) < (p.bs.length : Int) := by omega
      generalize p.bs[N].cap = c at *
      generalize p.bs[N].param = q at *
      have BEL := Lib.hid bel
      clear hs bel hp e
      cases hq : (c == 0) with
      | false =>
        go_enter Tryz.func53, Tryz.ntmps53
        go_wp2
        go_ret
        exact ⟨rfl, BEL.out _⟩
      | true =>
        go_enter Tryz.func53, Tryz.ntmps53
        go_wp2
        go_ret
        exact ⟨rfl, BEL.out _⟩
    · have hs : plainB p.bs N = false := by simp [plainB, h2]
      have t2 : decide ((N : Int) < (p.bs.length : Int)) = false := by simp; omega
      rw [hs]
      go_enter Tryz.func53, Tryz.ntmps53
      go_wp2
      go_ret
      exact ⟨rfl, bel _⟩
  · have hs : plainB p.bs n = false := by simp [plainB, h1]
    have t2 : decide (0 ≤ n) = false := by simp; omega
    rw [hs]
    go_enter Tryz.func53, Tryz.ntmps53
    go_wp2
    go_ret
    exact ⟨rfl, bel _⟩
end Go.Proofs.YtgboboljgcfggaaGreatDoor
namespace Go.Proofs.YtgboboljgcfggaaGreatDoor
open Go.RowKit

def dstOf (ops : Array Oper) (i : Nat) : Option Tmp := match ops[i]? with | some o => o.dst | none => none
def waits (md : Region.Mode) (ops : Array Oper) (i j : Nat) : Bool := match ops[i]? with | some o => o.after.any fun e => Region.binds md e && e.on == j | none => false
/-- Each slot is written once, and lies in the frame. -/
def dstsB (ops : Array Oper) (m : Nat) : Bool :=
  (List.range ops.size).all fun i => match dstOf ops i with
    | none => true
    | some t => decide (t < m) && (List.range ops.size).all fun j => j == i || dstOf ops j != some t
/-- No operation has a guard. -/
def plainB' (ops : Array Oper) : Bool := (List.range ops.size).all fun i => match ops[i]? with | some o => o.guard.isNone | none => true
/-- The states in which an operation may come up. -/
def okB (md : Region.Mode) (ops : Array Oper) (wr : List Bool) (ms : List (List Nat)) (i k : Nat) : Bool :=
  match ms[k]? with
  | none => false
  | some m => m.all (fun j => !(j == i) && !waits md ops j i) && (List.range ops.size).all fun j => !(wr.getD j false) || !waits md ops i j || m.contains j
def okL (md : Region.Mode) (ops : Array Oper) (wr : List Bool) (ms : List (List Nat)) (i : Nat) : List Nat := (List.range ms.length).filter (okB md ops wr ms i)
def stepB (n : Nat) (ms : List (List Nat)) (i k k' : Nat) : Bool := match ms[k]?, ms[k']? with
  | some m, some m' => (List.range n).all (fun j => m'.contains j == (m.contains j || j == i)) && m'.all fun j => decide (j < n)
  | _, _ => false
def finL (n : Nat) (wr : List Bool) (ms : List (List Nat)) : List Nat := (List.range ms.length).filter fun k => match ms[k]? with | some m => (List.range n).all fun j => !(wr.getD j false) || m.contains j | none => false
def AllL : List Nat → (Nat → Prop) → Prop
  | [], _ => True
  | k :: ks, P => P k ∧ AllL ks P
theorem AllL.at {P : Nat → Prop} : ∀ {ks : List Nat}, AllL ks P → ∀ k ∈ ks, P k
  | x :: ks, h, k, hk => by
    rcases List.mem_cons.1 hk with rfl | hk
    · exact h.1
    · exact AllL.at h.2 k hk
/-- The slots that an operation may look at. -/
def knownB (md : Region.Mode) (ops : Array Oper) (i t : Nat) : Bool := (List.range ops.size).all fun j => dstOf ops j != some t || waits md ops i j
def valAt (ops : Array Oper) (vs : List Value) (a0 : Act) (t : Nat) : Value := match (List.range ops.size).find? fun i => dstOf ops i == some t with | some i => vs.getD i undef | none => a0.tmps.getD t undef
def finA : List Oper → List Value → Act → Act
  | o :: os, v :: vs, a => finA os vs (a.put o.dst v)
  | _, _, a => a
def nx (o : Oper) (v : Value) : Next := match o.dst with | none => .skip | some _ => .value v
/-- An operation yields v and leads from w to w'. -/
def Runs (P : Program) (o : Oper) (a : Act) (v : Value) (w w' : World) : Prop :=
  (execOp a.eval o).run P w = .ok (nx o v) w' ∨ ∃ f args, (execOp a.eval o).run P w = .ok (.enter f args) w ∧ Calls P f args w fun e w'' => e = .returned v ∧ w'' = w'
/-- What is to be shown of an operation. -/
def Obl (P : Program) (md : Region.Mode) (ops : Array Oper) (wr : List Bool) (ms : List (List Nat)) (vs : List Value) (ws : List World) (a0 : Act) (i : Nat) (o : Oper) : Prop :=
  ∀ (k : Nat) (a : Act), k ∈ okL md ops wr ms i → (∀ t, knownB md ops i t = true → a.eval (.tmp t) = valAt ops vs a0 t) →
    ∃ k' w w', (if wr.getD i false then stepB ops.size ms i k k' = true else k' = k) ∧ ws[k]? = some w ∧ ws[k']? = some w' ∧ Runs P o a (vs.getD i undef) w w'
def Obls (P : Program) (md : Region.Mode) (ops : Array Oper) (wr : List Bool) (ms : List (List Nat)) (vs : List Value) (ws : List World) (a0 : Act) : Nat → List Oper → Prop
  | _, [] => True
  | i, o :: os => Obl P md ops wr ms vs ws a0 i o ∧ Obls P md ops wr ms vs ws a0 (i + 1) os
theorem Obls.at {P : Program} {md : Region.Mode} {ops : Array Oper} {wr : List Bool} {ms : List (List Nat)} {vs : List Value} {ws : List World} {a0 : Act} : ∀ {l : List Oper} {s : Nat}, Obls P md ops wr ms vs ws a0 s l → ∀ (i : Nat) o, l[i]? = some o → Obl P md ops wr ms vs ws a0 (s + i) o
  | [], _, _, i, o, h => by simp at h
  | x :: l, s, h, 0, o, e => by simp at e; subst e; exact h.1
  | x :: l, s, h, i + 1, o, e => by
    have := Obls.at h.2 i o (by simpa using e)
    rwa [show s + (i + 1) = s + 1 + i by omega]

theorem put_same {a : Act} {t : Nat} {v : Value} (ht : t < a.tmps.size) : (a.put (some t) v).tmps.getD t undef = v := by simp [Act.put, ht]
theorem put_other {a : Act} {d : Option Tmp} {t : Nat} {v : Value} (h : d ≠ some t) : (a.put d v).tmps.getD t undef = a.tmps.getD t undef := by
  cases d with
  | none => rfl
  | some u =>
    have : u ≠ t := fun e => h (by rw [e])
    simp [Act.put, Array.getElem?_setIfInBounds_ne this]
theorem put_size (a : Act) (d : Option Tmp) (v : Value) : (a.put d v).tmps.size = a.tmps.size := by cases d <;> simp [Act.put]
theorem put_defers (a : Act) (d : Option Tmp) (v : Value) : (a.put d v).defers = a.defers := by cases d <;> rfl
theorem act_ext {a b : Act} (h1 : a.tmps.size = b.tmps.size) (h2 : a.defers = b.defers) (h : ∀ t, t < a.tmps.size → a.tmps.getD t undef = b.tmps.getD t undef) : a = b := by
  obtain ⟨ta, da⟩ := a
  obtain ⟨tb, db⟩ := b
  simp only at h1 h2 h
  subst h2
  congr 1
  apply Array.ext h1
  intro i hi hj
  have := h i hi
  simpa [hi, hj] using this

/-- What a frame is while operations come up. -/
structure FrI (ops : Array Oper) (vs : List Value) (a0 : Act) (listed : Nat → Bool) (a : Act) : Prop where
  size : a.tmps.size = a0.tmps.size
  defers : a.defers = a0.defers
  done : ∀ (i : Nat) t, dstOf ops i = some t → listed i = true → a.tmps.getD t undef = vs.getD i undef
  other : ∀ t, (∀ i, dstOf ops i = some t → listed i = false) → a.tmps.getD t undef = a0.tmps.getD t undef
theorem dsts_spec {ops : Array Oper} {m : Nat} (h : dstsB ops m = true) {i t : Nat} (hi : dstOf ops i = some t) : t < m ∧ ∀ j, j ≠ i → dstOf ops j ≠ some t := by
  have hn : ∀ {i t}, dstOf ops i = some t → i < ops.size := fun {i t} h => by
    unfold dstOf at h
    rcases Nat.lt_or_ge i ops.size with h' | h'
    · exact h'
    · rw [Array.getElem?_eq_none h'] at h; cases h
  have h1 := List.all_eq_true.1 h i (List.mem_range.2 (hn hi))
  rw [hi] at h1
  simp only [Bool.and_eq_true, decide_eq_true_eq] at h1
  refine ⟨h1.1, fun j hj e => ?_⟩
  have h2 := List.all_eq_true.1 h1.2 j (List.mem_range.2 (hn e))
  simp [hj, e] at h2
theorem FrI.put {ops : Array Oper} {vs : List Value} {a0 : Act} {listed : Nat → Bool} {a : Act} (h : FrI ops vs a0 listed a) (hd : dstsB ops a0.tmps.size = true) (i : Nat) {v : Value} (hv : ∀ t, dstOf ops i = some t → v = vs.getD i undef) (hun : listed i = false) :
    FrI ops vs a0 (fun j => if j = i then true else listed j) (a.put (dstOf ops i) v) where
  size := by rw [put_size]; exact h.size
  defers := by rw [put_defers]; exact h.defers
  done j t hj hl := by
    by_cases e : j = i
    · subst e
      rw [hj, put_same (by rw [h.size]; exact (dsts_spec hd hj).1)]
      exact hv t hj
    · simp only [e, if_false] at hl
      rw [put_other ((dsts_spec hd hj).2 i (Ne.symm e))]
      exact h.done j t hj hl
  other t ht := by
    have : dstOf ops i ≠ some t := fun e => by have := ht i e; simp at this
    rw [put_other this]
    exact h.other t fun j hj => by
      have := ht j hj
      split at this
      · cases this
      · exact this
theorem FrI.unique {ops : Array Oper} {vs : List Value} {a0 : Act} {l l' : Nat → Bool} {a a' : Act} (h : FrI ops vs a0 l a) (h' : FrI ops vs a0 l' a') (hl : ∀ i, i < ops.size → l i = l' i) : a = a' := by
  refine act_ext (h.size.trans h'.size.symm) (h.defers.trans h'.defers.symm) fun t _ => ?_
  have hn : ∀ {i t}, dstOf ops i = some t → i < ops.size := fun {i t} h => by
    unfold dstOf at h
    rcases Nat.lt_or_ge i ops.size with h' | h'
    · exact h'
    · rw [Array.getElem?_eq_none h'] at h; cases h
  by_cases e : ∃ i, dstOf ops i = some t ∧ l i = true
  · obtain ⟨i, e1, e2⟩ := e
    rw [h.done i t e1 e2, h'.done i t e1 (by rw [← hl i (hn e1)]; exact e2)]
  · have q : ∀ i, dstOf ops i = some t → l i = false := fun i e1 => by
      cases e2 : l i with
      | false => rfl
      | true => exact absurd ⟨i, e1, e2⟩ e
    rw [h.other t q, h'.other t fun i e1 => by rw [← hl i (hn e1)]; exact q i e1]
theorem finA_ok {ops : Array Oper} {vs : List Value} {a0 : Act} (hd : dstsB ops a0.tmps.size = true) : ∀ (l : List Oper) (us : List Value) (s : Nat) (a : Act), l.length = us.length → (∀ i, i < l.length → dstOf ops (s + i) = (match l[i]? with | some o => o.dst | none => none)) → (∀ i, i < us.length → vs.getD (s + i) undef = us.getD i undef) →
    FrI ops vs a0 (fun j => decide (j < s)) a → FrI ops vs a0 (fun j => decide (j < s + l.length)) (finA l us a)
  | [], [], s, a, _, _, _, h => h
  | o :: l, u :: us, s, a, hl, ho, hv, h => by
    have h0 := ho 0 (by simp)
    simp only [Nat.add_zero, List.getElem?_cons_zero] at h0
    have h1 := h.put hd s (v := u) (fun t _ => by have := hv 0 (by simp); simpa using this.symm) (by simp)
    have h2 : (fun j => if j = s then true else decide (j < s)) = fun j => decide (j < s + 1) := by
      funext j
      by_cases e : j = s
      · simp [e]
      · have : (j < s) ↔ (j < s + 1) := by omega
        simp [e, this]
    rw [h2, h0] at h1
    have h3 := finA_ok hd l us (s + 1) (a.put o.dst u) (by simpa using hl) (fun i hi => by
      have := ho (i + 1) (by simpa using hi)
      rw [show s + 1 + i = s + (i + 1) by omega, this]
      simp) (fun i hi => by
      have := hv (i + 1) (by simpa using hi)
      rw [show s + 1 + i = s + (i + 1) by omega, this]
      simp) h1
    have e : s + (o :: l).length = s + 1 + l.length := by simp; omega
    rw [e]
    exact h3

theorem waits_spec {md : Region.Mode} {ops : Array Oper} {i j : Nat} (h : waits md ops i j = true) : ∃ o, ops[i]? = some o ∧ ∃ e ∈ o.after, Region.binds md e = true ∧ e.on = j := by
  unfold waits at h
  split at h
  · rename_i o ho
    obtain ⟨e, he, hb⟩ := Array.any_eq_true'.1 h
    simp only [Bool.and_eq_true, beq_iff_eq] at hb
    exact ⟨o, ho, e, he, hb.1, hb.2⟩
  · cases h
/-- While operations come up. -/
structure PhI (md : Region.Mode) (ops : Array Oper) (wr : List Bool) (ms : List (List Nat)) (vs : List Value) (ws : List World) (a0 : Act) (T : Nat) (m : Nat) (listed : Array Bool) (a : Act) (w : World) : Prop where
  size : listed.size = ops.size
  left : (List.range T).countP (fun i => !listed.getD i false) = m
  tail : ∀ t, T ≤ t → t < ops.size → listed.getD t false = false
  closed : ∀ j oj, ops[j]? = some oj → listed.getD j false = true → ∀ e ∈ oj.after, Region.binds md e = true → listed.getD e.on false = true
  w : ∃ (k : Nat) (m : List Nat), ws[k]? = some w ∧ ms[k]? = some m ∧ (∀ j ∈ m, j < ops.size ∧ listed.getD j false = true) ∧ ∀ j, j < ops.size → wr.getD j false = true → listed.getD j false = true → j ∈ m
  fr : FrI ops vs a0 (fun i => listed.getD i false) a

theorem exists_ready {md : Region.Mode} {ops : Array Oper} (hf : ((List.range ops.size).all fun i => match ops[i]? with | some o => o.after.all (fun e => !Region.binds md e || decide (e.on < i)) | none => true) = true) {listed : Array Bool} (hs : listed.size = ops.size) :
    ∀ (n i : Nat), i ≤ n → i < ops.size → listed.getD i false = false → ∃ j, j ∈ Region.ready md ops listed := by
  intro n
  induction n with
  | zero =>
    intro i hi hlt hun
    have : i = 0 := by omega
    subst this
    refine ⟨0, mem_ready.2 ⟨by simp [hs, hlt] at hun ⊢; exact hun, ops[0], by simp [hlt], fun e he hb => ?_⟩⟩
    have h1 := List.all_eq_true.1 hf 0 (List.mem_range.2 hlt)
    simp only [Array.getElem?_eq_getElem hlt] at h1
    have h2 := Array.all_eq_true'.1 h1 e he
    simp [hb] at h2
  | succ n ih =>
    intro i hi hlt hun
    by_cases hall : ∀ e ∈ (ops[i]).after, Region.binds md e = true → listed.getD e.on false = true
    · exact ⟨i, mem_ready.2 ⟨by simp [hs, hlt] at hun ⊢; exact hun, ops[i], by simp [hlt], hall⟩⟩
    · have : ∃ e ∈ (ops[i]).after, Region.binds md e = true ∧ listed.getD e.on false = false := by
        refine Classical.byContradiction fun hc => hall fun e he hb => ?_
        cases h3 : listed.getD e.on false with
        | true => rfl
        | false => exact absurd ⟨e, he, hb, h3⟩ hc
      obtain ⟨e, he, hb, hun2⟩ := this
      have h1 := List.all_eq_true.1 hf i (List.mem_range.2 hlt)
      simp only [Array.getElem?_eq_getElem hlt] at h1
      have h2 := Array.all_eq_true'.1 h1 e he
      simp [hb] at h2
      exact ih e.on (by omega) (by omega) hun2

theorem getD_rep (m j : Nat) : (Array.replicate m false).getD j false = false := by
  rcases Nat.lt_or_ge j m with h | h
  · simp [h]
  · simp [h]
theorem getD_bth {listed : Array Bool} {i : Nat} (h : listed.getD i true = false) : listed.getD i false = false := by
  rcases Nat.lt_or_ge i listed.size with h' | h'
  · simp [h'] at h ⊢; exact h
  · simp [Array.getElem?_eq_none h'] at h
theorem wpAny_invT {P : Program} {md : Region.Mode} {ops : Array Oper} {Q : Exit → Act → World → Prop} {f : Nat} (I : Nat → Array Bool → Act → World → Prop)
    (hne : ∀ n l a w, I (n + 1) l a w → Region.ready md ops l ≠ [])
    (hstep : ∀ n l a w i, I (n + 1) l a w → i ∈ Region.ready md ops l → wpOp P ops Q i (fun a' w' => I n (l.setIfInBounds i true) a' w') a w)
    (hend : ∀ l a w, I 0 l a w → wpAny P md ops Q f l a w) : ∀ n l a w, I n l a w → wpAny P md ops Q (n + f) l a w := by
  intro n
  induction n with
  | zero => intro l a w h; rw [Nat.zero_add]; exact hend l a w h
  | succ n ih =>
    intro l a w h
    rw [show n + 1 + f = (n + f) + 1 by omega]
    exact ⟨fun h0 => absurd h0 (hne n l a w h), fun i hi => wpOp_mono (fun a' w' h' => ih _ a' w' h') (hstep n l a w i h hi)⟩
theorem wpOp_of {P : Program} {ops : Array Oper} {Q : Exit → Act → World → Prop} {i : Nat} {K : Act → World → Prop} {a : Act} {w : World} {o : Oper} (ho : ops[i]? = some o) (hg : o.guard = none) (h : o.wp P a w K Q) : wpOp P ops Q i K a w := by
  unfold wpOp
  simp only [ho]
  rw [if_pos (by simp [Region.wanted, hg])]
  exact .inl h
def fwdB (md : Region.Mode) (ops : Array Oper) : Bool := (List.range ops.size).all fun i => match ops[i]? with | some o => o.after.all (fun e => !Region.binds md e || decide (e.on < i)) | none => true
theorem left_set {T n i : Nat} {listed : Array Bool} (hT : T ≤ n) (hs : listed.size = n) (hi : i < T) (hun : listed.getD i false = false) {m : Nat} (h : (List.range T).countP (fun j => !listed.getD j false) = m + 1) :
    (List.range T).countP (fun j => !(listed.setIfInBounds i true).getD j false) = m := by
  have key : ∀ k, k ≤ T → (List.range k).countP (fun j => !listed.getD j false) = (List.range k).countP (fun j => !(listed.setIfInBounds i true).getD j false) + if i < k then 1 else 0 := by
    intro k
    induction k with
    | zero => simp
    | succ k ih =>
      intro hk
      rw [List.range_succ, List.countP_append, List.countP_append, ih (by omega)]
      by_cases e : k = i
      · subst e
        have h1 : (listed.setIfInBounds k true).getD k false = true := by simp [hs, show k < n by omega]
        simp only [List.countP_singleton, h1, hun]
        simp
      · have h1 : (listed.setIfInBounds i true).getD k false = listed.getD k false := getD_set_ne false (Ne.symm e)
        simp only [List.countP_singleton, h1]
        have h2 : (i < k + 1) ↔ (i < k) := by omega
        simp only [h2]
        omega
  have := key T (Nat.le_refl _)
  simp only [hi, if_true] at this
  omega
theorem getD_tr {listed : Array Bool} {i : Nat} (hi : i < listed.size) (h : listed.getD i false = false) : listed.getD i true = false := by
  simp [hi] at h ⊢; exact h

/-- **The rule.** -/
theorem wp_phase_tail {P : Program} {id : Nat} {l : List Oper} {Q : Exit → Act → World → Prop} {a0 : Act} {w : World} (wr : List Bool) (ms : List (List Nat)) (vs : List Value) (ws : List World) (kf : Nat) (af : Act) (T : Nat) (hT : T ≤ l.length) (hm : P.follows .mixedOrders = true)
    (hd : dstsB l.toArray a0.tmps.size = true) (hp : plainB' l.toArray = true) (hf : fwdB .any l.toArray = true) (hl : T = vs.length) (hkf : finL T wr ms = [kf]) (haf : finA (l.take T) vs a0 = af)
    (hsk : T < l.length → Region.sinkB .any l.toArray T = true) (hch : T < l.length → Region.chainB .any l.toArray T = true)
    (hm0 : ms[0]? = some []) (hw0 : ws[0]? = some w.drew) (ho : Obls P .any l.toArray wr ms vs ws a0 0 (l.take T)) {wf : World} (hwf : ws[kf]? = some wf)
    (hsq : Region.seqB .any l.toArray (l.length - T) T (List.replicate T true ++ List.replicate (l.length - T) false).toArray = true) (hfin : wpList P l.toArray Q (l.drop T) af wf) : (Code.region id l.toArray true).wp P Q a0 w := by
  have hsz : l.toArray.size = T + (l.length - T) := by simp; omega
  have hT' : T ≤ l.toArray.size := by simpa using hT
  refine wp_region_any hm ?_
  rw [show wpAny P .any l.toArray Q l.toArray.size = wpAny P .any l.toArray Q (T + (l.length - T)) by rw [← hsz]]
  refine wpAny_invT (f := l.length - T) (PhI .any l.toArray wr ms vs ws a0 T) ?_ ?_ ?_ _ _ _ _ ?_
  · intro n listed a w h
    have : ∃ i, i < T ∧ listed.getD i false = false := by
      have h1 := h.left
      refine Classical.byContradiction fun hc => ?_
      have h0 : (List.range T).countP (fun i => !listed.getD i false) = 0 := by
        rw [List.countP_eq_zero]
        intro i hi
        simp only [Bool.not_eq_true', Bool.not_eq_false]
        cases h3 : listed.getD i false with
        | true => rfl
        | false => exact absurd ⟨i, List.mem_range.1 hi, h3⟩ hc
      omega
    obtain ⟨i, hi, hun⟩ := this
    obtain ⟨j, hj⟩ := exists_ready (md := .any) hf h.size i i (Nat.le_refl _) (by omega) hun
    intro e
    rw [e] at hj
    cases hj
  · intro n listed a w i h hi
    obtain ⟨hun1, o, hoi, hall⟩ := mem_ready.1 hi
    have hilt : i < l.toArray.size := (Array.getElem?_eq_some_iff.1 hoi).1
    have hun : listed.getD i false = false := getD_bth hun1
    have hiT : i < T := by
      rcases Nat.lt_or_ge i T with h' | h'
      · exact h'
      · exfalso
        have hlT : T < l.length := by have : i < l.length := by simpa using hilt
                                      omega
        have : ∃ q, q < T ∧ listed.getD q false = false := by
          have h1 := h.left
          refine Classical.byContradiction fun hc => ?_
          have h0 : (List.range T).countP (fun i => !listed.getD i false) = 0 := by
            rw [List.countP_eq_zero]
            intro i hi
            simp only [Bool.not_eq_true', Bool.not_eq_false]
            cases h3 : listed.getD i false with
            | true => rfl
            | false => exact absurd ⟨i, List.mem_range.1 hi, h3⟩ hc
          omega
        obtain ⟨q, hq, hqu⟩ := this
        refine tail_waits (md := .any) (n := T) (hsk hlT) (hch hlT) (by simpa using hlT) ⟨h.size, h.closed, fun t ht ht' => getD_tr (by rw [h.size]; exact ht') (h.tail t ht ht')⟩ _ q rfl hq (getD_tr (by rw [h.size]; omega) hqu) i h' hi
    have wl : ∀ j, waits .any l.toArray i j = true → listed.getD j false = true := fun j hj => by
      obtain ⟨o', ho', e, he, hb, hon⟩ := waits_spec hj
      have : o' = o := Option.some.inj (ho'.symm.trans hoi)
      subst this
      rw [← hon]; exact hall e he hb
    obtain ⟨k, m, ek, em, hm1, hm2⟩ := h.w
    have hk : k ∈ okL .any l.toArray wr ms i := by
      refine List.mem_filter.2 ⟨List.mem_range.2 (List.getElem?_eq_some_iff.1 em).1, ?_⟩
      unfold okB
      rw [em]
      simp only [Bool.and_eq_true, List.all_eq_true, Bool.or_eq_true, Bool.not_eq_true', beq_eq_false_iff_ne]
      refine ⟨fun j hj => ⟨fun e => ?_, ?_⟩, fun j hj => ?_⟩
      · subst e
        have := (hm1 j hj).2
        rw [hun] at this
        cases this
      · cases hw : waits .any l.toArray j i with
        | false => rfl
        | true =>
          obtain ⟨o', ho', e, he, hb, hon⟩ := waits_spec hw
          have := h.closed j o' ho' (hm1 j hj).2 e he hb
          rw [hon, hun] at this
          cases this
      · cases h1 : wr.getD j false with
        | false => exact .inl (.inl rfl)
        | true =>
          cases h2 : waits .any l.toArray i j with
          | false => exact .inl (.inr rfl)
          | true => exact .inr (List.contains_iff_mem.2 (hm2 j (List.mem_range.1 hj) h1 (wl j h2)))
    have hE : ∀ t, knownB .any l.toArray i t = true → a.eval (.tmp t) = valAt l.toArray vs a0 t := fun t ht => by
      unfold Act.eval valAt
      simp only []
      cases hfd : (List.range l.toArray.size).find? (fun i => dstOf l.toArray i == some t) with
      | some j =>
        have h1 : dstOf l.toArray j = some t := by have := List.find?_some hfd; simpa using this
        have h2 : j < l.toArray.size := by have := List.mem_of_find?_eq_some hfd; simpa using this
        have h3 := List.all_eq_true.1 ht j (List.mem_range.2 h2)
        simp [h1] at h3
        exact h.fr.done j t h1 (wl j h3)
      | none =>
        refine h.fr.other t fun j hj => ?_
        have h2 : j < l.toArray.size := by
          unfold dstOf at hj
          rcases Nat.lt_or_ge j l.toArray.size with h' | h'
          · exact h'
          · rw [Array.getElem?_eq_none h'] at hj; cases hj
        have := List.find?_eq_none.1 hfd j (List.mem_range.2 h2)
        simp [hj] at this
    have hob := Obls.at ho i o (by rw [List.getElem?_take, if_pos hiT]; simpa using hoi)
    rw [Nat.zero_add] at hob
    obtain ⟨k', w1, w2, estep, e1, e2, hrun⟩ := hob _ a hk hE
    have : w1 = w := Option.some.inj (e1.symm.trans ek)
    subst this
    have hg : o.guard = none := by
      have := List.all_eq_true.1 hp i (List.mem_range.2 hilt)
      rw [hoi] at this
      simpa using this
    have hdst : dstOf l.toArray i = o.dst := by unfold dstOf; rw [hoi]
    have lset : ∀ j, listed.getD j false = true → (listed.setIfInBounds i true).getD j false = true := fun j hj => getD_set_true hj
    have iset : (listed.setIfInBounds i true).getD i false = true := by simp [h.size, show i < l.length by simpa using hilt]
    have next : ∀ v, (∀ t, o.dst = some t → v = vs.getD i undef) → PhI .any l.toArray wr ms vs ws a0 T n (listed.setIfInBounds i true) (a.put o.dst v) w2 := fun v hv => by
      refine ⟨by simpa using h.size, left_set hT' h.size hiT hun h.left, fun t ht ht' => by rw [getD_set_ne false (by omega)]; exact h.tail t ht ht', ?_, ?_, ?_⟩
      · intro j oj hj hl' e he hb
        by_cases hij : i = j
        · subst hij
          have : oj = o := Option.some.inj (hj.symm.trans hoi)
          subst this
          exact getD_set_true (hall e he hb)
        · rw [getD_set_ne false hij] at hl'
          exact getD_set_true (h.closed j oj hj hl' e he hb)
      · cases hwr : wr.getD i false with
        | false =>
          rw [hwr] at estep
          simp at estep
          subst estep
          refine ⟨k', m, e2, em, fun j hj => ⟨(hm1 j hj).1, lset j (hm1 j hj).2⟩, fun j hj h1 h2 => ?_⟩
          by_cases e : i = j
          · subst e; rw [hwr] at h1; cases h1
          · rw [getD_set_ne false e] at h2
            exact hm2 j hj h1 h2
        | true =>
          rw [hwr] at estep
          simp only [if_true] at estep
          unfold stepB at estep
          rw [em] at estep
          split at estep
          · rename_i m1 m' e3 e4
            simp only [Option.some.injEq] at e3
            subst e3
            simp only [Bool.and_eq_true, List.all_eq_true, beq_iff_eq, decide_eq_true_eq] at estep
            refine ⟨k', m', e2, e4, fun j hj => ?_, fun j hj h1 h2 => ?_⟩
            · have hjn := estep.2 j hj
              refine ⟨hjn, ?_⟩
              have h3 := estep.1 j (List.mem_range.2 hjn)
              rw [List.contains_iff_mem.2 hj] at h3
              have h4 := h3.symm
              simp only [Bool.or_eq_true, beq_iff_eq] at h4
              rcases h4 with h4 | h4
              · exact lset j (hm1 j (List.contains_iff_mem.1 h4)).2
              · subst h4; exact iset
            · have h3 := estep.1 j (List.mem_range.2 hj)
              refine List.contains_iff_mem.1 (h3.trans ?_)
              by_cases e : i = j
              · subst e; simp
              · rw [getD_set_ne false e] at h2
                rw [List.contains_iff_mem.2 (hm2 j hj h1 h2)]
                rfl
          · cases estep
      · have h1 := h.fr.put hd i (v := v) (by rw [hdst]; exact hv) hun
        rw [hdst] at h1
        have h2 : (fun j => if j = i then true else listed.getD j false) = fun j => (listed.setIfInBounds i true).getD j false := by
          funext j
          by_cases e : j = i
          · subst e; simp [h.size, show j < l.length by simpa using hilt]
          · rw [getD_set_ne false (Ne.symm e)]; simp [e]
        rw [h2] at h1
        exact h1
    refine wpOp_of hoi hg ?_
    rcases hrun with hrun | ⟨f, args, hrun, hcall⟩
    · unfold Oper.wp
      rw [hrun]
      unfold nx
      cases hdd : o.dst with
      | none =>
        rw [hdd] at next
        have := next undef (by intro t e; cases e)
        simpa [Oper.upon, hdd] using this
      | some t =>
        rw [hdd] at next
        have := next (vs.getD i undef) (fun _ _ => rfl)
        simpa [Oper.upon, hdd] using this
    · unfold Oper.wp
      rw [hrun, Oper.upon_enter]
      refine hcall.mono ?_
      rintro e w3 ⟨rfl, rfl⟩
      exact next (vs.getD i undef) (fun _ _ => rfl)
  · intro listed a w h
    have hall : ∀ i, i < T → listed.getD i false = true := fun i hi => by
      have h0 := h.left
      rw [List.countP_eq_zero] at h0
      have := h0 i (List.mem_range.2 hi)
      simpa using this
    have hlist : listed = (List.replicate T true ++ List.replicate (l.length - T) false).toArray := by
      apply Array.ext
      · rw [h.size]; simp; omega
      · intro i h1 h2
        have hi' : i < l.toArray.size := by rw [← h.size]; exact h1
        by_cases hiT : i < T
        · have h3 := hall i hiT
          have : listed[i] = true := by simpa [h1] using h3
          rw [this]
          simp [hiT]
        · have h3 := h.tail i (by omega) hi'
          have : listed[i] = false := by simpa [h1] using h3
          rw [this]
          simp [List.getElem_append, hiT]
    have h1 := finA_ok (vs := vs) hd (l.take T) vs 0 a0 (by rw [List.length_take, Nat.min_eq_left hT, hl]) (fun i hi => by
      have hi' : i < T := by rw [List.length_take, Nat.min_eq_left hT] at hi; exact hi
      unfold dstOf; rw [List.getElem?_take, if_pos hi']; simp) (fun i _ => by simp) ⟨rfl, rfl, fun i t _ h => by simp at h, fun t _ => rfl⟩
    have := h.fr.unique h1 fun i hi => by
      rw [List.length_take, Nat.min_eq_left hT, Nat.zero_add]
      by_cases hiT : i < T
      · rw [hall i hiT]; simp [hiT]
      · rw [h.tail i (by omega) hi]; simp [hiT]
    rw [this, haf]
    obtain ⟨k, m, ek, em, hm1, hm2⟩ := h.w
    have hk : k ∈ finL T wr ms := by
      refine List.mem_filter.2 ⟨List.mem_range.2 (List.getElem?_eq_some_iff.1 em).1, ?_⟩
      simp only [em, List.all_eq_true, Bool.or_eq_true, Bool.not_eq_true']
      intro j hj
      cases h1 : wr.getD j false with
      | false => exact .inl rfl
      | true =>
        have hj' : j < T := by simpa using hj
        exact .inr (List.contains_iff_mem.2 (hm2 j (by omega) h1 (hall j hj')))
    rw [hkf, List.mem_singleton] at hk
    subst hk
    have : w = wf := Option.some.inj (ek.symm.trans hwf)
    subst this
    rw [hlist]
    have hlen : (l.drop T).length = l.length - T := by simp
    rw [← hlen]
    refine wpAny_of_seq (l.drop T) T _ _ _ (fun j => by rw [List.getElem?_drop]; simp) ?_ hfin
    rw [hlen]
    exact hsq
  · refine ⟨by simp, ?_, fun t _ _ => getD_rep _ _, ?_, ⟨0, [], hw0, hm0, by simp, ?_⟩, ?_⟩
    · have : ∀ i ∈ List.range T, (!(Array.replicate l.toArray.size false).getD i false) = true := fun i hi => by rw [getD_rep]; rfl
      rw [List.countP_eq_length.2 this]
      simp
    · intro j oj _ h
      rw [getD_rep] at h
      cases h
    · intro j _ _ h
      rw [getD_rep] at h
      cases h
    · exact ⟨rfl, rfl, fun i t _ h => (by rw [getD_rep] at h; cases h), fun t _ => rfl⟩
theorem wp_phase {P : Program} {id : Nat} {l : List Oper} {Q : Exit → Act → World → Prop} {a0 : Act} {w : World} (wr : List Bool) (ms : List (List Nat)) (vs : List Value) (ws : List World) (kf : Nat) (af : Act) (hm : P.follows .mixedOrders = true)
    (hd : dstsB l.toArray a0.tmps.size = true) (hp : plainB' l.toArray = true) (hf : fwdB .any l.toArray = true) (hl : l.length = vs.length) (hkf : finL l.length wr ms = [kf]) (haf : finA l vs a0 = af)
    (hm0 : ms[0]? = some []) (hw0 : ws[0]? = some w.drew) (ho : Obls P .any l.toArray wr ms vs ws a0 0 l) {wf : World} (hwf : ws[kf]? = some wf) (hfin : Q .normal af wf) : (Code.region id l.toArray true).wp P Q a0 w := by
  have h1 : l.take l.length = l := List.take_length
  have h2 : l.drop l.length = [] := List.drop_length
  refine wp_phase_tail wr ms vs ws kf af l.length (Nat.le_refl _) hm hd hp hf hl hkf (by rw [h1]; exact haf) (fun h => absurd h (Nat.lt_irrefl _)) (fun h => absurd h (Nat.lt_irrefl _)) hm0 hw0 (by rw [h1]; exact ho) hwf ?_ ?_
  · rw [Nat.sub_self]
    unfold Region.seqB
    rw [List.isEmpty_iff, List.eq_nil_iff_forall_not_mem]
    intro j hj
    obtain ⟨h3, o, ho', _⟩ := mem_ready.1 hj
    have hlt : j < l.length := by have := (Array.getElem?_eq_some_iff.1 ho').1; simpa using this
    simp [hlt] at h3
  · rw [h2]; exact hfin

/-- The rule, the frame as it comes. -/
theorem wp_phaseT {P : Program} {id : Nat} {l : List Oper} {Q : Exit → Act → World → Prop} {a0 : Act} {w : World} (wr : List Bool) (ms : List (List Nat)) (vs : List Value) (ws : List World) (kf : Nat) (T : Nat) (hT : T ≤ l.length) (hm : P.follows .mixedOrders = true)
    (hd : dstsB l.toArray a0.tmps.size = true) (hp : plainB' l.toArray = true) (hf : fwdB .any l.toArray = true) (hl : T = vs.length) (hkf : finL T wr ms = [kf])
    (hsk : T < l.length → Region.sinkB .any l.toArray T = true) (hch : T < l.length → Region.chainB .any l.toArray T = true)
    (hm0 : ms[0]? = some []) (hw0 : ws[0]? = some w.drew) (ho : Obls P .any l.toArray wr ms vs ws a0 0 (l.take T)) {wf : World} (hwf : ws[kf]? = some wf)
    (hsq : Region.seqB .any l.toArray (l.length - T) T (List.replicate T true ++ List.replicate (l.length - T) false).toArray = true) (hfin : ∀ af, finA (l.take T) vs a0 = af → wpList P l.toArray Q (l.drop T) af wf) : (Code.region id l.toArray true).wp P Q a0 w :=
  wp_phase_tail wr ms vs ws kf _ T hT hm hd hp hf hl hkf rfl hsk hch hm0 hw0 ho hwf hsq (hfin _ rfl)

section
variable {P : Program} {md : Region.Mode} {ops : Array Oper} {wr : List Bool} {ms : List (List Nat)} {ws : List World} {i k : Nat} {o : Oper} {v : Value} {a : Act}
theorem okL_lt (hk : k ∈ okL md ops wr ms i) : k < ms.length := List.mem_range.1 (List.mem_filter.1 hk).1
/-- An operation that looks at no memory. -/
theorem obl_pure (hwr : wr.getD i false = false) (hle : ms.length = ws.length) (hk : k ∈ okL md ops wr ms i) (h : ∀ w, (execOp a.eval o).run P w = .ok (nx o v) w) :
    ∃ k' w w', (if wr.getD i false then stepB ops.size ms i k k' = true else k' = k) ∧ ws[k]? = some w ∧ ws[k']? = some w' ∧ Runs P o a v w w' := by
  have h1 : k < ws.length := by rw [← hle]; exact okL_lt hk
  refine ⟨k, ws[k], ws[k], ?_, List.getElem?_eq_getElem h1, List.getElem?_eq_getElem h1, .inl (h _)⟩
  rw [hwr]
  simp
/-- An operation that reads. -/
theorem obl_read {ks : List Nat} (hwr : wr.getD i false = false) (hks : okL md ops wr ms i = ks) (hle : ms.length = ws.length) (hk : k ∈ okL md ops wr ms i) (h : AllL ks fun k => ∀ w, ws[k]? = some w → (execOp a.eval o).run P w = .ok (nx o v) w) :
    ∃ k' w w', (if wr.getD i false then stepB ops.size ms i k k' = true else k' = k) ∧ ws[k]? = some w ∧ ws[k']? = some w' ∧ Runs P o a v w w' := by
  have h1 : k < ws.length := by rw [← hle]; exact okL_lt hk
  have h2 := AllL.at h k (by rw [← hks]; exact hk) _ (List.getElem?_eq_getElem h1)
  refine ⟨k, ws[k], ws[k], ?_, List.getElem?_eq_getElem h1, List.getElem?_eq_getElem h1, .inl h2⟩
  rw [hwr]
  simp
/-- A call that only computes. -/
theorem obl_call {ks : List Nat} (hwr : wr.getD i false = false) (hks : okL md ops wr ms i = ks) (hle : ms.length = ws.length) (hk : k ∈ okL md ops wr ms i) (h : AllL ks fun k => ∀ w, ws[k]? = some w → ∃ f args, (execOp a.eval o).run P w = .ok (.enter f args) w ∧ Calls P f args w fun e w'' => e = .returned v ∧ w'' = w) :
    ∃ k' w w', (if wr.getD i false then stepB ops.size ms i k k' = true else k' = k) ∧ ws[k]? = some w ∧ ws[k']? = some w' ∧ Runs P o a v w w' := by
  have h1 : k < ws.length := by rw [← hle]; exact okL_lt hk
  have h2 := AllL.at h k (by rw [← hks]; exact hk) _ (List.getElem?_eq_getElem h1)
  refine ⟨k, ws[k], ws[k], ?_, List.getElem?_eq_getElem h1, List.getElem?_eq_getElem h1, .inr h2⟩
  rw [hwr]
  simp
/-- An operation that writes. -/
theorem obl_write {ks : List Nat} (hwr : wr.getD i false = true) (hks : okL md ops wr ms i = ks) (hk : k ∈ okL md ops wr ms i) (h : AllL ks fun k => ∃ k' w w', stepB ops.size ms i k k' = true ∧ ws[k]? = some w ∧ ws[k']? = some w' ∧ (execOp a.eval o).run P w = .ok (nx o v) w') :
    ∃ k' w w', (if wr.getD i false then stepB ops.size ms i k k' = true else k' = k) ∧ ws[k]? = some w ∧ ws[k']? = some w' ∧ Runs P o a v w w' := by
  obtain ⟨k', w, w', h1, h2, h3, h4⟩ := AllL.at h k (by rw [← hks]; exact hk)
  refine ⟨k', w, w', ?_, h2, h3, .inl h4⟩
  rw [hwr]
  simpa using h1
end
end Go.Proofs.YtgboboljgcfggaaGreatDoor
namespace Go.Proofs.YtgboboljgcfggaaGreatDoor
open Go.RowKit

theorem al_new (w : World) (o : Obj) : (w.alloc o).heap[w.heap.size]? = some o := (MapKept.heap_alloc w o).1
theorem al_at (W : World) (o : Obj) {A : Nat} (h : A = W.heap.size) : (W.alloc o).heap[A]? = some o := by rw [h]; exact al_new W o
theorem heap_lt {w : World} {k : Nat} {o : Obj} (h : w.heap[k]? = some o) : k < w.heap.size := (Array.getElem?_eq_some_iff.1 h).1
section
variable {o : Oper} {a : Act} {w : World}
theorem nx_some {v : Value} (h : o.dst.isSome = true) : nx o v = .value v := by
  unfold nx
  cases e : o.dst with
  | none => rw [e] at h; cases h
  | some t => rfl
theorem nx_none {v : Value} (h : o.dst.isSome = false) : nx o v = .skip := by
  unfold nx
  cases e : o.dst with
  | none => rfl
  | some t => rw [e] at h; cases h
theorem op_move {x : Operand} {v : Value} (hd : o.dst.isSome = true) (ho : o.op = .move x) (h : a.eval x = v) : (execOp a.eval o).run Tryz.prog w = .ok (nx o v) w := by
  rw [nx_some hd]
  obtain ⟨d, op, t, p, af, g⟩ := o
  simp only at ho
  subst ho
  subst h
  go_simp
theorem op_assign {x : Operand} {v : Value} (hd : o.dst.isSome = true) (ho : o.op = .assign x) (h : a.eval x = v) : (execOp a.eval o).run Tryz.prog w = .ok (nx o v) w := by
  rw [nx_some hd]
  obtain ⟨d, op, t, p, af, g⟩ := o
  simp only at ho
  subst ho
  subst h
  go_simp
theorem op_nil {x : Tmp} {p : Addr} (hd : o.dst.isSome = true) (ho : o.op = .nilCheck (.tmp x)) (h : a.eval (.tmp x) = .pointer (some p)) : (execOp a.eval o).run Tryz.prog w = .ok (nx o (.pointer (some p))) w := by
  rw [nx_some hd]
  unfold Act.eval at h
  obtain ⟨d, op, t, ps, af, gu⟩ := o
  simp only at ho
  subst ho
  go_simp
theorem op_load1 {x : Tmp} {T : TypeId} {p : Addr} {v : Value} (hd : o.dst.isSome = true) (hT : T = 3 ∨ T = 9 ∨ T = 4) (ho : o.op = .load T (.tmp x)) (h : a.eval (.tmp x) = .pointer (some p)) (hc : w.cell? p = some v) : (execOp a.eval o).run Tryz.prog w = .ok (nx o v) w := by
  rw [nx_some hd]
  unfold Act.eval at h
  obtain ⟨d, op, t, ps, af, gu⟩ := o
  simp only at ho
  subst ho
  rcases hT with rfl | rfl | rfl <;> go_simp
end
end Go.Proofs.YtgboboljgcfggaaGreatDoor
namespace Go.Proofs.YtgboboljgcfggaaGreatDoor
open Go.RowKit

/-- Nothing that was is turned. -/
abbrev Gr (w w' : World) : Prop := w.grownBy w' none
theorem gr_al (w : World) (o : Obj) : Gr w (w.alloc o) := World.grownBy_alloc w o none
theorem gr_drewN (w : World) (n : Nat) : Gr w (w.drewN n) := ⟨rfl, rfl, rfl, Nat.le_refl _, fun _ _ _ => rfl⟩
theorem gr_drew (w : World) : Gr w w.drew := gr_drewN w 1
theorem gr_refl (w : World) : Gr w w := World.grownBy.refl w none
theorem below_of {w V : World} (g : Gr w V) : Below w.heap.size w V := ⟨g.os, g.tape, g.output, g.size, fun k hk => g.block k hk (by simp)⟩
theorem gr_of {w V : World} (g : Below w.heap.size w V) : Gr w V := ⟨g.os, g.tape, g.output, g.size, fun k hk _ => g.block k hk⟩
theorem gr_h {w V : World} {k : Nat} {o : Obj} (g : Gr w V) (h : w.heap[k]? = some o) : V.heap[k]? = some o := (g.block k (heap_lt h) (by simp)).trans h
theorem gr_c {w V : World} {a : Addr} {v : Value} (g : Gr w V) (h : w.cell? a = some v) : V.cell? a = some v := g.cell h (by simp)
theorem grown_set {w : World} (k j : Nat) (u : Value) : w.grownBy (w.setCell ⟨k, j, none⟩ u) (some k) := ⟨rfl, rfl, rfl, by simp [World.setCell], fun i _ hne => Below.heap_setCell _ _ _ _ (by rintro rfl; exact hne rfl)⟩
theorem add_zero' (a : Addr) : a.add 0 = a := rfl
section
variable {α : Type} {n : Nat} {cs : α → List Value} {w w' : World} {A : Option Addr} {L : List α}
theorem RD.but {row : Option Nat} (h : RD n cs w A L) (hg : w.grownBy w' row) (hne : ∀ a, A = some a → some a.block ≠ row) : RD n cs w' A L := by
  rcases h with rfl | ⟨a, e, hb, hc⟩
  · exact .inl rfl
  · refine .inr ⟨a, e, Nat.lt_of_lt_of_le hb hg.size, fun j x hx i v hv => hg.cell (hc j x hx i v hv) ?_⟩
    rw [add_block]
    exact hne a e
theorem RD.gr (h : RD n cs w A L) (g : Gr w w') : RD n cs w' A L := h.but g (by simp)
theorem RD.take (h : RD n cs w A L) (k : Nat) : RD n cs w A (L.take k) := by
  rcases h with rfl | ⟨a, e, hb, hc⟩
  · left; simp
  · refine .inr ⟨a, e, hb, fun j x hx i v hv => hc j x ?_ i v hv⟩
    rw [List.getElem?_take] at hx
    split at hx
    · exact hx
    · cases hx
/-- What lies behind the first k records. -/
theorem RD.drop (h : RD n cs w A L) (k : Nat) {A' : Option Addr} (hA : ∀ a, A = some a → k < L.length → A' = some (a.add (k * n))) : RD n cs w A' (L.drop k) := by
  by_cases hk : k < L.length
  · obtain ⟨a, e, hb, -⟩ := h.at hk
    rcases h with rfl | ⟨a', e', hb', hc⟩
    · simp at hk
    · rw [e] at e'; cases e'
      refine .inr ⟨_, hA a e hk, by rw [add_block]; exact hb, fun j x hx i v hv => ?_⟩
      rw [add_add', show k * n + (j * n + i) = (k + j) * n + i by rw [Nat.add_mul]; omega]
      exact hc (k + j) x (by rw [List.getElem?_drop] at hx; exact hx) i v hv
  · left
    exact List.drop_eq_nil_of_le (by omega)
end
theorem flat_len {α : Type} (f : α → List Value) (m : Nat) (h : ∀ x, (f x).length = m) : ∀ L : List α, (L.flatMap f).length = L.length * m
  | [] => by simp
  | x :: l => by rw [List.flatMap_cons, List.length_append, h, flat_len f m h l, List.length_cons, Nat.succ_mul]; omega
theorem flat_at {α : Type} (f : α → List Value) (m : Nat) (h : ∀ x, (f x).length = m) {i : Nat} (hi : i < m) : ∀ (L : List α) (k : Nat) {x : α}, L[k]? = some x → (L.flatMap f)[k * m + i]? = (f x)[i]?
  | [], _, _, e => by simp at e
  | y :: l, 0, x, e => by
    simp at e
    subst e
    rw [List.flatMap_cons, Nat.zero_mul, Nat.zero_add, List.getElem?_append_left (by rw [h]; exact hi)]
  | y :: l, k + 1, x, e => by
    rw [List.flatMap_cons, List.getElem?_append_right (by rw [h, Nat.succ_mul]; omega), h, show (k + 1) * m + i - m = k * m + i by rw [Nat.succ_mul]; omega]
    exact flat_at f m h hi l k (by simpa using e)
theorem rd_cells {α : Type} {n : Nat} {cs : α → List Value} {w : World} {A : Nat} {L : List α} {t : TypeId} (hn : ∀ x, (cs x).length = n) (h : w.heap[A]? = some (.cells (L.flatMap cs).toArray t (0, 0))) : RD n cs w (some ⟨A, 0, none⟩) L := by
  refine .inr ⟨_, rfl, heap_lt h, fun j x hj i v hi => ?_⟩
  have hi3 : i < n := by
    rcases Nat.lt_or_ge i n with h' | h'
    · exact h'
    · rw [List.getElem?_eq_none (by rw [hn]; exact h')] at hi; cases hi
  have ha : ((⟨A, 0, none⟩ : Addr).add (j * n + i)) = ⟨A, j * n + i, none⟩ := by
    by_cases e0 : j * n + i = 0
    · rw [e0]; rfl
    · rw [fld_add _ _ e0]; simp
  rw [ha, Lib.cell_of_heap h, List.getElem?_toArray, flat_at cs n hn hi3 _ j hj]
  exact hi

/-- A slice value that owns the records of a list: n cells each, of type e. -/
def OR {α : Type} (e : TypeId) (n : Nat) (cs : α → List Value) (w : World) (base : Nat) (v : Value) (L : List α) : Prop := w.ownsRow base e n v L.length (L.flatMap cs)
section
variable {α : Type} {e : TypeId} {n : Nat} {cs : α → List Value} {w w' : World} {base : Nat} {v : Value} {L : List α}
theorem OR.nil : OR e n cs w base (.slice none 0 0) [] := World.ownsRow_nil w base e n
theorem OR.form (hn : ∀ x, (cs x).length = n) (h : OR e n cs w base v L) : ∃ A c, v = .slice A L.length c ∧ RD n cs w A L := by
  have h0 := h
  rcases h0.2 with ⟨rfl, hl⟩ | ⟨g, cap, cur, rfl, hg, hh, hnc, hm, hs, hx⟩
  · have : L = [] := List.eq_nil_of_length_eq_zero hl
    subst this
    exact ⟨none, 0, rfl, .inl rfl⟩
  · refine ⟨some ⟨g, 0, none⟩, cap, rfl, .inr ⟨_, rfl, (h.lt g rfl).2, fun j x hj i u hi => ?_⟩⟩
    have hin : i < n := by
      rcases Nat.lt_or_ge i n with h' | h'
      · exact h'
      · rw [List.getElem?_eq_none (by rw [hn]; exact h')] at hi; cases hi
    exact World.ownsRow.cells h rfl _ u (by rw [flat_at cs n hn hin L j hj]; exact hi)
theorem OR.kept {row : Option Nat} (h : OR e n cs w base v L) (hg : w.grownBy w' row) (hne : v.ownBlock = none ∨ v.ownBlock ≠ row) : OR e n cs w' base v L := World.ownsRow.kept h hg hne
theorem OR.gr (h : OR e n cs w base v L) (hg : Gr w w') : OR e n cs w' base v L := h.kept hg (by
  cases hv : v.ownBlock with
  | none => exact .inl rfl
  | some g => exact .inr (by simp))
theorem OR.alloc (h : OR e n cs w base v L) (o : Obj) : OR e n cs (w.alloc o) base v L := World.ownsRow.alloc h o
theorem OR.empty (hb : base ≤ w.heap.size) : OR e n cs (w.alloc (.cells #[] e)) base (.slice (some ⟨w.heap.size, 0, none⟩) 0 0) ([] : List α) :=
  World.ownsRow_made w #[] 0 hb (by unfold maxLen; omega) (by simp)
theorem OR.lt (h : OR e n cs w base v L) : ∀ k, v.ownBlock = some k → base ≤ k ∧ k < w.heap.size := World.ownsRow.lt h
/-- A row where it lies. -/
theorem OR.form2 (hn : ∀ x, (cs x).length = n) (h : OR e n cs w base v L) : ∃ A c, v = .slice A L.length c ∧ RD n cs w A L ∧ L.length ≤ c ∧ c ≤ 9223372036854775807 ∧ (A = none → c = 0) ∧ ∀ a, A = some a → base ≤ a.block ∧ a.block < w.heap.size ∧ a = ⟨a.block, 0, none⟩ := by
  obtain ⟨A, c, e0, hr⟩ := h.form hn
  have h0 := h
  rcases h0.2 with ⟨e1, hl⟩ | ⟨g, cap, cur, e1, hg, hh, hnc, hm, hs, hx⟩
  · rw [e0] at e1
    obtain ⟨rfl, h3, rfl⟩ := Value.slice.inj e1
    exact ⟨none, 0, e0, hr, by omega, by omega, fun _ => rfl, fun a h => by cases h⟩
  · rw [e0] at e1
    obtain ⟨rfl, -, rfl⟩ := Value.slice.inj e1
    refine ⟨_, _, e0, hr, by omega, by unfold maxLen at hm; omega, (fun h => by cases h), fun a h => ?_⟩
    cases h
    exact ⟨hg, heap_lt hh, rfl⟩
/-- Changes of a row of the call's own leave what was. -/
theorem OR.grow {W : World} (g0 : Gr W w) (h : OR e n cs w base v L) (hb : W.heap.size ≤ base) (g : w.grownBy w' v.ownBlock) : Gr W w' :=
  ⟨g.os.trans g0.os, g.tape.trans g0.tape, g.output.trans g0.output, Nat.le_trans g0.size g.size, fun k hk _ => (g.block k (Nat.lt_of_lt_of_le hk g0.size) (by
    intro e1
    have := h.lt k e1.symm
    omega)).trans (g0.block k hk (by simp))⟩

theorem run_appR (t ty : TypeId) {z : Value} {bytes : Nat} (hn : ∀ x, (cs x).length = n) (h1 : ∀ x, ∀ u ∈ cs x, u.oneCell' = true) (ht : Tryz.prog.underlying t = some (.slice e)) (hinfo : (Tryz.prog.info? e).map (fun i => (i.zero, i.size, i.bytes)) = some (some z, n, bytes)) (hz : z.cells.size = n) (hn0 : 0 < n) (hby : bytes ≤ 1000)
    (hown : OR e n cs w base v L) {A : Option Addr} {M : List α} (c : Nat) (hr : RD n cs w A M) (hA : A ≠ none) (hsz : L.length + M.length ≤ 1000000) (hb : base ≤ w.heap.size) :
    ∃ v' w', (Builtin.append_ #[t, t] ty #[v, .slice A M.length c]).run Tryz.prog w = .ok v' w' ∧ OR e n cs w' base v' (L ++ M) ∧ w.grownBy w' v.ownBlock ∧ (v'.ownBlock = v.ownBlock ∨ v'.ownBlock = some w.heap.size) := by
  obtain ⟨i0, hi, hz0, hz1, hz2⟩ := info_parts hinfo
  obtain ⟨a, rfl⟩ : ∃ a, A = some a := by
    cases A with
    | none => exact absurd rfl hA
    | some a => exact ⟨a, rfl⟩
  have hc : ∀ j u, (M.flatMap cs)[j]? = some u → w.cell? (a.add j) = some u := by
    intro j u hu
    have hj : j < M.length * n := by
      rw [← flat_len cs n hn M]
      exact (List.getElem?_eq_some_iff.1 hu).1
    have e0 : j / n < M.length := Nat.div_lt_of_lt_mul (by rw [Nat.mul_comm]; exact hj)
    have e1 : j % n < n := Nat.mod_lt _ hn0
    have e2 : j = j / n * n + j % n := by rw [Nat.mul_comm]; exact (Nat.div_add_mod j n).symm
    rcases hr with rfl | ⟨a', e', _, hc⟩
    · simp at hu
    · cases e'
      have e3 := List.getElem?_eq_getElem e0
      have e4 := flat_at cs n hn e1 M _ e3
      rw [← e2, hu] at e4
      rw [e2]
      exact hc _ _ e3 _ _ e4.symm
  obtain ⟨v', w', hrun, h2, h3, _, h5⟩ := run_append_own_at (P := Tryz.prog) w base t ty e i0 z n bytes ht hi hz0 hz1 hz2 hz hn0 v L.length (L.flatMap cs) hown a M.length c (M.flatMap cs) (flat_len cs n hn M) hc
    (by intro u hu; obtain ⟨x, _, hx⟩ := List.mem_flatMap.1 hu; exact h1 x u hx) (by unfold maxLen; omega) (by have := Nat.mul_le_mul (show L.length + M.length ≤ 1000000 from hsz) hby; omega) hb
  exact ⟨v', w', hrun, by unfold OR; simpa using h2, h3, h5⟩
end
end Go.Proofs.YtgboboljgcfggaaGreatDoor
namespace Go.Proofs.YtgboboljgcfggaaGreatDoor
open Go.RowKit

/-- A type of slices and its elements. -/
structure EL {α : Type} (t e : TypeId) (n : Nat) (cs : α → List Value) : Prop where
  hn : ∀ x, (cs x).length = n
  h1 : ∀ x, ∀ u ∈ cs x, u.oneCell' = true
  ht : Tryz.prog.underlying t = some (.slice e)
  hi : ∃ (z : Value) (bytes : Nat), (Tryz.prog.info? e).map (fun i => (i.zero, i.size, i.bytes)) = some (some z, n, bytes) ∧ z.cells.size = n ∧ bytes ≤ 1000
  h0 : 0 < n
section
variable {α : Type} {t e : TypeId} {n : Nat} {cs : α → List Value}
theorem run_app0 (E : EL t e n cs) {w : World} {base : Nat} {v : Value} {L : List α} (ty : TypeId) (c : Nat) (h : OR e n cs w base v L) : (Builtin.append_ #[t, t] ty #[v, .slice none 0 c]).run Tryz.prog w = .ok v w := by
  obtain ⟨z, bytes, hinfo, -, -⟩ := E.hi
  obtain ⟨i0, hi, hz0, hz1, hz2⟩ : ∃ i0, Tryz.prog.info? e = some i0 ∧ i0.zero = some z ∧ i0.size = n ∧ i0.bytes = bytes := by
    cases hq : Tryz.prog.info? e with
    | none => rw [hq] at hinfo; cases hinfo
    | some i0 => rw [hq] at hinfo; simp at hinfo; exact ⟨i0, rfl, hinfo.1, hinfo.2.1, hinfo.2.2⟩
  rcases h.2 with ⟨rfl, hl⟩ | ⟨g, cap, cur, rfl, hg, hh, hn, -⟩
  · simp [Builtin.append_, run_underlying E.ht, Go.sizeOf, typeInfo, hi, Builtin.lenOf, Builtin.firstCells]
  · simp [Builtin.append_, run_underlying E.ht, Go.sizeOf, typeInfo, hi, Builtin.lenOf, Builtin.firstCells, hn, storeCells]
theorem run_appA (E : EL t e n cs) {w : World} {base : Nat} {v : Value} {L : List α} (ty : TypeId) (hown : OR e n cs w base v L) {A : Option Addr} {M : List α} (c : Nat) (hr : RD n cs w A M) (hsz : L.length + M.length ≤ 1000000) (hb : base ≤ w.heap.size) :
    ∃ v' w', (Builtin.append_ #[t, t] ty #[v, .slice A M.length c]).run Tryz.prog w = .ok v' w' ∧ OR e n cs w' base v' (L ++ M) ∧ w.grownBy w' v.ownBlock ∧ (v'.ownBlock = v.ownBlock ∨ v'.ownBlock = some w.heap.size) := by
  by_cases hA : A = none
  · subst hA
    have hM : M = [] := by
      rcases hr with h | ⟨a, e, _⟩
      · exact h
      · cases e
    subst hM
    exact ⟨v, w, run_app0 E ty c hown, by simpa using hown, World.grownBy.but (gr_refl _) _, .inl rfl⟩
  · obtain ⟨z, bytes, hinfo, hz, hby⟩ := E.hi
    exact run_appR t ty E.hn E.h1 E.ht hinfo hz E.h0 hby hown c hr hA hsz hb
theorem step_app (E : EL t e n cs) {ops : Array Oper} {o : Oper} {a : Act} {w : World} {K : Act → World → Prop} {Q : Exit → Act → World → Prop} {Z : Prop} (hgd : o.guard = none) (s x : Operand)
    (ho : o.op = .call { callee := .builtin .append, args := #[s, x], argTypes := #[t, t] }) (base : Nat) {v : Value} {L : List α} (hs : a.eval s = v) (hown : OR e n cs w base v L)
    {A : Option Addr} {M : List α} {m c : Nat} (hm : M.length = m) (hx : a.eval x = .slice A m c) (hr : RD n cs w A M) (hsz : L.length + M.length ≤ 1000000) (hb : base ≤ w.heap.size)
    (h : ∀ v' w', OR e n cs w' base v' (L ++ M) → w.grownBy w' v.ownBlock → (v'.ownBlock = v.ownBlock ∨ v'.ownBlock = some w.heap.size) → K (a.put o.dst v') w') : if Region.wanted o (yielded ops a.tmps) = true then Oper.wp Tryz.prog o a w K Q else Z := by
  have hw : Region.wanted o (yielded ops a.tmps) = true := by simp [Region.wanted, hgd]
  rw [if_pos hw]
  subst hm
  obtain ⟨v', w', hrun, h2, h3, h4⟩ := run_appA E o.type hown c hr hsz hb
  unfold Oper.wp
  simp [execOp, ho, resolve, invoke, builtin, hs, hx, hrun, Result.andThen]
  exact h v' w' h2 h3 h4
theorem wpList_app (E : EL t e n cs) {w : World} {ops : Array Oper} {rest : List Oper} {o : Oper} {a : Act} {Q : Exit → Act → World → Prop} (hgd : o.guard = none) (s x : Operand)
    (ho : o.op = .call { callee := .builtin .append, args := #[s, x], argTypes := #[t, t] }) (base : Nat) {v : Value} {L : List α} (hs : a.eval s = v) (hown : OR e n cs w base v L)
    {A : Option Addr} {M : List α} {m c : Nat} (hm : M.length = m) (hx : a.eval x = .slice A m c) (hr : RD n cs w A M) (hsz : L.length + M.length ≤ 1000000) (hb : base ≤ w.heap.size)
    (h : ∀ v' w', OR e n cs w' base v' (L ++ M) → w.grownBy w' v.ownBlock → (v'.ownBlock = v.ownBlock ∨ v'.ownBlock = some w.heap.size) → wpList Tryz.prog ops Q rest (a.put o.dst v') w') : wpList Tryz.prog ops Q (o :: rest) a w := by
  subst hm
  refine wpList_plain hgd fun K hK => ?_
  obtain ⟨v', w', hrun, h2, h3, h4⟩ := run_appA E o.type hown c hr hsz hb
  unfold Oper.wp execOp
  simp only [ho, resolve, invoke, builtin, Sem.run_bind, Sem.run_pure, Result.andThen_ok, List.map_toArray, List.map_cons, List.map_nil, hs, hx, hrun]
  exact hK _ _ (h v' w' h2 h3 h4)
theorem or_made {V : World} {b base : Nat} (h : V.heap[b]? = some (.cells #[] e (0, 0))) (hb : base ≤ b) : OR e n cs V base (.slice (some ⟨b, 0, none⟩) 0 0) ([] : List α) :=
  ⟨by simp, .inr ⟨b, 0, #[], rfl, hb, h, Nat.le_refl _, by unfold maxLen; omega, by simp, by simp⟩⟩
end
theorem lz1 {w : World} {B : Nat} {o : Obj} (h : w.heap.size = B) : ((w.alloc o).drew).heap[B]? = some o := by subst h; exact al_new w o
theorem lz2 {w : World} {B : Nat} {o p : Obj} (h : w.heap.size = B) : (((w.alloc o).alloc p).drew).heap[B]? = some o := by subst h; exact gr_h ((gr_al _ _).trans (gr_drew _)) (al_new w o)
theorem lz3 {w : World} {B : Nat} {o p : Obj} (h : w.heap.size = B) : (((w.alloc p).alloc o).drew).heap[B + 1]? = some o := by subst h; exact al_at _ _ (by simp)
end Go.Proofs.YtgboboljgcfggaaGreatDoor
namespace Go.Proofs.YtgboboljgcfggaaGreatDoor
open Go.RowKit

theorem results_tmp4 {fn : Func} {t u v x : Tmp} (h : fn.results = #[.tmp t, .tmp u, .tmp v, .tmp x]) (tmps : Array Value) (P : Program) (w : World) :
    (results fn tmps).run P w = .ok (.tuple #[tmps.getD t undef, tmps.getD u undef, tmps.getD v undef, tmps.getD x undef]) w := by
  simp [results, h]
def fA (op : Int) : Bool := op == 1 || op == 2 || op == 3 || op == 4 || op == 5 || op == 8 || op == 9 || op == 13 || op == 15 || op == 16
def fB (op : Int) : Bool := op == 16
def fN (op : Int) : Bool := op == 10
def fK (op : Int) : Bool := fA op || op == 10 || op == 6 || op == 7 || op == 11 || op == 12 || op == 14
theorem op_split (op : Int) : op = 1 ∨ op = 2 ∨ op = 3 ∨ op = 4 ∨ op = 5 ∨ op = 6 ∨ op = 7 ∨ op = 8 ∨ op = 9 ∨ op = 10 ∨ op = 11 ∨ op = 12 ∨ op = 13 ∨ op = 14 ∨ op = 15 ∨ op = 16 ∨ ((op == 1) = false ∧ (op == 2) = false ∧ (op == 3) = false ∧ (op == 4) = false ∧ (op == 5) = false ∧ (op == 6) = false ∧ (op == 7) = false ∧ (op == 8) = false ∧ (op == 9) = false ∧ (op == 10) = false ∧ (op == 11) = false ∧ (op == 12) = false ∧ (op == 13) = false ∧ (op == 14) = false ∧ (op == 15) = false ∧ (op == 16) = false) := by
  by_cases h : 1 ≤ op ∧ op ≤ 16
  · omega
  · refine .inr (.inr (.inr (.inr (.inr (.inr (.inr (.inr (.inr (.inr (.inr (.inr (.inr (.inr (.inr (.inr (⟨?_, ?_, ?_, ?_, ?_, ?_, ?_, ?_, ?_, ?_, ?_, ?_, ?_, ?_, ?_, ?_⟩)))))))))))))))) <;> (simp; omega)

set_option maxRecDepth 100000 in
set_option maxHeartbeats 1000000 in
theorem fields_any (op : Int) (w : World) : Calls Tryz.prog 82 #[.int .i64 op] w fun e w' => e = .returned (.tuple #[.bool (fA op), .bool (fB op), .bool (fN op), .bool (fK op)]) ∧ w' = w := by
  rcases op_split op with rfl | rfl | rfl | rfl | rfl | rfl | rfl | rfl | rfl | rfl | rfl | rfl | rfl | rfl | rfl | rfl | ⟨h1, h2, h3, h4, h5, h6, h7, h8, h9, h10, h11, h12, h13, h14, h15, h16⟩
  rotate_right
  · have e1 : fA op = false := by simp [fA, *]
    have e2 : fB op = false := by simp [fB, *]
    have e3 : fN op = false := by simp [fN, *]
    have e4 : fK op = false := by simp [fK, *]
    rw [e1, e2, e3, e4]
    clear e1 e2 e3 e4
    go_enter Tryz.func82, Tryz.ntmps82
    go_wp2
    (try simp only [Exit.inBlock, Exit.then])
    refine bodyPost_ret (results_tmp4 rfl _ _ _) rfl ?_
    exact ⟨rfl, rfl⟩
  all_goals
    go_enter Tryz.func82, Tryz.ntmps82
    go_wp2
    (try simp only [Exit.inBlock, Exit.then])
    refine bodyPost_ret (results_tmp4 rfl _ _ _) rfl ?_
    exact ⟨rfl, rfl⟩

set_option maxRecDepth 100000 in
set_option maxHeartbeats 1000000 in
theorem shape_any (op : Int) (w : World) : Calls Tryz.prog 87 #[.int .i64 op] w fun e w' => e = .returned (.tuple #[.bool (fA op), .bool (fB op), .bool (fN op), .bool (fK op)]) ∧ w' = w := by
  rcases op_split op with rfl | rfl | rfl | rfl | rfl | rfl | rfl | rfl | rfl | rfl | rfl | rfl | rfl | rfl | rfl | rfl | ⟨h1, h2, h3, h4, h5, h6, h7, h8, h9, h10, h11, h12, h13, h14, h15, h16⟩
  rotate_right
  · have e1 : fA op = false := by simp [fA, *]
    have e2 : fB op = false := by simp [fB, *]
    have e3 : fN op = false := by simp [fN, *]
    have e4 : fK op = false := by simp [fK, *]
    rw [e1, e2, e3, e4]
    clear e1 e2 e3 e4
    go_enter Tryz.func87, Tryz.ntmps87
    go_wp2
    (try simp only [Exit.inBlock, Exit.then])
    refine bodyPost_ret (results_tmp4 rfl _ _ _) rfl ?_
    exact ⟨rfl, rfl⟩
  all_goals
    go_enter Tryz.func87, Tryz.ntmps87
    go_wp2
    (try simp only [Exit.inBlock, Exit.then])
    refine bodyPost_ret (results_tmp4 rfl _ _ _) rfl ?_
    exact ⟨rfl, rfl⟩

set_option maxRecDepth 100000 in
theorem within_any (n l m : Int) (w : World) : Calls Tryz.prog 57 #[.int .i64 n, .int .i64 l, .int .i64 m] w fun e w' => e = .returned (.bool (decide (l ≤ n) && decide (n ≤ m))) ∧ w' = w := by
  cases h : decide (l ≤ n) with
  | false =>
    go_enter Tryz.func57, Tryz.ntmps57
    go_wp2
    go_ret
    exact ⟨rfl, rfl⟩
  | true =>
    go_enter Tryz.func57, Tryz.ntmps57
    go_wp2
    go_ret
    exact ⟨rfl, rfl⟩
def Blk.v (x : Blk) : Value := .agg #[.int .i64 x.cap, .bool x.param, .slice x.A x.ins.length x.c]
def Ins.v (x : Ins) : Value := .agg #[.int .i64 x.op, .int .i64 x.a, .int .i64 x.b, .string ⟨x.name.toArray⟩]
set_option maxRecDepth 100000 in
theorem rPlain_any (b : Blk) (w : World) : Calls Tryz.prog 60 #[b.v] w fun e w' => e = .returned (.bool ((b.cap == 0) && !b.param)) ∧ Below w.heap.size w w' := by
  unfold Blk.v
  have bel : ∀ o, Below w.heap.size w (w.alloc o) := fun o => (Below.refl _ _).alloc (Nat.le_refl _) _
  cases h : (b.cap == 0) with
  | false =>
    go_enter Tryz.func60, Tryz.ntmps60
    go_wp2
    go_ret
    exact ⟨rfl, bel _⟩
  | true =>
    go_enter Tryz.func60, Tryz.ntmps60
    go_wp2
    go_ret
    exact ⟨rfl, bel _⟩
end Go.Proofs.YtgboboljgcfggaaGreatDoor
namespace Go.Proofs.YtgboboljgcfggaaGreatDoor
open Go.RowKit

def closB (bs : List Blk) (n : Int) : Bool := decide (0 ≤ n) && (match bs[n.toNat]? with | some b => b.param | none => false)
/-- Whether the numbers of an instruction are as required. -/
def inR (bs : List Blk) (nb : Nat) (op a b : Int) : Bool :=
  if op == 1 then decide (-999999999 ≤ a) && decide (a ≤ 999999999)
  else if op == 2 then a == 0 || a == 1
  else if op == 3 then decide (0 ≤ a) && decide (a ≤ 1000)
  else if op == 4 then plainB bs a
  else if op == 5 then closB bs a
  else if op == 8 || op == 9 || op == 13 then decide (0 ≤ a) && decide (a ≤ nb)
  else if op == 15 then decide (1 ≤ a) && decide (a ≤ 1000)
  else if op == 16 then decide (1 ≤ b) && decide (b ≤ 999999) && decide (0 ≤ a) && decide (a ≤ b)
  else true
theorem cell_al3 {w : World} {a : Addr} {v : Value} (h : w.cell? a = some v) (hb : a.block < w.heap.size) (o o' o'' : Obj) : (((w.alloc o).alloc o').alloc o'').cell? a = some v :=
  cell_al (cell_al (cell_al h hb o) (by simp; omega) o') (by simp; omega) o''
theorem bel3 (w : World) (o o' o'' : Obj) : Below w.heap.size w (((w.alloc o).alloc o').alloc o'') := (((Below.refl _ _).alloc (Nat.le_refl _) _).alloc (by simp) _).alloc (by simp; omega) _
theorem two_bool (a : Int) : (decide (0 ≤ a) && decide (a ≤ 1)) = (a == 0 || a == 1) := by
  by_cases h0 : a = 0
  · subst h0; rfl
  · by_cases h1 : a = 1
    · subst h1; rfl
    · have e0 : (a == 0) = false := by simpa using h0
      have e1 : (a == 1) = false := by simpa using h1
      rw [e0, e1]
      by_cases h : 0 ≤ a
      · have : decide (a ≤ 1) = false := by simp; omega
        rw [this, Bool.and_false]; rfl
      · have : decide (0 ≤ a) = false := by simp; omega
        rw [this]; rfl

set_option maxRecDepth 100000 in
set_option maxHeartbeats 4000000 in
theorem inRange_any (p : Prg) (x : Blk) (op a b : Int) (name : T) (w : World) (hp : p.Rd w) :
    Calls Tryz.prog 84 #[p.v, x.v, (Ins.mk op a b name).v] w fun e w' => e = .returned (.bool (inR p.bs x.ins.length op a b)) ∧ Below w.heap.size w w' := by
  have PL := fun (W : World) (hb : Below w.heap.size w W) => plain_any p a W (hp.below hb)
  unfold Prg.v Blk.v Ins.v
  simp only []
  have HPL := Lib.hid PL
  clear PL
  have HP := Lib.hid hp
  clear hp
  rcases op_split op with rfl | rfl | rfl | rfl | rfl | rfl | rfl | rfl | rfl | rfl | rfl | rfl | rfl | rfl | rfl | rfl | ⟨h1, h2, h3, h4, h5, h6, h7, h8, h9, h10, h11, h12, h13, h14, h15, h16⟩
  · -- 1
    have hs : inR p.bs x.ins.length 1 a b = (decide (-999999999 ≤ a) && decide (a ≤ 999999999)) := by simp [inR]
    rw [hs]
    clear hs
    cases h : decide (-999999999 ≤ a) with
    | false =>
      go_enter Tryz.func84, Tryz.ntmps84
      go_wp2
      go_ret
      exact ⟨rfl, bel3 _ _ _ _⟩
    | true =>
      go_enter Tryz.func84, Tryz.ntmps84
      go_wp2
      go_ret
      exact ⟨rfl, bel3 _ _ _ _⟩
  · -- 2
    have hs : inR p.bs x.ins.length 2 a b = (a == 0 || a == 1) := by simp [inR]
    rw [hs]
    clear hs
    cases h : (a == 0) with
    | false =>
      go_enter Tryz.func84, Tryz.ntmps84
      go_wp2
      go_ret
      exact ⟨rfl, bel3 _ _ _ _⟩
    | true =>
      go_enter Tryz.func84, Tryz.ntmps84
      go_wp2
      go_ret
      exact ⟨rfl, bel3 _ _ _ _⟩
  · -- 3
    have hs : inR p.bs x.ins.length 3 a b = (decide (0 ≤ a) && decide (a ≤ 1000)) := by simp [inR]
    rw [hs]
    clear hs
    cases h : decide (0 ≤ a) with
    | false =>
      go_enter Tryz.func84, Tryz.ntmps84
      go_wp2
      go_ret
      exact ⟨rfl, bel3 _ _ _ _⟩
    | true =>
      go_enter Tryz.func84, Tryz.ntmps84
      go_wp2
      go_ret
      exact ⟨rfl, bel3 _ _ _ _⟩
  · -- 4
    have hs : inR p.bs x.ins.length 4 a b = plainB p.bs a := by simp [inR]
    rw [hs]
    clear hs
    go_enter Tryz.func84, Tryz.ntmps84
    go_wp2_with (go_at_call 53; refine (HPL.out _ (bel3 _ _ _ _)).mono ?_; rintro e w1 ⟨rfl, k1⟩)
    go_ret
    exact ⟨rfl, (bel3 w _ _ _).trans (k1.mono (bel3 w _ _ _).size)⟩
  · -- 5
    have hs : inR p.bs x.ins.length 5 a b = closB p.bs a := by simp [inR]
    rw [hs]
    clear hs
    by_cases h1 : 0 ≤ a
    · obtain ⟨M, rfl⟩ : ∃ M : Nat, a = M := ⟨a.toNat, by omega⟩
      by_cases h2 : M < p.bs.length
      · obtain ⟨q, q1, e, ea, hb, c0, c1, -⟩ := HP.out.b.blk h2
        have hs : closB p.bs M = p.bs[M].param := by simp [closB, h2]
        rw [e, hs]
        have d1 := fun o o' o'' => cell_al3 c1 hb o o' o''
        have t2 : (M : Int) < (p.bs.length : Int) := by omega
        generalize p.bs[M].param = pr at *
        clear hs e HPL HP c0 c1
        go_enter Tryz.func84, Tryz.ntmps84
        go_wp2
        go_ret
        exact ⟨rfl, bel3 _ _ _ _⟩
      · have hs : closB p.bs M = false := by simp [closB, h2]
        have t2 : decide ((M : Int) < (p.bs.length : Int)) = false := by simp; omega
        rw [hs]
        go_enter Tryz.func84, Tryz.ntmps84
        go_wp2
        go_ret
        exact ⟨rfl, bel3 _ _ _ _⟩
    · have hs : closB p.bs a = false := by simp [closB, h1]
      have t2 : decide (0 ≤ a) = false := by simp; omega
      rw [hs]
      go_enter Tryz.func84, Tryz.ntmps84
      go_wp2
      go_ret
      exact ⟨rfl, bel3 _ _ _ _⟩
  · -- 6
    have hs : inR p.bs x.ins.length 6 a b = true := by simp [inR]
    rw [hs]
    clear hs
    go_enter Tryz.func84, Tryz.ntmps84
    go_wp2
    go_ret
    exact ⟨rfl, bel3 _ _ _ _⟩
  · -- 7
    have hs : inR p.bs x.ins.length 7 a b = true := by simp [inR]
    rw [hs]
    clear hs
    go_enter Tryz.func84, Tryz.ntmps84
    go_wp2
    go_ret
    exact ⟨rfl, bel3 _ _ _ _⟩
  · -- 8
    have hs : inR p.bs x.ins.length 8 a b = (decide (0 ≤ a) && decide (a ≤ (x.ins.length : Int))) := by simp [inR]
    rw [hs]
    clear hs
    cases h : decide (0 ≤ a) with
    | false =>
      go_enter Tryz.func84, Tryz.ntmps84
      go_wp2
      go_ret
      exact ⟨rfl, bel3 _ _ _ _⟩
    | true =>
      go_enter Tryz.func84, Tryz.ntmps84
      go_wp2
      go_ret
      exact ⟨rfl, bel3 _ _ _ _⟩
  · -- 9
    have hs : inR p.bs x.ins.length 9 a b = (decide (0 ≤ a) && decide (a ≤ (x.ins.length : Int))) := by simp [inR]
    rw [hs]
    clear hs
    cases h : decide (0 ≤ a) with
    | false =>
      go_enter Tryz.func84, Tryz.ntmps84
      go_wp2
      go_ret
      exact ⟨rfl, bel3 _ _ _ _⟩
    | true =>
      go_enter Tryz.func84, Tryz.ntmps84
      go_wp2
      go_ret
      exact ⟨rfl, bel3 _ _ _ _⟩
  · -- 10
    have hs : inR p.bs x.ins.length 10 a b = true := by simp [inR]
    rw [hs]
    clear hs
    go_enter Tryz.func84, Tryz.ntmps84
    go_wp2
    go_ret
    exact ⟨rfl, bel3 _ _ _ _⟩
  · -- 11
    have hs : inR p.bs x.ins.length 11 a b = true := by simp [inR]
    rw [hs]
    clear hs
    go_enter Tryz.func84, Tryz.ntmps84
    go_wp2
    go_ret
    exact ⟨rfl, bel3 _ _ _ _⟩
  · -- 12
    have hs : inR p.bs x.ins.length 12 a b = true := by simp [inR]
    rw [hs]
    clear hs
    go_enter Tryz.func84, Tryz.ntmps84
    go_wp2
    go_ret
    exact ⟨rfl, bel3 _ _ _ _⟩
  · -- 13
    have hs : inR p.bs x.ins.length 13 a b = (decide (0 ≤ a) && decide (a ≤ (x.ins.length : Int))) := by simp [inR]
    rw [hs]
    clear hs
    cases h : decide (0 ≤ a) with
    | false =>
      go_enter Tryz.func84, Tryz.ntmps84
      go_wp2
      go_ret
      exact ⟨rfl, bel3 _ _ _ _⟩
    | true =>
      go_enter Tryz.func84, Tryz.ntmps84
      go_wp2
      go_ret
      exact ⟨rfl, bel3 _ _ _ _⟩
  · -- 14
    have hs : inR p.bs x.ins.length 14 a b = true := by simp [inR]
    rw [hs]
    clear hs
    go_enter Tryz.func84, Tryz.ntmps84
    go_wp2
    go_ret
    exact ⟨rfl, bel3 _ _ _ _⟩
  · -- 15
    have hs : inR p.bs x.ins.length 15 a b = (decide (1 ≤ a) && decide (a ≤ 1000)) := by simp [inR]
    rw [hs]
    clear hs
    cases h : decide (1 ≤ a) with
    | false =>
      go_enter Tryz.func84, Tryz.ntmps84
      go_wp2
      go_ret
      exact ⟨rfl, bel3 _ _ _ _⟩
    | true =>
      go_enter Tryz.func84, Tryz.ntmps84
      go_wp2
      go_ret
      exact ⟨rfl, bel3 _ _ _ _⟩
  · -- 16
    have hs : inR p.bs x.ins.length 16 a b = (decide (1 ≤ b) && decide (b ≤ 999999) && decide (0 ≤ a) && decide (a ≤ b)) := by simp [inR]
    rw [hs]
    clear hs
    cases ha : decide (1 ≤ b) <;> cases hb : decide (b ≤ 999999) <;> cases hc : decide (0 ≤ a)
    all_goals
      go_enter Tryz.func84, Tryz.ntmps84
      go_wp2
      go_ret
      exact ⟨rfl, bel3 _ _ _ _⟩
  · have hs : inR p.bs x.ins.length op a b = true := by simp [inR, *]
    rw [hs]
    clear hs
    go_enter Tryz.func84, Tryz.ntmps84
    go_wp2
    go_ret
    exact ⟨rfl, bel3 _ _ _ _⟩

set_option maxRecDepth 100000 in
set_option maxHeartbeats 4000000 in
theorem ranged_any (p : Prg) (x : Blk) (op a b : Int) (name : T) (w : World) (hp : p.Rd w) (hpl : p.bs.length ≤ 9223372036854775807) :
    Calls Tryz.prog 88 #[p.v, x.v, (Ins.mk op a b name).v] w fun e w' => e = .returned (.bool (inR p.bs x.ins.length op a b)) ∧ Below w.heap.size w w' := by
  have PL := fun (W : World) (hb : Below w.heap.size w W) => (fun (q : Blk) => rPlain_any q W)
  unfold Prg.v Blk.v Ins.v
  simp only []
  have HPL := Lib.hid PL
  clear PL
  have HP := Lib.hid hp
  clear hp
  rcases op_split op with rfl | rfl | rfl | rfl | rfl | rfl | rfl | rfl | rfl | rfl | rfl | rfl | rfl | rfl | rfl | rfl | ⟨h1, h2, h3, h4, h5, h6, h7, h8, h9, h10, h11, h12, h13, h14, h15, h16⟩
  · -- 1
    have hs : inR p.bs x.ins.length 1 a b = (decide (-999999999 ≤ a) && decide (a ≤ 999999999)) := by simp [inR]
    rw [hs]
    clear hs
    go_enter Tryz.func88, Tryz.ntmps88
    go_wp2_with (go_at_call 57; refine (within_any _ _ _ _).mono ?_; rintro e w1 ⟨rfl, rfl⟩)
    go_ret
    exact ⟨rfl, bel3 _ _ _ _⟩
  · -- 2
    have hs : inR p.bs x.ins.length 2 a b = (decide (0 ≤ a) && decide (a ≤ 1)) := by rw [two_bool]; simp [inR]
    rw [hs]
    clear hs
    go_enter Tryz.func88, Tryz.ntmps88
    go_wp2_with (go_at_call 57; refine (within_any _ _ _ _).mono ?_; rintro e w1 ⟨rfl, rfl⟩)
    go_ret
    exact ⟨rfl, bel3 _ _ _ _⟩
  · -- 3
    have hs : inR p.bs x.ins.length 3 a b = (decide (0 ≤ a) && decide (a ≤ 1000)) := by simp [inR]
    rw [hs]
    clear hs
    go_enter Tryz.func88, Tryz.ntmps88
    go_wp2_with (go_at_call 57; refine (within_any _ _ _ _).mono ?_; rintro e w1 ⟨rfl, rfl⟩)
    go_ret
    exact ⟨rfl, bel3 _ _ _ _⟩
  · -- 4
    have hs : inR p.bs x.ins.length 4 a b = plainB p.bs a := by simp [inR]
    rw [hs]
    clear hs
    by_cases h1 : 0 ≤ a
    · obtain ⟨M, rfl⟩ : ∃ M : Nat, a = M := ⟨a.toNat, by omega⟩
      by_cases h2 : M < p.bs.length
      · obtain ⟨q, q1, e, ea, hb, c0, c1, c2⟩ := HP.out.b.blk h2
        have hs : plainB p.bs M = ((p.bs[M].cap == 0) && !p.bs[M].param) := by simp [plainB, h2]
        rw [e, hs]
        have d0 := fun o o' o'' => cell_al3 c0 hb o o' o''
        have d1 := fun o o' o'' => cell_al3 c1 hb o o' o''
        have d2 := fun o o' o'' => cell_al3 c2 hb o o' o''
        have t2 : (M : Int) < (p.bs.length : Int) := by omega
        have t3 : (M : Int) ≤ (p.bs.length : Int) - 1 := by omega
        have t0 : 0 < p.bs.length := by omega
        have PB := fun W hb => HPL.out W hb p.bs[M]
        unfold Blk.v at PB
        have HPB := Lib.hid PB
        generalize p.bs[M].param = pr at *
        generalize p.bs[M].cap = pc at *
        generalize p.bs[M].A = pA at *
        generalize p.bs[M].ins.length = pl at *
        generalize p.bs[M].c = pcc at *
        clear hs e HPL HP c0 c1 c2 PB
        go_enter Tryz.func88, Tryz.ntmps88
        go_wp2_with (first | (go_at_call 57; refine (within_any _ _ _ _).mono ?_; rintro e w1 ⟨rfl, rfl⟩) | (go_at_call 60; refine (HPB.out _ (bel3 _ _ _ _)).mono ?_; rintro e w2 ⟨rfl, k2⟩))
        go_ret
        first | exact ⟨rfl, bel3 _ _ _ _⟩ | exact ⟨rfl, (bel3 w _ _ _).trans (k2.mono (bel3 w _ _ _).size)⟩
      · have hs : plainB p.bs M = false := by simp [plainB, h2]
        have t2 : ¬ (M : Int) ≤ (p.bs.length : Int) - 1 := by omega
        rw [hs]
        go_enter Tryz.func88, Tryz.ntmps88
        go_wp2_with (go_at_call 57; refine (within_any _ _ _ _).mono ?_; rintro e w1 ⟨rfl, rfl⟩)
        go_ret
        exact ⟨rfl, bel3 _ _ _ _⟩
    · have hs : plainB p.bs a = false := by simp [plainB, h1]
      have t2 : ¬ 0 ≤ a := by omega
      rw [hs]
      go_enter Tryz.func88, Tryz.ntmps88
      go_wp2_with (go_at_call 57; refine (within_any _ _ _ _).mono ?_; rintro e w1 ⟨rfl, rfl⟩)
      go_ret
      exact ⟨rfl, bel3 _ _ _ _⟩
  · -- 5
    have hs : inR p.bs x.ins.length 5 a b = closB p.bs a := by simp [inR]
    rw [hs]
    clear hs
    by_cases h1 : 0 ≤ a
    · obtain ⟨M, rfl⟩ : ∃ M : Nat, a = M := ⟨a.toNat, by omega⟩
      by_cases h2 : M < p.bs.length
      · obtain ⟨q, q1, e, ea, hb, c0, c1, c2⟩ := HP.out.b.blk h2
        have hs : closB p.bs M = p.bs[M].param := by simp [closB, h2]
        rw [e, hs]
        have d0 := fun o o' o'' => cell_al3 c0 hb o o' o''
        have d1 := fun o o' o'' => cell_al3 c1 hb o o' o''
        have d2 := fun o o' o'' => cell_al3 c2 hb o o' o''
        have t2 : (M : Int) < (p.bs.length : Int) := by omega
        have t3 : (M : Int) ≤ (p.bs.length : Int) - 1 := by omega
        have t0 : 0 < p.bs.length := by omega
        have PB := fun W hb => HPL.out W hb p.bs[M]
        unfold Blk.v at PB
        have HPB := Lib.hid PB
        generalize p.bs[M].param = pr at *
        generalize p.bs[M].cap = pc at *
        generalize p.bs[M].A = pA at *
        generalize p.bs[M].ins.length = pl at *
        generalize p.bs[M].c = pcc at *
        clear hs e HPL HP c0 c1 c2 PB
        go_enter Tryz.func88, Tryz.ntmps88
        go_wp2_with (first | (go_at_call 57; refine (within_any _ _ _ _).mono ?_; rintro e w1 ⟨rfl, rfl⟩) | (go_at_call 60; refine (HPB.out _ (bel3 _ _ _ _)).mono ?_; rintro e w2 ⟨rfl, k2⟩))
        go_ret
        first | exact ⟨rfl, bel3 _ _ _ _⟩ | exact ⟨rfl, (bel3 w _ _ _).trans (k2.mono (bel3 w _ _ _).size)⟩
      · have hs : closB p.bs M = false := by simp [closB, h2]
        have t2 : ¬ (M : Int) ≤ (p.bs.length : Int) - 1 := by omega
        rw [hs]
        go_enter Tryz.func88, Tryz.ntmps88
        go_wp2_with (go_at_call 57; refine (within_any _ _ _ _).mono ?_; rintro e w1 ⟨rfl, rfl⟩)
        go_ret
        exact ⟨rfl, bel3 _ _ _ _⟩
    · have hs : closB p.bs a = false := by simp [closB, h1]
      have t2 : ¬ 0 ≤ a := by omega
      rw [hs]
      go_enter Tryz.func88, Tryz.ntmps88
      go_wp2_with (go_at_call 57; refine (within_any _ _ _ _).mono ?_; rintro e w1 ⟨rfl, rfl⟩)
      go_ret
      exact ⟨rfl, bel3 _ _ _ _⟩
  · -- 6
    have hs : inR p.bs x.ins.length 6 a b = true := by simp [inR]
    rw [hs]
    clear hs
    go_enter Tryz.func88, Tryz.ntmps88
    go_wp2
    go_ret
    exact ⟨rfl, bel3 _ _ _ _⟩
  · -- 7
    have hs : inR p.bs x.ins.length 7 a b = true := by simp [inR]
    rw [hs]
    clear hs
    go_enter Tryz.func88, Tryz.ntmps88
    go_wp2
    go_ret
    exact ⟨rfl, bel3 _ _ _ _⟩
  · -- 8
    have hs : inR p.bs x.ins.length 8 a b = (decide (0 ≤ a) && decide (a ≤ (x.ins.length : Int))) := by simp [inR]
    rw [hs]
    clear hs
    go_enter Tryz.func88, Tryz.ntmps88
    go_wp2_with (go_at_call 57; refine (within_any _ _ _ _).mono ?_; rintro e w1 ⟨rfl, rfl⟩)
    go_ret
    exact ⟨rfl, bel3 _ _ _ _⟩
  · -- 9
    have hs : inR p.bs x.ins.length 9 a b = (decide (0 ≤ a) && decide (a ≤ (x.ins.length : Int))) := by simp [inR]
    rw [hs]
    clear hs
    go_enter Tryz.func88, Tryz.ntmps88
    go_wp2_with (go_at_call 57; refine (within_any _ _ _ _).mono ?_; rintro e w1 ⟨rfl, rfl⟩)
    go_ret
    exact ⟨rfl, bel3 _ _ _ _⟩
  · -- 10
    have hs : inR p.bs x.ins.length 10 a b = true := by simp [inR]
    rw [hs]
    clear hs
    go_enter Tryz.func88, Tryz.ntmps88
    go_wp2
    go_ret
    exact ⟨rfl, bel3 _ _ _ _⟩
  · -- 11
    have hs : inR p.bs x.ins.length 11 a b = true := by simp [inR]
    rw [hs]
    clear hs
    go_enter Tryz.func88, Tryz.ntmps88
    go_wp2
    go_ret
    exact ⟨rfl, bel3 _ _ _ _⟩
  · -- 12
    have hs : inR p.bs x.ins.length 12 a b = true := by simp [inR]
    rw [hs]
    clear hs
    go_enter Tryz.func88, Tryz.ntmps88
    go_wp2
    go_ret
    exact ⟨rfl, bel3 _ _ _ _⟩
  · -- 13
    have hs : inR p.bs x.ins.length 13 a b = (decide (0 ≤ a) && decide (a ≤ (x.ins.length : Int))) := by simp [inR]
    rw [hs]
    clear hs
    go_enter Tryz.func88, Tryz.ntmps88
    go_wp2_with (go_at_call 57; refine (within_any _ _ _ _).mono ?_; rintro e w1 ⟨rfl, rfl⟩)
    go_ret
    exact ⟨rfl, bel3 _ _ _ _⟩
  · -- 14
    have hs : inR p.bs x.ins.length 14 a b = true := by simp [inR]
    rw [hs]
    clear hs
    go_enter Tryz.func88, Tryz.ntmps88
    go_wp2
    go_ret
    exact ⟨rfl, bel3 _ _ _ _⟩
  · -- 15
    have hs : inR p.bs x.ins.length 15 a b = (decide (1 ≤ a) && decide (a ≤ 1000)) := by simp [inR]
    rw [hs]
    clear hs
    go_enter Tryz.func88, Tryz.ntmps88
    go_wp2_with (go_at_call 57; refine (within_any _ _ _ _).mono ?_; rintro e w1 ⟨rfl, rfl⟩)
    go_ret
    exact ⟨rfl, bel3 _ _ _ _⟩
  · -- 16
    have hs : inR p.bs x.ins.length 16 a b = ((decide (1 ≤ b) && decide (b ≤ 999999)) && (decide (0 ≤ a) && decide (a ≤ b))) := by simp [inR, Bool.and_assoc]
    rw [hs]
    clear hs
    by_cases hq : 1 ≤ b ∧ b ≤ 999999
    · have q1 : (decide (1 ≤ b) && decide (b ≤ 999999)) = true := by simpa using hq
      rw [q1]
      obtain ⟨q2, q3⟩ := hq
      go_enter Tryz.func88, Tryz.ntmps88
      go_wp2_with (go_at_call 57; refine (within_any _ _ _ _).mono ?_; rintro e w1 ⟨rfl, rfl⟩)
      go_ret
      exact ⟨rfl, bel3 _ _ _ _⟩
    · have q1 : (decide (1 ≤ b) && decide (b ≤ 999999)) = false := by simpa using hq
      rw [q1]
      have q2 : ¬ 1 ≤ b ∨ ¬ b ≤ 999999 := by omega
      rcases q2 with q2 | q2
      all_goals
        go_enter Tryz.func88, Tryz.ntmps88
        go_wp2_with (go_at_call 57; refine (within_any _ _ _ _).mono ?_; rintro e w1 ⟨rfl, rfl⟩)
        go_ret
        exact ⟨rfl, bel3 _ _ _ _⟩
  · have hs : inR p.bs x.ins.length op a b = true := by simp [inR, *]
    rw [hs]
    clear hs
    go_enter Tryz.func88, Tryz.ntmps88
    go_wp2
    go_ret
    exact ⟨rfl, bel3 _ _ _ _⟩
end Go.Proofs.YtgboboljgcfggaaGreatDoor
namespace Go.Proofs.YtgboboljgcfggaaGreatDoor
open Go.RowKit

theorem r99 (s : ByteArray) (c : Int) (w : World) : (callFunc 167 #[.string s, .int .u8 c]).run Tryz.prog w = .ok (.value (.int .i64 (Lib.indexByte s.data.toList c.toNat.toUInt8))) w := by
  rw [run_callFunc_extern Tryz.func167 (by kernel_rfl) (by kernel_rfl) (by kernel_rfl) (e := Extern.BytealgIndexByte.indexByte) (by kernel_rfl), Lib.run_indexByteString]
  rfl
set_option maxRecDepth 100000 in
theorem indexByte_any (s : ByteArray) (c : Int) (w : World) : Calls Tryz.prog 161 #[.string s, .int .u8 c] w fun e w' => e = .returned (.int .i64 (Lib.indexByte s.data.toList c.toNat.toUInt8)) ∧ w' = w := by
  have h := r99 s c w
  go_enter Tryz.func161, Tryz.ntmps161
  go_wp2
  go_ret
  exact ⟨rfl, rfl⟩
set_option maxRecDepth 100000 in
theorem index1_any (s : ByteArray) (c : UInt8) (w : World) : Calls Tryz.prog 148 #[.string s, .string ⟨#[c]⟩] w fun e w' => e = .returned (.int .i64 (Lib.indexByte s.data.toList c)) ∧ w' = w := by
  have h := indexByte_any s (c.toNat : Int) w
  have hc : ((c.toNat : Int).toNat.toUInt8) = c := by simp
  rw [hc] at h
  have HI := Lib.hid h
  clear h hc
  cases hs : ([c] == s.toList) with
  | true =>
    have e0 : Lib.indexByte s.data.toList c = 0 := by
      have h1 : [c] = s.toList := by simpa using hs
      rw [← ByteArray.toList_eq, ← h1]
      simp [Lib.indexByte]
    rw [e0]
    go_enter Tryz.func148, Tryz.ntmps148
    go_wp2
    go_ret
    exact ⟨rfl, rfl⟩
  | false =>
    go_enter Tryz.func148, Tryz.ntmps148
    go_wp2_with (go_at_call 161; refine HI.out.mono ?_; rintro e w1 ⟨rfl, rfl⟩)
    go_ret
    exact ⟨rfl, rfl⟩
set_option maxRecDepth 100000 in
theorem strIndex1_any (s : ByteArray) (c : UInt8) (w : World) : Calls Tryz.prog 107 #[.string s, .string ⟨#[c]⟩] w fun e w' => e = .returned (.int .i64 (Lib.indexByte s.data.toList c)) ∧ w' = w := by
  have HI := Lib.hid (index1_any s c w)
  go_enter Tryz.func107, Tryz.ntmps107
  go_wp2_with (go_at_call 148; refine HI.out.mono ?_; rintro e w1 ⟨rfl, rfl⟩)
  go_ret
  exact ⟨rfl, rfl⟩
set_option maxRecDepth 100000 in
theorem contains1_any (s : ByteArray) (c : UInt8) (w : World) : Calls Tryz.prog 83 #[.string s, .string ⟨#[c]⟩] w fun e w' => e = .returned (.bool (decide (0 ≤ Lib.indexByte s.data.toList c))) ∧ w' = w := by
  have HI := Lib.hid (strIndex1_any s c w)
  generalize Lib.indexByte s.data.toList c = k at *
  go_enter Tryz.func83, Tryz.ntmps83
  go_wp2_with (go_at_call 107; refine HI.out.mono ?_; rintro e w1 ⟨rfl, rfl⟩)
  go_ret
  exact ⟨rfl, rfl⟩
end Go.Proofs.YtgboboljgcfggaaGreatDoor
namespace Go.Proofs.YtgboboljgcfggaaGreatDoor
open Go.RowKit

/-- The names of operations. -/
def nmOk (t : T) : Bool := t == [43] || t == [45] || t == [42] || t == [61] || t == [60]
theorem nmOk_one (c : UInt8) : decide (0 ≤ Lib.indexByte [43, 45, 42, 61, 60] c) = nmOk [c] := by
  by_cases h1 : c = 43
  · subst h1; rfl
  · by_cases h2 : c = 45
    · subst h2; rfl
    · by_cases h3 : c = 42
      · subst h3; rfl
      · by_cases h4 : c = 61
        · subst h4; rfl
        · by_cases h5 : c = 60
          · subst h5; rfl
          · have q : Lib.indexByte [43, 45, 42, 61, 60] c = -1 := by simp [Lib.indexByte, Ne.symm h1, Ne.symm h2, Ne.symm h3, Ne.symm h4, Ne.symm h5]
            rw [q]
            simp [nmOk, h1, h2, h3, h4, h5]
theorem nmOk_len {t : T} (h : t.length ≠ 1) : nmOk t = false := by
  have : ∀ c : UInt8, t ≠ [c] := fun c e => by rw [e] at h; simp at h
  simp [nmOk, this]
/-- The error of an instruction, by what it has. -/
def ckB (K A B Nm R : Bool) (a b : Int) (name : T) : Int :=
  if K = false then 9
  else if (!A && a != 0) || (!B && b != 0) || (!Nm && name != []) then 1
  else if Nm && !nmOk name then 6
  else if R = false then 2 else 0
/-- The error of an instruction. -/
def ckI (bs : List Blk) (nb : Nat) (op a b : Int) (name : T) : Int := ckB (fK op) (fA op) (fB op) (fN op) (inR bs nb op a b) a b name
theorem shapes {op : Int} (h : fK op = true) : (fA op = true ∧ fB op = false ∧ fN op = false) ∨ (fA op = false ∧ fB op = false ∧ fN op = true) ∨ (fA op = true ∧ fB op = true ∧ fN op = false) ∨ (fA op = false ∧ fB op = false ∧ fN op = false) := by
  rcases op_split op with rfl | rfl | rfl | rfl | rfl | rfl | rfl | rfl | rfl | rfl | rfl | rfl | rfl | rfl | rfl | rfl | ⟨h1, h2, h3, h4, h5, h6, h7, h8, h9, h10, h11, h12, h13, h14, h15, h16⟩
  rotate_right
  · simp [fK, fA, *] at h
  all_goals decide

set_option maxRecDepth 100000 in
set_option maxHeartbeats 4000000 in
theorem checkInstr_any (p : Prg) (x : Blk) (op a b : Int) (name : T) (w : World) (hp : p.Rd w)(hnl : name.length ≤ 9223372036854775807) :
    Calls Tryz.prog 51 #[p.v, x.v, (Ins.mk op a b name).v] w fun e w' => e = .returned (.int .i64 (ckI p.bs x.ins.length op a b name)) ∧ Below w.heap.size w w' := by
  have PL := fun (W : World) (hb : Below w.heap.size w W) => inRange_any p x op a b name W (hp.below hb)
  have FI := fun W => fields_any op W
  unfold Prg.v Blk.v Ins.v at PL
  unfold Prg.v Blk.v Ins.v
  simp only [] at PL ⊢
  have CT := fun (c : UInt8) (W : World) => contains1_any ⟨#[43, 45, 42, 61, 60]⟩ c W
  simp only [nmOk_one] at CT
  have HCT := Lib.hid CT
  clear CT
  have SH := fun h : fK op = true => shapes h
  unfold ckI
  generalize inR p.bs x.ins.length op a b = R at *
  generalize fK op = K at *
  generalize fA op = A at *
  generalize fB op = B at *
  generalize fN op = Nm at *
  cases K with
  | false =>
    have HFI := Lib.hid FI
    clear FI SH PL hp
    have hs : ckB false A B Nm R a b name = 9 := rfl
    rw [hs]
    clear hs
    go_enter Tryz.func51, Tryz.ntmps51
    go_wp2_with (go_at_call 82; refine (HFI.out _).mono ?_; rintro e w1 ⟨rfl, rfl⟩)
    go_ret
    exact ⟨rfl, bel3 _ _ _ _⟩
  | true =>
    have hsh := SH rfl
    have HPL := Lib.hid PL
    have HFI := Lib.hid FI
    clear FI SH PL hp
    rcases hsh with ⟨rfl, rfl, rfl⟩ | ⟨rfl, rfl, rfl⟩ | ⟨rfl, rfl, rfl⟩ | ⟨rfl, rfl, rfl⟩
    · -- 1 0 0
      by_cases qb' : b = 0
      rotate_right
      · have qb : (b != 0) = true := by simpa using qb'
        have hs : ckB true true false false R a b name = 1 := by simp [ckB, qb']
        rw [hs]
        clear hs
        clear qb'
        go_enter Tryz.func51, Tryz.ntmps51
        go_wp2_with (first | (go_at_call 82; refine (HFI.out _).mono ?_; rintro e w1 ⟨rfl, rfl⟩) | (go_at_call 83; refine (HCTc.out _).mono ?_; rintro e w3 ⟨rfl, rfl⟩) | (go_at_call 84; refine (HPL.out _ (bel3 _ _ _ _)).mono ?_; rintro e w2 ⟨rfl, k2⟩))
        go_ret
        exact ⟨rfl, bel3 _ _ _ _⟩
      subst qb'
      have qb : ((0 : Int) != 0) = false := rfl
      by_cases qn' : name = []
      rotate_right
      · have qn : (name != []) = true := by simpa using qn'
        have qn2 : name.isEmpty = false := by simpa using qn'
        have hs : ckB true true false false R a 0 name = 1 := by simp [ckB, qn']
        rw [hs]
        clear hs
        clear qn'
        go_enter Tryz.func51, Tryz.ntmps51
        go_wp2_with (first | (go_at_call 82; refine (HFI.out _).mono ?_; rintro e w1 ⟨rfl, rfl⟩) | (go_at_call 83; refine (HCTc.out _).mono ?_; rintro e w3 ⟨rfl, rfl⟩) | (go_at_call 84; refine (HPL.out _ (bel3 _ _ _ _)).mono ?_; rintro e w2 ⟨rfl, k2⟩))
        go_ret
        exact ⟨rfl, bel3 _ _ _ _⟩
      subst qn'
      have qn : (([] : T) != []) = false := rfl
      cases R with
      | false =>
        have hs : ckB true true false false false a 0 [] = 2 := by simp [ckB]
        rw [hs]
        clear hs
        go_enter Tryz.func51, Tryz.ntmps51
        go_wp2_with (first | (go_at_call 82; refine (HFI.out _).mono ?_; rintro e w1 ⟨rfl, rfl⟩) | (go_at_call 83; refine (HCTc.out _).mono ?_; rintro e w3 ⟨rfl, rfl⟩) | (go_at_call 84; refine (HPL.out _ (bel3 _ _ _ _)).mono ?_; rintro e w2 ⟨rfl, k2⟩))
        go_ret
        exact ⟨rfl, (bel3 w _ _ _).trans (k2.mono (bel3 w _ _ _).size)⟩
      | true =>
        have hs : ckB true true false false true a 0 [] = 0 := by simp [ckB]
        rw [hs]
        clear hs
        go_enter Tryz.func51, Tryz.ntmps51
        go_wp2_with (first | (go_at_call 82; refine (HFI.out _).mono ?_; rintro e w1 ⟨rfl, rfl⟩) | (go_at_call 83; refine (HCTc.out _).mono ?_; rintro e w3 ⟨rfl, rfl⟩) | (go_at_call 84; refine (HPL.out _ (bel3 _ _ _ _)).mono ?_; rintro e w2 ⟨rfl, k2⟩))
        go_ret
        exact ⟨rfl, (bel3 w _ _ _).trans (k2.mono (bel3 w _ _ _).size)⟩
    · -- 0 0 1
      by_cases qa' : a = 0
      rotate_right
      · have qa : (a != 0) = true := by simpa using qa'
        have hs : ckB true false false true R a b name = 1 := by simp [ckB, qa']
        rw [hs]
        clear hs
        clear qa'
        go_enter Tryz.func51, Tryz.ntmps51
        go_wp2_with (first | (go_at_call 82; refine (HFI.out _).mono ?_; rintro e w1 ⟨rfl, rfl⟩) | (go_at_call 83; refine (HCTc.out _).mono ?_; rintro e w3 ⟨rfl, rfl⟩) | (go_at_call 84; refine (HPL.out _ (bel3 _ _ _ _)).mono ?_; rintro e w2 ⟨rfl, k2⟩))
        go_ret
        exact ⟨rfl, bel3 _ _ _ _⟩
      subst qa'
      have qa : ((0 : Int) != 0) = false := rfl
      by_cases qb' : b = 0
      rotate_right
      · have qb : (b != 0) = true := by simpa using qb'
        have hs : ckB true false false true R 0 b name = 1 := by simp [ckB, qb']
        rw [hs]
        clear hs
        clear qb'
        go_enter Tryz.func51, Tryz.ntmps51
        go_wp2_with (first | (go_at_call 82; refine (HFI.out _).mono ?_; rintro e w1 ⟨rfl, rfl⟩) | (go_at_call 83; refine (HCTc.out _).mono ?_; rintro e w3 ⟨rfl, rfl⟩) | (go_at_call 84; refine (HPL.out _ (bel3 _ _ _ _)).mono ?_; rintro e w2 ⟨rfl, k2⟩))
        go_ret
        exact ⟨rfl, bel3 _ _ _ _⟩
      subst qb'
      have qb : ((0 : Int) != 0) = false := rfl
      by_cases z : name.length = 1
      · obtain ⟨c, rfl⟩ := List.length_eq_one_iff.1 z
        clear z
        have hcc := HCT.out c
        have HCTc := Lib.hid hcc
        clear HCT hcc
        obtain ⟨ok, hok⟩ : ∃ ok, nmOk [c] = ok := ⟨_, rfl⟩
        rw [hok] at HCTc
        cases ok with
        | false =>
          have hs : ckB true false false true R 0 0 [c] = 6 := by simp [ckB, hok]
          rw [hs]
          clear hs
          go_enter Tryz.func51, Tryz.ntmps51
          go_wp2_with (first | (go_at_call 82; refine (HFI.out _).mono ?_; rintro e w1 ⟨rfl, rfl⟩) | (go_at_call 83; refine (HCTc.out _).mono ?_; rintro e w3 ⟨rfl, rfl⟩) | (go_at_call 84; refine (HPL.out _ (bel3 _ _ _ _)).mono ?_; rintro e w2 ⟨rfl, k2⟩))
          go_ret
          exact ⟨rfl, bel3 _ _ _ _⟩
        | true =>
          cases R with
          | false =>
            have hs : ckB true false false true false 0 0 [c] = 2 := by simp [ckB, hok]
            rw [hs]
            clear hs
            go_enter Tryz.func51, Tryz.ntmps51
            go_wp2_with (first | (go_at_call 82; refine (HFI.out _).mono ?_; rintro e w1 ⟨rfl, rfl⟩) | (go_at_call 83; refine (HCTc.out _).mono ?_; rintro e w3 ⟨rfl, rfl⟩) | (go_at_call 84; refine (HPL.out _ (bel3 _ _ _ _)).mono ?_; rintro e w2 ⟨rfl, k2⟩))
            go_ret
            exact ⟨rfl, (bel3 w _ _ _).trans (k2.mono (bel3 w _ _ _).size)⟩
          | true =>
            have hs : ckB true false false true true 0 0 [c] = 0 := by simp [ckB, hok]
            rw [hs]
            clear hs
            go_enter Tryz.func51, Tryz.ntmps51
            go_wp2_with (first | (go_at_call 82; refine (HFI.out _).mono ?_; rintro e w1 ⟨rfl, rfl⟩) | (go_at_call 83; refine (HCTc.out _).mono ?_; rintro e w3 ⟨rfl, rfl⟩) | (go_at_call 84; refine (HPL.out _ (bel3 _ _ _ _)).mono ?_; rintro e w2 ⟨rfl, k2⟩))
            go_ret
            exact ⟨rfl, (bel3 w _ _ _).trans (k2.mono (bel3 w _ _ _).size)⟩
      · have hk := nmOk_len z
        have z2 : ((name.length : Int) != 1) = true := by simp; omega
        have hs : ckB true false false true R 0 0 name = 6 := by simp [ckB, hk]
        rw [hs]
        clear hs
        clear z hk
        go_enter Tryz.func51, Tryz.ntmps51
        go_wp2_with (first | (go_at_call 82; refine (HFI.out _).mono ?_; rintro e w1 ⟨rfl, rfl⟩) | (go_at_call 83; refine (HCTc.out _).mono ?_; rintro e w3 ⟨rfl, rfl⟩) | (go_at_call 84; refine (HPL.out _ (bel3 _ _ _ _)).mono ?_; rintro e w2 ⟨rfl, k2⟩))
        go_ret
        exact ⟨rfl, bel3 _ _ _ _⟩
    · -- 1 1 0
      by_cases qn' : name = []
      rotate_right
      · have qn : (name != []) = true := by simpa using qn'
        have qn2 : name.isEmpty = false := by simpa using qn'
        have hs : ckB true true true false R a b name = 1 := by simp [ckB, qn']
        rw [hs]
        clear hs
        clear qn'
        go_enter Tryz.func51, Tryz.ntmps51
        go_wp2_with (first | (go_at_call 82; refine (HFI.out _).mono ?_; rintro e w1 ⟨rfl, rfl⟩) | (go_at_call 83; refine (HCTc.out _).mono ?_; rintro e w3 ⟨rfl, rfl⟩) | (go_at_call 84; refine (HPL.out _ (bel3 _ _ _ _)).mono ?_; rintro e w2 ⟨rfl, k2⟩))
        go_ret
        exact ⟨rfl, bel3 _ _ _ _⟩
      subst qn'
      have qn : (([] : T) != []) = false := rfl
      cases R with
      | false =>
        have hs : ckB true true true false false a b [] = 2 := by simp [ckB]
        rw [hs]
        clear hs
        go_enter Tryz.func51, Tryz.ntmps51
        go_wp2_with (first | (go_at_call 82; refine (HFI.out _).mono ?_; rintro e w1 ⟨rfl, rfl⟩) | (go_at_call 83; refine (HCTc.out _).mono ?_; rintro e w3 ⟨rfl, rfl⟩) | (go_at_call 84; refine (HPL.out _ (bel3 _ _ _ _)).mono ?_; rintro e w2 ⟨rfl, k2⟩))
        go_ret
        exact ⟨rfl, (bel3 w _ _ _).trans (k2.mono (bel3 w _ _ _).size)⟩
      | true =>
        have hs : ckB true true true false true a b [] = 0 := by simp [ckB]
        rw [hs]
        clear hs
        go_enter Tryz.func51, Tryz.ntmps51
        go_wp2_with (first | (go_at_call 82; refine (HFI.out _).mono ?_; rintro e w1 ⟨rfl, rfl⟩) | (go_at_call 83; refine (HCTc.out _).mono ?_; rintro e w3 ⟨rfl, rfl⟩) | (go_at_call 84; refine (HPL.out _ (bel3 _ _ _ _)).mono ?_; rintro e w2 ⟨rfl, k2⟩))
        go_ret
        exact ⟨rfl, (bel3 w _ _ _).trans (k2.mono (bel3 w _ _ _).size)⟩
    · -- 0 0 0
      by_cases qa' : a = 0
      rotate_right
      · have qa : (a != 0) = true := by simpa using qa'
        have hs : ckB true false false false R a b name = 1 := by simp [ckB, qa']
        rw [hs]
        clear hs
        clear qa'
        go_enter Tryz.func51, Tryz.ntmps51
        go_wp2_with (first | (go_at_call 82; refine (HFI.out _).mono ?_; rintro e w1 ⟨rfl, rfl⟩) | (go_at_call 83; refine (HCTc.out _).mono ?_; rintro e w3 ⟨rfl, rfl⟩) | (go_at_call 84; refine (HPL.out _ (bel3 _ _ _ _)).mono ?_; rintro e w2 ⟨rfl, k2⟩))
        go_ret
        exact ⟨rfl, bel3 _ _ _ _⟩
      subst qa'
      have qa : ((0 : Int) != 0) = false := rfl
      by_cases qb' : b = 0
      rotate_right
      · have qb : (b != 0) = true := by simpa using qb'
        have hs : ckB true false false false R 0 b name = 1 := by simp [ckB, qb']
        rw [hs]
        clear hs
        clear qb'
        go_enter Tryz.func51, Tryz.ntmps51
        go_wp2_with (first | (go_at_call 82; refine (HFI.out _).mono ?_; rintro e w1 ⟨rfl, rfl⟩) | (go_at_call 83; refine (HCTc.out _).mono ?_; rintro e w3 ⟨rfl, rfl⟩) | (go_at_call 84; refine (HPL.out _ (bel3 _ _ _ _)).mono ?_; rintro e w2 ⟨rfl, k2⟩))
        go_ret
        exact ⟨rfl, bel3 _ _ _ _⟩
      subst qb'
      have qb : ((0 : Int) != 0) = false := rfl
      by_cases qn' : name = []
      rotate_right
      · have qn : (name != []) = true := by simpa using qn'
        have qn2 : name.isEmpty = false := by simpa using qn'
        have hs : ckB true false false false R 0 0 name = 1 := by simp [ckB, qn']
        rw [hs]
        clear hs
        clear qn'
        go_enter Tryz.func51, Tryz.ntmps51
        go_wp2_with (first | (go_at_call 82; refine (HFI.out _).mono ?_; rintro e w1 ⟨rfl, rfl⟩) | (go_at_call 83; refine (HCTc.out _).mono ?_; rintro e w3 ⟨rfl, rfl⟩) | (go_at_call 84; refine (HPL.out _ (bel3 _ _ _ _)).mono ?_; rintro e w2 ⟨rfl, k2⟩))
        go_ret
        exact ⟨rfl, bel3 _ _ _ _⟩
      subst qn'
      have qn : (([] : T) != []) = false := rfl
      cases R with
      | false =>
        have hs : ckB true false false false false 0 0 [] = 2 := by simp [ckB]
        rw [hs]
        clear hs
        go_enter Tryz.func51, Tryz.ntmps51
        go_wp2_with (first | (go_at_call 82; refine (HFI.out _).mono ?_; rintro e w1 ⟨rfl, rfl⟩) | (go_at_call 83; refine (HCTc.out _).mono ?_; rintro e w3 ⟨rfl, rfl⟩) | (go_at_call 84; refine (HPL.out _ (bel3 _ _ _ _)).mono ?_; rintro e w2 ⟨rfl, k2⟩))
        go_ret
        exact ⟨rfl, (bel3 w _ _ _).trans (k2.mono (bel3 w _ _ _).size)⟩
      | true =>
        have hs : ckB true false false false true 0 0 [] = 0 := by simp [ckB]
        rw [hs]
        clear hs
        go_enter Tryz.func51, Tryz.ntmps51
        go_wp2_with (first | (go_at_call 82; refine (HFI.out _).mono ?_; rintro e w1 ⟨rfl, rfl⟩) | (go_at_call 83; refine (HCTc.out _).mono ?_; rintro e w3 ⟨rfl, rfl⟩) | (go_at_call 84; refine (HPL.out _ (bel3 _ _ _ _)).mono ?_; rintro e w2 ⟨rfl, k2⟩))
        go_ret
        exact ⟨rfl, (bel3 w _ _ _).trans (k2.mono (bel3 w _ _ _).size)⟩
end Go.Proofs.YtgboboljgcfggaaGreatDoor
namespace Go.Proofs.YtgboboljgcfggaaGreatDoor
open Go.RowKit

/-- A declaration of a code. -/
structure Dcl where
  id : Int
  kind : Int
  block : Int
deriving DecidableEq
def Dcl.cs (x : Dcl) : List Value := [iv x.id, iv x.kind, iv x.block]
/-- A code as it lies in memory. -/
structure Cod where
  label : T
  bA : Option Addr
  bc : Nat
  bs : List Blk
  dA : Option Addr
  dc : Nat
  ds : List Dcl
def Cod.cs (x : Cod) : List Value := [tv x.label, .slice x.bA x.bs.length x.bc, .slice x.dA x.ds.length x.dc]
def Cod.v (x : Cod) : Value := .agg #[.string ⟨x.label.toArray⟩, .slice x.bA x.bs.length x.bc, .slice x.dA x.ds.length x.dc]
structure Cod.Rd (w : World) (c : Cod) : Prop where
  b : RD 3 Blk.cs w c.bA c.bs
  i : ∀ x ∈ c.bs, RD 4 Ins.cs w x.A x.ins
  d : RD 3 Dcl.cs w c.dA c.ds
theorem Cod.Rd.below {w w' : World} {p : Cod} (h : p.Rd w) (hb : Below w.heap.size w w') : p.Rd w' := ⟨h.b.below hb, fun x hx => (h.i x hx).below hb, h.d.below hb⟩
theorem RD.dcl {w : World} {A : Option Addr} {L : List Dcl} (h : RD 3 Dcl.cs w A L) {k : Nat} (hk : k < L.length) : ∃ a a1 : Addr, A = some a ∧ a.add (k * 3) = a1 ∧ a1.block < w.heap.size ∧ w.cell? a1 = some (.int .i64 L[k].id) ∧ w.cell? ⟨a1.block, a1.off + 1, none⟩ = some (.int .i64 L[k].kind) ∧ w.cell? ⟨a1.block, a1.off + 2, none⟩ = some (.int .i64 L[k].block) := by
  obtain ⟨a, e, hb, hc⟩ := h.at hk
  refine ⟨a, _, e, rfl, by rw [add_block]; exact hb, by simpa using hc 0 _ rfl, ?_, ?_⟩
  · rw [← fld_add _ 1 (by omega), add_add']; exact hc 1 _ rfl
  · rw [← fld_add _ 2 (by omega), add_add']; exact hc 2 _ rfl
theorem results_tmp3 {fn : Func} {t u v : Tmp} (h : fn.results = #[.tmp t, .tmp u, .tmp v]) (tmps : Array Value) (P : Program) (w : World) :
    (results fn tmps).run P w = .ok (.tuple #[tmps.getD t undef, tmps.getD u undef, tmps.getD v undef]) w := by
  simp [results, h]
/-- Whether an instruction of a code has a name. -/
def fN8 (op : Int) : Bool := op == 4 || op == 10
/-- Whether the numbers of an instruction of a code are as required. -/
def inR8 (bs : List Blk) (nb : Nat) (op a b : Int) : Bool :=
  if op == 1 then decide (-999999999 ≤ a) && decide (a ≤ 999999999)
  else if op == 2 then a == 0 || a == 1
  else if op == 3 then decide (0 ≤ a) && decide (a ≤ 800)
  else if op == 4 then decide (1 ≤ a) && decide (a ≤ 999999)
  else if op == 5 then closB bs a
  else if op == 8 || op == 9 || op == 13 then decide (0 ≤ a) && decide (a < nb)
  else if op == 15 then a == 1 || a == 2
  else if op == 16 then decide (1 ≤ b) && decide (b ≤ 999999) && decide (0 ≤ a) && decide (a ≤ b)
  else true

set_option maxRecDepth 100000 in
set_option maxHeartbeats 1000000 in
theorem fields8_any (op : Int) (w : World) : Calls Tryz.prog 152 #[.int .i64 op] w fun e w' => e = .returned (.tuple #[.bool (fA op), .bool (fB op), .bool (fN8 op), .bool (fK op)]) ∧ w' = w := by
  rcases op_split op with rfl | rfl | rfl | rfl | rfl | rfl | rfl | rfl | rfl | rfl | rfl | rfl | rfl | rfl | rfl | rfl | ⟨h1, h2, h3, h4, h5, h6, h7, h8, h9, h10, h11, h12, h13, h14, h15, h16⟩
  rotate_right
  · have e1 : fA op = false := by simp [fA, *]
    have e2 : fB op = false := by simp [fB, *]
    have e3 : fN8 op = false := by simp [fN8, *]
    have e4 : fK op = false := by simp [fK, *]
    rw [e1, e2, e3, e4]
    clear e1 e2 e3 e4
    go_enter Tryz.func152, Tryz.ntmps152
    go_wp2
    (try simp only [Exit.inBlock, Exit.then])
    refine bodyPost_ret (results_tmp4 rfl _ _ _) rfl ?_
    exact ⟨rfl, rfl⟩
  all_goals
    go_enter Tryz.func152, Tryz.ntmps152
    go_wp2
    (try simp only [Exit.inBlock, Exit.then])
    refine bodyPost_ret (results_tmp4 rfl _ _ _) rfl ?_
    exact ⟨rfl, rfl⟩

end Go.Proofs.YtgboboljgcfggaaGreatDoor
namespace Go.Proofs.YtgboboljgcfggaaGreatDoor
open Go.RowKit

theorem bel1 (w : World) (o : Obj) : Below w.heap.size w (w.alloc o) := (Below.refl _ _).alloc (Nat.le_refl _) _

set_option maxRecDepth 100000 in
set_option maxHeartbeats 4000000 in
theorem inRange8_any (p : Cod) (x : Blk) (op a b : Int) (name : T) (w : World) (hp : p.Rd w) :
    Calls Tryz.prog 153 #[p.v, x.v, (Ins.mk op a b name).v] w fun e w' => e = .returned (.bool (inR8 p.bs x.ins.length op a b)) ∧ Below w.heap.size w w' := by
  unfold Cod.v Blk.v Ins.v
  simp only []
  have HP := Lib.hid hp
  clear hp
  rcases op_split op with rfl | rfl | rfl | rfl | rfl | rfl | rfl | rfl | rfl | rfl | rfl | rfl | rfl | rfl | rfl | rfl | ⟨h1, h2, h3, h4, h5, h6, h7, h8, h9, h10, h11, h12, h13, h14, h15, h16⟩
  · -- 1
    have hs : inR8 p.bs x.ins.length 1 a b = (decide (-999999999 ≤ a) && decide (a ≤ 999999999)) := by simp [inR8]
    rw [hs]
    clear hs
    cases h : decide (-999999999 ≤ a) with
    | false =>
      go_enter Tryz.func153, Tryz.ntmps153
      go_wp2
      go_ret
      exact ⟨rfl, bel3 _ _ _ _⟩
    | true =>
      go_enter Tryz.func153, Tryz.ntmps153
      go_wp2
      go_ret
      exact ⟨rfl, bel3 _ _ _ _⟩
  · -- 2
    have hs : inR8 p.bs x.ins.length 2 a b = (a == 0 || a == 1) := by simp [inR8]
    rw [hs]
    clear hs
    cases h : (a == 0) with
    | false =>
      go_enter Tryz.func153, Tryz.ntmps153
      go_wp2
      go_ret
      exact ⟨rfl, bel3 _ _ _ _⟩
    | true =>
      go_enter Tryz.func153, Tryz.ntmps153
      go_wp2
      go_ret
      exact ⟨rfl, bel3 _ _ _ _⟩
  · -- 3
    have hs : inR8 p.bs x.ins.length 3 a b = (decide (0 ≤ a) && decide (a ≤ 800)) := by simp [inR8]
    rw [hs]
    clear hs
    cases h : decide (0 ≤ a) with
    | false =>
      go_enter Tryz.func153, Tryz.ntmps153
      go_wp2
      go_ret
      exact ⟨rfl, bel3 _ _ _ _⟩
    | true =>
      go_enter Tryz.func153, Tryz.ntmps153
      go_wp2
      go_ret
      exact ⟨rfl, bel3 _ _ _ _⟩
  · -- 4
    have hs : inR8 p.bs x.ins.length 4 a b = (decide (1 ≤ a) && decide (a ≤ 999999)) := by simp [inR8]
    rw [hs]
    clear hs
    cases h : decide (1 ≤ a) with
    | false =>
      go_enter Tryz.func153, Tryz.ntmps153
      go_wp2
      go_ret
      exact ⟨rfl, bel3 _ _ _ _⟩
    | true =>
      go_enter Tryz.func153, Tryz.ntmps153
      go_wp2
      go_ret
      exact ⟨rfl, bel3 _ _ _ _⟩
  · -- 5
    have hs : inR8 p.bs x.ins.length 5 a b = closB p.bs a := by simp [inR8]
    rw [hs]
    clear hs
    by_cases h1 : 0 ≤ a
    · obtain ⟨M, rfl⟩ : ∃ M : Nat, a = M := ⟨a.toNat, by omega⟩
      by_cases h2 : M < p.bs.length
      · obtain ⟨q, q1, e, ea, hb, c0, c1, -⟩ := HP.out.b.blk h2
        have hs : closB p.bs M = p.bs[M].param := by simp [closB, h2]
        rw [e, hs]
        have d1 := fun o o' o'' => cell_al3 c1 hb o o' o''
        have t2 : (M : Int) < (p.bs.length : Int) := by omega
        generalize p.bs[M].param = pr at *
        clear hs e HP c0 c1
        go_enter Tryz.func153, Tryz.ntmps153
        go_wp2
        go_ret
        exact ⟨rfl, bel3 _ _ _ _⟩
      · have hs : closB p.bs M = false := by simp [closB, h2]
        have t2 : decide ((M : Int) < (p.bs.length : Int)) = false := by simp; omega
        rw [hs]
        go_enter Tryz.func153, Tryz.ntmps153
        go_wp2
        go_ret
        exact ⟨rfl, bel3 _ _ _ _⟩
    · have hs : closB p.bs a = false := by simp [closB, h1]
      have t2 : decide (0 ≤ a) = false := by simp; omega
      rw [hs]
      go_enter Tryz.func153, Tryz.ntmps153
      go_wp2
      go_ret
      exact ⟨rfl, bel3 _ _ _ _⟩
  · -- 6
    have hs : inR8 p.bs x.ins.length 6 a b = true := by simp [inR8]
    rw [hs]
    clear hs
    go_enter Tryz.func153, Tryz.ntmps153
    go_wp2
    go_ret
    exact ⟨rfl, bel3 _ _ _ _⟩
  · -- 7
    have hs : inR8 p.bs x.ins.length 7 a b = true := by simp [inR8]
    rw [hs]
    clear hs
    go_enter Tryz.func153, Tryz.ntmps153
    go_wp2
    go_ret
    exact ⟨rfl, bel3 _ _ _ _⟩
  · -- 8
    have hs : inR8 p.bs x.ins.length 8 a b = (decide (0 ≤ a) && decide (a < (x.ins.length : Int))) := by simp [inR8]
    rw [hs]
    clear hs
    cases h : decide (0 ≤ a) with
    | false =>
      go_enter Tryz.func153, Tryz.ntmps153
      go_wp2
      go_ret
      exact ⟨rfl, bel3 _ _ _ _⟩
    | true =>
      go_enter Tryz.func153, Tryz.ntmps153
      go_wp2
      go_ret
      exact ⟨rfl, bel3 _ _ _ _⟩
  · -- 9
    have hs : inR8 p.bs x.ins.length 9 a b = (decide (0 ≤ a) && decide (a < (x.ins.length : Int))) := by simp [inR8]
    rw [hs]
    clear hs
    cases h : decide (0 ≤ a) with
    | false =>
      go_enter Tryz.func153, Tryz.ntmps153
      go_wp2
      go_ret
      exact ⟨rfl, bel3 _ _ _ _⟩
    | true =>
      go_enter Tryz.func153, Tryz.ntmps153
      go_wp2
      go_ret
      exact ⟨rfl, bel3 _ _ _ _⟩
  · -- 10
    have hs : inR8 p.bs x.ins.length 10 a b = true := by simp [inR8]
    rw [hs]
    clear hs
    go_enter Tryz.func153, Tryz.ntmps153
    go_wp2
    go_ret
    exact ⟨rfl, bel3 _ _ _ _⟩
  · -- 11
    have hs : inR8 p.bs x.ins.length 11 a b = true := by simp [inR8]
    rw [hs]
    clear hs
    go_enter Tryz.func153, Tryz.ntmps153
    go_wp2
    go_ret
    exact ⟨rfl, bel3 _ _ _ _⟩
  · -- 12
    have hs : inR8 p.bs x.ins.length 12 a b = true := by simp [inR8]
    rw [hs]
    clear hs
    go_enter Tryz.func153, Tryz.ntmps153
    go_wp2
    go_ret
    exact ⟨rfl, bel3 _ _ _ _⟩
  · -- 13
    have hs : inR8 p.bs x.ins.length 13 a b = (decide (0 ≤ a) && decide (a < (x.ins.length : Int))) := by simp [inR8]
    rw [hs]
    clear hs
    cases h : decide (0 ≤ a) with
    | false =>
      go_enter Tryz.func153, Tryz.ntmps153
      go_wp2
      go_ret
      exact ⟨rfl, bel3 _ _ _ _⟩
    | true =>
      go_enter Tryz.func153, Tryz.ntmps153
      go_wp2
      go_ret
      exact ⟨rfl, bel3 _ _ _ _⟩
  · -- 14
    have hs : inR8 p.bs x.ins.length 14 a b = true := by simp [inR8]
    rw [hs]
    clear hs
    go_enter Tryz.func153, Tryz.ntmps153
    go_wp2
    go_ret
    exact ⟨rfl, bel3 _ _ _ _⟩
  · -- 15
    have hs : inR8 p.bs x.ins.length 15 a b = (a == 1 || a == 2) := by simp [inR8]
    rw [hs]
    clear hs
    cases h : (a == 1) with
    | false =>
      go_enter Tryz.func153, Tryz.ntmps153
      go_wp2
      go_ret
      exact ⟨rfl, bel3 _ _ _ _⟩
    | true =>
      go_enter Tryz.func153, Tryz.ntmps153
      go_wp2
      go_ret
      exact ⟨rfl, bel3 _ _ _ _⟩
  · -- 16
    have hs : inR8 p.bs x.ins.length 16 a b = (decide (1 ≤ b) && decide (b ≤ 999999) && decide (0 ≤ a) && decide (a ≤ b)) := by simp [inR8]
    rw [hs]
    clear hs
    cases ha : decide (1 ≤ b) <;> cases hb : decide (b ≤ 999999) <;> cases hc : decide (0 ≤ a)
    all_goals
      go_enter Tryz.func153, Tryz.ntmps153
      go_wp2
      go_ret
      exact ⟨rfl, bel3 _ _ _ _⟩
  · have hs : inR8 p.bs x.ins.length op a b = true := by simp [inR8, *]
    rw [hs]
    clear hs
    go_enter Tryz.func153, Tryz.ntmps153
    go_wp2
    go_ret
    exact ⟨rfl, bel3 _ _ _ _⟩

end Go.Proofs.YtgboboljgcfggaaGreatDoor
namespace Go.Proofs.YtgboboljgcfggaaGreatDoor
open Go.RowKit

def isL (c : Int) : Bool := decide (97 ≤ c) && decide (c ≤ 122)
def isD (c : Int) : Bool := decide (48 ≤ c) && decide (c ≤ 57)
def bL (c : UInt8) : Bool := isL (c.toNat : Int)
def bD (c : UInt8) : Bool := isD (c.toNat : Int)
/-- A word: a letter, then letters and digits. -/
def wd (s : T) : Bool := (match s with | [] => false | c :: _ => bL c) && s.all (fun c => bL c || bD c)

set_option maxRecDepth 100000 in
theorem letter_any (c : Int) (w : World) : Calls Tryz.prog 109 #[.int .i32 c] w fun e w' => e = .returned (.bool (isL c)) ∧ w' = w := by
  unfold isL
  cases h : decide (97 ≤ c) with
  | false => go_enter Tryz.func109, Tryz.ntmps109; go_wp2; go_ret; exact ⟨rfl, rfl⟩
  | true => go_enter Tryz.func109, Tryz.ntmps109; go_wp2; go_ret; exact ⟨rfl, rfl⟩
set_option maxRecDepth 100000 in
theorem digit_any (c : Int) (w : World) : Calls Tryz.prog 110 #[.int .i32 c] w fun e w' => e = .returned (.bool (isD c)) ∧ w' = w := by
  unfold isD
  cases h : decide (48 ≤ c) with
  | false => go_enter Tryz.func110, Tryz.ntmps110; go_wp2; go_ret; exact ⟨rfl, rfl⟩
  | true => go_enter Tryz.func110, Tryz.ntmps110; go_wp2; go_ret; exact ⟨rfl, rfl⟩
set_option maxRecDepth 100000 in
theorem rletter_any (c : Int) (w : World) : Calls Tryz.prog 111 #[.int .u8 c] w fun e w' => e = .returned (.bool (isL c)) ∧ w' = w := by
  unfold isL
  cases h : decide (97 ≤ c) with
  | false => go_enter Tryz.func111, Tryz.ntmps111; go_wp2; go_ret; exact ⟨rfl, rfl⟩
  | true => go_enter Tryz.func111, Tryz.ntmps111; go_wp2; go_ret; exact ⟨rfl, rfl⟩
set_option maxRecDepth 100000 in
theorem rdigit_any (c : Int) (w : World) : Calls Tryz.prog 112 #[.int .u8 c] w fun e w' => e = .returned (.bool (isD c)) ∧ w' = w := by
  unfold isD
  cases h : decide (48 ≤ c) with
  | false => go_enter Tryz.func112, Tryz.ntmps112; go_wp2; go_ret; exact ⟨rfl, rfl⟩
  | true => go_enter Tryz.func112, Tryz.ntmps112; go_wp2; go_ret; exact ⟨rfl, rfl⟩

theorem wd_bad {s : T} {k : Nat} (hk : k < s.length) (h : (bL s[k] || bD s[k]) = false) : wd s = false := by
  unfold wd
  rw [Bool.and_eq_false_iff]
  right
  rw [List.all_eq_false]
  exact ⟨s[k], List.getElem_mem hk, by simp [h]⟩
theorem wd_first {s : T} (hk : 0 < s.length) (h : bL s[0] = false) : wd s = false := by
  cases s with
  | nil => simp at hk
  | cons c r => simp at h; simp [wd, h]
theorem wd_good {s : T} (hk : 0 < s.length) (h : bL s[0] = true) (ha : ∀ c ∈ s, (bL c || bD c) = true) : wd s = true := by
  cases s with
  | nil => simp at hk
  | cons c r =>
    unfold wd
    simp at h
    rw [Bool.and_eq_true, List.all_eq_true]
    exact ⟨h, ha⟩
theorem high_isL {n : Nat} (h : 128 ≤ n) : isL (n : Int) = false ∧ isD (n : Int) = false := by
  unfold isL isD
  constructor
  · have : decide ((n : Int) ≤ 122) = false := by simp; omega
    rw [this, Bool.and_false]
  · have : decide ((n : Int) ≤ 57) = false := by simp; omega
    rw [this, Bool.and_false]
theorem all_snoc {s : T} {k : Nat} (hk : k < s.length) (h : ∀ c ∈ s.take k, (bL c || bD c) = true) (h' : (bL s[k] || bD s[k]) = true) : ∀ c ∈ s.take (k + 1), (bL c || bD c) = true := by
  intro c hc
  rw [List.take_succ_eq_append_getElem hk, List.mem_append, List.mem_singleton] at hc
  rcases hc with hc | rfl
  · exact h c hc
  · exact h'

set_option maxRecDepth 100000 in
set_option maxHeartbeats 2000000 in
theorem word_any (s : T) (w : World) (hs : s.length ≤ 9223372036854775807) : Calls Tryz.prog 86 #[tv s] w fun e w' => e = .returned (.bool (wd s && decide (s.length ≤ 24))) ∧ Below w.heap.size w w' := by
  have hsz : (ByteArray.mk s.toArray).size = s.length := by simp [ByteArray.size]
  by_cases h0 : s = []
  · subst h0
    have e0 : (wd [] && decide (([] : T).length ≤ 24)) = false := rfl
    rw [e0]
    go_enter Tryz.func86, Tryz.ntmps86
    go_wp2
    go_ret
    exact ⟨rfl, Below.refl _ _⟩
  by_cases h24 : 24 < s.length
  · have e0 : (wd s && decide (s.length ≤ 24)) = false := by
      have : decide (s.length ≤ 24) = false := by simp; omega
      rw [this, Bool.and_false]
    rw [e0]
    have t1 : (s == []) = false := by simpa using h0
    have t2 : (24 : Int) < (s.length : Int) := by omega
    clear e0 h0
    go_enter Tryz.func86, Tryz.ntmps86
    go_wp2
    all_goals (go_ret; exact ⟨rfl, Below.refl _ _⟩)
  · have e0 : (wd s && decide (s.length ≤ 24)) = wd s := by
      have : decide (s.length ≤ 24) = true := by simp; omega
      rw [this, Bool.and_true]
    rw [e0]
    have hpos : 0 < s.length := List.length_pos_iff.2 h0
    have t1 : (s == []) = false := by simpa using h0
    have t2 : decide ((24 : Int) < (s.length : Int)) = false := by simp; omega
    have HSZ := Lib.hid hsz
    clear e0 h0 hsz
    go_enter Tryz.func86, Tryz.ntmps86
    go_wp2
    go_loopw [3, 4] (fun _ _ wr => ∃ k : Nat, k ≤ s.length ∧ wr = w.iter ⟨s.toArray⟩ k ∧ Hid (∀ c ∈ s.take k, (bL c || bD c) = true) ∧ Hid (0 < k → bL s[0] = true)) (fun _ _ wr => s.length - wr.iterPos w.heap.size)
    case atStart => exact ⟨0, Nat.zero_le _, rfl, by simp [Hid], Lib.hid (fun h => by omega)⟩
    case round =>
      obtain ⟨k, hk, rfl, HA, HF⟩ := hrel
      have bel : ∀ j, Below w.heap.size w (w.iter ⟨s.toArray⟩ j) := fun j => (Below.refl _ _).alloc (Nat.le_refl _) _
      have BEL := Lib.hid bel
      clear bel
      by_cases hlt : k < s.length
      · have hi : k < (ByteArray.mk s.toArray).size := by rw [HSZ.out]; exact hlt
        have hd : (ByteArray.mk s.toArray)[k]'hi = s[k] := rfl
        by_cases ha : s[k].toNat < 128
        · have hnx := fun ty => run_next_ascii (P := Tryz.prog) w ⟨s.toArray⟩ k ty hi (by rw [hd]; exact ha)
          rw [hd] at hnx
          have LE := fun W => letter_any (s[k].toNat : Int) W
          have DI := fun W => digit_any (s[k].toNat : Int) W
          have HLE := Lib.hid LE
          have HDI := Lib.hid DI
          have N1 := fun h => Lib.hid (all_snoc hlt HA.out h)
          have W1 : Hid ((bL s[k] || bD s[k]) = false → wd s = false) := Lib.hid (wd_bad hlt)
          have W2 : Hid (k = 0 → bL s[k] = false → wd s = false) := Lib.hid (fun e h => by subst e; exact wd_first hlt h)
          have F1 : Hid (bL s[k] = true → 0 < k + 1 → bL s[0] = true) := Lib.hid (fun h _ => by
            by_cases e : k = 0
            · subst e; exact h
            · exact HF.out (by omega))
          have F2 : Hid (k ≠ 0 → 0 < k + 1 → bL s[0] = true) := Lib.hid (fun e _ => HF.out (by omega))
          unfold bL bD at N1 W1
          unfold bL at W2 F1
          clear LE DI HA HF hd ha
          generalize (s[k].toNat : Int) = c at *
          cases hl : isL c with
          | true =>
            rw [hl] at HLE
            have HN := N1 (by rw [hl]; rfl)
            have HF' := Lib.hid (F1.out hl)
            clear N1 W1 W2 F1 F2 hl
            go_wp2_with (go_at_call 109; refine (HLE.out _).mono ?_; rintro e w1 ⟨rfl, rfl⟩)
            go_roundw
            case rel => exact ⟨k + 1, by omega, rfl, HN, HF'⟩
            case measure => simp; omega
          | false =>
            rw [hl] at HLE
            by_cases hk0 : k = 0
            · have HW := Lib.hid (W2.out hk0 hl)
              subst hk0
              clear N1 W1 W2 F1 F2 hl
              go_wp2_with (first | (go_at_call 109; refine (HLE.out _).mono ?_; rintro e w1 ⟨rfl, rfl⟩) | (go_at_call 110; refine (HDI.out _).mono ?_; rintro e w1 ⟨rfl, rfl⟩))
              go_ret
              exact ⟨by rw [HW.out]; rfl, BEL.out _⟩
            · have tk : ((k : Int) == 0) = false := by simp; omega
              cases hdg : isD c with
              | true =>
                rw [hdg] at HDI
                have HN := N1 (by rw [hl, hdg]; rfl)
                have HF' := Lib.hid (F2.out hk0)
                clear N1 W1 W2 F1 F2 hl hdg hk0
                go_wp2_with (first | (go_at_call 109; refine (HLE.out _).mono ?_; rintro e w1 ⟨rfl, rfl⟩) | (go_at_call 110; refine (HDI.out _).mono ?_; rintro e w1 ⟨rfl, rfl⟩))
                go_roundw
                case rel => exact ⟨k + 1, by omega, rfl, HN, HF'⟩
                case measure => simp; omega
              | false =>
                rw [hdg] at HDI
                have HW := Lib.hid (W1.out (by rw [hl, hdg]; rfl))
                clear N1 W1 W2 F1 F2 hl hdg hk0
                go_wp2_with (first | (go_at_call 109; refine (HLE.out _).mono ?_; rintro e w1 ⟨rfl, rfl⟩) | (go_at_call 110; refine (HDI.out _).mono ?_; rintro e w1 ⟨rfl, rfl⟩))
                go_ret
                exact ⟨by rw [HW.out]; rfl, BEL.out _⟩
        · have hnx := fun ty => run_next_any (P := Tryz.prog) w ⟨s.toArray⟩ k ty hi
          obtain ⟨hh1, -⟩ := decode_high ⟨s.toArray⟩ k hi (by rw [hd]; omega)
          obtain ⟨q1, q2⟩ := high_isL hh1
          have LE := fun W => letter_any ((Utf8.decode ⟨s.toArray⟩ k).1 : Int) W
          have DI := fun W => digit_any ((Utf8.decode ⟨s.toArray⟩ k).1 : Int) W
          rw [q1] at LE
          rw [q2] at DI
          have HLE := Lib.hid LE
          have HDI := Lib.hid DI
          have hw : wd s = false := wd_bad hlt (by
            unfold bL bD
            obtain ⟨q3, q4⟩ := high_isL (n := s[k].toNat) (by omega)
            rw [q3, q4]; rfl)
          have HW := Lib.hid hw
          generalize (Utf8.decode ⟨s.toArray⟩ k).1 = c at *
          generalize (Utf8.decode ⟨s.toArray⟩ k).2 = m at *
          clear LE DI q1 q2 hw HA HF hd ha
          by_cases hk0 : k = 0
          · subst hk0
            go_wp2_with (first | (go_at_call 109; refine (HLE.out _).mono ?_; rintro e w1 ⟨rfl, rfl⟩) | (go_at_call 110; refine (HDI.out _).mono ?_; rintro e w1 ⟨rfl, rfl⟩))
            go_ret
            exact ⟨by rw [HW.out]; rfl, BEL.out _⟩
          · have tk : ((k : Int) == 0) = false := by simp; omega
            go_wp2_with (first | (go_at_call 109; refine (HLE.out _).mono ?_; rintro e w1 ⟨rfl, rfl⟩) | (go_at_call 110; refine (HDI.out _).mono ?_; rintro e w1 ⟨rfl, rfl⟩))
            go_ret
            exact ⟨by rw [HW.out]; rfl, BEL.out _⟩
      · have hnx := fun ty => run_next_end (P := Tryz.prog) w ⟨s.toArray⟩ k ty (by rw [HSZ.out]; exact hlt)
        have hw : wd s = true := wd_good hpos (HF.out (by omega)) (fun c hc => HA.out c (by rw [List.take_of_length_le (by omega)]; exact hc))
        have HW := Lib.hid hw
        clear hw
        go_wp2
        go_ret
        exact ⟨by rw [HW.out]; rfl, BEL.out _⟩
end Go.Proofs.YtgboboljgcfggaaGreatDoor

/- The walks and the words of the family machine, part 1: Words, ChkA, ChkB, Cmp, Phs, Mpl, RunA, RunB, RunC, RunD, RunE. -/
import Derived.WalkKit
import Derived.Deep.Draws
import Derived.Deep.QuietTactic
import Derived.BigQuiet
import Derived.BigRegion
import Derived.Laws.Rows
import Derived.Below
import Derived.Lib.Hide
import Derived.Test.YtdfllhmkgphcmaaDoorProg
import Derived.OwnWalk
import Derived.Laws.Cover1
import Derived.Sort.Walk0
import Derived.Deep.RegionWith
import Derived.WalkLawsBesides
import Derived.WalkSpells
import Derived.Orders
import Derived.StillTail
import Derived.Laws.OwnMore
import Derived.Maps.AppendAt
import Derived.RegionTactic
import Derived.Deep.RegionLaw
import Derived.Outline
import Derived.Deep.RegionHeld3
namespace Go.Proofs.YtdfllhmkgphcmaaDoor
open Go.RowKit

abbrev T := List UInt8
abbrev tv (x : T) : Value := Value.string ⟨x.toArray⟩
abbrev iv (n : Int) : Value := .int .i64 n
theorem add_block (a : Addr) (n : Nat) : (a.add n).block = a.block := by unfold Addr.add; split <;> rfl
theorem add_add' (a : Addr) (i j : Nat) : (a.add i).add j = a.add (i + j) := by
  unfold Addr.add
  by_cases hi : i = 0 <;> by_cases hj : j = 0 <;> simp [hi, hj, Nat.add_assoc]

/-- From an address on the records of a list lie in memory, n cells each. -/
def RD {α : Type} (n : Nat) (cs : α → List Value) (w : World) (A : Option Addr) (L : List α) : Prop :=
  L = [] ∨ ∃ a, A = some a ∧ a.block < w.heap.size ∧ ∀ j x, L[j]? = some x → ∀ i v, (cs x)[i]? = some v → w.cell? (a.add (j * n + i)) = some v
section
variable {α : Type} {n : Nat} {cs : α → List Value} {w w' : World} {A : Option Addr} {L : List α}
theorem RD.nil : RD n cs w A ([] : List α) := .inl rfl
theorem RD.at (h : RD n cs w A L) {k : Nat} (hk : k < L.length) : ∃ a, A = some a ∧ a.block < w.heap.size ∧ ∀ i v, (cs L[k])[i]? = some v → w.cell? (a.add (k * n + i)) = some v := by
  rcases h with rfl | ⟨a, e, hb, hc⟩
  · simp at hk
  · exact ⟨a, e, hb, hc k _ (List.getElem?_eq_getElem hk)⟩
theorem RD.keep (h : RD n cs w A L) (hs : w.heap.size ≤ w'.heap.size) (hk : ∀ p : Addr, p.block < w.heap.size → w'.cell? p = w.cell? p) : RD n cs w' A L := by
  rcases h with rfl | ⟨a, e, hb, hc⟩
  · exact .inl rfl
  · exact .inr ⟨a, e, by omega, fun j x hx i v hv => (hk _ (by rw [add_block]; exact hb)).trans (hc j x hx i v hv)⟩
theorem RD.below (h : RD n cs w A L) (hb : Below w.heap.size w w') : RD n cs w' A L := h.keep hb.size fun _ hp => hb.cell hp
end

/-- An instruction. -/
structure Ins where
  op : Int
  a : Int
  b : Int
  name : T
deriving DecidableEq
def Ins.cs (x : Ins) : List Value := [iv x.op, iv x.a, iv x.b, tv x.name]
/-- A block as it lies in memory. -/
structure Blk where
  cap : Int
  param : Bool
  A : Option Addr
  c : Nat
  ins : List Ins
def Blk.cs (x : Blk) : List Value := [iv x.cap, .bool x.param, .slice x.A x.ins.length x.c]
/-- A start. -/
structure Stt where
  pack : T
  id : Int
  block : Int
deriving DecidableEq
def Stt.cs (x : Stt) : List Value := [tv x.pack, iv x.id, iv x.block]
/-- A program as it lies in memory. -/
structure Prg where
  bA : Option Addr
  bc : Nat
  bs : List Blk
  sA : Option Addr
  sc : Nat
  ss : List Stt
def Prg.v (p : Prg) : Value := .agg #[.slice p.bA p.bs.length p.bc, .slice p.sA p.ss.length p.sc]
structure Prg.Rd (w : World) (p : Prg) : Prop where
  b : RD 3 Blk.cs w p.bA p.bs
  i : ∀ x ∈ p.bs, RD 4 Ins.cs w x.A x.ins
  s : RD 3 Stt.cs w p.sA p.ss
theorem Prg.Rd.below {w w' : World} {p : Prg} (h : p.Rd w) (hb : Below w.heap.size w w') : p.Rd w' := ⟨h.b.below hb, fun x hx => (h.i x hx).below hb, h.s.below hb⟩

/-- A plain block's number. -/
def plainB (bs : List Blk) (n : Int) : Bool := decide (0 ≤ n) && (match bs[n.toNat]? with | some b => (b.cap == 0) && !b.param | none => false)

theorem fld_add (a : Addr) (i : Nat) (hi : i ≠ 0) : a.add i = ⟨a.block, a.off + i, none⟩ := by unfold Addr.add; rw [if_neg hi]
theorem RD.blk {w : World} {A : Option Addr} {L : List Blk} (h : RD 3 Blk.cs w A L) {k : Nat} (hk : k < L.length) : ∃ a a1 : Addr, A = some a ∧ a.add (k * 3) = a1 ∧ a1.block < w.heap.size ∧ w.cell? a1 = some (.int .i64 L[k].cap) ∧ w.cell? ⟨a1.block, a1.off + 1, none⟩ = some (.bool L[k].param) ∧ w.cell? ⟨a1.block, a1.off + 2, none⟩ = some (.slice L[k].A L[k].ins.length L[k].c) := by
  obtain ⟨a, e, hb, hc⟩ := h.at hk
  refine ⟨a, _, e, rfl, by rw [add_block]; exact hb, by simpa using hc 0 _ rfl, ?_, ?_⟩
  · rw [← fld_add _ 1 (by omega), add_add']; exact hc 1 _ rfl
  · rw [← fld_add _ 2 (by omega), add_add']; exact hc 2 _ rfl
theorem RD.ins {w : World} {A : Option Addr} {L : List Ins} (h : RD 4 Ins.cs w A L) {k : Nat} (hk : k < L.length) : ∃ a a1 : Addr, A = some a ∧ a.add (k * 4) = a1 ∧ a1.block < w.heap.size ∧ w.cell? a1 = some (.int .i64 L[k].op) ∧ w.cell? ⟨a1.block, a1.off + 1, none⟩ = some (.int .i64 L[k].a) ∧ w.cell? ⟨a1.block, a1.off + 2, none⟩ = some (.int .i64 L[k].b) ∧ w.cell? ⟨a1.block, a1.off + 3, none⟩ = some (.string ⟨L[k].name.toArray⟩) := by
  obtain ⟨a, e, hb, hc⟩ := h.at hk
  refine ⟨a, _, e, rfl, by rw [add_block]; exact hb, by simpa using hc 0 _ rfl, ?_, ?_, ?_⟩
  · rw [← fld_add _ 1 (by omega), add_add']; exact hc 1 _ rfl
  · rw [← fld_add _ 2 (by omega), add_add']; exact hc 2 _ rfl
  · rw [← fld_add _ 3 (by omega), add_add']; exact hc 3 _ rfl
theorem RD.stt {w : World} {A : Option Addr} {L : List Stt} (h : RD 3 Stt.cs w A L) {k : Nat} (hk : k < L.length) : ∃ a a1 : Addr, A = some a ∧ a.add (k * 3) = a1 ∧ a1.block < w.heap.size ∧ w.cell? a1 = some (.string ⟨L[k].pack.toArray⟩) ∧ w.cell? ⟨a1.block, a1.off + 1, none⟩ = some (.int .i64 L[k].id) ∧ w.cell? ⟨a1.block, a1.off + 2, none⟩ = some (.int .i64 L[k].block) := by
  obtain ⟨a, e, hb, hc⟩ := h.at hk
  refine ⟨a, _, e, rfl, by rw [add_block]; exact hb, by simpa using hc 0 _ rfl, ?_, ?_⟩
  · rw [← fld_add _ 1 (by omega), add_add']; exact hc 1 _ rfl
  · rw [← fld_add _ 2 (by omega), add_add']; exact hc 2 _ rfl
theorem cell_al {w : World} {a : Addr} {v : Value} (h : w.cell? a = some v) (hb : a.block < w.heap.size) (o : Obj) : (w.alloc o).cell? a = some v := by
  rw [((Below.refl _ w).alloc (Nat.le_refl _) o).cell hb]; exact h

set_option maxRecDepth 100000 in
theorem plain_any (p : Prg) (n : Int) (w : World) (hp : p.Rd w) :
    Calls Tryd.prog 27 #[p.v, .int .i64 n] w fun e w' => e = .returned (.bool (plainB p.bs n)) ∧ Below w.heap.size w w' := by
  unfold Prg.v
  have bel : ∀ o, Below w.heap.size w (w.alloc o) := fun o => (Below.refl _ _).alloc (Nat.le_refl _) _
  by_cases h1 : 0 ≤ n
  · obtain ⟨N, rfl⟩ : ∃ N : Nat, n = N := ⟨n.toNat, by omega⟩
    by_cases h2 : N < p.bs.length
    · obtain ⟨a, a1, e, ea, hb, c0, c1, -⟩ := hp.b.blk h2
      have hs : plainB p.bs N = ((p.bs[N].cap == 0) && !p.bs[N].param) := by simp [plainB, h2]
      rw [e, hs]
      have d0 := fun o => cell_al c0 hb o
      have d1 := fun o => cell_al c1 hb o
      have t2 : (N : Int) < (p.bs.length : Int) := by omega
      generalize p.bs[N].cap = c at *
      generalize p.bs[N].param = q at *
      have BEL := Lib.hid bel
      clear hs bel hp e
      cases hq : (c == 0) with
      | false =>
        go_enter Tryd.func27, Tryd.ntmps27
        go_wp2
        go_ret
        exact ⟨rfl, BEL.out _⟩
      | true =>
        go_enter Tryd.func27, Tryd.ntmps27
        go_wp2
        go_ret
        exact ⟨rfl, BEL.out _⟩
    · have hs : plainB p.bs N = false := by simp [plainB, h2]
      have t2 : decide ((N : Int) < (p.bs.length : Int)) = false := by simp; omega
      rw [hs]
      go_enter Tryd.func27, Tryd.ntmps27
      go_wp2
      go_ret
      exact ⟨rfl, bel _⟩
  · have hs : plainB p.bs n = false := by simp [plainB, h1]
    have t2 : decide (0 ≤ n) = false := by simp; omega
    rw [hs]
    go_enter Tryd.func27, Tryd.ntmps27
    go_wp2
    go_ret
    exact ⟨rfl, bel _⟩
end Go.Proofs.YtdfllhmkgphcmaaDoor
namespace Go.Proofs.YtdfllhmkgphcmaaDoor
open Go.RowKit

theorem results_tmp4 {fn : Func} {t u v x : Tmp} (h : fn.results = #[.tmp t, .tmp u, .tmp v, .tmp x]) (tmps : Array Value) (P : Program) (w : World) :
    (results fn tmps).run P w = .ok (.tuple #[tmps.getD t undef, tmps.getD u undef, tmps.getD v undef, tmps.getD x undef]) w := by
  simp [results, h]
def fA (op : Int) : Bool := op == 1 || op == 2 || op == 3 || op == 4 || op == 5 || op == 8 || op == 9 || op == 13 || op == 15 || op == 16
def fB (op : Int) : Bool := op == 16
def fN (op : Int) : Bool := op == 10
def fK (op : Int) : Bool := fA op || op == 10 || op == 6 || op == 7 || op == 11 || op == 12 || op == 14
theorem op_split (op : Int) : op = 1 ∨ op = 2 ∨ op = 3 ∨ op = 4 ∨ op = 5 ∨ op = 6 ∨ op = 7 ∨ op = 8 ∨ op = 9 ∨ op = 10 ∨ op = 11 ∨ op = 12 ∨ op = 13 ∨ op = 14 ∨ op = 15 ∨ op = 16 ∨ ((op == 1) = false ∧ (op == 2) = false ∧ (op == 3) = false ∧ (op == 4) = false ∧ (op == 5) = false ∧ (op == 6) = false ∧ (op == 7) = false ∧ (op == 8) = false ∧ (op == 9) = false ∧ (op == 10) = false ∧ (op == 11) = false ∧ (op == 12) = false ∧ (op == 13) = false ∧ (op == 14) = false ∧ (op == 15) = false ∧ (op == 16) = false) := by
  by_cases h : 1 ≤ op ∧ op ≤ 16
  · omega
  · refine .inr (.inr (.inr (.inr (.inr (.inr (.inr (.inr (.inr (.inr (.inr (.inr (.inr (.inr (.inr (.inr (⟨?_, ?_, ?_, ?_, ?_, ?_, ?_, ?_, ?_, ?_, ?_, ?_, ?_, ?_, ?_, ?_⟩)))))))))))))))) <;> (simp; omega)

set_option maxRecDepth 100000 in
set_option maxHeartbeats 1000000 in
theorem fields_any (op : Int) (w : World) : Calls Tryd.prog 40 #[.int .i64 op] w fun e w' => e = .returned (.tuple #[.bool (fA op), .bool (fB op), .bool (fN op), .bool (fK op)]) ∧ w' = w := by
  rcases op_split op with rfl | rfl | rfl | rfl | rfl | rfl | rfl | rfl | rfl | rfl | rfl | rfl | rfl | rfl | rfl | rfl | ⟨h1, h2, h3, h4, h5, h6, h7, h8, h9, h10, h11, h12, h13, h14, h15, h16⟩
  rotate_right
  · have e1 : fA op = false := by simp [fA, *]
    have e2 : fB op = false := by simp [fB, *]
    have e3 : fN op = false := by simp [fN, *]
    have e4 : fK op = false := by simp [fK, *]
    rw [e1, e2, e3, e4]
    clear e1 e2 e3 e4
    go_enter Tryd.func40, Tryd.ntmps40
    go_wp2
    (try simp only [Exit.inBlock, Exit.then])
    refine bodyPost_ret (results_tmp4 rfl _ _ _) rfl ?_
    exact ⟨rfl, rfl⟩
  all_goals
    go_enter Tryd.func40, Tryd.ntmps40
    go_wp2
    (try simp only [Exit.inBlock, Exit.then])
    refine bodyPost_ret (results_tmp4 rfl _ _ _) rfl ?_
    exact ⟨rfl, rfl⟩

set_option maxRecDepth 100000 in
set_option maxHeartbeats 1000000 in
theorem shape_any (op : Int) (w : World) : Calls Tryd.prog 48 #[.int .i64 op] w fun e w' => e = .returned (.tuple #[.bool (fA op), .bool (fB op), .bool (fN op), .bool (fK op)]) ∧ w' = w := by
  rcases op_split op with rfl | rfl | rfl | rfl | rfl | rfl | rfl | rfl | rfl | rfl | rfl | rfl | rfl | rfl | rfl | rfl | ⟨h1, h2, h3, h4, h5, h6, h7, h8, h9, h10, h11, h12, h13, h14, h15, h16⟩
  rotate_right
  · have e1 : fA op = false := by simp [fA, *]
    have e2 : fB op = false := by simp [fB, *]
    have e3 : fN op = false := by simp [fN, *]
    have e4 : fK op = false := by simp [fK, *]
    rw [e1, e2, e3, e4]
    clear e1 e2 e3 e4
    go_enter Tryd.func48, Tryd.ntmps48
    go_wp2
    (try simp only [Exit.inBlock, Exit.then])
    refine bodyPost_ret (results_tmp4 rfl _ _ _) rfl ?_
    exact ⟨rfl, rfl⟩
  all_goals
    go_enter Tryd.func48, Tryd.ntmps48
    go_wp2
    (try simp only [Exit.inBlock, Exit.then])
    refine bodyPost_ret (results_tmp4 rfl _ _ _) rfl ?_
    exact ⟨rfl, rfl⟩

set_option maxRecDepth 100000 in
theorem within_any (n l m : Int) (w : World) : Calls Tryd.prog 29 #[.int .i64 n, .int .i64 l, .int .i64 m] w fun e w' => e = .returned (.bool (decide (l ≤ n) && decide (n ≤ m))) ∧ w' = w := by
  cases h : decide (l ≤ n) with
  | false =>
    go_enter Tryd.func29, Tryd.ntmps29
    go_wp2
    go_ret
    exact ⟨rfl, rfl⟩
  | true =>
    go_enter Tryd.func29, Tryd.ntmps29
    go_wp2
    go_ret
    exact ⟨rfl, rfl⟩
def Blk.v (x : Blk) : Value := .agg #[.int .i64 x.cap, .bool x.param, .slice x.A x.ins.length x.c]
def Ins.v (x : Ins) : Value := .agg #[.int .i64 x.op, .int .i64 x.a, .int .i64 x.b, .string ⟨x.name.toArray⟩]
set_option maxRecDepth 100000 in
theorem rPlain_any (b : Blk) (w : World) : Calls Tryd.prog 32 #[b.v] w fun e w' => e = .returned (.bool ((b.cap == 0) && !b.param)) ∧ Below w.heap.size w w' := by
  unfold Blk.v
  have bel : ∀ o, Below w.heap.size w (w.alloc o) := fun o => (Below.refl _ _).alloc (Nat.le_refl _) _
  cases h : (b.cap == 0) with
  | false =>
    go_enter Tryd.func32, Tryd.ntmps32
    go_wp2
    go_ret
    exact ⟨rfl, bel _⟩
  | true =>
    go_enter Tryd.func32, Tryd.ntmps32
    go_wp2
    go_ret
    exact ⟨rfl, bel _⟩
end Go.Proofs.YtdfllhmkgphcmaaDoor
namespace Go.Proofs.YtdfllhmkgphcmaaDoor
open Go.RowKit

def closB (bs : List Blk) (n : Int) : Bool := decide (0 ≤ n) && (match bs[n.toNat]? with | some b => b.param | none => false)
/-- Whether the numbers of an instruction are as required. -/
def inR (bs : List Blk) (nb : Nat) (op a b : Int) : Bool :=
  if op == 1 then decide (-999999999 ≤ a) && decide (a ≤ 999999999)
  else if op == 2 then a == 0 || a == 1
  else if op == 3 then decide (0 ≤ a) && decide (a ≤ 1000)
  else if op == 4 then plainB bs a
  else if op == 5 then closB bs a
  else if op == 8 || op == 9 || op == 13 then decide (0 ≤ a) && decide (a ≤ nb)
  else if op == 15 then decide (1 ≤ a) && decide (a ≤ 1000)
  else if op == 16 then decide (1 ≤ b) && decide (b ≤ 999999) && decide (0 ≤ a) && decide (a ≤ b)
  else true
theorem cell_al3 {w : World} {a : Addr} {v : Value} (h : w.cell? a = some v) (hb : a.block < w.heap.size) (o o' o'' : Obj) : (((w.alloc o).alloc o').alloc o'').cell? a = some v :=
  cell_al (cell_al (cell_al h hb o) (by simp; omega) o') (by simp; omega) o''
theorem bel3 (w : World) (o o' o'' : Obj) : Below w.heap.size w (((w.alloc o).alloc o').alloc o'') := (((Below.refl _ _).alloc (Nat.le_refl _) _).alloc (by simp) _).alloc (by simp; omega) _
theorem two_bool (a : Int) : (decide (0 ≤ a) && decide (a ≤ 1)) = (a == 0 || a == 1) := by
  by_cases h0 : a = 0
  · subst h0; rfl
  · by_cases h1 : a = 1
    · subst h1; rfl
    · have e0 : (a == 0) = false := by simpa using h0
      have e1 : (a == 1) = false := by simpa using h1
      rw [e0, e1]
      by_cases h : 0 ≤ a
      · have : decide (a ≤ 1) = false := by simp; omega
        rw [this, Bool.and_false]; rfl
      · have : decide (0 ≤ a) = false := by simp; omega
        rw [this]; rfl

set_option maxRecDepth 100000 in
set_option maxHeartbeats 4000000 in
theorem inRange_any (p : Prg) (x : Blk) (op a b : Int) (name : T) (w : World) (hp : p.Rd w) :
    Calls Tryd.prog 42 #[p.v, x.v, (Ins.mk op a b name).v] w fun e w' => e = .returned (.bool (inR p.bs x.ins.length op a b)) ∧ Below w.heap.size w w' := by
  have PL := fun (W : World) (hb : Below w.heap.size w W) => plain_any p a W (hp.below hb)
  unfold Prg.v Blk.v Ins.v
  simp only []
  have HPL := Lib.hid PL
  clear PL
  have HP := Lib.hid hp
  clear hp
  rcases op_split op with rfl | rfl | rfl | rfl | rfl | rfl | rfl | rfl | rfl | rfl | rfl | rfl | rfl | rfl | rfl | rfl | ⟨h1, h2, h3, h4, h5, h6, h7, h8, h9, h10, h11, h12, h13, h14, h15, h16⟩
  · -- 1
    have hs : inR p.bs x.ins.length 1 a b = (decide (-999999999 ≤ a) && decide (a ≤ 999999999)) := by simp [inR]
    rw [hs]
    clear hs
    cases h : decide (-999999999 ≤ a) with
    | false =>
      go_enter Tryd.func42, Tryd.ntmps42
      go_wp2
      go_ret
      exact ⟨rfl, bel3 _ _ _ _⟩
    | true =>
      go_enter Tryd.func42, Tryd.ntmps42
      go_wp2
      go_ret
      exact ⟨rfl, bel3 _ _ _ _⟩
  · -- 2
    have hs : inR p.bs x.ins.length 2 a b = (a == 0 || a == 1) := by simp [inR]
    rw [hs]
    clear hs
    cases h : (a == 0) with
    | false =>
      go_enter Tryd.func42, Tryd.ntmps42
      go_wp2
      go_ret
      exact ⟨rfl, bel3 _ _ _ _⟩
    | true =>
      go_enter Tryd.func42, Tryd.ntmps42
      go_wp2
      go_ret
      exact ⟨rfl, bel3 _ _ _ _⟩
  · -- 3
    have hs : inR p.bs x.ins.length 3 a b = (decide (0 ≤ a) && decide (a ≤ 1000)) := by simp [inR]
    rw [hs]
    clear hs
    cases h : decide (0 ≤ a) with
    | false =>
      go_enter Tryd.func42, Tryd.ntmps42
      go_wp2
      go_ret
      exact ⟨rfl, bel3 _ _ _ _⟩
    | true =>
      go_enter Tryd.func42, Tryd.ntmps42
      go_wp2
      go_ret
      exact ⟨rfl, bel3 _ _ _ _⟩
  · -- 4
    have hs : inR p.bs x.ins.length 4 a b = plainB p.bs a := by simp [inR]
    rw [hs]
    clear hs
    go_enter Tryd.func42, Tryd.ntmps42
    go_wp2_with (go_at_call 27; refine (HPL.out _ (bel3 _ _ _ _)).mono ?_; rintro e w1 ⟨rfl, k1⟩)
    go_ret
    exact ⟨rfl, (bel3 w _ _ _).trans (k1.mono (bel3 w _ _ _).size)⟩
  · -- 5
    have hs : inR p.bs x.ins.length 5 a b = closB p.bs a := by simp [inR]
    rw [hs]
    clear hs
    by_cases h1 : 0 ≤ a
    · obtain ⟨M, rfl⟩ : ∃ M : Nat, a = M := ⟨a.toNat, by omega⟩
      by_cases h2 : M < p.bs.length
      · obtain ⟨q, q1, e, ea, hb, c0, c1, -⟩ := HP.out.b.blk h2
        have hs : closB p.bs M = p.bs[M].param := by simp [closB, h2]
        rw [e, hs]
        have d1 := fun o o' o'' => cell_al3 c1 hb o o' o''
        have t2 : (M : Int) < (p.bs.length : Int) := by omega
        generalize p.bs[M].param = pr at *
        clear hs e HPL HP c0 c1
        go_enter Tryd.func42, Tryd.ntmps42
        go_wp2
        go_ret
        exact ⟨rfl, bel3 _ _ _ _⟩
      · have hs : closB p.bs M = false := by simp [closB, h2]
        have t2 : decide ((M : Int) < (p.bs.length : Int)) = false := by simp; omega
        rw [hs]
        go_enter Tryd.func42, Tryd.ntmps42
        go_wp2
        go_ret
        exact ⟨rfl, bel3 _ _ _ _⟩
    · have hs : closB p.bs a = false := by simp [closB, h1]
      have t2 : decide (0 ≤ a) = false := by simp; omega
      rw [hs]
      go_enter Tryd.func42, Tryd.ntmps42
      go_wp2
      go_ret
      exact ⟨rfl, bel3 _ _ _ _⟩
  · -- 6
    have hs : inR p.bs x.ins.length 6 a b = true := by simp [inR]
    rw [hs]
    clear hs
    go_enter Tryd.func42, Tryd.ntmps42
    go_wp2
    go_ret
    exact ⟨rfl, bel3 _ _ _ _⟩
  · -- 7
    have hs : inR p.bs x.ins.length 7 a b = true := by simp [inR]
    rw [hs]
    clear hs
    go_enter Tryd.func42, Tryd.ntmps42
    go_wp2
    go_ret
    exact ⟨rfl, bel3 _ _ _ _⟩
  · -- 8
    have hs : inR p.bs x.ins.length 8 a b = (decide (0 ≤ a) && decide (a ≤ (x.ins.length : Int))) := by simp [inR]
    rw [hs]
    clear hs
    cases h : decide (0 ≤ a) with
    | false =>
      go_enter Tryd.func42, Tryd.ntmps42
      go_wp2
      go_ret
      exact ⟨rfl, bel3 _ _ _ _⟩
    | true =>
      go_enter Tryd.func42, Tryd.ntmps42
      go_wp2
      go_ret
      exact ⟨rfl, bel3 _ _ _ _⟩
  · -- 9
    have hs : inR p.bs x.ins.length 9 a b = (decide (0 ≤ a) && decide (a ≤ (x.ins.length : Int))) := by simp [inR]
    rw [hs]
    clear hs
    cases h : decide (0 ≤ a) with
    | false =>
      go_enter Tryd.func42, Tryd.ntmps42
      go_wp2
      go_ret
      exact ⟨rfl, bel3 _ _ _ _⟩
    | true =>
      go_enter Tryd.func42, Tryd.ntmps42
      go_wp2
      go_ret
      exact ⟨rfl, bel3 _ _ _ _⟩
  · -- 10
    have hs : inR p.bs x.ins.length 10 a b = true := by simp [inR]
    rw [hs]
    clear hs
    go_enter Tryd.func42, Tryd.ntmps42
    go_wp2
    go_ret
    exact ⟨rfl, bel3 _ _ _ _⟩
  · -- 11
    have hs : inR p.bs x.ins.length 11 a b = true := by simp [inR]
    rw [hs]
    clear hs
    go_enter Tryd.func42, Tryd.ntmps42
    go_wp2
    go_ret
    exact ⟨rfl, bel3 _ _ _ _⟩
  · -- 12
    have hs : inR p.bs x.ins.length 12 a b = true := by simp [inR]
    rw [hs]
    clear hs
    go_enter Tryd.func42, Tryd.ntmps42
    go_wp2
    go_ret
    exact ⟨rfl, bel3 _ _ _ _⟩
  · -- 13
    have hs : inR p.bs x.ins.length 13 a b = (decide (0 ≤ a) && decide (a ≤ (x.ins.length : Int))) := by simp [inR]
    rw [hs]
    clear hs
    cases h : decide (0 ≤ a) with
    | false =>
      go_enter Tryd.func42, Tryd.ntmps42
      go_wp2
      go_ret
      exact ⟨rfl, bel3 _ _ _ _⟩
    | true =>
      go_enter Tryd.func42, Tryd.ntmps42
      go_wp2
      go_ret
      exact ⟨rfl, bel3 _ _ _ _⟩
  · -- 14
    have hs : inR p.bs x.ins.length 14 a b = true := by simp [inR]
    rw [hs]
    clear hs
    go_enter Tryd.func42, Tryd.ntmps42
    go_wp2
    go_ret
    exact ⟨rfl, bel3 _ _ _ _⟩
  · -- 15
    have hs : inR p.bs x.ins.length 15 a b = (decide (1 ≤ a) && decide (a ≤ 1000)) := by simp [inR]
    rw [hs]
    clear hs
    cases h : decide (1 ≤ a) with
    | false =>
      go_enter Tryd.func42, Tryd.ntmps42
      go_wp2
      go_ret
      exact ⟨rfl, bel3 _ _ _ _⟩
    | true =>
      go_enter Tryd.func42, Tryd.ntmps42
      go_wp2
      go_ret
      exact ⟨rfl, bel3 _ _ _ _⟩
  · -- 16
    have hs : inR p.bs x.ins.length 16 a b = (decide (1 ≤ b) && decide (b ≤ 999999) && decide (0 ≤ a) && decide (a ≤ b)) := by simp [inR]
    rw [hs]
    clear hs
    cases ha : decide (1 ≤ b) <;> cases hb : decide (b ≤ 999999) <;> cases hc : decide (0 ≤ a)
    all_goals
      go_enter Tryd.func42, Tryd.ntmps42
      go_wp2
      go_ret
      exact ⟨rfl, bel3 _ _ _ _⟩
  · have hs : inR p.bs x.ins.length op a b = true := by simp [inR, *]
    rw [hs]
    clear hs
    go_enter Tryd.func42, Tryd.ntmps42
    go_wp2
    go_ret
    exact ⟨rfl, bel3 _ _ _ _⟩

set_option maxRecDepth 100000 in
set_option maxHeartbeats 4000000 in
theorem ranged_any (p : Prg) (x : Blk) (op a b : Int) (name : T) (w : World) (hp : p.Rd w) (hpl : p.bs.length ≤ 9223372036854775807) :
    Calls Tryd.prog 49 #[p.v, x.v, (Ins.mk op a b name).v] w fun e w' => e = .returned (.bool (inR p.bs x.ins.length op a b)) ∧ Below w.heap.size w w' := by
  have PL := fun (W : World) (hb : Below w.heap.size w W) => (fun (q : Blk) => rPlain_any q W)
  unfold Prg.v Blk.v Ins.v
  simp only []
  have HPL := Lib.hid PL
  clear PL
  have HP := Lib.hid hp
  clear hp
  rcases op_split op with rfl | rfl | rfl | rfl | rfl | rfl | rfl | rfl | rfl | rfl | rfl | rfl | rfl | rfl | rfl | rfl | ⟨h1, h2, h3, h4, h5, h6, h7, h8, h9, h10, h11, h12, h13, h14, h15, h16⟩
  · -- 1
    have hs : inR p.bs x.ins.length 1 a b = (decide (-999999999 ≤ a) && decide (a ≤ 999999999)) := by simp [inR]
    rw [hs]
    clear hs
    go_enter Tryd.func49, Tryd.ntmps49
    go_wp2_with (go_at_call 29; refine (within_any _ _ _ _).mono ?_; rintro e w1 ⟨rfl, rfl⟩)
    go_ret
    exact ⟨rfl, bel3 _ _ _ _⟩
  · -- 2
    have hs : inR p.bs x.ins.length 2 a b = (decide (0 ≤ a) && decide (a ≤ 1)) := by rw [two_bool]; simp [inR]
    rw [hs]
    clear hs
    go_enter Tryd.func49, Tryd.ntmps49
    go_wp2_with (go_at_call 29; refine (within_any _ _ _ _).mono ?_; rintro e w1 ⟨rfl, rfl⟩)
    go_ret
    exact ⟨rfl, bel3 _ _ _ _⟩
  · -- 3
    have hs : inR p.bs x.ins.length 3 a b = (decide (0 ≤ a) && decide (a ≤ 1000)) := by simp [inR]
    rw [hs]
    clear hs
    go_enter Tryd.func49, Tryd.ntmps49
    go_wp2_with (go_at_call 29; refine (within_any _ _ _ _).mono ?_; rintro e w1 ⟨rfl, rfl⟩)
    go_ret
    exact ⟨rfl, bel3 _ _ _ _⟩
  · -- 4
    have hs : inR p.bs x.ins.length 4 a b = plainB p.bs a := by simp [inR]
    rw [hs]
    clear hs
    by_cases h1 : 0 ≤ a
    · obtain ⟨M, rfl⟩ : ∃ M : Nat, a = M := ⟨a.toNat, by omega⟩
      by_cases h2 : M < p.bs.length
      · obtain ⟨q, q1, e, ea, hb, c0, c1, c2⟩ := HP.out.b.blk h2
        have hs : plainB p.bs M = ((p.bs[M].cap == 0) && !p.bs[M].param) := by simp [plainB, h2]
        rw [e, hs]
        have d0 := fun o o' o'' => cell_al3 c0 hb o o' o''
        have d1 := fun o o' o'' => cell_al3 c1 hb o o' o''
        have d2 := fun o o' o'' => cell_al3 c2 hb o o' o''
        have t2 : (M : Int) < (p.bs.length : Int) := by omega
        have t3 : (M : Int) ≤ (p.bs.length : Int) - 1 := by omega
        have t0 : 0 < p.bs.length := by omega
        have PB := fun W hb => HPL.out W hb p.bs[M]
        unfold Blk.v at PB
        have HPB := Lib.hid PB
        generalize p.bs[M].param = pr at *
        generalize p.bs[M].cap = pc at *
        generalize p.bs[M].A = pA at *
        generalize p.bs[M].ins.length = pl at *
        generalize p.bs[M].c = pcc at *
        clear hs e HPL HP c0 c1 c2 PB
        go_enter Tryd.func49, Tryd.ntmps49
        go_wp2_with (first | (go_at_call 29; refine (within_any _ _ _ _).mono ?_; rintro e w1 ⟨rfl, rfl⟩) | (go_at_call 32; refine (HPB.out _ (bel3 _ _ _ _)).mono ?_; rintro e w2 ⟨rfl, k2⟩))
        go_ret
        first | exact ⟨rfl, bel3 _ _ _ _⟩ | exact ⟨rfl, (bel3 w _ _ _).trans (k2.mono (bel3 w _ _ _).size)⟩
      · have hs : plainB p.bs M = false := by simp [plainB, h2]
        have t2 : ¬ (M : Int) ≤ (p.bs.length : Int) - 1 := by omega
        rw [hs]
        go_enter Tryd.func49, Tryd.ntmps49
        go_wp2_with (go_at_call 29; refine (within_any _ _ _ _).mono ?_; rintro e w1 ⟨rfl, rfl⟩)
        go_ret
        exact ⟨rfl, bel3 _ _ _ _⟩
    · have hs : plainB p.bs a = false := by simp [plainB, h1]
      have t2 : ¬ 0 ≤ a := by omega
      rw [hs]
      go_enter Tryd.func49, Tryd.ntmps49
      go_wp2_with (go_at_call 29; refine (within_any _ _ _ _).mono ?_; rintro e w1 ⟨rfl, rfl⟩)
      go_ret
      exact ⟨rfl, bel3 _ _ _ _⟩
  · -- 5
    have hs : inR p.bs x.ins.length 5 a b = closB p.bs a := by simp [inR]
    rw [hs]
    clear hs
    by_cases h1 : 0 ≤ a
    · obtain ⟨M, rfl⟩ : ∃ M : Nat, a = M := ⟨a.toNat, by omega⟩
      by_cases h2 : M < p.bs.length
      · obtain ⟨q, q1, e, ea, hb, c0, c1, c2⟩ := HP.out.b.blk h2
        have hs : closB p.bs M = p.bs[M].param := by simp [closB, h2]
        rw [e, hs]
        have d0 := fun o o' o'' => cell_al3 c0 hb o o' o''
        have d1 := fun o o' o'' => cell_al3 c1 hb o o' o''
        have d2 := fun o o' o'' => cell_al3 c2 hb o o' o''
        have t2 : (M : Int) < (p.bs.length : Int) := by omega
        have t3 : (M : Int) ≤ (p.bs.length : Int) - 1 := by omega
        have t0 : 0 < p.bs.length := by omega
        have PB := fun W hb => HPL.out W hb p.bs[M]
        unfold Blk.v at PB
        have HPB := Lib.hid PB
        generalize p.bs[M].param = pr at *
        generalize p.bs[M].cap = pc at *
        generalize p.bs[M].A = pA at *
        generalize p.bs[M].ins.length = pl at *
        generalize p.bs[M].c = pcc at *
        clear hs e HPL HP c0 c1 c2 PB
        go_enter Tryd.func49, Tryd.ntmps49
        go_wp2_with (first | (go_at_call 29; refine (within_any _ _ _ _).mono ?_; rintro e w1 ⟨rfl, rfl⟩) | (go_at_call 32; refine (HPB.out _ (bel3 _ _ _ _)).mono ?_; rintro e w2 ⟨rfl, k2⟩))
        go_ret
        first | exact ⟨rfl, bel3 _ _ _ _⟩ | exact ⟨rfl, (bel3 w _ _ _).trans (k2.mono (bel3 w _ _ _).size)⟩
      · have hs : closB p.bs M = false := by simp [closB, h2]
        have t2 : ¬ (M : Int) ≤ (p.bs.length : Int) - 1 := by omega
        rw [hs]
        go_enter Tryd.func49, Tryd.ntmps49
        go_wp2_with (go_at_call 29; refine (within_any _ _ _ _).mono ?_; rintro e w1 ⟨rfl, rfl⟩)
        go_ret
        exact ⟨rfl, bel3 _ _ _ _⟩
    · have hs : closB p.bs a = false := by simp [closB, h1]
      have t2 : ¬ 0 ≤ a := by omega
      rw [hs]
      go_enter Tryd.func49, Tryd.ntmps49
      go_wp2_with (go_at_call 29; refine (within_any _ _ _ _).mono ?_; rintro e w1 ⟨rfl, rfl⟩)
      go_ret
      exact ⟨rfl, bel3 _ _ _ _⟩
  · -- 6
    have hs : inR p.bs x.ins.length 6 a b = true := by simp [inR]
    rw [hs]
    clear hs
    go_enter Tryd.func49, Tryd.ntmps49
    go_wp2
    go_ret
    exact ⟨rfl, bel3 _ _ _ _⟩
  · -- 7
    have hs : inR p.bs x.ins.length 7 a b = true := by simp [inR]
    rw [hs]
    clear hs
    go_enter Tryd.func49, Tryd.ntmps49
    go_wp2
    go_ret
    exact ⟨rfl, bel3 _ _ _ _⟩
  · -- 8
    have hs : inR p.bs x.ins.length 8 a b = (decide (0 ≤ a) && decide (a ≤ (x.ins.length : Int))) := by simp [inR]
    rw [hs]
    clear hs
    go_enter Tryd.func49, Tryd.ntmps49
    go_wp2_with (go_at_call 29; refine (within_any _ _ _ _).mono ?_; rintro e w1 ⟨rfl, rfl⟩)
    go_ret
    exact ⟨rfl, bel3 _ _ _ _⟩
  · -- 9
    have hs : inR p.bs x.ins.length 9 a b = (decide (0 ≤ a) && decide (a ≤ (x.ins.length : Int))) := by simp [inR]
    rw [hs]
    clear hs
    go_enter Tryd.func49, Tryd.ntmps49
    go_wp2_with (go_at_call 29; refine (within_any _ _ _ _).mono ?_; rintro e w1 ⟨rfl, rfl⟩)
    go_ret
    exact ⟨rfl, bel3 _ _ _ _⟩
  · -- 10
    have hs : inR p.bs x.ins.length 10 a b = true := by simp [inR]
    rw [hs]
    clear hs
    go_enter Tryd.func49, Tryd.ntmps49
    go_wp2
    go_ret
    exact ⟨rfl, bel3 _ _ _ _⟩
  · -- 11
    have hs : inR p.bs x.ins.length 11 a b = true := by simp [inR]
    rw [hs]
    clear hs
    go_enter Tryd.func49, Tryd.ntmps49
    go_wp2
    go_ret
    exact ⟨rfl, bel3 _ _ _ _⟩
  · -- 12
    have hs : inR p.bs x.ins.length 12 a b = true := by simp [inR]
    rw [hs]
    clear hs
    go_enter Tryd.func49, Tryd.ntmps49
    go_wp2
    go_ret
    exact ⟨rfl, bel3 _ _ _ _⟩
  · -- 13
    have hs : inR p.bs x.ins.length 13 a b = (decide (0 ≤ a) && decide (a ≤ (x.ins.length : Int))) := by simp [inR]
    rw [hs]
    clear hs
    go_enter Tryd.func49, Tryd.ntmps49
    go_wp2_with (go_at_call 29; refine (within_any _ _ _ _).mono ?_; rintro e w1 ⟨rfl, rfl⟩)
    go_ret
    exact ⟨rfl, bel3 _ _ _ _⟩
  · -- 14
    have hs : inR p.bs x.ins.length 14 a b = true := by simp [inR]
    rw [hs]
    clear hs
    go_enter Tryd.func49, Tryd.ntmps49
    go_wp2
    go_ret
    exact ⟨rfl, bel3 _ _ _ _⟩
  · -- 15
    have hs : inR p.bs x.ins.length 15 a b = (decide (1 ≤ a) && decide (a ≤ 1000)) := by simp [inR]
    rw [hs]
    clear hs
    go_enter Tryd.func49, Tryd.ntmps49
    go_wp2_with (go_at_call 29; refine (within_any _ _ _ _).mono ?_; rintro e w1 ⟨rfl, rfl⟩)
    go_ret
    exact ⟨rfl, bel3 _ _ _ _⟩
  · -- 16
    have hs : inR p.bs x.ins.length 16 a b = ((decide (1 ≤ b) && decide (b ≤ 999999)) && (decide (0 ≤ a) && decide (a ≤ b))) := by simp [inR, Bool.and_assoc]
    rw [hs]
    clear hs
    by_cases hq : 1 ≤ b ∧ b ≤ 999999
    · have q1 : (decide (1 ≤ b) && decide (b ≤ 999999)) = true := by simpa using hq
      rw [q1]
      obtain ⟨q2, q3⟩ := hq
      go_enter Tryd.func49, Tryd.ntmps49
      go_wp2_with (go_at_call 29; refine (within_any _ _ _ _).mono ?_; rintro e w1 ⟨rfl, rfl⟩)
      go_ret
      exact ⟨rfl, bel3 _ _ _ _⟩
    · have q1 : (decide (1 ≤ b) && decide (b ≤ 999999)) = false := by simpa using hq
      rw [q1]
      have q2 : ¬ 1 ≤ b ∨ ¬ b ≤ 999999 := by omega
      rcases q2 with q2 | q2
      all_goals
        go_enter Tryd.func49, Tryd.ntmps49
        go_wp2_with (go_at_call 29; refine (within_any _ _ _ _).mono ?_; rintro e w1 ⟨rfl, rfl⟩)
        go_ret
        exact ⟨rfl, bel3 _ _ _ _⟩
  · have hs : inR p.bs x.ins.length op a b = true := by simp [inR, *]
    rw [hs]
    clear hs
    go_enter Tryd.func49, Tryd.ntmps49
    go_wp2
    go_ret
    exact ⟨rfl, bel3 _ _ _ _⟩
end Go.Proofs.YtdfllhmkgphcmaaDoor
namespace Go.Proofs.YtdfllhmkgphcmaaDoor
open Go.RowKit

def cI (x y : Int) : Int := if x < y then -1 else if y < x then 1 else 0
def cS (x y : T) : Int := if x < y then -1 else if x = y then 0 else 1
/-- One name before another. -/
def nmLt (p : T) (i : Int) (q : T) (j : Int) : Bool := decide (p < q) || (p == q && decide (i < j))
def cN (p : T) (i : Int) (q : T) (j : Int) : Int := if cS p q ≠ 0 then cS p q else cI i j
theorem cN_lt (p : T) (i : Int) (q : T) (j : Int) : decide (0 ≤ cN p i q j) = !nmLt p i q j := by
  unfold cN cS cI nmLt
  by_cases h1 : p < q
  · simp [h1]
  · by_cases h2 : p = q
    · subst h2
      by_cases h3 : i < j
      · simp [h1, h3]
      · by_cases h4 : j < i <;> simp [h1, h3, h4]
    · simp [h1, h2]

set_option maxRecDepth 100000 in
theorem cmpInt_any (x y : Int) (w : World) : Calls Tryd.prog 47 #[.int .i64 x, .int .i64 y] w fun e w' => e = .returned (.int .i64 (cI x y)) ∧ w' = w := by
  unfold cI
  by_cases h1 : x < y
  · rw [if_pos h1]
    go_enter Tryd.func47, Tryd.ntmps47
    go_wp2
    go_ret
    exact ⟨rfl, rfl⟩
  · rw [if_neg h1]
    by_cases h2 : y < x
    · rw [if_pos h2]
      go_enter Tryd.func47, Tryd.ntmps47
      go_wp2
      go_ret
      exact ⟨rfl, rfl⟩
    · rw [if_neg h2]
      go_enter Tryd.func47, Tryd.ntmps47
      go_wp2
      go_ret
      exact ⟨rfl, rfl⟩
set_option maxRecDepth 100000 in
theorem cmpStr_any (x y : T) (w : World) : Calls Tryd.prog 46 #[tv x, tv y] w fun e w' => e = .returned (.int .i64 (cS x y)) ∧ w' = w := by
  unfold cS
  by_cases h1 : x < y
  · rw [if_pos h1]
    have t1 : Op.bytesLess x y = true := by rw [bytesLess_eq]; simpa using h1
    clear h1
    go_enter Tryd.func46, Tryd.ntmps46
    go_wp2
    go_ret
    exact ⟨rfl, rfl⟩
  · rw [if_neg h1]
    have t1 : Op.bytesLess x y = false := by rw [bytesLess_eq]; simpa using h1
    clear h1
    by_cases h2 : x = y
    · rw [if_pos h2]
      have t2 : (x == y) = true := by simpa using h2
      clear h2
      go_enter Tryd.func46, Tryd.ntmps46
      go_wp2
      go_ret
      exact ⟨rfl, rfl⟩
    · rw [if_neg h2]
      have t2 : (x == y) = false := by simpa using h2
      clear h2
      go_enter Tryd.func46, Tryd.ntmps46
      go_wp2
      go_ret
      exact ⟨rfl, rfl⟩
set_option maxRecDepth 100000 in
theorem or2_any (x y : Int) (g : Nat) (w : World) (c0 : w.cell? ⟨g, 0, none⟩ = some (.int .i64 x)) (c1 : w.cell? ⟨g, 1, none⟩ = some (.int .i64 y)) : Calls Tryd.prog 45 #[.slice (some ⟨g, 0, none⟩) 2 2] w fun e w' => e = .returned (.int .i64 (if x ≠ 0 then x else y)) ∧ w' = w := by
  by_cases h1 : x = 0
  · rw [if_neg (by simpa using h1)]
    subst h1
    by_cases h2 : y = 0
    · subst h2
      go_enter Tryd.func45, Tryd.ntmps45
      go_wp2
      refine wp_loop_rounds 3 ?_
      rw [rounds_succ]
      go_wp2
      rw [rounds_succ]
      go_wp2
      rw [rounds_succ]
      go_wp2
      go_ret
      exact ⟨rfl, rfl⟩
    · have t2 : (y != 0) = true := by simpa using h2
      clear h2
      go_enter Tryd.func45, Tryd.ntmps45
      go_wp2
      refine wp_loop_rounds 2 ?_
      rw [rounds_succ]
      go_wp2
      rw [rounds_succ]
      go_wp2
      go_ret
      exact ⟨rfl, rfl⟩
  · rw [if_pos (by simpa using h1)]
    have t2 : (x != 0) = true := by simpa using h1
    clear h1
    go_enter Tryd.func45, Tryd.ntmps45
    go_wp2
    refine wp_loop_rounds 1 ?_
    rw [rounds_succ]
    go_wp2
    go_ret
    exact ⟨rfl, rfl⟩
set_option maxRecDepth 100000 in
set_option maxHeartbeats 2000000 in
theorem less_any (p : T) (i : Int) (q : T) (j : Int) (w : World) : Calls Tryd.prog 33 #[.agg #[tv p, .int .i64 i], .agg #[tv q, .int .i64 j]] w fun e w' => e = .returned (.bool (nmLt p i q j)) ∧ Below w.heap.size w w' := by
  have bel : ∀ o o', Below w.heap.size w ((w.alloc o).alloc o') := fun o o' => ((Below.refl _ _).alloc (Nat.le_refl _) _).alloc (by simp) _
  have BEL := Lib.hid bel
  clear bel
  unfold nmLt
  rw [← bytesLess_eq]
  cases h1 : Op.bytesLess p q with
  | true =>
    go_enter Tryd.func33, Tryd.ntmps33
    go_wp2
    go_ret
    exact ⟨rfl, BEL.out _ _⟩
  | false =>
    cases h2 : (p == q) with
    | true =>
      go_enter Tryd.func33, Tryd.ntmps33
      go_wp2
      go_ret
      exact ⟨rfl, BEL.out _ _⟩
    | false =>
      go_enter Tryd.func33, Tryd.ntmps33
      go_wp2
      go_ret
      exact ⟨rfl, BEL.out _ _⟩
end Go.Proofs.YtdfllhmkgphcmaaDoor
namespace Go.Proofs.YtdfllhmkgphcmaaDoor
open Go.RowKit

def dstOf (ops : Array Oper) (i : Nat) : Option Tmp := match ops[i]? with | some o => o.dst | none => none
def waits (md : Region.Mode) (ops : Array Oper) (i j : Nat) : Bool := match ops[i]? with | some o => o.after.any fun e => Region.binds md e && e.on == j | none => false
/-- Each slot is written once, and lies in the frame. -/
def dstsB (ops : Array Oper) (m : Nat) : Bool :=
  (List.range ops.size).all fun i => match dstOf ops i with
    | none => true
    | some t => decide (t < m) && (List.range ops.size).all fun j => j == i || dstOf ops j != some t
/-- No operation has a guard. -/
def plainB' (ops : Array Oper) : Bool := (List.range ops.size).all fun i => match ops[i]? with | some o => o.guard.isNone | none => true
/-- The states in which an operation may come up. -/
def okB (md : Region.Mode) (ops : Array Oper) (wr : List Bool) (ms : List (List Nat)) (i k : Nat) : Bool :=
  match ms[k]? with
  | none => false
  | some m => m.all (fun j => !(j == i) && !waits md ops j i) && (List.range ops.size).all fun j => !(wr.getD j false) || !waits md ops i j || m.contains j
def okL (md : Region.Mode) (ops : Array Oper) (wr : List Bool) (ms : List (List Nat)) (i : Nat) : List Nat := (List.range ms.length).filter (okB md ops wr ms i)
def stepB (n : Nat) (ms : List (List Nat)) (i k k' : Nat) : Bool := match ms[k]?, ms[k']? with
  | some m, some m' => (List.range n).all (fun j => m'.contains j == (m.contains j || j == i)) && m'.all fun j => decide (j < n)
  | _, _ => false
def finL (n : Nat) (wr : List Bool) (ms : List (List Nat)) : List Nat := (List.range ms.length).filter fun k => match ms[k]? with | some m => (List.range n).all fun j => !(wr.getD j false) || m.contains j | none => false
def AllL : List Nat → (Nat → Prop) → Prop
  | [], _ => True
  | k :: ks, P => P k ∧ AllL ks P
theorem AllL.at {P : Nat → Prop} : ∀ {ks : List Nat}, AllL ks P → ∀ k ∈ ks, P k
  | x :: ks, h, k, hk => by
    rcases List.mem_cons.1 hk with rfl | hk
    · exact h.1
    · exact AllL.at h.2 k hk
/-- The slots that an operation may look at. -/
def knownB (md : Region.Mode) (ops : Array Oper) (i t : Nat) : Bool := (List.range ops.size).all fun j => dstOf ops j != some t || waits md ops i j
def valAt (ops : Array Oper) (vs : List Value) (a0 : Act) (t : Nat) : Value := match (List.range ops.size).find? fun i => dstOf ops i == some t with | some i => vs.getD i undef | none => a0.tmps.getD t undef
def finA : List Oper → List Value → Act → Act
  | o :: os, v :: vs, a => finA os vs (a.put o.dst v)
  | _, _, a => a
def nx (o : Oper) (v : Value) : Next := match o.dst with | none => .skip | some _ => .value v
/-- An operation yields v and leads from w to w'. -/
def Runs (P : Program) (o : Oper) (a : Act) (v : Value) (w w' : World) : Prop :=
  (execOp a.eval o).run P w = .ok (nx o v) w' ∨ ∃ f args, (execOp a.eval o).run P w = .ok (.enter f args) w ∧ Calls P f args w fun e w'' => e = .returned v ∧ w'' = w'
/-- What is to be shown of an operation. -/
def Obl (P : Program) (md : Region.Mode) (ops : Array Oper) (wr : List Bool) (ms : List (List Nat)) (vs : List Value) (ws : List World) (a0 : Act) (i : Nat) (o : Oper) : Prop :=
  ∀ (k : Nat) (a : Act), k ∈ okL md ops wr ms i → (∀ t, knownB md ops i t = true → a.eval (.tmp t) = valAt ops vs a0 t) →
    ∃ k' w w', (if wr.getD i false then stepB ops.size ms i k k' = true else k' = k) ∧ ws[k]? = some w ∧ ws[k']? = some w' ∧ Runs P o a (vs.getD i undef) w w'
def Obls (P : Program) (md : Region.Mode) (ops : Array Oper) (wr : List Bool) (ms : List (List Nat)) (vs : List Value) (ws : List World) (a0 : Act) : Nat → List Oper → Prop
  | _, [] => True
  | i, o :: os => Obl P md ops wr ms vs ws a0 i o ∧ Obls P md ops wr ms vs ws a0 (i + 1) os
theorem Obls.at {P : Program} {md : Region.Mode} {ops : Array Oper} {wr : List Bool} {ms : List (List Nat)} {vs : List Value} {ws : List World} {a0 : Act} : ∀ {l : List Oper} {s : Nat}, Obls P md ops wr ms vs ws a0 s l → ∀ (i : Nat) o, l[i]? = some o → Obl P md ops wr ms vs ws a0 (s + i) o
  | [], _, _, i, o, h => by simp at h
  | x :: l, s, h, 0, o, e => by simp at e; subst e; exact h.1
  | x :: l, s, h, i + 1, o, e => by
    have := Obls.at h.2 i o (by simpa using e)
    rwa [show s + (i + 1) = s + 1 + i by omega]

theorem put_same {a : Act} {t : Nat} {v : Value} (ht : t < a.tmps.size) : (a.put (some t) v).tmps.getD t undef = v := by simp [Act.put, ht]
theorem put_other {a : Act} {d : Option Tmp} {t : Nat} {v : Value} (h : d ≠ some t) : (a.put d v).tmps.getD t undef = a.tmps.getD t undef := by
  cases d with
  | none => rfl
  | some u =>
    have : u ≠ t := fun e => h (by rw [e])
    simp [Act.put, Array.getElem?_setIfInBounds_ne this]
theorem put_size (a : Act) (d : Option Tmp) (v : Value) : (a.put d v).tmps.size = a.tmps.size := by cases d <;> simp [Act.put]
theorem put_defers (a : Act) (d : Option Tmp) (v : Value) : (a.put d v).defers = a.defers := by cases d <;> rfl
theorem act_ext {a b : Act} (h1 : a.tmps.size = b.tmps.size) (h2 : a.defers = b.defers) (h : ∀ t, t < a.tmps.size → a.tmps.getD t undef = b.tmps.getD t undef) : a = b := by
  obtain ⟨ta, da⟩ := a
  obtain ⟨tb, db⟩ := b
  simp only at h1 h2 h
  subst h2
  congr 1
  apply Array.ext h1
  intro i hi hj
  have := h i hi
  simpa [hi, hj] using this

/-- What a frame is while operations come up. -/
structure FrI (ops : Array Oper) (vs : List Value) (a0 : Act) (listed : Nat → Bool) (a : Act) : Prop where
  size : a.tmps.size = a0.tmps.size
  defers : a.defers = a0.defers
  done : ∀ (i : Nat) t, dstOf ops i = some t → listed i = true → a.tmps.getD t undef = vs.getD i undef
  other : ∀ t, (∀ i, dstOf ops i = some t → listed i = false) → a.tmps.getD t undef = a0.tmps.getD t undef
theorem dsts_spec {ops : Array Oper} {m : Nat} (h : dstsB ops m = true) {i t : Nat} (hi : dstOf ops i = some t) : t < m ∧ ∀ j, j ≠ i → dstOf ops j ≠ some t := by
  have hn : ∀ {i t}, dstOf ops i = some t → i < ops.size := fun {i t} h => by
    unfold dstOf at h
    rcases Nat.lt_or_ge i ops.size with h' | h'
    · exact h'
    · rw [Array.getElem?_eq_none h'] at h; cases h
  have h1 := List.all_eq_true.1 h i (List.mem_range.2 (hn hi))
  rw [hi] at h1
  simp only [Bool.and_eq_true, decide_eq_true_eq] at h1
  refine ⟨h1.1, fun j hj e => ?_⟩
  have h2 := List.all_eq_true.1 h1.2 j (List.mem_range.2 (hn e))
  simp [hj, e] at h2
theorem FrI.put {ops : Array Oper} {vs : List Value} {a0 : Act} {listed : Nat → Bool} {a : Act} (h : FrI ops vs a0 listed a) (hd : dstsB ops a0.tmps.size = true) (i : Nat) {v : Value} (hv : ∀ t, dstOf ops i = some t → v = vs.getD i undef) (hun : listed i = false) :
    FrI ops vs a0 (fun j => if j = i then true else listed j) (a.put (dstOf ops i) v) where
  size := by rw [put_size]; exact h.size
  defers := by rw [put_defers]; exact h.defers
  done j t hj hl := by
    by_cases e : j = i
    · subst e
      rw [hj, put_same (by rw [h.size]; exact (dsts_spec hd hj).1)]
      exact hv t hj
    · simp only [e, if_false] at hl
      rw [put_other ((dsts_spec hd hj).2 i (Ne.symm e))]
      exact h.done j t hj hl
  other t ht := by
    have : dstOf ops i ≠ some t := fun e => by have := ht i e; simp at this
    rw [put_other this]
    exact h.other t fun j hj => by
      have := ht j hj
      split at this
      · cases this
      · exact this
theorem FrI.unique {ops : Array Oper} {vs : List Value} {a0 : Act} {l l' : Nat → Bool} {a a' : Act} (h : FrI ops vs a0 l a) (h' : FrI ops vs a0 l' a') (hl : ∀ i, i < ops.size → l i = l' i) : a = a' := by
  refine act_ext (h.size.trans h'.size.symm) (h.defers.trans h'.defers.symm) fun t _ => ?_
  have hn : ∀ {i t}, dstOf ops i = some t → i < ops.size := fun {i t} h => by
    unfold dstOf at h
    rcases Nat.lt_or_ge i ops.size with h' | h'
    · exact h'
    · rw [Array.getElem?_eq_none h'] at h; cases h
  by_cases e : ∃ i, dstOf ops i = some t ∧ l i = true
  · obtain ⟨i, e1, e2⟩ := e
    rw [h.done i t e1 e2, h'.done i t e1 (by rw [← hl i (hn e1)]; exact e2)]
  · have q : ∀ i, dstOf ops i = some t → l i = false := fun i e1 => by
      cases e2 : l i with
      | false => rfl
      | true => exact absurd ⟨i, e1, e2⟩ e
    rw [h.other t q, h'.other t fun i e1 => by rw [← hl i (hn e1)]; exact q i e1]
theorem finA_ok {ops : Array Oper} {vs : List Value} {a0 : Act} (hd : dstsB ops a0.tmps.size = true) : ∀ (l : List Oper) (us : List Value) (s : Nat) (a : Act), l.length = us.length → (∀ i, i < l.length → dstOf ops (s + i) = (match l[i]? with | some o => o.dst | none => none)) → (∀ i, i < us.length → vs.getD (s + i) undef = us.getD i undef) →
    FrI ops vs a0 (fun j => decide (j < s)) a → FrI ops vs a0 (fun j => decide (j < s + l.length)) (finA l us a)
  | [], [], s, a, _, _, _, h => h
  | o :: l, u :: us, s, a, hl, ho, hv, h => by
    have h0 := ho 0 (by simp)
    simp only [Nat.add_zero, List.getElem?_cons_zero] at h0
    have h1 := h.put hd s (v := u) (fun t _ => by have := hv 0 (by simp); simpa using this.symm) (by simp)
    have h2 : (fun j => if j = s then true else decide (j < s)) = fun j => decide (j < s + 1) := by
      funext j
      by_cases e : j = s
      · simp [e]
      · have : (j < s) ↔ (j < s + 1) := by omega
        simp [e, this]
    rw [h2, h0] at h1
    have h3 := finA_ok hd l us (s + 1) (a.put o.dst u) (by simpa using hl) (fun i hi => by
      have := ho (i + 1) (by simpa using hi)
      rw [show s + 1 + i = s + (i + 1) by omega, this]
      simp) (fun i hi => by
      have := hv (i + 1) (by simpa using hi)
      rw [show s + 1 + i = s + (i + 1) by omega, this]
      simp) h1
    have e : s + (o :: l).length = s + 1 + l.length := by simp; omega
    rw [e]
    exact h3

theorem waits_spec {md : Region.Mode} {ops : Array Oper} {i j : Nat} (h : waits md ops i j = true) : ∃ o, ops[i]? = some o ∧ ∃ e ∈ o.after, Region.binds md e = true ∧ e.on = j := by
  unfold waits at h
  split at h
  · rename_i o ho
    obtain ⟨e, he, hb⟩ := Array.any_eq_true'.1 h
    simp only [Bool.and_eq_true, beq_iff_eq] at hb
    exact ⟨o, ho, e, he, hb.1, hb.2⟩
  · cases h
/-- While operations come up. -/
structure PhI (md : Region.Mode) (ops : Array Oper) (wr : List Bool) (ms : List (List Nat)) (vs : List Value) (ws : List World) (a0 : Act) (T : Nat) (m : Nat) (listed : Array Bool) (a : Act) (w : World) : Prop where
  size : listed.size = ops.size
  left : (List.range T).countP (fun i => !listed.getD i false) = m
  tail : ∀ t, T ≤ t → t < ops.size → listed.getD t false = false
  closed : ∀ j oj, ops[j]? = some oj → listed.getD j false = true → ∀ e ∈ oj.after, Region.binds md e = true → listed.getD e.on false = true
  w : ∃ (k : Nat) (m : List Nat), ws[k]? = some w ∧ ms[k]? = some m ∧ (∀ j ∈ m, j < ops.size ∧ listed.getD j false = true) ∧ ∀ j, j < ops.size → wr.getD j false = true → listed.getD j false = true → j ∈ m
  fr : FrI ops vs a0 (fun i => listed.getD i false) a

theorem exists_ready {md : Region.Mode} {ops : Array Oper} (hf : ((List.range ops.size).all fun i => match ops[i]? with | some o => o.after.all (fun e => !Region.binds md e || decide (e.on < i)) | none => true) = true) {listed : Array Bool} (hs : listed.size = ops.size) :
    ∀ (n i : Nat), i ≤ n → i < ops.size → listed.getD i false = false → ∃ j, j ∈ Region.ready md ops listed := by
  intro n
  induction n with
  | zero =>
    intro i hi hlt hun
    have : i = 0 := by omega
    subst this
    refine ⟨0, mem_ready.2 ⟨by simp [hs, hlt] at hun ⊢; exact hun, ops[0], by simp [hlt], fun e he hb => ?_⟩⟩
    have h1 := List.all_eq_true.1 hf 0 (List.mem_range.2 hlt)
    simp only [Array.getElem?_eq_getElem hlt] at h1
    have h2 := Array.all_eq_true'.1 h1 e he
    simp [hb] at h2
  | succ n ih =>
    intro i hi hlt hun
    by_cases hall : ∀ e ∈ (ops[i]).after, Region.binds md e = true → listed.getD e.on false = true
    · exact ⟨i, mem_ready.2 ⟨by simp [hs, hlt] at hun ⊢; exact hun, ops[i], by simp [hlt], hall⟩⟩
    · have : ∃ e ∈ (ops[i]).after, Region.binds md e = true ∧ listed.getD e.on false = false := by
        refine Classical.byContradiction fun hc => hall fun e he hb => ?_
        cases h3 : listed.getD e.on false with
        | true => rfl
        | false => exact absurd ⟨e, he, hb, h3⟩ hc
      obtain ⟨e, he, hb, hun2⟩ := this
      have h1 := List.all_eq_true.1 hf i (List.mem_range.2 hlt)
      simp only [Array.getElem?_eq_getElem hlt] at h1
      have h2 := Array.all_eq_true'.1 h1 e he
      simp [hb] at h2
      exact ih e.on (by omega) (by omega) hun2

theorem getD_rep (m j : Nat) : (Array.replicate m false).getD j false = false := by
  rcases Nat.lt_or_ge j m with h | h
  · simp [h]
  · simp [h]
theorem getD_bth {listed : Array Bool} {i : Nat} (h : listed.getD i true = false) : listed.getD i false = false := by
  rcases Nat.lt_or_ge i listed.size with h' | h'
  · simp [h'] at h ⊢; exact h
  · simp [Array.getElem?_eq_none h'] at h
theorem wpAny_invT {P : Program} {md : Region.Mode} {ops : Array Oper} {Q : Exit → Act → World → Prop} {f : Nat} (I : Nat → Array Bool → Act → World → Prop)
    (hne : ∀ n l a w, I (n + 1) l a w → Region.ready md ops l ≠ [])
    (hstep : ∀ n l a w i, I (n + 1) l a w → i ∈ Region.ready md ops l → wpOp P ops Q i (fun a' w' => I n (l.setIfInBounds i true) a' w') a w)
    (hend : ∀ l a w, I 0 l a w → wpAny P md ops Q f l a w) : ∀ n l a w, I n l a w → wpAny P md ops Q (n + f) l a w := by
  intro n
  induction n with
  | zero => intro l a w h; rw [Nat.zero_add]; exact hend l a w h
  | succ n ih =>
    intro l a w h
    rw [show n + 1 + f = (n + f) + 1 by omega]
    exact ⟨fun h0 => absurd h0 (hne n l a w h), fun i hi => wpOp_mono (fun a' w' h' => ih _ a' w' h') (hstep n l a w i h hi)⟩
theorem wpOp_of {P : Program} {ops : Array Oper} {Q : Exit → Act → World → Prop} {i : Nat} {K : Act → World → Prop} {a : Act} {w : World} {o : Oper} (ho : ops[i]? = some o) (hg : o.guard = none) (h : o.wp P a w K Q) : wpOp P ops Q i K a w := by
  unfold wpOp
  simp only [ho]
  rw [if_pos (by simp [Region.wanted, hg])]
  exact .inl h
def fwdB (md : Region.Mode) (ops : Array Oper) : Bool := (List.range ops.size).all fun i => match ops[i]? with | some o => o.after.all (fun e => !Region.binds md e || decide (e.on < i)) | none => true
theorem left_set {T n i : Nat} {listed : Array Bool} (hT : T ≤ n) (hs : listed.size = n) (hi : i < T) (hun : listed.getD i false = false) {m : Nat} (h : (List.range T).countP (fun j => !listed.getD j false) = m + 1) :
    (List.range T).countP (fun j => !(listed.setIfInBounds i true).getD j false) = m := by
  have key : ∀ k, k ≤ T → (List.range k).countP (fun j => !listed.getD j false) = (List.range k).countP (fun j => !(listed.setIfInBounds i true).getD j false) + if i < k then 1 else 0 := by
    intro k
    induction k with
    | zero => simp
    | succ k ih =>
      intro hk
      rw [List.range_succ, List.countP_append, List.countP_append, ih (by omega)]
      by_cases e : k = i
      · subst e
        have h1 : (listed.setIfInBounds k true).getD k false = true := by simp [hs, show k < n by omega]
        simp only [List.countP_singleton, h1, hun]
        simp
      · have h1 : (listed.setIfInBounds i true).getD k false = listed.getD k false := getD_set_ne false (Ne.symm e)
        simp only [List.countP_singleton, h1]
        have h2 : (i < k + 1) ↔ (i < k) := by omega
        simp only [h2]
        omega
  have := key T (Nat.le_refl _)
  simp only [hi, if_true] at this
  omega
theorem getD_tr {listed : Array Bool} {i : Nat} (hi : i < listed.size) (h : listed.getD i false = false) : listed.getD i true = false := by
  simp [hi] at h ⊢; exact h

/-- **The rule.** -/
theorem wp_phase_tail {P : Program} {id : Nat} {l : List Oper} {Q : Exit → Act → World → Prop} {a0 : Act} {w : World} (wr : List Bool) (ms : List (List Nat)) (vs : List Value) (ws : List World) (kf : Nat) (af : Act) (T : Nat) (hT : T ≤ l.length) (hm : P.follows .mixedOrders = true)
    (hd : dstsB l.toArray a0.tmps.size = true) (hp : plainB' l.toArray = true) (hf : fwdB .any l.toArray = true) (hl : T = vs.length) (hkf : finL T wr ms = [kf]) (haf : finA (l.take T) vs a0 = af)
    (hsk : T < l.length → Region.sinkB .any l.toArray T = true) (hch : T < l.length → Region.chainB .any l.toArray T = true)
    (hm0 : ms[0]? = some []) (hw0 : ws[0]? = some w.drew) (ho : Obls P .any l.toArray wr ms vs ws a0 0 (l.take T)) {wf : World} (hwf : ws[kf]? = some wf)
    (hsq : Region.seqB .any l.toArray (l.length - T) T (List.replicate T true ++ List.replicate (l.length - T) false).toArray = true) (hfin : wpList P l.toArray Q (l.drop T) af wf) : (Code.region id l.toArray true).wp P Q a0 w := by
  have hsz : l.toArray.size = T + (l.length - T) := by simp; omega
  have hT' : T ≤ l.toArray.size := by simpa using hT
  refine wp_region_any hm ?_
  rw [show wpAny P .any l.toArray Q l.toArray.size = wpAny P .any l.toArray Q (T + (l.length - T)) by rw [← hsz]]
  refine wpAny_invT (f := l.length - T) (PhI .any l.toArray wr ms vs ws a0 T) ?_ ?_ ?_ _ _ _ _ ?_
  · intro n listed a w h
    have : ∃ i, i < T ∧ listed.getD i false = false := by
      have h1 := h.left
      refine Classical.byContradiction fun hc => ?_
      have h0 : (List.range T).countP (fun i => !listed.getD i false) = 0 := by
        rw [List.countP_eq_zero]
        intro i hi
        simp only [Bool.not_eq_true', Bool.not_eq_false]
        cases h3 : listed.getD i false with
        | true => rfl
        | false => exact absurd ⟨i, List.mem_range.1 hi, h3⟩ hc
      omega
    obtain ⟨i, hi, hun⟩ := this
    obtain ⟨j, hj⟩ := exists_ready (md := .any) hf h.size i i (Nat.le_refl _) (by omega) hun
    intro e
    rw [e] at hj
    cases hj
  · intro n listed a w i h hi
    obtain ⟨hun1, o, hoi, hall⟩ := mem_ready.1 hi
    have hilt : i < l.toArray.size := (Array.getElem?_eq_some_iff.1 hoi).1
    have hun : listed.getD i false = false := getD_bth hun1
    have hiT : i < T := by
      rcases Nat.lt_or_ge i T with h' | h'
      · exact h'
      · exfalso
        have hlT : T < l.length := by have : i < l.length := by simpa using hilt
                                      omega
        have : ∃ q, q < T ∧ listed.getD q false = false := by
          have h1 := h.left
          refine Classical.byContradiction fun hc => ?_
          have h0 : (List.range T).countP (fun i => !listed.getD i false) = 0 := by
            rw [List.countP_eq_zero]
            intro i hi
            simp only [Bool.not_eq_true', Bool.not_eq_false]
            cases h3 : listed.getD i false with
            | true => rfl
            | false => exact absurd ⟨i, List.mem_range.1 hi, h3⟩ hc
          omega
        obtain ⟨q, hq, hqu⟩ := this
        refine tail_waits (md := .any) (n := T) (hsk hlT) (hch hlT) (by simpa using hlT) ⟨h.size, h.closed, fun t ht ht' => getD_tr (by rw [h.size]; exact ht') (h.tail t ht ht')⟩ _ q rfl hq (getD_tr (by rw [h.size]; omega) hqu) i h' hi
    have wl : ∀ j, waits .any l.toArray i j = true → listed.getD j false = true := fun j hj => by
      obtain ⟨o', ho', e, he, hb, hon⟩ := waits_spec hj
      have : o' = o := Option.some.inj (ho'.symm.trans hoi)
      subst this
      rw [← hon]; exact hall e he hb
    obtain ⟨k, m, ek, em, hm1, hm2⟩ := h.w
    have hk : k ∈ okL .any l.toArray wr ms i := by
      refine List.mem_filter.2 ⟨List.mem_range.2 (List.getElem?_eq_some_iff.1 em).1, ?_⟩
      unfold okB
      rw [em]
      simp only [Bool.and_eq_true, List.all_eq_true, Bool.or_eq_true, Bool.not_eq_true', beq_eq_false_iff_ne]
      refine ⟨fun j hj => ⟨fun e => ?_, ?_⟩, fun j hj => ?_⟩
      · subst e
        have := (hm1 j hj).2
        rw [hun] at this
        cases this
      · cases hw : waits .any l.toArray j i with
        | false => rfl
        | true =>
          obtain ⟨o', ho', e, he, hb, hon⟩ := waits_spec hw
          have := h.closed j o' ho' (hm1 j hj).2 e he hb
          rw [hon, hun] at this
          cases this
      · cases h1 : wr.getD j false with
        | false => exact .inl (.inl rfl)
        | true =>
          cases h2 : waits .any l.toArray i j with
          | false => exact .inl (.inr rfl)
          | true => exact .inr (List.contains_iff_mem.2 (hm2 j (List.mem_range.1 hj) h1 (wl j h2)))
    have hE : ∀ t, knownB .any l.toArray i t = true → a.eval (.tmp t) = valAt l.toArray vs a0 t := fun t ht => by
      unfold Act.eval valAt
      simp only []
      cases hfd : (List.range l.toArray.size).find? (fun i => dstOf l.toArray i == some t) with
      | some j =>
        have h1 : dstOf l.toArray j = some t := by have := List.find?_some hfd; simpa using this
        have h2 : j < l.toArray.size := by have := List.mem_of_find?_eq_some hfd; simpa using this
        have h3 := List.all_eq_true.1 ht j (List.mem_range.2 h2)
        simp [h1] at h3
        exact h.fr.done j t h1 (wl j h3)
      | none =>
        refine h.fr.other t fun j hj => ?_
        have h2 : j < l.toArray.size := by
          unfold dstOf at hj
          rcases Nat.lt_or_ge j l.toArray.size with h' | h'
          · exact h'
          · rw [Array.getElem?_eq_none h'] at hj; cases hj
        have := List.find?_eq_none.1 hfd j (List.mem_range.2 h2)
        simp [hj] at this
    have hob := Obls.at ho i o (by rw [List.getElem?_take, if_pos hiT]; simpa using hoi)
    rw [Nat.zero_add] at hob
    obtain ⟨k', w1, w2, estep, e1, e2, hrun⟩ := hob _ a hk hE
    have : w1 = w := Option.some.inj (e1.symm.trans ek)
    subst this
    have hg : o.guard = none := by
      have := List.all_eq_true.1 hp i (List.mem_range.2 hilt)
      rw [hoi] at this
      simpa using this
    have hdst : dstOf l.toArray i = o.dst := by unfold dstOf; rw [hoi]
    have lset : ∀ j, listed.getD j false = true → (listed.setIfInBounds i true).getD j false = true := fun j hj => getD_set_true hj
    have iset : (listed.setIfInBounds i true).getD i false = true := by simp [h.size, show i < l.length by simpa using hilt]
    have next : ∀ v, (∀ t, o.dst = some t → v = vs.getD i undef) → PhI .any l.toArray wr ms vs ws a0 T n (listed.setIfInBounds i true) (a.put o.dst v) w2 := fun v hv => by
      refine ⟨by simpa using h.size, left_set hT' h.size hiT hun h.left, fun t ht ht' => by rw [getD_set_ne false (by omega)]; exact h.tail t ht ht', ?_, ?_, ?_⟩
      · intro j oj hj hl' e he hb
        by_cases hij : i = j
        · subst hij
          have : oj = o := Option.some.inj (hj.symm.trans hoi)
          subst this
          exact getD_set_true (hall e he hb)
        · rw [getD_set_ne false hij] at hl'
          exact getD_set_true (h.closed j oj hj hl' e he hb)
      · cases hwr : wr.getD i false with
        | false =>
          rw [hwr] at estep
          simp at estep
          subst estep
          refine ⟨k', m, e2, em, fun j hj => ⟨(hm1 j hj).1, lset j (hm1 j hj).2⟩, fun j hj h1 h2 => ?_⟩
          by_cases e : i = j
          · subst e; rw [hwr] at h1; cases h1
          · rw [getD_set_ne false e] at h2
            exact hm2 j hj h1 h2
        | true =>
          rw [hwr] at estep
          simp only [if_true] at estep
          unfold stepB at estep
          rw [em] at estep
          split at estep
          · rename_i m1 m' e3 e4
            simp only [Option.some.injEq] at e3
            subst e3
            simp only [Bool.and_eq_true, List.all_eq_true, beq_iff_eq, decide_eq_true_eq] at estep
            refine ⟨k', m', e2, e4, fun j hj => ?_, fun j hj h1 h2 => ?_⟩
            · have hjn := estep.2 j hj
              refine ⟨hjn, ?_⟩
              have h3 := estep.1 j (List.mem_range.2 hjn)
              rw [List.contains_iff_mem.2 hj] at h3
              have h4 := h3.symm
              simp only [Bool.or_eq_true, beq_iff_eq] at h4
              rcases h4 with h4 | h4
              · exact lset j (hm1 j (List.contains_iff_mem.1 h4)).2
              · subst h4; exact iset
            · have h3 := estep.1 j (List.mem_range.2 hj)
              refine List.contains_iff_mem.1 (h3.trans ?_)
              by_cases e : i = j
              · subst e; simp
              · rw [getD_set_ne false e] at h2
                rw [List.contains_iff_mem.2 (hm2 j hj h1 h2)]
                rfl
          · cases estep
      · have h1 := h.fr.put hd i (v := v) (by rw [hdst]; exact hv) hun
        rw [hdst] at h1
        have h2 : (fun j => if j = i then true else listed.getD j false) = fun j => (listed.setIfInBounds i true).getD j false := by
          funext j
          by_cases e : j = i
          · subst e; simp [h.size, show j < l.length by simpa using hilt]
          · rw [getD_set_ne false (Ne.symm e)]; simp [e]
        rw [h2] at h1
        exact h1
    refine wpOp_of hoi hg ?_
    rcases hrun with hrun | ⟨f, args, hrun, hcall⟩
    · unfold Oper.wp
      rw [hrun]
      unfold nx
      cases hdd : o.dst with
      | none =>
        rw [hdd] at next
        have := next undef (by intro t e; cases e)
        simpa [Oper.upon, hdd] using this
      | some t =>
        rw [hdd] at next
        have := next (vs.getD i undef) (fun _ _ => rfl)
        simpa [Oper.upon, hdd] using this
    · unfold Oper.wp
      rw [hrun, Oper.upon_enter]
      refine hcall.mono ?_
      rintro e w3 ⟨rfl, rfl⟩
      exact next (vs.getD i undef) (fun _ _ => rfl)
  · intro listed a w h
    have hall : ∀ i, i < T → listed.getD i false = true := fun i hi => by
      have h0 := h.left
      rw [List.countP_eq_zero] at h0
      have := h0 i (List.mem_range.2 hi)
      simpa using this
    have hlist : listed = (List.replicate T true ++ List.replicate (l.length - T) false).toArray := by
      apply Array.ext
      · rw [h.size]; simp; omega
      · intro i h1 h2
        have hi' : i < l.toArray.size := by rw [← h.size]; exact h1
        by_cases hiT : i < T
        · have h3 := hall i hiT
          have : listed[i] = true := by simpa [h1] using h3
          rw [this]
          simp [hiT]
        · have h3 := h.tail i (by omega) hi'
          have : listed[i] = false := by simpa [h1] using h3
          rw [this]
          simp [List.getElem_append, hiT]
    have h1 := finA_ok (vs := vs) hd (l.take T) vs 0 a0 (by rw [List.length_take, Nat.min_eq_left hT, hl]) (fun i hi => by
      have hi' : i < T := by rw [List.length_take, Nat.min_eq_left hT] at hi; exact hi
      unfold dstOf; rw [List.getElem?_take, if_pos hi']; simp) (fun i _ => by simp) ⟨rfl, rfl, fun i t _ h => by simp at h, fun t _ => rfl⟩
    have := h.fr.unique h1 fun i hi => by
      rw [List.length_take, Nat.min_eq_left hT, Nat.zero_add]
      by_cases hiT : i < T
      · rw [hall i hiT]; simp [hiT]
      · rw [h.tail i (by omega) hi]; simp [hiT]
    rw [this, haf]
    obtain ⟨k, m, ek, em, hm1, hm2⟩ := h.w
    have hk : k ∈ finL T wr ms := by
      refine List.mem_filter.2 ⟨List.mem_range.2 (List.getElem?_eq_some_iff.1 em).1, ?_⟩
      simp only [em, List.all_eq_true, Bool.or_eq_true, Bool.not_eq_true']
      intro j hj
      cases h1 : wr.getD j false with
      | false => exact .inl rfl
      | true =>
        have hj' : j < T := by simpa using hj
        exact .inr (List.contains_iff_mem.2 (hm2 j (by omega) h1 (hall j hj')))
    rw [hkf, List.mem_singleton] at hk
    subst hk
    have : w = wf := Option.some.inj (ek.symm.trans hwf)
    subst this
    rw [hlist]
    have hlen : (l.drop T).length = l.length - T := by simp
    rw [← hlen]
    refine wpAny_of_seq (l.drop T) T _ _ _ (fun j => by rw [List.getElem?_drop]; simp) ?_ hfin
    rw [hlen]
    exact hsq
  · refine ⟨by simp, ?_, fun t _ _ => getD_rep _ _, ?_, ⟨0, [], hw0, hm0, by simp, ?_⟩, ?_⟩
    · have : ∀ i ∈ List.range T, (!(Array.replicate l.toArray.size false).getD i false) = true := fun i hi => by rw [getD_rep]; rfl
      rw [List.countP_eq_length.2 this]
      simp
    · intro j oj _ h
      rw [getD_rep] at h
      cases h
    · intro j _ _ h
      rw [getD_rep] at h
      cases h
    · exact ⟨rfl, rfl, fun i t _ h => (by rw [getD_rep] at h; cases h), fun t _ => rfl⟩
theorem wp_phase {P : Program} {id : Nat} {l : List Oper} {Q : Exit → Act → World → Prop} {a0 : Act} {w : World} (wr : List Bool) (ms : List (List Nat)) (vs : List Value) (ws : List World) (kf : Nat) (af : Act) (hm : P.follows .mixedOrders = true)
    (hd : dstsB l.toArray a0.tmps.size = true) (hp : plainB' l.toArray = true) (hf : fwdB .any l.toArray = true) (hl : l.length = vs.length) (hkf : finL l.length wr ms = [kf]) (haf : finA l vs a0 = af)
    (hm0 : ms[0]? = some []) (hw0 : ws[0]? = some w.drew) (ho : Obls P .any l.toArray wr ms vs ws a0 0 l) {wf : World} (hwf : ws[kf]? = some wf) (hfin : Q .normal af wf) : (Code.region id l.toArray true).wp P Q a0 w := by
  have h1 : l.take l.length = l := List.take_length
  have h2 : l.drop l.length = [] := List.drop_length
  refine wp_phase_tail wr ms vs ws kf af l.length (Nat.le_refl _) hm hd hp hf hl hkf (by rw [h1]; exact haf) (fun h => absurd h (Nat.lt_irrefl _)) (fun h => absurd h (Nat.lt_irrefl _)) hm0 hw0 (by rw [h1]; exact ho) hwf ?_ ?_
  · rw [Nat.sub_self]
    unfold Region.seqB
    rw [List.isEmpty_iff, List.eq_nil_iff_forall_not_mem]
    intro j hj
    obtain ⟨h3, o, ho', _⟩ := mem_ready.1 hj
    have hlt : j < l.length := by have := (Array.getElem?_eq_some_iff.1 ho').1; simpa using this
    simp [hlt] at h3
  · rw [h2]; exact hfin

/-- The rule, the frame as it comes. -/
theorem wp_phaseT {P : Program} {id : Nat} {l : List Oper} {Q : Exit → Act → World → Prop} {a0 : Act} {w : World} (wr : List Bool) (ms : List (List Nat)) (vs : List Value) (ws : List World) (kf : Nat) (T : Nat) (hT : T ≤ l.length) (hm : P.follows .mixedOrders = true)
    (hd : dstsB l.toArray a0.tmps.size = true) (hp : plainB' l.toArray = true) (hf : fwdB .any l.toArray = true) (hl : T = vs.length) (hkf : finL T wr ms = [kf])
    (hsk : T < l.length → Region.sinkB .any l.toArray T = true) (hch : T < l.length → Region.chainB .any l.toArray T = true)
    (hm0 : ms[0]? = some []) (hw0 : ws[0]? = some w.drew) (ho : Obls P .any l.toArray wr ms vs ws a0 0 (l.take T)) {wf : World} (hwf : ws[kf]? = some wf)
    (hsq : Region.seqB .any l.toArray (l.length - T) T (List.replicate T true ++ List.replicate (l.length - T) false).toArray = true) (hfin : ∀ af, finA (l.take T) vs a0 = af → wpList P l.toArray Q (l.drop T) af wf) : (Code.region id l.toArray true).wp P Q a0 w :=
  wp_phase_tail wr ms vs ws kf _ T hT hm hd hp hf hl hkf rfl hsk hch hm0 hw0 ho hwf hsq (hfin _ rfl)

section
variable {P : Program} {md : Region.Mode} {ops : Array Oper} {wr : List Bool} {ms : List (List Nat)} {ws : List World} {i k : Nat} {o : Oper} {v : Value} {a : Act}
theorem okL_lt (hk : k ∈ okL md ops wr ms i) : k < ms.length := List.mem_range.1 (List.mem_filter.1 hk).1
/-- An operation that looks at no memory. -/
theorem obl_pure (hwr : wr.getD i false = false) (hle : ms.length = ws.length) (hk : k ∈ okL md ops wr ms i) (h : ∀ w, (execOp a.eval o).run P w = .ok (nx o v) w) :
    ∃ k' w w', (if wr.getD i false then stepB ops.size ms i k k' = true else k' = k) ∧ ws[k]? = some w ∧ ws[k']? = some w' ∧ Runs P o a v w w' := by
  have h1 : k < ws.length := by rw [← hle]; exact okL_lt hk
  refine ⟨k, ws[k], ws[k], ?_, List.getElem?_eq_getElem h1, List.getElem?_eq_getElem h1, .inl (h _)⟩
  rw [hwr]
  simp
/-- An operation that reads. -/
theorem obl_read {ks : List Nat} (hwr : wr.getD i false = false) (hks : okL md ops wr ms i = ks) (hle : ms.length = ws.length) (hk : k ∈ okL md ops wr ms i) (h : AllL ks fun k => ∀ w, ws[k]? = some w → (execOp a.eval o).run P w = .ok (nx o v) w) :
    ∃ k' w w', (if wr.getD i false then stepB ops.size ms i k k' = true else k' = k) ∧ ws[k]? = some w ∧ ws[k']? = some w' ∧ Runs P o a v w w' := by
  have h1 : k < ws.length := by rw [← hle]; exact okL_lt hk
  have h2 := AllL.at h k (by rw [← hks]; exact hk) _ (List.getElem?_eq_getElem h1)
  refine ⟨k, ws[k], ws[k], ?_, List.getElem?_eq_getElem h1, List.getElem?_eq_getElem h1, .inl h2⟩
  rw [hwr]
  simp
/-- A call that only computes. -/
theorem obl_call {ks : List Nat} (hwr : wr.getD i false = false) (hks : okL md ops wr ms i = ks) (hle : ms.length = ws.length) (hk : k ∈ okL md ops wr ms i) (h : AllL ks fun k => ∀ w, ws[k]? = some w → ∃ f args, (execOp a.eval o).run P w = .ok (.enter f args) w ∧ Calls P f args w fun e w'' => e = .returned v ∧ w'' = w) :
    ∃ k' w w', (if wr.getD i false then stepB ops.size ms i k k' = true else k' = k) ∧ ws[k]? = some w ∧ ws[k']? = some w' ∧ Runs P o a v w w' := by
  have h1 : k < ws.length := by rw [← hle]; exact okL_lt hk
  have h2 := AllL.at h k (by rw [← hks]; exact hk) _ (List.getElem?_eq_getElem h1)
  refine ⟨k, ws[k], ws[k], ?_, List.getElem?_eq_getElem h1, List.getElem?_eq_getElem h1, .inr h2⟩
  rw [hwr]
  simp
/-- An operation that writes. -/
theorem obl_write {ks : List Nat} (hwr : wr.getD i false = true) (hks : okL md ops wr ms i = ks) (hk : k ∈ okL md ops wr ms i) (h : AllL ks fun k => ∃ k' w w', stepB ops.size ms i k k' = true ∧ ws[k]? = some w ∧ ws[k']? = some w' ∧ (execOp a.eval o).run P w = .ok (nx o v) w') :
    ∃ k' w w', (if wr.getD i false then stepB ops.size ms i k k' = true else k' = k) ∧ ws[k]? = some w ∧ ws[k']? = some w' ∧ Runs P o a v w w' := by
  obtain ⟨k', w, w', h1, h2, h3, h4⟩ := AllL.at h k (by rw [← hks]; exact hk)
  refine ⟨k', w, w', ?_, h2, h3, .inl h4⟩
  rw [hwr]
  simpa using h1
end
end Go.Proofs.YtdfllhmkgphcmaaDoor
namespace Go.Proofs.YtdfllhmkgphcmaaDoor

/-- A value of the machine. -/
inductive MV where
  | mk (kind int block : Int) (list : List MV)
def MV.kind : MV → Int | .mk k _ _ _ => k
def MV.int : MV → Int | .mk _ i _ _ => i
def MV.block : MV → Int | .mk _ _ b _ => b
def MV.list : MV → List MV | .mk _ _ _ l => l
/-- A call. -/
structure MF where
  block : Int
  at_ : Int
  L : List MV
/-- What an instruction turns. -/
structure MS where
  S : List MV
  F : List MF
  seed : Int
  done : Bool
abbrev w64 (x : Int) : Int := Go.RowKit.wrap64 x
def u64 (x : Int) : Int := IntKind.u64.wrap x
def vInt (n : Int) : MV := .mk 1 n 0 []
def vBool (b : Bool) : MV := .mk 2 (if b then 1 else 0) 0 []
def vBit (n : Int) : MV := .mk 2 n 0 []
def vList (l : List MV) : MV := .mk 3 0 0 l
def vFun (b : Int) (l : List MV) : MV := .mk 4 0 b l

/-- The last of a list and the others. -/
def unsn {α : Type} (l : List α) : Option (List α × α) := match l.getLast? with | some x => some (l.dropLast, x) | none => none
@[simp] theorem unsn_nil {α : Type} : unsn ([] : List α) = none := rfl
@[simp] theorem unsn_snoc {α : Type} (l : List α) (x : α) : unsn (l ++ [x]) = some (l, x) := by simp [unsn]
theorem snoc_cases {α : Type} (l : List α) : l = [] ∨ ∃ l' x, l = l' ++ [x] := by
  rcases List.eq_nil_or_concat l with h | ⟨l', x, h⟩
  · exact .inl h
  · exact .inr ⟨l', x, by rw [h]; simp⟩
def popK (k : Int) (S : List MV) : Option (List MV × MV) := match unsn S with | some (S', x) => if x.kind = k then some (S', x) else none | none => none
@[simp] theorem popK_nil (k : Int) : popK k [] = none := rfl
theorem popK_snoc (k : Int) (S : List MV) (x : MV) : popK k (S ++ [x]) = if x.kind = k then some (S, x) else none := by simp [popK]

def opInt (name : T) (a b : Int) : Int := if name = [43] then w64 (a + b) else if name = [45] then w64 (a - b) else w64 (a * b)
def nextSeed (s : Int) : Int := u64 (u64 (s * 6364136223846793005) + 1442695040888963407)
def drawn (s a b : Int) : Bool := decide ((s / 8589934592).tmod (u64 b) < u64 a)

/-- An instruction, at lower calls G and the call f (its number moved on); a fault is a number. -/
def exec (bs : List Blk) (x : Ins) (S : List MV) (G : List MF) (f : MF) (seed : Int) : Except Int MS :=
  let ok (S : List MV) (f : MF) : Except Int MS := .ok ⟨S, G ++ [f], seed, false⟩
  if x.op = 1 then ok (S ++ [vInt x.a]) f
  else if x.op = 2 then ok (S ++ [vBit x.a]) f
  else if x.op = 3 then (match f.L[x.a.toNat]? with | some v => ok (S ++ [v]) f | none => .error 26)
  else if x.op = 4 then .ok ⟨S, G ++ [f] ++ [⟨x.a, 0, []⟩], seed, false⟩
  else if x.op = 5 then (if (bs[x.a.toNat]?.map Blk.cap) = some (f.L.length : Int) then ok (S ++ [vFun x.a f.L]) f else .error 26)
  else if x.op = 6 then (match unsn S with
    | none => .error 26
    | some (S1, v) => match popK 4 S1 with
      | none => .error 26
      | some (S2, h) => .ok ⟨S2, G ++ [f] ++ [⟨h.block, 0, h.list ++ [v]⟩], seed, false⟩)
  else if x.op = 7 then (if S = [] then .error 26 else .ok ⟨S, G, seed, G.isEmpty⟩)
  else if x.op = 8 then ok S { f with at_ := x.a }
  else if x.op = 9 then (match popK 2 S with | none => .error 26 | some (S1, v) => ok S1 (if v.int = 0 then { f with at_ := x.a } else f))
  else if x.op = 10 then (match popK 1 S with
    | none => .error 26
    | some (S1, b) => match popK 1 S1 with
      | none => .error 26
      | some (S2, a) =>
        if x.name = [61] then ok (S2 ++ [vBool (a.int == b.int)]) f
        else if x.name = [60] then ok (S2 ++ [vBool (decide (a.int < b.int))]) f
        else if opInt x.name a.int b.int < -999999999 ∨ 999999999 < opInt x.name a.int b.int then .error 5
        else ok (S2 ++ [vInt (opInt x.name a.int b.int)]) f)
  else if x.op = 11 then ok (S ++ [vList []]) f
  else if x.op = 12 then (match popK 3 S with
    | none => .error 26
    | some (S1, l) => match unsn S1 with
      | none => .error 26
      | some (S2, v) => ok (S2 ++ [vList (v :: l.list)]) f)
  else if x.op = 13 then (match popK 3 S with
    | none => .error 26
    | some (S1, l) => match l.list with
      | [] => ok S1 { f with at_ := x.a }
      | h :: t => ok S1 { f with L := f.L ++ [h, vList t] })
  else if x.op = 14 then (match unsn S with | none => .error 26 | some (S1, v) => ok S1 { f with L := f.L ++ [v] })
  else if x.op = 15 then (if (f.L.length : Int) < x.a then .error 26 else ok S { f with L := f.L.take (f.L.length - x.a.toNat) })
  else .ok ⟨S ++ [vBool (drawn (nextSeed seed) x.a x.b)], G ++ [f], nextSeed seed, false⟩

/-- A machine. -/
structure MM where
  bs : List Blk
  S : List MV
  F : List MF
  steps : Int
  seed : Int
  done : Bool
  err : Int
/-- A step of a machine that has not ended. -/
def stepM (m : MM) : MM :=
  match unsn m.F with
  | none => { m with steps := m.steps + 1, err := 26 }
  | some (G, f) => match m.bs[f.block.toNat]? with
    | none => { m with steps := m.steps + 1, err := 26 }
    | some b => match b.ins[f.at_.toNat]? with
      | none => { m with steps := m.steps + 1, err := 26 }
      | some x => match exec m.bs x m.S G { f with at_ := f.at_ + 1 } m.seed with
        | .error e => { m with steps := m.steps + 1, err := e }
        | .ok s => { m with S := s.S, F := s.F, seed := s.seed, done := s.done, steps := m.steps + 1 }
def ended (m : MM) : Bool := m.done || m.err != 0
def runM : Nat → MM → MM
  | 0, m => m
  | n + 1, m => if ended (stepM m) then stepM m else runM n (stepM m)

/-- Values whose blocks are there, and whose lists are not too long. -/
inductive MV.Ok (nb n : Nat) : MV → Prop
  | mk {k i b : Int} {l : List MV} (h0 : 0 ≤ b) (h1 : b < nb) (hl : l.length ≤ n) (h : ∀ x ∈ l, MV.Ok nb n x) : MV.Ok nb n (.mk k i b l)
end Go.Proofs.YtdfllhmkgphcmaaDoor
namespace Go.Proofs.YtdfllhmkgphcmaaDoor
open Go.RowKit

/-- A value with the place of its list. -/
inductive AV where
  | mk (kind int : Int) (A : Option Addr) (c : Nat) (block : Int) (list : List AV)
def AV.kind : AV → Int | .mk k _ _ _ _ _ => k
def AV.int : AV → Int | .mk _ i _ _ _ _ => i
def AV.A : AV → Option Addr | .mk _ _ a _ _ _ => a
def AV.c : AV → Nat | .mk _ _ _ c _ _ => c
def AV.block : AV → Int | .mk _ _ _ _ b _ => b
def AV.list : AV → List AV | .mk _ _ _ _ _ l => l
abbrev nilS : Value := .slice none 0 0
abbrev eS : Value := .string ⟨#[]⟩
def AV.cs (x : AV) : List Value := [iv x.kind, iv x.int, .slice x.A x.list.length x.c, iv x.block, eS, eS, nilS, nilS]
def AV.v (x : AV) : Value := .agg #[iv x.kind, iv x.int, .slice x.A x.list.length x.c, iv x.block, eS, eS, nilS, nilS]
mutual
def AV.er : AV → MV
  | .mk k i _ _ b l => .mk k i b (ers l)
def ers : List AV → List MV
  | [] => []
  | x :: l => x.er :: ers l
end
@[simp] theorem ers_nil : ers [] = [] := by simp [ers]
@[simp] theorem ers_cons (x : AV) (l : List AV) : ers (x :: l) = x.er :: ers l := by simp [ers]
@[simp] theorem ers_append (l m : List AV) : ers (l ++ m) = ers l ++ ers m := by induction l <;> simp [*]
@[simp] theorem ers_length (l : List AV) : (ers l).length = l.length := by induction l <;> simp [*]
theorem ers_map (l : List AV) : ers l = l.map AV.er := by induction l <;> simp [*]
theorem ers_take (l : List AV) (n : Nat) : ers (l.take n) = (ers l).take n := by rw [ers_map, ers_map, List.map_take]
theorem er_kind (x : AV) : x.er.kind = x.kind := by cases x; simp [AV.er, MV.kind, AV.kind]
theorem er_int (x : AV) : x.er.int = x.int := by cases x; simp [AV.er, MV.int, AV.int]
theorem er_block (x : AV) : x.er.block = x.block := by cases x; simp [AV.er, MV.block, AV.block]
theorem er_list (x : AV) : x.er.list = ers x.list := by cases x; simp [AV.er, MV.list, AV.list]
theorem er_eq (x : AV) : x.er = .mk x.kind x.int x.block (ers x.list) := by cases x; simp [AV.er, AV.kind, AV.int, AV.block, AV.list]
theorem AV.cs_len (x : AV) : x.cs.length = 8 := rfl

/-- What the runner uses a block for. -/
inductive Tag where
  | no
  | own
  | all
  | arr (lo sz : Nat)
  | loc (d hi : Nat)
def Tag.le : Tag → Tag → Prop
  | .no, t => t = .no
  | .own, t => t = .own
  | .all, t => t = .all
  | .arr lo sz, t => ∃ lo', t = .arr lo' sz ∧ lo' ≤ lo
  | .loc d hi, t => ∃ hi', t = .loc d hi' ∧ hi ≤ hi'
theorem Tag.le_refl (t : Tag) : t.le t := by
  cases t with
  | arr lo sz => exact ⟨lo, rfl, Nat.le_refl _⟩
  | loc d hi => exact ⟨hi, rfl, Nat.le_refl _⟩
  | no => rfl
  | own => rfl
  | all => rfl
/-- A cell that stays. -/
def sta (B : Nat) (tag : Nat → Tag) (p : Addr) : Prop :=
  p.block < B ∨ tag p.block = .all ∨ (∃ lo sz, tag p.block = .arr lo sz ∧ lo ≤ p.off) ∨ ∃ d hi, tag p.block = .loc d hi ∧ p.off < hi
theorem sta.le {B : Nat} {tag tag' : Nat → Tag} {p : Addr} (h : sta B tag p) (ht : (tag p.block).le (tag' p.block)) : sta B tag' p := by
  rcases h with h | h | ⟨lo, sz, h, hl⟩ | ⟨d, hi, h, hl⟩
  · exact .inl h
  · rw [h] at ht; exact .inr (.inl ht)
  · rw [h] at ht
    obtain ⟨lo', e, h'⟩ := ht
    exact .inr (.inr (.inl ⟨lo', sz, e, by omega⟩))
  · rw [h] at ht
    obtain ⟨hi', e, h'⟩ := ht
    exact .inr (.inr (.inr ⟨d, hi', e, by omega⟩))

/-- A list of values that lies in memory and stays there. -/
inductive LRd (B : Nat) (tag : Nat → Tag) (w : World) : Option Addr → Nat → List AV → Prop
  | mk {A : Option Addr} {c : Nat} {L : List AV} (hc : L.length ≤ c) (hm : c ≤ 9223372036854775807) (h0 : A = none → c = 0)
      (hb : ∀ a, A = some a → a.block < w.heap.size)
      (he : ∀ a lo sz, A = some a → tag a.block = .arr lo sz → a.off + L.length * 8 = sz)
      (hx : ∀ a, A = some a → ∀ (j : Nat) x, L[j]? = some x → ∀ (i : Nat) v, x.cs[i]? = some v → w.cell? (a.add (j * 8 + i)) = some v ∧ sta B tag (a.add (j * 8 + i)))
      (hr : ∀ x ∈ L, LRd B tag w x.A x.c x.list) : LRd B tag w A c L
theorem LRd.hc {B : Nat} {tag : Nat → Tag} {w : World} {A : Option Addr} {c : Nat} {L : List AV} (h : LRd B tag w A c L) : L.length ≤ c := by cases h; assumption
theorem LRd.hm {B : Nat} {tag : Nat → Tag} {w : World} {A : Option Addr} {c : Nat} {L : List AV} (h : LRd B tag w A c L) : c ≤ 9223372036854775807 := by cases h; assumption
theorem LRd.h0 {B : Nat} {tag : Nat → Tag} {w : World} {A : Option Addr} {c : Nat} {L : List AV} (h : LRd B tag w A c L) : A = none → c = 0 := by cases h; assumption
theorem LRd.hb {B : Nat} {tag : Nat → Tag} {w : World} {A : Option Addr} {c : Nat} {L : List AV} (h : LRd B tag w A c L) : ∀ a, A = some a → a.block < w.heap.size := by cases h; assumption
theorem LRd.he {B : Nat} {tag : Nat → Tag} {w : World} {A : Option Addr} {c : Nat} {L : List AV} (h : LRd B tag w A c L) : ∀ a lo sz, A = some a → tag a.block = .arr lo sz → a.off + L.length * 8 = sz := by cases h; assumption
theorem LRd.hx {B : Nat} {tag : Nat → Tag} {w : World} {A : Option Addr} {c : Nat} {L : List AV} (h : LRd B tag w A c L) : ∀ a, A = some a → ∀ (j : Nat) x, L[j]? = some x → ∀ (i : Nat) v, x.cs[i]? = some v → w.cell? (a.add (j * 8 + i)) = some v ∧ sta B tag (a.add (j * 8 + i)) := by cases h; assumption
theorem LRd.hr {B : Nat} {tag : Nat → Tag} {w : World} {A : Option Addr} {c : Nat} {L : List AV} (h : LRd B tag w A c L) : ∀ x ∈ L, LRd B tag w x.A x.c x.list := by cases h; assumption
theorem LRd.nil (B : Nat) (tag : Nat → Tag) (w : World) : LRd B tag w none 0 [] :=
  .mk (by simp) (by omega) (fun _ => rfl) (by simp) (by simp) (by simp) (by simp)
/-- It stays while cells that stay stay. -/
theorem LRd.mono {B : Nat} {tag tag' : Nat → Tag} {w w' : World} (hs : w.heap.size ≤ w'.heap.size) (ht : ∀ k, k < w.heap.size → (tag k).le (tag' k)) (hk : ∀ p : Addr, p.block < w.heap.size → sta B tag p → w'.cell? p = w.cell? p)
    {A : Option Addr} {c : Nat} {L : List AV} (h : LRd B tag w A c L) : LRd B tag' w' A c L := by
  induction h with
  | @mk A c L hc hm h0 hb he hx hr ih =>
    refine .mk hc hm h0 (fun a e => by have := hb a e; omega) ?_ ?_ ih
    · intro a lo sz e ha
      have h1 := ht a.block (hb a e)
      cases h2 : tag a.block with
      | no => rw [h2] at h1; rw [show tag' a.block = .no from h1] at ha; cases ha
      | own => rw [h2] at h1; rw [show tag' a.block = .own from h1] at ha; cases ha
      | all => rw [h2] at h1; rw [show tag' a.block = .all from h1] at ha; cases ha
      | loc d hi => rw [h2] at h1; obtain ⟨hi', e', _⟩ := h1; rw [e'] at ha; cases ha
      | arr lo0 sz0 =>
        rw [h2] at h1
        obtain ⟨lo', e', _⟩ := h1
        rw [e'] at ha
        cases ha
        exact he a lo0 sz e h2
    · intro a e j x hj i v hi
      obtain ⟨h1, h2⟩ := hx a e j x hj i v hi
      have hb' : (a.add (j * 8 + i)).block < w.heap.size := by rw [add_block]; exact hb a e
      exact ⟨(hk _ hb' h2).trans h1, h2.le (ht _ hb')⟩

/-- A call of the machine with the place of its variables. -/
structure Fr where
  block : Int
  at_ : Int
  A : Option Addr
  c : Nat
  L : List AV
def Fr.cs (f : Fr) : List Value := [iv f.block, iv f.at_, .slice f.A f.L.length f.c]
def Fr.v (f : Fr) : Value := .agg #[iv f.block, iv f.at_, .slice f.A f.L.length f.c]
def Fr.er (f : Fr) : MF := ⟨f.block, f.at_, ers f.L⟩
theorem Fr.cs_len (x : Fr) : x.cs.length = 3 := rfl
/-- An array with a free place ahead: array, start, length, the block of the room. -/
structure Rm where
  ab : Nat
  st : Nat
  sz : Nat
  ro : Nat
/-- What the runner has in memory. -/
structure Gh where
  tag : Nat → Tag
  S : List AV
  sv : Value
  F : List Fr
  fv : Value
  R : List Rm

/-- The variables of a call. -/
structure FOk (B : Nat) (tag : Nat → Tag) (w : World) (d : Nat) (f : Fr) : Prop where
  l : LRd B tag w f.A f.c f.L
  na : ∀ a lo sz, f.A = some a → tag a.block ≠ .arr lo sz
  sp : f.c = f.L.length ∨ ∃ k, f.A = some ⟨k, 0, none⟩ ∧ B ≤ k ∧ tag k = .loc d (f.L.length * 8) ∧ w.ownsRow B 54 8 (.slice f.A f.L.length f.c) f.L.length (f.L.flatMap AV.cs)
theorem FOk.mono {B : Nat} {tag tag' : Nat → Tag} {w w' : World} (hs : w.heap.size ≤ w'.heap.size) (ht : ∀ k, k < w.heap.size → (tag k).le (tag' k)) (hk : ∀ p : Addr, p.block < w.heap.size → sta B tag p → w'.cell? p = w.cell? p)
    {d : Nat} (hl : ∀ k hi, B ≤ k → k < w.heap.size → tag k = .loc d hi → tag' k = .loc d hi ∧ w'.heap[k]? = w.heap[k]?) {f : Fr} (h : FOk B tag w d f) : FOk B tag' w' d f := by
  refine ⟨h.l.mono hs ht hk, fun a lo sz e ha => ?_, ?_⟩
  · have h1 := ht a.block (h.l.hb a e)
    cases h2 : tag a.block with
    | no => rw [h2] at h1; rw [show tag' a.block = .no from h1] at ha; cases ha
    | own => rw [h2] at h1; rw [show tag' a.block = .own from h1] at ha; cases ha
    | all => rw [h2] at h1; rw [show tag' a.block = .all from h1] at ha; cases ha
    | loc d hi => rw [h2] at h1; obtain ⟨hi', e', _⟩ := h1; rw [e'] at ha; cases ha
    | arr lo0 sz0 => exact h.na a lo0 sz0 e h2
  rcases h.sp with h1 | ⟨k, h1, h2, h3, h4⟩
  · exact .inl h1
  · have h5 := hl k _ h2 (h.l.hb _ h1) h3
    refine .inr ⟨k, h1, h2, h5.1, h4.1, ?_⟩
    rcases h4.2 with h6 | ⟨g, cap, cur, e1, e2, e3, e4⟩
    · exact .inl h6
    · have : g = k := by rw [h1] at e1; cases e1; rfl
      subst this
      exact .inr ⟨g, cap, cur, e1, e2, h5.2.trans e3, e4⟩

/-- The rooms of the runner. -/
structure ROk (B : Nat) (tag : Nat → Tag) (w : World) (r : Rm) : Prop where
  o : w.heap[r.ro]? = some (.cells #[.slice (some ⟨r.ab, 0, none⟩) r.sz r.sz, iv r.st] 131 (0, 0))
  ot : tag r.ro = .own
  ob : B ≤ r.ro
  a : ∃ cur, w.heap[r.ab]? = some (.cells cur 54 (0, 0)) ∧ cur.size = r.sz * 8
  at_ : tag r.ab = .arr (r.st * 8) (r.sz * 8)
  ab : B ≤ r.ab
  le : r.st ≤ r.sz
  sz : r.sz ≤ 1000000000
def Rm.kv (r : Rm) : Value × Value := (.pointer (some ⟨r.ab, r.st * 8, none⟩), .pointer (some ⟨r.ro, 0, none⟩))

/-- The functions of the instructions. -/
def effs (tb rb : Nat) : Array MapEntry :=
  let c (f : Nat) : Value := .func (.func f) #[] #[.pointer (some ⟨tb, 0, none⟩)]
  let m (f : Nat) : Value := .func (.func f) #[.pointer (some ⟨rb, 0, none⟩)] #[]
  #[⟨iv 1, c 68, 0⟩, ⟨iv 2, c 70, 1⟩, ⟨iv 3, m 71, 2⟩, ⟨iv 4, c 72, 3⟩, ⟨iv 5, m 74, 4⟩, ⟨iv 6, m 75, 5⟩, ⟨iv 7, m 76, 6⟩, ⟨iv 8, c 77, 7⟩, ⟨iv 9, c 78, 8⟩, ⟨iv 10, m 80, 9⟩, ⟨iv 11, c 81, 10⟩, ⟨iv 12, m 82, 11⟩, ⟨iv 13, m 83, 12⟩, ⟨iv 14, c 84, 13⟩, ⟨iv 15, m 87, 14⟩, ⟨iv 16, m 88, 15⟩]

/-- The blocks of the runner: its own, that of the table's variable, the two maps. -/
structure Bl where
  w0 : World
  rb : Nat
  tb : Nat
  eb : Nat
  mb : Nat
def Bl.B (b : Bl) : Nat := b.w0.heap.size

/-- Memory as the runner keeps it, besides its own block. -/
structure Mem (b : Bl) (w : World) (g : Gh) : Prop where
  os : w.os = b.w0.os
  tape : w.tape = b.w0.tape
  output : w.output = b.w0.output
  hs : b.B ≤ w.heap.size
  old : ∀ k, k < b.B → w.heap[k]? = b.w0.heap[k]?
  lo : ∀ k, k < b.B → g.tag k = .no
  new : ∀ k, w.heap.size ≤ k → g.tag k = .no
  rt : g.tag b.rb = .own
  rbb : b.B ≤ b.rb
  et : g.tag b.eb = .own
  eo : w.heap[b.eb]? = some (.map (effs b.tb b.rb) 16)
  tt : g.tag b.tb = .own
  to : w.heap[b.tb]? = some (.cells #[.pointer (some ⟨b.rb, 0, none⟩)] 82 (0, 0))
  mt : g.tag b.mb = .own
  mbb : b.B ≤ b.mb
  mo : ∃ es clk, w.heap[b.mb]? = some (.map es clk) ∧ es.toList.map (fun e => (e.key, e.val)) = g.R.map Rm.kv
  st : w.ownsRow b.B 54 8 g.sv g.S.length (g.S.flatMap AV.cs)
  stt : ∀ k, g.sv.ownBlock = some k → g.tag k = .own
  fr : w.ownsRow b.B 78 3 g.fv g.F.length (g.F.flatMap Fr.cs)
  frt : ∀ k, g.fv.ownBlock = some k → g.tag k = .own
  sr : ∀ x ∈ g.S, LRd b.B g.tag w x.A x.c x.list
  fl : ∀ (d : Nat) f, g.F[d]? = some f → FOk b.B g.tag w d f
  rm : ∀ r ∈ g.R, ROk b.B g.tag w r
  ra : g.R.Pairwise fun r r' => r.ab ≠ r'.ab ∧ r.ro ≠ r'.ro
/-- Blocks with this tag stay as they are. -/
def Tag.still : Tag → Bool
  | .no => true
  | .all => true
  | _ => false
theorem Tag.still_le {a b : Tag} (ha : a.still = true) (h : a.le b) : b.still = true := by
  cases a with
  | no => cases h; rfl
  | all => cases h; rfl
  | own => cases ha
  | arr lo sz => cases ha
  | loc d hi => cases ha
/-- How memory goes on. -/
structure Ch (w : World) (g : Gh) (w' : World) (g' : Gh) : Prop where
  os : w'.os = w.os
  tape : w'.tape = w.tape
  output : w'.output = w.output
  size : w.heap.size ≤ w'.heap.size
  block : ∀ k, k < w.heap.size → (g.tag k).still = true → w'.heap[k]? = w.heap[k]?
  tag : ∀ k, k < w.heap.size → (g.tag k).le (g'.tag k)
theorem Ch.refl (w : World) (g : Gh) : Ch w g w g := ⟨rfl, rfl, rfl, Nat.le_refl _, fun _ _ _ => rfl, fun _ _ => Tag.le_refl _⟩
theorem Tag.le_trans {a b c : Tag} (h : a.le b) (h' : b.le c) : a.le c := by
  cases a with
  | no => cases h; exact h'
  | own => cases h; exact h'
  | all => cases h; exact h'
  | arr lo sz =>
    obtain ⟨lo', rfl, h1⟩ := h
    obtain ⟨lo2, rfl, h2⟩ := h'
    exact ⟨lo2, rfl, by omega⟩
  | loc d hi =>
    obtain ⟨hi', rfl, h1⟩ := h
    obtain ⟨hi2, rfl, h2⟩ := h'
    exact ⟨hi2, rfl, by omega⟩
theorem Ch.trans {w w' w2 : World} {g g' g2 : Gh} (h : Ch w g w' g') (k : Ch w' g' w2 g2) : Ch w g w2 g2 where
  os := k.os.trans h.os
  tape := k.tape.trans h.tape
  output := k.output.trans h.output
  size := Nat.le_trans h.size k.size
  block i hi ht := by
    have h1 := h.tag i hi
    exact (k.block i (Nat.lt_of_lt_of_le hi h.size) (Tag.still_le ht h1)).trans (h.block i hi ht)
  tag i hi := Tag.le_trans (h.tag i hi) (k.tag i (Nat.lt_of_lt_of_le hi h.size))
end Go.Proofs.YtdfllhmkgphcmaaDoor
namespace Go.Proofs.YtdfllhmkgphcmaaDoor
open Go.RowKit
theorem info54 : (Tryd.prog.info? 54).map (fun i => (i.zero, i.size, i.bytes)) = some (some (.agg #[.int .i64 0, .int .i64 0, .slice none 0 0, .int .i64 0, .string ⟨#[]⟩, .string ⟨#[]⟩, .slice none 0 0, .slice none 0 0]), 8, 128) := by kernel_rfl
theorem info78 : (Tryd.prog.info? 78).map (fun i => (i.zero, i.size, i.bytes)) = some (some (.agg #[.int .i64 0, .int .i64 0, .slice none 0 0]), 3, 40) := by kernel_rfl

theorem row_keep {w w' : World} {base : Nat} {e : TypeId} {size : Nat} {v : Value} {n : Nat} {xs : List Value} (h : w.ownsRow base e size v n xs) (hk : ∀ g cur, v.ownBlock = some g → w.heap[g]? = some (.cells cur e (0, 0)) → w'.heap[g]? = w.heap[g]?) : w'.ownsRow base e size v n xs := by
  refine ⟨h.1, ?_⟩
  rcases h.2 with h1 | ⟨g, cap, cur, rfl, h2, h3, h4⟩
  · exact .inl h1
  · exact .inr ⟨g, cap, cur, rfl, h2, (hk g cur rfl h3).trans h3, h4⟩
theorem heap_lt {w : World} {k : Nat} {o : Obj} (h : w.heap[k]? = some o) : k < w.heap.size := (Array.getElem?_eq_some_iff.1 h).1

/-- Memory stays if only the block x of the runner is written, and new ones are made. -/
theorem Mem.keep {b : Bl} {w w' : World} {g : Gh} (h : Mem b w g) (os : w'.os = w.os) (tape : w'.tape = w.tape) (output : w'.output = w.output) (hs : w.heap.size ≤ w'.heap.size) (x : Nat)
    (hx : x < w.heap.size → g.tag x = .own ∧ b.B ≤ x ∧ ∃ cur fz, w.heap[x]? = some (.cells cur 87 fz)) (hk : ∀ k, k < w.heap.size → k ≠ x → (k < b.B ∨ g.tag k ≠ .no) → w'.heap[k]? = w.heap[k]?) : Mem b w' g := by
  have ne : ∀ {k : Nat} {o : Obj}, w.heap[k]? = some o → (∀ cur fz, o ≠ .cells cur 87 fz) → k ≠ x := fun {k o} hk1 ho e => by
    subst e
    obtain ⟨_, _, cur, fz, h1⟩ := hx (heap_lt hk1)
    rw [h1] at hk1
    exact ho cur fz (Option.some.inj hk1).symm
  have nt : ∀ {k : Nat}, k < w.heap.size → g.tag k ≠ .own → k ≠ x := fun {k} hk1 ht e => by subst e; exact ht (hx hk1).1
  have keep : ∀ {k : Nat} {o : Obj}, w.heap[k]? = some o → (∀ cur fz, o ≠ .cells cur 87 fz) → g.tag k ≠ .no → w'.heap[k]? = some o := fun {k o} h1 h2 h3 => (hk k (heap_lt h1) (ne h1 h2) (.inr h3)).trans h1
  have own : ∀ {k : Nat}, g.tag k = .own → g.tag k ≠ .no := fun h => by rw [h]; simp
  have cells : ∀ p : Addr, p.block < w.heap.size → sta b.B g.tag p → w'.cell? p = w.cell? p := fun p hp hs => by
    refine World.cell?_of_block (w := w) ?_
    by_cases hB : p.block < b.B
    · exact hk _ hp (fun e => by have := (hx (e ▸ hp)).2.1; omega) (.inl hB)
    · have : g.tag p.block ≠ .no ∧ g.tag p.block ≠ .own := by
        rcases hs with h1 | h1 | ⟨lo, sz, h1, _⟩ | ⟨d, hi, h1, _⟩
        · exact absurd h1 hB
        · rw [h1]; simp
        · rw [h1]; simp
        · rw [h1]; simp
      exact hk _ hp (nt hp this.2) (.inr this.1)
  have hB := h.hs
  refine { os := os.trans h.os, tape := tape.trans h.tape, output := output.trans h.output, hs := Nat.le_trans h.hs hs, old := ?_, lo := h.lo, new := fun k hk' => h.new k (Nat.le_trans hs hk'), rt := h.rt, rbb := h.rbb, et := h.et, eo := ?_, tt := h.tt, to := ?_, mt := h.mt, mbb := h.mbb, mo := ?_, st := ?_, stt := h.stt, fr := ?_, frt := h.frt, sr := ?_, fl := ?_, rm := ?_, ra := h.ra }
  · intro k hkB
    by_cases e : k < w.heap.size
    · exact (hk k e (fun e' => by subst e'; have := (hx e).2.1; omega) (.inl hkB)).trans (h.old k hkB)
    · omega
  · exact keep h.eo (by simp) (own h.et)
  · exact keep h.to (by simp) (own h.tt)
  · obtain ⟨es, clk, h1, h2⟩ := h.mo
    exact ⟨es, clk, keep h1 (by simp) (own h.mt), h2⟩
  · exact row_keep h.st fun k cur e1 e2 => (keep e2 (by simp) (own (h.stt k e1))).trans e2.symm
  · exact row_keep h.fr fun k cur e1 e2 => (keep e2 (by simp) (own (h.frt k e1))).trans e2.symm
  · exact fun v hv => (h.sr v hv).mono hs (fun k _ => Tag.le_refl _) cells
  · exact fun d f hd => (h.fl d f hd).mono hs (fun k _ => Tag.le_refl _) cells fun k hi hkB hk' ht => ⟨ht, hk k hk' (nt hk' (by rw [ht]; simp)) (.inr (by rw [ht]; simp))⟩
  · intro r hr
    have q := h.rm r hr
    obtain ⟨cur, q1, q2⟩ := q.a
    exact { q with o := keep q.o (by simp) (own q.ot), a := ⟨cur, keep q1 (by simp) (by rw [q.at_]; simp), q2⟩ }

theorem Mem.alloc {b : Bl} {w : World} {g : Gh} (h : Mem b w g) (o : Obj) : Mem b (w.alloc o) g :=
  h.keep rfl rfl rfl (by simp) w.heap.size (by intro hx; omega) fun k hk _ _ => Below.heap_alloc w o k hk
theorem Mem.drewN {b : Bl} {w : World} {g : Gh} (h : Mem b w g) (n : Nat) : Mem b (w.drewN n) g :=
  h.keep rfl rfl rfl (Nat.le_refl _) w.heap.size (by intro hx; omega) fun k hk _ _ => rfl
theorem Mem.below {b : Bl} {w w' : World} {g : Gh} (h : Mem b w g) (hb : Below w.heap.size w w') : Mem b w' g :=
  h.keep hb.os hb.tape hb.output hb.size w.heap.size (by intro hx; omega) fun k hk _ _ => hb.block k hk
/-- A store into a box of a function's own. -/
theorem Mem.box {b : Bl} {w : World} {g : Gh} (h : Mem b w g) {p : Addr} (hp : b.B ≤ p.block) (ht : g.tag p.block = .no) (u : Value) : Mem b (w.setCell p u) g := by
  refine h.keep rfl rfl rfl (by simp) w.heap.size (by intro hx; omega) fun k hk _ hr => Below.heap_setCell w p u k fun e => ?_
  subst e
  rcases hr with hr | hr
  · omega
  · exact hr ht
/-- Only the runner's own block is written. -/
theorem Mem.only {b : Bl} {w w' : World} {g : Gh} (h : Mem b w g) (hg : w.grownBy w' (some b.rb)) {cur : Array Value} {fz : Nat × Nat} (hr : w.heap[b.rb]? = some (.cells cur 87 fz)) : Mem b w' g :=
  h.keep hg.os hg.tape hg.output hg.size b.rb (fun _ => ⟨h.rt, h.rbb, cur, fz, hr⟩) fun k hk hne _ => hg.block k hk (by simpa using hne)

/-- The runner's own block. -/
def rcs (p : Prg) (sv fv : Value) (steps seed : Int) (done : Bool) (err : Int) (b : Bl) : Array Value :=
  #[.slice p.bA p.bs.length p.bc, .slice p.sA p.ss.length p.sc, sv, fv, iv steps, .int .u64 seed, .bool done, iv err, .map (some b.eb), .map (some b.mb)]
def RB (b : Bl) (p : Prg) (w : World) (sv fv : Value) (steps seed : Int) (done : Bool) (err : Int) : Prop := w.heap[b.rb]? = some (.cells (rcs p sv fv steps seed done err b) 87 (0, 0))
section
variable {b : Bl} {p : Prg} {w : World} {sv fv : Value} {steps seed : Int} {done : Bool} {err : Int}
theorem RB.lt (h : RB b p w sv fv steps seed done err) : b.rb < w.heap.size := heap_lt h
theorem RB.f (h : RB b p w sv fv steps seed done err) (j : Nat) : w.frozen? ⟨b.rb, j, none⟩ = false := by simp [World.frozen?, show w.heap[b.rb]? = _ from h]
theorem RB.c (h : RB b p w sv fv steps seed done err) (j : Nat) : w.cell? ⟨b.rb, j, none⟩ = (rcs p sv fv steps seed done err b)[j]? := by simp [World.cell?, show w.heap[b.rb]? = _ from h]
theorem RB.keep {w' : World} (h : RB b p w sv fv steps seed done err) (e : w'.heap[b.rb]? = w.heap[b.rb]?) : RB b p w' sv fv steps seed done err := e.trans h
theorem RB.alloc (h : RB b p w sv fv steps seed done err) (o : Obj) : RB b p (w.alloc o) sv fv steps seed done err := h.keep (Below.heap_alloc w o _ h.lt)
theorem heap_set {w : World} {k : Nat} {c : Array Value} {e : TypeId} {fz : Nat × Nat} (h : w.heap[k]? = some (.cells c e fz)) (j : Nat) (u : Value) : (w.setCell ⟨k, j, none⟩ u).heap[k]? = some (.cells (c.setIfInBounds j u) e fz) := by
  simp [World.setCell, Array.getElem?_modify, h]
theorem RB.s_sv (h : RB b p w sv fv steps seed done err) (u : Value) : RB b p (w.setCell ⟨b.rb, 2, none⟩ u) u fv steps seed done err := (heap_set h 2 u).trans (by simp [rcs])
theorem RB.s_fv (h : RB b p w sv fv steps seed done err) (u : Value) : RB b p (w.setCell ⟨b.rb, 3, none⟩ u) sv u steps seed done err := (heap_set h 3 u).trans (by simp [rcs])
theorem RB.s_steps (h : RB b p w sv fv steps seed done err) (u : Int) : RB b p (w.setCell ⟨b.rb, 4, none⟩ (iv u)) sv fv u seed done err := (heap_set h 4 _).trans (by simp [rcs])
theorem RB.s_seed (h : RB b p w sv fv steps seed done err) (u : Int) : RB b p (w.setCell ⟨b.rb, 5, none⟩ (.int .u64 u)) sv fv steps u done err := (heap_set h 5 _).trans (by simp [rcs])
theorem RB.s_done (h : RB b p w sv fv steps seed done err) (u : Bool) : RB b p (w.setCell ⟨b.rb, 6, none⟩ (.bool u)) sv fv steps seed u err := (heap_set h 6 _).trans (by simp [rcs])
theorem RB.s_err (h : RB b p w sv fv steps seed done err) (u : Int) : RB b p (w.setCell ⟨b.rb, 7, none⟩ (iv u)) sv fv steps seed done u := (heap_set h 7 _).trans (by simp [rcs])
end
theorem grown_set {w : World} (k j : Nat) (u : Value) : w.grownBy (w.setCell ⟨k, j, none⟩ u) (some k) :=
  ⟨rfl, rfl, rfl, by simp, fun i _ hne => Below.heap_setCell w _ u i (by simpa using hne)⟩
theorem grown_alloc (w : World) (o : Obj) (row : Option Nat) : w.grownBy (w.alloc o) row := World.grownBy_alloc w o row
theorem grown_drewN (w : World) (n : Nat) (row : Option Nat) : w.grownBy (w.drewN n) row := ⟨rfl, rfl, rfl, Nat.le_refl _, fun _ _ _ => rfl⟩
theorem grown_below {w w' : World} (h : Below w.heap.size w w') (row : Option Nat) : w.grownBy w' row := ⟨h.os, h.tape, h.output, h.size, fun k hk _ => h.block k hk⟩
/-- A world that only grew, besides the runner's block. -/
theorem Ch.only {b : Bl} {w w' : World} {g : Gh} (h : Mem b w g) (hg : w.grownBy w' (some b.rb)) : Ch w g w' g :=
  ⟨hg.os, hg.tape, hg.output, hg.size, fun k hk ht => hg.block k hk (fun e => by cases e; rw [h.rt] at ht; cases ht), fun _ _ => Tag.le_refl _⟩
theorem Ch.grown {w w' : World} {g : Gh} (hg : w.grownBy w' none) : Ch w g w' g :=
  ⟨hg.os, hg.tape, hg.output, hg.size, fun k hk _ => hg.block k hk (by simp), fun _ _ => Tag.le_refl _⟩

/-- A map with one value turned. -/
def upT (t : Nat → Tag) (k : Nat) (x : Tag) : Nat → Tag := fun i => if i = k then x else t i
@[simp] theorem upT_at (t : Nat → Tag) (k : Nat) (x : Tag) : upT t k x k = x := by simp [upT]
theorem upT_ne (t : Nat → Tag) {k i : Nat} (x : Tag) (h : i ≠ k) : upT t k x i = t i := by simp [upT, h]
end Go.Proofs.YtdfllhmkgphcmaaDoor
namespace Go.Proofs.YtdfllhmkgphcmaaDoor
open Go.RowKit

/-- The panic of a fault. -/
def stopC (c : Int) : List PanicEntry := [{ v := .iface 106 (.agg #[iv c]), recovered := false }]
set_option maxRecDepth 100000 in
theorem fault_any (c : Int) (w : World) :
    Calls Tryd.prog 58 #[iv c] w fun e w' => e = .panicked (stopC c) ∧ w' = w := by
  unfold stopC
  go_enter Tryd.func58, Tryd.ntmps58
  go_wp2
  exact ⟨rfl, rfl, rfl⟩

set_option maxRecDepth 100000 in
theorem top_any (rb fb : Nat) (n c : Nat) (w : World) (hn : 0 < n) (hn2 : n ≤ 1000000) (c3 : w.cell? ⟨rb, 3, none⟩ = some (.slice (some ⟨fb, 0, none⟩) n c)) :
    Calls Tryd.prog 59 #[.pointer (some ⟨rb, 0, none⟩)] w fun e w' => e = .returned (.pointer (some ⟨fb, (n - 1) * 3, none⟩)) ∧ ∃ k, w' = w.drewN k := by
  have e1 : IntKind.i64.wrap ((n : Int) - 1) = (n : Int) - 1 := IntWalk.i64_in _ (by omega)
  have e2 : ((n : Int) - 1).toNat = n - 1 := by omega
  have e3 : 0 ≤ (n : Int) - 1 := by omega
  have e4 : n - 1 < n := by omega
  have e5 : (n : Int) - 1 < (n : Int) := by omega
  go_enter Tryd.func59, Tryd.ntmps59
  go_wp2
  go_quiet (fail)
  go_wp2
  go_ret
  exact ⟨rfl, _, rfl⟩

/-- What a pop leaves. -/
def PopP (b : Bl) (p : Prg) (w : World) (g n c : Nat) (fv : Value) (steps seed : Int) (done : Bool) (err : Int) (v : Value) (e : Ending) (w' : World) : Prop :=
  e = .returned v ∧ w.grownBy w' (some b.rb) ∧ RB b p w' (.slice (some ⟨g, 0, none⟩) (n - 1) c) fv steps seed done err
theorem PopP.mk {b : Bl} {p : Prg} {w : World} {g n c : Nat} {fv : Value} {steps seed : Int} {done : Bool} {err : Int} {v : Value} {sv : Value} (h : RB b p w sv fv steps seed done err) (o o' : Obj) (k : Nat) :
    PopP b p w g n c fv steps seed done err v (.returned v) (((((w.setCell ⟨b.rb, 2, none⟩ (.slice (some ⟨g, 0, none⟩) (n - 1) c)).alloc o).alloc o')).drewN k) :=
  ⟨rfl, (((grown_set _ _ _).trans (grown_alloc _ _ _)).trans (grown_alloc _ _ _)).trans (grown_drewN _ _ _), (((h.s_sv _).alloc o).alloc o')⟩

set_option maxRecDepth 100000 in
set_option maxHeartbeats 2000000 in
theorem pop_some (b : Bl) (p : Prg) (g n c : Nat) (fv : Value) (steps seed : Int) (done : Bool) (err : Int) (x : AV) (w : World) (hn : 0 < n) (hn2 : n ≤ 1000000) (hnc : n ≤ c) (hg : g < w.heap.size)
    (hR : RB b p w (.slice (some ⟨g, 0, none⟩) n c) fv steps seed done err) (hx : ∀ i, i < 8 → w.cell? ⟨g, (n - 1) * 8 + i, none⟩ = x.cs[i]?) :
    Calls Tryd.prog 86 #[.pointer (some ⟨b.rb, 0, none⟩)] w (PopP b p w g n c fv steps seed done err x.v) := by
  have e1 : IntKind.i64.wrap ((n : Int) - 1) = (n : Int) - 1 := IntWalk.i64_in _ (by omega)
  have e2 : ((n : Int) - 1).toNat = n - 1 := by omega
  have e3 : 0 ≤ (n : Int) - 1 := by omega
  have e4 : n - 1 < n := by omega
  have e5 : (n : Int) - 1 < (n : Int) := by omega
  have e6 : ¬ n = 0 := by omega
  have e7 : (1 : Int) ≤ n := by omega
  have e8 : (n : Int) - 1 ≤ c := by omega
  have e9 : (n : Int) ≤ (c : Int) + 1 := by omega
  have hr := hR.lt
  have c2 := hR.c 2
  have f2 := hR.f 2
  simp [rcs] at c2
  have HR := Lib.hid hR
  clear hR
  have d2 := fun o => cell_al c2 hr o
  have d3 := fun o o' => cell_al (d2 o) (by simp; omega) o'
  have q0 := hx 0 (by omega)
  have q1 := hx 1 (by omega)
  have q2 := hx 2 (by omega)
  have q3 := hx 3 (by omega)
  have q4 := hx 4 (by omega)
  have q5 := hx 5 (by omega)
  have q6 := hx 6 (by omega)
  have q7 := hx 7 (by omega)
  simp [AV.cs] at q0 q1 q2 q3 q4 q5 q6 q7
  have r0 := fun o => cell_al q0 hg o
  have r1 := fun o => cell_al q1 hg o
  have r2 := fun o => cell_al q2 hg o
  have r3 := fun o => cell_al q3 hg o
  have r4 := fun o => cell_al q4 hg o
  have r5 := fun o => cell_al q5 hg o
  have r6 := fun o => cell_al q6 hg o
  have r7 := fun o => cell_al q7 hg o
  have s0 := fun o o' => cell_al (r0 o) (by simp; omega) o'
  have s1 := fun o o' => cell_al (r1 o) (by simp; omega) o'
  have s2 := fun o o' => cell_al (r2 o) (by simp; omega) o'
  have s3 := fun o o' => cell_al (r3 o) (by simp; omega) o'
  have s4 := fun o o' => cell_al (r4 o) (by simp; omega) o'
  have s5 := fun o o' => cell_al (r5 o) (by simp; omega) o'
  have s6 := fun o o' => cell_al (r6 o) (by simp; omega) o'
  have s7 := fun o o' => cell_al (r7 o) (by simp; omega) o'
  have u1 : IntKind.i64.wrap (n : Int) = n := IntWalk.i64_in _ (by omega)
  clear hx
  unfold AV.v
  generalize x.kind = X0 at *
  generalize x.int = X1 at *
  generalize x.A = X2 at *
  generalize x.list.length = X3 at *
  generalize x.c = X4 at *
  generalize x.block = X5 at *
  go_enter Tryd.func86, Tryd.ntmps86
  go_wp2
  go_region_held3 (fun W => W.cell? ⟨b.rb, 2, none⟩ = some (.slice (some ⟨g, 0, none⟩) n c) ∧ W.cell? ⟨g, (n - 1) * 8, none⟩ = some (Value.int .i64 X0) ∧ W.cell? ⟨g, (n - 1) * 8 + 1, none⟩ = some (Value.int .i64 X1) ∧ W.cell? ⟨g, (n - 1) * 8 + 2, none⟩ = some (Value.slice X2 X3 X4) ∧ W.cell? ⟨g, (n - 1) * 8 + 3, none⟩ = some (Value.int .i64 X5) ∧ W.cell? ⟨g, (n - 1) * 8 + 4, none⟩ = some (Value.string { data := #[] }) ∧ W.cell? ⟨g, (n - 1) * 8 + 5, none⟩ = some (Value.string { data := #[] }) ∧ W.cell? ⟨g, (n - 1) * 8 + 6, none⟩ = some (Value.slice none 0 0) ∧ W.cell? ⟨g, (n - 1) * 8 + 7, none⟩ = some (Value.slice none 0 0)) (first | exact ⟨d3 _ _, s0 _ _, s1 _ _, s2 _ _, s3 _ _, s4 _ _, s5 _ _, s6 _ _, s7 _ _⟩ | exact ⟨d2 _, r0 _, r1 _, r2 _, r3 _, r4 _, r5 _, r6 _, r7 _⟩) (fail)
  all_goals go_wp2
  all_goals go_region_law (fail)
  all_goals go_wp2
  all_goals
    refine bodyPost_ret (v := .agg #[iv X0, iv X1, .slice X2 X3 X4, iv X5, eS, eS, nilS, nilS]) (by simp [results, Tryd.results86, go_sem]) rfl (PopP.mk HR.out _ _ 2)

set_option maxRecDepth 100000 in
theorem pop_none (b : Bl) (p : Prg) (A : Option Addr) (c : Nat) (fv : Value) (steps seed : Int) (done : Bool) (err : Int) (w : World) (hR : RB b p w (.slice A 0 c) fv steps seed done err) :
    Calls Tryd.prog 86 #[.pointer (some ⟨b.rb, 0, none⟩)] w fun e w' => e = .panicked (stopC 26) ∧ w.grownBy w' none := by
  have hr := hR.lt
  have c2 := hR.c 2
  simp [rcs] at c2
  have d2 := fun o => cell_al c2 hr o
  have FA := fun W => fault_any 26 W
  have HFA := Lib.hid FA
  clear hR FA
  go_enter Tryd.func86, Tryd.ntmps86
  go_wp2_with (go_at_call 58; refine (HFA.out _).mono ?_; rintro e w1 ⟨rfl, rfl⟩)
  exact ⟨rfl, rfl, grown_alloc _ _ _⟩
end Go.Proofs.YtdfllhmkgphcmaaDoor
namespace Go.Proofs.YtdfllhmkgphcmaaDoor
open Go.RowKit

theorem Mem.one {b : Bl} {w w' : World} {g g' : Gh} (h : Mem b w g) (os : w'.os = w.os) (tape : w'.tape = w.tape) (output : w'.output = w.output) (hs : w.heap.size ≤ w'.heap.size) (X : Nat → Prop) (ex : Nat) (hxe : X ex) (hB : ∀ k, X k → b.B ≤ k) (hlt : ex < w'.heap.size)
    (hex : ∀ k, X k → k < w.heap.size → g.tag k = .own ∧ ∃ cur T, w.heap[k]? = some (.cells cur T (0, 0)) ∧ (T = 54 ∨ T = 78)) (hk : ∀ k, k < w.heap.size → ¬ X k → (k < b.B ∨ g.tag k ≠ .no) → w'.heap[k]? = w.heap[k]?)
    (htag : g'.tag = upT g.tag ex .own) (hR : g'.R = g.R) (st : w'.ownsRow b.B 54 8 g'.sv g'.S.length (g'.S.flatMap AV.cs)) (stt : ∀ k, g'.sv.ownBlock = some k → k = ex ∨ g.tag k = .own)
    (fr : w'.ownsRow b.B 78 3 g'.fv g'.F.length (g'.F.flatMap Fr.cs)) (frt : ∀ k, g'.fv.ownBlock = some k → k = ex ∨ g.tag k = .own)
    (sr : ∀ x ∈ g'.S, LRd b.B g.tag w x.A x.c x.list) (fl : ∀ (d : Nat) f, g'.F[d]? = some f → FOk b.B g.tag w d f) (kb : ∀ k, k < w.heap.size → ¬ X k → g.tag k = .no → w'.heap[k]? = w.heap[k]?) : Mem b w' g' ∧ Ch w g w' g' := by
  have T3 : ∀ {k : Nat} {o : Obj}, w.heap[k]? = some o → (∀ cur T, o = .cells cur T (0, 0) → T = 54 ∨ T = 78 → False) → ¬ X k := fun {k o} hk1 ho e => by
    obtain ⟨_, cur, T, h1, h2⟩ := hex k e (heap_lt hk1)
    rw [h1] at hk1
    exact ho cur T (Option.some.inj hk1).symm h2
  have nt : ∀ {k : Nat}, k < w.heap.size → g.tag k ≠ .own → ¬ X k := fun {k} hk1 ht e => ht (hex k e hk1).1
  have own : ∀ {k : Nat}, g.tag k = .own → g.tag k ≠ .no := fun h => by rw [h]; simp
  have tg : ∀ k, k ≠ ex → g'.tag k = g.tag k := fun k hk => by rw [htag, upT_ne _ _ hk]
  have nX : ∀ {k : Nat}, ¬ X k → k ≠ ex := fun h e => h (e ▸ hxe)
  have le : ∀ k, k < w.heap.size → (g.tag k).le (g'.tag k) := fun k hk1 => by
    by_cases e : k = ex
    · subst e
      rw [(hex k hxe hk1).1, htag, upT_at]
      exact rfl
    · rw [tg k e]; exact Tag.le_refl _
  have keep : ∀ {k : Nat} {o : Obj}, w.heap[k]? = some o → (∀ cur T, o = .cells cur T (0, 0) → T = 54 ∨ T = 78 → False) → g.tag k ≠ .no → w'.heap[k]? = some o := fun {k o} h1 h2 h3 => (hk k (heap_lt h1) (T3 h1 h2) (.inr h3)).trans h1
  have cells : ∀ p : Addr, p.block < w.heap.size → sta b.B g.tag p → w'.cell? p = w.cell? p := fun p hp hs => by
    refine World.cell?_of_block (w := w) ?_
    by_cases hB' : p.block < b.B
    · exact hk _ hp (fun e => by have := hB _ e; omega) (.inl hB')
    · have : g.tag p.block ≠ .no ∧ g.tag p.block ≠ .own := by
        rcases hs with h1 | h1 | ⟨lo, sz, h1, _⟩ | ⟨d, hi, h1, _⟩
        · exact absurd h1 hB'
        · rw [h1]; simp
        · rw [h1]; simp
        · rw [h1]; simp
      exact hk _ hp (nt hp this.2) (.inr this.1)
  have to54 : ∀ {k : Nat}, k = ex ∨ g.tag k = .own → g'.tag k = .own := fun {k} h => by
    by_cases e : k = ex
    · subst e; rw [htag, upT_at]
    · rw [tg k e]; exact h.resolve_left e
  have eoT := keep h.eo (by simp) (own h.et)
  have toT := keep h.to (by intro cur T h1 h2; cases h1; rcases h2 with h2 | h2 <;> cases h2) (own h.tt)
  obtain ⟨es, clk, m1, m2⟩ := h.mo
  have hBx := hB ex hxe
  refine ⟨{ os := os.trans h.os, tape := tape.trans h.tape, output := output.trans h.output, hs := Nat.le_trans h.hs hs, old := ?_, lo := ?_, new := ?_, rt := to54 (.inr h.rt), rbb := h.rbb, et := to54 (.inr h.et), eo := eoT, tt := to54 (.inr h.tt), to := toT, mt := to54 (.inr h.mt), mbb := h.mbb, mo := ⟨es, clk, keep m1 (by simp) (own h.mt), by rw [hR]; exact m2⟩, st := st, stt := fun k e => to54 (stt k e), fr := fr, frt := fun k e => to54 (frt k e), sr := fun x hx => (sr x hx).mono hs le cells, fl := ?_, rm := ?_, ra := by rw [hR]; exact h.ra }, ⟨os, tape, output, hs, ?_, le⟩⟩
  · intro k hkB
    have := h.hs
    exact (hk k (by omega) (fun e => by have := hB _ e; omega) (.inl hkB)).trans (h.old k hkB)
  · intro k hkB
    rw [tg k (by omega)]
    exact h.lo k hkB
  · intro k hk'
    rw [tg k (by omega)]
    exact h.new k (Nat.le_trans hs hk')
  · exact fun d f hd => (fl d f hd).mono hs le cells fun k hi hkB hk' ht => ⟨by rw [tg k (nX (nt hk' (by rw [ht]; simp))), ht], hk k hk' (nt hk' (by rw [ht]; simp)) (.inr (by rw [ht]; simp))⟩
  · intro r hr
    rw [hR] at hr
    have q := h.rm r hr
    obtain ⟨cur, q1, q2⟩ := q.a
    have q3 := q.at_
    refine { q with o := keep q.o (by intro cur T h1 h2; cases h1; rcases h2 with h2 | h2 <;> cases h2) (own q.ot), ot := to54 (.inr q.ot), a := ⟨cur, (hk _ (heap_lt q1) (nt (heap_lt q1) (by rw [q3]; simp)) (.inr (by rw [q3]; simp))).trans q1, q2⟩, at_ := ?_ }
    rw [tg _ (nX (nt (heap_lt q1) (by rw [q3]; simp))), q3]
  · intro k hk1 ht
    have hX : ¬ X k := fun e => by rw [(hex k e hk1).1] at ht; cases ht
    by_cases h0 : g.tag k = .no
    · exact kb k hk1 hX h0
    · exact hk k hk1 hX (.inr h0)

/-- Eight cells are written. -/
def st8 (w : World) (g o : Nat) (x : AV) : World :=
  (((((((w.setCell ⟨g, o, none⟩ (iv x.kind)).setCell ⟨g, o + 1, none⟩ (iv x.int)).setCell ⟨g, o + 2, none⟩ (.slice x.A x.list.length x.c)).setCell ⟨g, o + 3, none⟩ (iv x.block)).setCell ⟨g, o + 4, none⟩ eS).setCell ⟨g, o + 5, none⟩ eS).setCell ⟨g, o + 6, none⟩ nilS).setCell ⟨g, o + 7, none⟩ nilS
theorem st8_other (w : World) (g o : Nat) (x : AV) (k : Nat) (h : k ≠ g) : (st8 w g o x).heap[k]? = w.heap[k]? := by
  unfold st8
  iterate 8 rw [Below.heap_setCell _ _ _ _ h]
theorem st8_size (w : World) (g o : Nat) (x : AV) : (st8 w g o x).heap.size = w.heap.size := by simp [st8]
theorem st8_heap {w : World} {g o : Nat} {x : AV} {cur : Array Value} {e : TypeId} {fz : Nat × Nat} (h : w.heap[g]? = some (.cells cur e fz)) :
    (st8 w g o x).heap[g]? = some (.cells ((((((((cur.setIfInBounds o (iv x.kind)).setIfInBounds (o + 1) (iv x.int)).setIfInBounds (o + 2) (.slice x.A x.list.length x.c)).setIfInBounds (o + 3) (iv x.block)).setIfInBounds (o + 4) eS).setIfInBounds (o + 5) eS).setIfInBounds (o + 6) nilS).setIfInBounds (o + 7) nilS) e fz) :=
  heap_set (heap_set (heap_set (heap_set (heap_set (heap_set (heap_set (heap_set h _ _) _ _) _ _) _ _) _ _) _ _) _ _) _ _
/-- The last place of a row is filled. -/
theorem st8_row {w : World} {B gg cc n : Nat} {xs : List Value} {z : List Value} (h : w.ownsRow B 54 8 (.slice (some ⟨gg, 0, none⟩) (n + 1) cc) (n + 1) (xs ++ z)) (hx : xs.length = n * 8) (x : AV) :
    (st8 w gg (n * 8) x).ownsRow B 54 8 (.slice (some ⟨gg, 0, none⟩) (n + 1) cc) (n + 1) (xs ++ x.cs) := by
  rcases h.2 with ⟨h1, _⟩ | ⟨g, cap, cur, e, hb, hg, hnc, hm, hcs, ht⟩
  · cases h1
  · simp only [Value.slice.injEq, Option.some.injEq, Addr.mk.injEq, and_true, true_and] at e
    obtain ⟨rfl, rfl⟩ := e
    refine ⟨by simp [hx, AV.cs_len]; omega, .inr ⟨gg, cc, _, rfl, hb, st8_heap hg, hnc, hm, by simpa using hcs, ?_⟩⟩
    apply List.ext_getElem
    · simp [hx, AV.cs_len, hcs]; omega
    · intro i h1 h2
      have hl : (n + 1) * 8 ≤ cur.size := by rw [hcs]; exact Nat.mul_le_mul_right 8 hnc
      have hi : i < (n + 1) * 8 := by simp [hx, AV.cs_len] at h2; omega
      have ht' : i < n * 8 → cur.toList[i]? = xs[i]? := fun hlt => by
        have := congrArg (fun l => l[i]?) ht
        simp only [List.getElem?_take, hi, if_true] at this
        rw [this, List.getElem?_append_left (by omega)]
      rw [← Option.some_inj, ← List.getElem?_eq_getElem, ← List.getElem?_eq_getElem, List.getElem?_take, if_pos hi]
      by_cases hlt : i < n * 8
      · rw [List.getElem?_append_left (by omega), ← ht' hlt]
        simp only [Array.toList_setIfInBounds]
        rw [List.getElem?_set_ne (by omega), List.getElem?_set_ne (by omega), List.getElem?_set_ne (by omega), List.getElem?_set_ne (by omega), List.getElem?_set_ne (by omega), List.getElem?_set_ne (by omega), List.getElem?_set_ne (by omega), List.getElem?_set_ne (by omega)]
      · obtain ⟨j, rfl⟩ : ∃ j, i = n * 8 + j := ⟨i - n * 8, by omega⟩
        have hj : j < 8 := by omega
        rw [List.getElem?_append_right (by omega), show n * 8 + j - xs.length = j by omega]
        have : j = 0 ∨ j = 1 ∨ j = 2 ∨ j = 3 ∨ j = 4 ∨ j = 5 ∨ j = 6 ∨ j = 7 := by omega
        rcases this with rfl | rfl | rfl | rfl | rfl | rfl | rfl | rfl
        all_goals
          simp only [Array.toList_setIfInBounds]
          simp [List.getElem?_set, AV.cs]
          first | done | omega | (intros; omega)
end Go.Proofs.YtdfllhmkgphcmaaDoor
namespace Go.Proofs.YtdfllhmkgphcmaaDoor
open Go.RowKit

/-- append to a row of the call's own, as a step of a region that draws. -/
theorem step_own {ops : Array Oper} {o : Oper} {a : Act} {w : World} {K : Act → World → Prop} {Q : Exit → Act → World → Prop} {E : Prop}
    (hg : o.guard = none) (s x : Operand) (t : TypeId) (hop : o.op = Op.call { callee := Callee.builtin Builtin.append, args := #[s, x], argTypes := #[t, t] })
    (v v2 : Value) (X : Value → World → Prop) (hs : a.eval s = v) (hx : a.eval x = v2)
    (hrun : ∃ v' w', (Builtin.append_ #[t, t] o.type #[v, v2]).run Tryd.prog w = .ok v' w' ∧ X v' w')
    (hK : ∀ v' w', X v' w' → K (a.put o.dst v') w') :
    if Region.wanted o (yielded ops a.tmps) = true then Oper.wp Tryd.prog o a w K Q else E := by
  have hw : Region.wanted o (yielded ops a.tmps) = true := by simp [Region.wanted, hg]
  rw [if_pos hw]
  obtain ⟨v', w', hrun, hX⟩ := hrun
  unfold Oper.wp execOp
  simp only [hop, resolve, invoke, builtin, Sem.run_bind, Sem.run_pure, Result.andThen_ok, List.map_toArray, List.map_cons, List.map_nil, hs, hx, hrun]
  exact hK _ _ hX
/-- The same at a walk in the text's order. -/
theorem list_own (w : World) {ops : Array Oper} {rest : List Oper} {o : Oper} {a : Act} {Q : Exit → Act → World → Prop} (hgd : o.guard = none) (s x : Operand) (t : TypeId)
    (hop : o.op = Op.call { callee := Callee.builtin Builtin.append, args := #[s, x], argTypes := #[t, t] })
    (v v2 : Value) (X : Value → World → Prop) (hs : a.eval s = v) (hx : a.eval x = v2)
    (hrun : ∃ v' w', (Builtin.append_ #[t, t] o.type #[v, v2]).run Tryd.prog w = .ok v' w' ∧ X v' w')
    (hK : ∀ v' w', X v' w' → wpList Tryd.prog ops Q rest (a.put o.dst v') w') : wpList Tryd.prog ops Q (o :: rest) a w := by
  refine wpList_plain hgd fun K hK' => ?_
  obtain ⟨v', w', hrun, hX⟩ := hrun
  unfold Oper.wp execOp
  simp only [hop, resolve, invoke, builtin, Sem.run_bind, Sem.run_pure, Result.andThen_ok, List.map_toArray, List.map_cons, List.map_nil, hs, hx, hrun]
  exact hK' _ _ (hK _ _ hX)

abbrev z8 : Array Value := #[.int .i64 0, .int .i64 0, .slice none 0 0, .int .i64 0, .string ⟨#[]⟩, .string ⟨#[]⟩, .slice none 0 0, .slice none 0 0]
/-- What append of one more place leaves. -/
structure App (b : Bl) (W : World) (g : Gh) (n gg c : Nat) (w' : World) : Prop where
  cell : ∀ i, i < 8 → w'.cell? ⟨gg, n * 8 + i, none⟩ = z8[i]?
  fz : ∀ j, w'.frozen? ⟨gg, j, none⟩ = false
  ne : b.rb ≠ gg
  rc : w'.cell? ⟨b.rb, 2, none⟩ = some g.sv
  rf : w'.frozen? ⟨b.rb, 2, none⟩ = false
  row : w'.ownsRow b.B 54 8 (.slice (some ⟨gg, 0, none⟩) (n + 1) c) (n + 1) (g.S.flatMap AV.cs ++ z8.toList)
  gr : W.grownBy w' g.sv.ownBlock
  own : g.sv.ownBlock = some gg ∨ gg = W.heap.size
def AppX (b : Bl) (W : World) (g : Gh) (n : Nat) (v' : Value) (w' : World) : Prop := ∃ gg c, v' = .slice (some ⟨gg, 0, none⟩) (n + 1) c ∧ App b W g n gg c w'

theorem flat_len {α : Type} (f : α → List Value) (m : Nat) (h : ∀ x, (f x).length = m) (l : List α) : (l.flatMap f).length = l.length * m := by
  induction l with
  | nil => simp
  | cons x l ih => simp [h, ih, Nat.add_mul]; omega
theorem flat8 (l : List AV) : (l.flatMap AV.cs).length = l.length * 8 := flat_len _ 8 AV.cs_len l
theorem flat3 (l : List Fr) : (l.flatMap Fr.cs).length = l.length * 3 := flat_len _ 3 Fr.cs_len l

theorem one8 : ∀ u ∈ z8.toList, u.oneCell' = true := by decide
theorem al_new (w : World) (o : Obj) : (w.alloc o).heap[w.heap.size]? = some o := (MapKept.heap_alloc w o).1
theorem app_run {b : Bl} {p : Prg} {W : World} {g : Gh} {steps seed : Int} {done : Bool} {err : Int} (hm : Mem b W g) (hR : RB b p W g.sv g.fv steps seed done err) (hn : g.S.length ≤ 1000000)
    (k : Nat) (hk : W.heap[k]? = some (.cells z8 54 (0, 0))) (ty : TypeId) (n : Nat) (hnn : n = g.S.length) :
    ∃ v' w', (Builtin.append_ #[33, 33] ty #[g.sv, .slice (some ⟨k, 0, none⟩) 1 1]).run Tryd.prog W = .ok v' w' ∧ AppX b W g n v' w' := by
  subst hnn
  obtain ⟨i0, hi, hz0, hz1, hz2⟩ := info_parts info54
  have hnew : ∀ (j : Nat) u, z8.toList[j]? = some u → W.cell? ((⟨k, 0, none⟩ : Addr).add j) = some u := fun j u hu => by
    have : ((⟨k, 0, none⟩ : Addr).add j) = ⟨k, j, none⟩ := by unfold Addr.add; split <;> simp [*]
    rw [this]
    simp only [World.cell?, hk]
    simpa using hu
  obtain ⟨v', w', hrun, h2, h3, h4, h5⟩ := run_append_own_at (P := Tryd.prog) (w := W) b.B 33 ty 54 i0 _ 8 128 Tryd.underlying33 hi hz0 hz1 hz2 rfl (by decide) g.sv g.S.length (g.S.flatMap AV.cs) hm.st ⟨k, 0, none⟩ 1 1 z8.toList rfl hnew
    one8 (by unfold maxLen; omega) (by omega) hm.hs
  refine ⟨v', w', hrun, ?_⟩
  rcases h2.2 with ⟨_, h⟩ | ⟨gg, cap, cur, rfl, hb, hg, hnc, hmx, hcs, ht⟩
  · omega
  · have nrb : b.rb ≠ gg := fun e => by
      subst e
      rcases h5 with h5 | h5
      · rcases hm.st.2 with ⟨e, _⟩ | ⟨g2, cap2, cur2, e, _, hg2, _⟩
        · rw [e] at h5; cases h5
        · rw [e] at h5
          have : b.rb = g2 := by simpa [Value.ownBlock] using h5
          subst this
          have := hR.symm.trans hg2
          simp at this
      · have := hR.lt
        have : b.rb = W.heap.size := by simpa [Value.ownBlock] using h5
        omega
    have rk : w'.heap[b.rb]? = W.heap[b.rb]? := h3.block _ hR.lt fun e => by
      rcases hm.st.2 with ⟨e2, _⟩ | ⟨g2, cap2, cur2, e2, _, hg2, _⟩
      · rw [e2] at e; cases e
      · rw [e2] at e
        have : b.rb = g2 := by simpa [Value.ownBlock] using e
        subst this
        have := hR.symm.trans hg2
        simp at this
    have hR' := hR.keep rk
    refine ⟨gg, cap, rfl, ⟨?_, ?_, nrb, by rw [hR'.c]; rfl, hR'.f 2, h2, h3, ?_⟩⟩
    · intro i hi8
      rw [World.ownsRow.cellAt h2 _ (by omega), List.getElem?_append_right (by rw [flat8]; omega), flat8]
      simp
    · exact fun j => World.ownsRow.frozenAt h2 j
    · rcases h5 with h5 | h5
      · exact .inl h5.symm
      · exact .inr (by simpa [Value.ownBlock] using h5)

theorem st8_os (w : World) (g o : Nat) (x : AV) : (st8 w g o x).os = w.os ∧ (st8 w g o x).tape = w.tape ∧ (st8 w g o x).output = w.output := by simp [st8, World.setCell]
/-- What a push leaves. -/
def PushP (b : Bl) (p : Prg) (w : World) (g : Gh) (x : AV) (steps seed : Int) (done : Bool) (err : Int) (e : Ending) (w' : World) : Prop :=
  e = .returned (.tuple #[]) ∧ ∃ g', Mem b w' g' ∧ Ch w g w' g' ∧ g'.S = g.S ++ [x] ∧ g'.F = g.F ∧ g'.fv = g.fv ∧ g'.R = g.R ∧ RB b p w' g'.sv g'.fv steps seed done err
set_option maxHeartbeats 1000000 in
theorem PushP.mk {b : Bl} {p : Prg} {w W : World} {g : Gh} {x : AV} {steps seed : Int} {done : Bool} {err : Int} {n gg c : Nat} {w2 : World} (hm : Mem b w g) (hR : RB b p w g.sv g.fv steps seed done err) (hx : LRd b.B g.tag w x.A x.c x.list)
    (hW : w.grownBy W none) (ha : App b W g n gg c w2) (hn : n = g.S.length) :
    PushP b p w g x steps seed done err (.returned (.tuple #[])) ((st8 w2 gg (n * 8) x).setCell ⟨b.rb, 2, none⟩ (.slice (some ⟨gg, 0, none⟩) (n + 1) c)) := by
  subst hn
  have hmW : Mem b W g := hm.keep hW.os hW.tape hW.output hW.size w.heap.size (by intro h; omega) fun k hk _ _ => hW.block k hk (by simp)
  have hRW : RB b p W g.sv g.fv steps seed done err := hR.keep (hW.block _ hR.lt (by simp))
  have hxW : LRd b.B g.tag W x.A x.c x.list := hx.mono hW.size (fun _ _ => Tag.le_refl _) fun q hq _ => World.cell?_of_block (w := w) (hW.block _ hq (by simp))
  have hrow := st8_row ha.row (by rw [flat8]) x
  have hB : b.B ≤ gg := (World.ownsRow.lt ha.row gg rfl).1
  have hlt : gg < w2.heap.size := (World.ownsRow.lt ha.row gg rfl).2
  have hX : ∀ k, k = gg ∨ g.sv.ownBlock = some k → k < W.heap.size → g.tag k = .own ∧ ∃ cur T, W.heap[k]? = some (.cells cur T (0, 0)) ∧ (T = 54 ∨ T = 78) := fun k hk hl => by
    have : g.sv.ownBlock = some k := by
      rcases hk with rfl | h
      · rcases ha.own with h | h
        · exact h
        · omega
      · exact h
    refine ⟨hmW.stt k this, ?_⟩
    rcases hmW.st.2 with ⟨e, _⟩ | ⟨g2, cap2, cur2, e, _, hg2, _⟩
    · rw [e] at this; cases this
    · rw [e] at this
      have : k = g2 := by simpa [Value.ownBlock] using this.symm
      subst this
      exact ⟨_, _, hg2, .inl rfl⟩
  have hrest : ∀ k, k < W.heap.size → ¬ (k = gg ∨ g.sv.ownBlock = some k) → (st8 w2 gg (g.S.length * 8) x).heap[k]? = W.heap[k]? := fun k hk hne =>
    (st8_other _ _ _ _ _ (fun e => hne (.inl e))).trans (ha.gr.block k hk fun e => hne (.inr e.symm))
  have hs2 : W.heap.size ≤ (st8 w2 gg (g.S.length * 8) x).heap.size := by rw [st8_size]; exact ha.gr.size
  have own2 : ∀ k, g.sv.ownBlock = some k → ∃ cur, W.heap[k]? = some (.cells cur 54 (0, 0)) := fun k h => by
    rcases hmW.st.2 with ⟨e, _⟩ | ⟨g2, cap2, cur2, e, _, hg2, _⟩
    · rw [e] at h; cases h
    · rw [e] at h
      have : k = g2 := by simpa [Value.ownBlock] using h.symm
      subst this
      exact ⟨_, hg2⟩
  have hfr : (st8 w2 gg (g.S.length * 8) x).ownsRow b.B 78 3 g.fv g.F.length (g.F.flatMap Fr.cs) := row_keep hmW.fr fun k cur e1 e2 => hrest k (heap_lt e2) fun e => by
    have h1 : g.sv.ownBlock = some k := by
      rcases e with rfl | h
      · rcases ha.own with h | h
        · exact h
        · have := heap_lt e2; omega
      · exact h
    obtain ⟨cur', h2⟩ := own2 k h1
    rw [e2] at h2
    simp at h2
  have hst : (st8 w2 gg (g.S.length * 8) x).ownsRow b.B 54 8 (.slice (some ⟨gg, 0, none⟩) (g.S.length + 1) c) (g.S ++ [x]).length ((g.S ++ [x]).flatMap AV.cs) := by
    have e1 : (g.S ++ [x]).length = g.S.length + 1 := by simp
    have e2 : (g.S ++ [x]).flatMap AV.cs = g.S.flatMap AV.cs ++ x.cs := by simp
    rw [e1, e2]
    exact hrow
  have hsr : ∀ y ∈ g.S ++ [x], LRd b.B g.tag W y.A y.c y.list := fun y hy => by
    rcases List.mem_append.1 hy with h | h
    · exact hmW.sr y h
    · rw [List.mem_singleton] at h; subst h; exact hxW
  have hB2 : ∀ k, k = gg ∨ g.sv.ownBlock = some k → b.B ≤ k := fun k hk => by
    rcases hk with rfl | h
    · exact hB
    · exact (World.ownsRow.lt hmW.st k h).1
  have hlt2 : gg < (st8 w2 gg (g.S.length * 8) x).heap.size := by rw [st8_size]; exact hlt
  have hsv2 : ∀ k, (Value.slice (some ⟨gg, 0, none⟩) (g.S.length + 1) c).ownBlock = some k → k = gg ∨ g.tag k = .own := fun k e => .inl (by simpa [Value.ownBlock] using e.symm)
  have q1 : (st8 w2 gg (g.S.length * 8) x).os = W.os := (st8_os _ _ _ _).1.trans ha.gr.os
  have q2 : (st8 w2 gg (g.S.length * 8) x).tape = W.tape := (st8_os _ _ _ _).2.1.trans ha.gr.tape
  have q3 : (st8 w2 gg (g.S.length * 8) x).output = W.output := (st8_os _ _ _ _).2.2.trans ha.gr.output
  generalize st8 w2 gg (g.S.length * 8) x = W3 at *
  obtain ⟨m1, c1⟩ := Mem.one (g' := { g with tag := upT g.tag gg .own, S := g.S ++ [x], sv := .slice (some ⟨gg, 0, none⟩) (g.S.length + 1) c }) hmW q1 q2 q3 hs2 (fun k => k = gg ∨ g.sv.ownBlock = some k) gg (.inl rfl)
    hB2 hlt2 hX (fun k hk hne _ => hrest k hk hne) rfl rfl hst hsv2 hfr (fun k e => .inr (hmW.frt k e)) hsr hmW.fl (fun k hk hne _ => hrest k hk hne)
  have hR2 : RB b p W3 g.sv g.fv steps seed done err := hRW.keep (hrest _ hRW.lt fun e => by
    rcases e with e | e
    · exact ha.ne e
    · obtain ⟨cur', h2⟩ := own2 _ e
      have := hRW.symm.trans h2
      simp at this)
  exact ⟨rfl, _, m1.only (grown_set b.rb 2 _) hR2, ((Ch.grown hW).trans c1).trans (Ch.only m1 (grown_set _ _ _)), rfl, rfl, rfl, rfl, hR2.s_sv _⟩
end Go.Proofs.YtdfllhmkgphcmaaDoor

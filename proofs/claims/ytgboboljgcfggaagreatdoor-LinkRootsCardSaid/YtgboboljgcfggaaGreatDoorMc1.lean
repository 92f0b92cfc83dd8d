/- Walks and words: Words, ChkA, ChkB, Idx, ChkC, Phs, Opl, ChkD. -/
import Derived.WalkKit
import Derived.Deep.Draws
import Derived.Deep.QuietTactic
import Derived.BigQuiet
import Derived.BigRegion
import Derived.Laws.Rows
import Derived.Below
import Derived.Lib.Hide
import Derived.Test.YtgboboljgcfggaaGreatDoorProg
import Derived.OwnWalk
import Derived.Lib.Bytealg
import Derived.Laws.Externs
import Derived.Orders
import Derived.StillTail
import Derived.MapKept
namespace Go.Proofs.YtgboboljgcfggaaGreatDoor
open Go.RowKit
abbrev T := List UInt8
abbrev tv (x : T) : Value := Value.string ⟨x.toArray⟩
abbrev iv (n : Int) : Value := .int .i64 n
theorem add_block (a : Addr) (n : Nat) : (a.add n).block = a.block := by unfold Addr.add; split <;> rfl
theorem add_add' (a : Addr) (i j : Nat) : (a.add i).add j = a.add (i + j) := by
  unfold Addr.add
  by_cases hi : i = 0 <;> by_cases hj : j = 0 <;> simp [hi, hj, Nat.add_assoc]
def RD {α : Type} (n : Nat) (cs : α → List Value) (w : World) (A : Option Addr) (L : List α) : Prop :=
  L = [] ∨ ∃ a, A = some a ∧ a.block < w.heap.size ∧ ∀ j x, L[j]? = some x → ∀ i v, (cs x)[i]? = some v → w.cell? (a.add (j * n + i)) = some v
section
variable {α : Type} {n : Nat} {cs : α → List Value} {w w' : World} {A : Option Addr} {L : List α}
theorem RD.nil : RD n cs w A ([] : List α) := .inl rfl
theorem RD.at (h : RD n cs w A L) {k : Nat} (hk : k < L.length) : ∃ a, A = some a ∧ a.block < w.heap.size ∧ ∀ i v, (cs L[k])[i]? = some v → w.cell? (a.add (k * n + i)) = some v := by
  rcases h with rfl | ⟨a, e, hb, hc⟩
  · simp at hk
  · exact ⟨a, e, hb, hc k _ (List.getElem?_eq_getElem hk)⟩
theorem RD.keep (h : RD n cs w A L) (hs : w.heap.size ≤ w'.heap.size) (hk : ∀ p : Addr, p.block < w.heap.size → w'.cell? p = w.cell? p) : RD n cs w' A L := by
  rcases h with rfl | ⟨a, e, hb, hc⟩
  · exact .inl rfl
  · exact .inr ⟨a, e, by omega, fun j x hx i v hv => (hk _ (by rw [add_block]; exact hb)).trans (hc j x hx i v hv)⟩
theorem RD.below (h : RD n cs w A L) (hb : Below w.heap.size w w') : RD n cs w' A L := h.keep hb.size fun _ hp => hb.cell hp
end
structure Ins where
  op : Int
  a : Int
  b : Int
  name : T
deriving DecidableEq
def Ins.cs (x : Ins) : List Value := [iv x.op, iv x.a, iv x.b, tv x.name]
structure Blk where
  cap : Int
  param : Bool
  A : Option Addr
  c : Nat
  ins : List Ins
def Blk.cs (x : Blk) : List Value := [iv x.cap, .bool x.param, .slice x.A x.ins.length x.c]
structure Stt where
  pack : T
  id : Int
  block : Int
deriving DecidableEq
def Stt.cs (x : Stt) : List Value := [tv x.pack, iv x.id, iv x.block]
structure Prg where
  bA : Option Addr
  bc : Nat
  bs : List Blk
  sA : Option Addr
  sc : Nat
  ss : List Stt
def Prg.v (p : Prg) : Value := .agg #[.slice p.bA p.bs.length p.bc, .slice p.sA p.ss.length p.sc]
structure Prg.Rd (w : World) (p : Prg) : Prop where
  b : RD 3 Blk.cs w p.bA p.bs
  i : ∀ x ∈ p.bs, RD 4 Ins.cs w x.A x.ins
  s : RD 3 Stt.cs w p.sA p.ss
theorem Prg.Rd.below {w w' : World} {p : Prg} (h : p.Rd w) (hb : Below w.heap.size w w') : p.Rd w' := ⟨h.b.below hb, fun x hx => (h.i x hx).below hb, h.s.below hb⟩
def plainB (bs : List Blk) (n : Int) : Bool := decide (0 ≤ n) && (match bs[n.toNat]? with | some b => (b.cap == 0) && !b.param | none => false)
theorem fld_add (a : Addr) (i : Nat) (hi : i ≠ 0) : a.add i = ⟨a.block, a.off + i, none⟩ := by unfold Addr.add; rw [if_neg hi]
theorem RD.blk {w : World} {A : Option Addr} {L : List Blk} (h : RD 3 Blk.cs w A L) {k : Nat} (hk : k < L.length) : ∃ a a1 : Addr, A = some a ∧ a.add (k * 3) = a1 ∧ a1.block < w.heap.size ∧ w.cell? a1 = some (.int .i64 L[k].cap) ∧ w.cell? ⟨a1.block, a1.off + 1, none⟩ = some (.bool L[k].param) ∧ w.cell? ⟨a1.block, a1.off + 2, none⟩ = some (.slice L[k].A L[k].ins.length L[k].c) := by
  obtain ⟨a, e, hb, hc⟩ := h.at hk
  refine ⟨a, _, e, rfl, by rw [add_block]; exact hb, by simpa using hc 0 _ rfl, ?_, ?_⟩
  · rw [← fld_add _ 1 (by omega), add_add']; exact hc 1 _ rfl
  · rw [← fld_add _ 2 (by omega), add_add']; exact hc 2 _ rfl
theorem RD.ins {w : World} {A : Option Addr} {L : List Ins} (h : RD 4 Ins.cs w A L) {k : Nat} (hk : k < L.length) : ∃ a a1 : Addr, A = some a ∧ a.add (k * 4) = a1 ∧ a1.block < w.heap.size ∧ w.cell? a1 = some (.int .i64 L[k].op) ∧ w.cell? ⟨a1.block, a1.off + 1, none⟩ = some (.int .i64 L[k].a) ∧ w.cell? ⟨a1.block, a1.off + 2, none⟩ = some (.int .i64 L[k].b) ∧ w.cell? ⟨a1.block, a1.off + 3, none⟩ = some (.string ⟨L[k].name.toArray⟩) := by
  obtain ⟨a, e, hb, hc⟩ := h.at hk
  refine ⟨a, _, e, rfl, by rw [add_block]; exact hb, by simpa using hc 0 _ rfl, ?_, ?_, ?_⟩
  · rw [← fld_add _ 1 (by omega), add_add']; exact hc 1 _ rfl
  · rw [← fld_add _ 2 (by omega), add_add']; exact hc 2 _ rfl
  · rw [← fld_add _ 3 (by omega), add_add']; exact hc 3 _ rfl
theorem RD.stt {w : World} {A : Option Addr} {L : List Stt} (h : RD 3 Stt.cs w A L) {k : Nat} (hk : k < L.length) : ∃ a a1 : Addr, A = some a ∧ a.add (k * 3) = a1 ∧ a1.block < w.heap.size ∧ w.cell? a1 = some (.string ⟨L[k].pack.toArray⟩) ∧ w.cell? ⟨a1.block, a1.off + 1, none⟩ = some (.int .i64 L[k].id) ∧ w.cell? ⟨a1.block, a1.off + 2, none⟩ = some (.int .i64 L[k].block) := by
  obtain ⟨a, e, hb, hc⟩ := h.at hk
  refine ⟨a, _, e, rfl, by rw [add_block]; exact hb, by simpa using hc 0 _ rfl, ?_, ?_⟩
  · rw [← fld_add _ 1 (by omega), add_add']; exact hc 1 _ rfl
  · rw [← fld_add _ 2 (by omega), add_add']; exact hc 2 _ rfl
theorem cell_al {w : World} {a : Addr} {v : Value} (h : w.cell? a = some v) (hb : a.block < w.heap.size) (o : Obj) : (w.alloc o).cell? a = some v := by
  rw [((Below.refl _ w).alloc (Nat.le_refl _) o).cell hb]; exact h
set_option maxRecDepth 100000 in
theorem plain_any (p : Prg) (n : Int) (w : World) (hp : p.Rd w) :
    Calls Tryz.prog 53 #[p.v, .int .i64 n] w fun e w' => e = .returned (.bool (plainB p.bs n)) ∧ Below w.heap.size w w' := by
  unfold Prg.v
  have bel : ∀ o, Below w.heap.size w (w.alloc o) := fun o => (Below.refl _ _).alloc (Nat.le_refl _) _
  by_cases h1 : 0 ≤ n
  · obtain ⟨N, rfl⟩ : ∃ N : Nat, n = N := ⟨n.toNat, by omega⟩
    by_cases h2 : N < p.bs.length
    · obtain ⟨a, a1, e, ea, hb, c0, c1, -⟩ := hp.b.blk h2
      have hs : plainB p.bs N = ((p.bs[N].cap == 0) && !p.bs[N].param) := by simp [plainB, h2]
      rw [e, hs]
      have d0 := fun o => cell_al c0 hb o
      have d1 := fun o => cell_al c1 hb o
      have t2 : (N : Int) < (p.bs.length : Int) := by omega
      generalize p.bs[N].cap = c at *
      generalize p.bs[N].param = q at *
      have BEL := Lib.hid bel
      clear hs bel hp e
      cases hq : (c == 0) with
      | false =>
        go_enter Tryz.func53, Tryz.ntmps53
        go_wp2
        go_ret
        exact ⟨rfl, BEL.out _⟩
      | true =>
        go_enter Tryz.func53, Tryz.ntmps53
        go_wp2
        go_ret
        exact ⟨rfl, BEL.out _⟩
    · have hs : plainB p.bs N = false := by simp [plainB, h2]
      have t2 : decide ((N : Int) < (p.bs.length : Int)) = false := by simp; omega
      rw [hs]
      go_enter Tryz.func53, Tryz.ntmps53
      go_wp2
      go_ret
      exact ⟨rfl, bel _⟩
  · have hs : plainB p.bs n = false := by simp [plainB, h1]
    have t2 : decide (0 ≤ n) = false := by simp; omega
    rw [hs]
    go_enter Tryz.func53, Tryz.ntmps53
    go_wp2
    go_ret
    exact ⟨rfl, bel _⟩
end Go.Proofs.YtgboboljgcfggaaGreatDoor
namespace Go.Proofs.YtgboboljgcfggaaGreatDoor
open Go.RowKit
theorem results_tmp4 {fn : Func} {t u v x : Tmp} (h : fn.results = #[.tmp t, .tmp u, .tmp v, .tmp x]) (tmps : Array Value) (P : Program) (w : World) :
    (results fn tmps).run P w = .ok (.tuple #[tmps.getD t undef, tmps.getD u undef, tmps.getD v undef, tmps.getD x undef]) w := by
  simp [results, h]
def fA (op : Int) : Bool := op == 1 || op == 2 || op == 3 || op == 4 || op == 5 || op == 8 || op == 9 || op == 13 || op == 15 || op == 16
def fB (op : Int) : Bool := op == 16
def fN (op : Int) : Bool := op == 10
def fK (op : Int) : Bool := fA op || op == 10 || op == 6 || op == 7 || op == 11 || op == 12 || op == 14
theorem op_split (op : Int) : op = 1 ∨ op = 2 ∨ op = 3 ∨ op = 4 ∨ op = 5 ∨ op = 6 ∨ op = 7 ∨ op = 8 ∨ op = 9 ∨ op = 10 ∨ op = 11 ∨ op = 12 ∨ op = 13 ∨ op = 14 ∨ op = 15 ∨ op = 16 ∨ ((op == 1) = false ∧ (op == 2) = false ∧ (op == 3) = false ∧ (op == 4) = false ∧ (op == 5) = false ∧ (op == 6) = false ∧ (op == 7) = false ∧ (op == 8) = false ∧ (op == 9) = false ∧ (op == 10) = false ∧ (op == 11) = false ∧ (op == 12) = false ∧ (op == 13) = false ∧ (op == 14) = false ∧ (op == 15) = false ∧ (op == 16) = false) := by
  by_cases h : 1 ≤ op ∧ op ≤ 16
  · omega
  · refine .inr (.inr (.inr (.inr (.inr (.inr (.inr (.inr (.inr (.inr (.inr (.inr (.inr (.inr (.inr (.inr (⟨?_, ?_, ?_, ?_, ?_, ?_, ?_, ?_, ?_, ?_, ?_, ?_, ?_, ?_, ?_, ?_⟩)))))))))))))))) <;> (simp; omega)
set_option maxRecDepth 100000 in
set_option maxHeartbeats 1000000 in
theorem fields_any (op : Int) (w : World) : Calls Tryz.prog 82 #[.int .i64 op] w fun e w' => e = .returned (.tuple #[.bool (fA op), .bool (fB op), .bool (fN op), .bool (fK op)]) ∧ w' = w := by
  rcases op_split op with rfl | rfl | rfl | rfl | rfl | rfl | rfl | rfl | rfl | rfl | rfl | rfl | rfl | rfl | rfl | rfl | ⟨h1, h2, h3, h4, h5, h6, h7, h8, h9, h10, h11, h12, h13, h14, h15, h16⟩
  rotate_right
  · have e1 : fA op = false := by simp [fA, *]
    have e2 : fB op = false := by simp [fB, *]
    have e3 : fN op = false := by simp [fN, *]
    have e4 : fK op = false := by simp [fK, *]
    rw [e1, e2, e3, e4]
    clear e1 e2 e3 e4
    go_enter Tryz.func82, Tryz.ntmps82
    go_wp2
    (try simp only [Exit.inBlock, Exit.then])
    refine bodyPost_ret (results_tmp4 rfl _ _ _) rfl ?_
    exact ⟨rfl, rfl⟩
  all_goals
    go_enter Tryz.func82, Tryz.ntmps82
    go_wp2
    (try simp only [Exit.inBlock, Exit.then])
    refine bodyPost_ret (results_tmp4 rfl _ _ _) rfl ?_
    exact ⟨rfl, rfl⟩
def Blk.v (x : Blk) : Value := .agg #[.int .i64 x.cap, .bool x.param, .slice x.A x.ins.length x.c]
def Ins.v (x : Ins) : Value := .agg #[.int .i64 x.op, .int .i64 x.a, .int .i64 x.b, .string ⟨x.name.toArray⟩]
end Go.Proofs.YtgboboljgcfggaaGreatDoor
namespace Go.Proofs.YtgboboljgcfggaaGreatDoor
open Go.RowKit
def closB (bs : List Blk) (n : Int) : Bool := decide (0 ≤ n) && (match bs[n.toNat]? with | some b => b.param | none => false)
def inR (bs : List Blk) (nb : Nat) (op a b : Int) : Bool :=
  if op == 1 then decide (-999999999 ≤ a) && decide (a ≤ 999999999)
  else if op == 2 then a == 0 || a == 1
  else if op == 3 then decide (0 ≤ a) && decide (a ≤ 1000)
  else if op == 4 then plainB bs a
  else if op == 5 then closB bs a
  else if op == 8 || op == 9 || op == 13 then decide (0 ≤ a) && decide (a ≤ nb)
  else if op == 15 then decide (1 ≤ a) && decide (a ≤ 1000)
  else if op == 16 then decide (1 ≤ b) && decide (b ≤ 999999) && decide (0 ≤ a) && decide (a ≤ b)
  else true
theorem cell_al3 {w : World} {a : Addr} {v : Value} (h : w.cell? a = some v) (hb : a.block < w.heap.size) (o o' o'' : Obj) : (((w.alloc o).alloc o').alloc o'').cell? a = some v :=
  cell_al (cell_al (cell_al h hb o) (by simp; omega) o') (by simp; omega) o''
theorem bel3 (w : World) (o o' o'' : Obj) : Below w.heap.size w (((w.alloc o).alloc o').alloc o'') := (((Below.refl _ _).alloc (Nat.le_refl _) _).alloc (by simp) _).alloc (by simp; omega) _
set_option maxRecDepth 100000 in
set_option maxHeartbeats 4000000 in
theorem inRange_any (p : Prg) (x : Blk) (op a b : Int) (name : T) (w : World) (hp : p.Rd w) :
    Calls Tryz.prog 84 #[p.v, x.v, (Ins.mk op a b name).v] w fun e w' => e = .returned (.bool (inR p.bs x.ins.length op a b)) ∧ Below w.heap.size w w' := by
  have PL := fun (W : World) (hb : Below w.heap.size w W) => plain_any p a W (hp.below hb)
  unfold Prg.v Blk.v Ins.v
  simp only []
  have HPL := Lib.hid PL
  clear PL
  have HP := Lib.hid hp
  clear hp
  rcases op_split op with rfl | rfl | rfl | rfl | rfl | rfl | rfl | rfl | rfl | rfl | rfl | rfl | rfl | rfl | rfl | rfl | ⟨h1, h2, h3, h4, h5, h6, h7, h8, h9, h10, h11, h12, h13, h14, h15, h16⟩
  · -- 1
    have hs : inR p.bs x.ins.length 1 a b = (decide (-999999999 ≤ a) && decide (a ≤ 999999999)) := by simp [inR]
    rw [hs]
    clear hs
    cases h : decide (-999999999 ≤ a) with
    | false =>
      go_enter Tryz.func84, Tryz.ntmps84
      go_wp2
      go_ret
      exact ⟨rfl, bel3 _ _ _ _⟩
    | true =>
      go_enter Tryz.func84, Tryz.ntmps84
      go_wp2
      go_ret
      exact ⟨rfl, bel3 _ _ _ _⟩
  · -- 2
    have hs : inR p.bs x.ins.length 2 a b = (a == 0 || a == 1) := by simp [inR]
    rw [hs]
    clear hs
    cases h : (a == 0) with
    | false =>
      go_enter Tryz.func84, Tryz.ntmps84
      go_wp2
      go_ret
      exact ⟨rfl, bel3 _ _ _ _⟩
    | true =>
      go_enter Tryz.func84, Tryz.ntmps84
      go_wp2
      go_ret
      exact ⟨rfl, bel3 _ _ _ _⟩
  · -- 3
    have hs : inR p.bs x.ins.length 3 a b = (decide (0 ≤ a) && decide (a ≤ 1000)) := by simp [inR]
    rw [hs]
    clear hs
    cases h : decide (0 ≤ a) with
    | false =>
      go_enter Tryz.func84, Tryz.ntmps84
      go_wp2
      go_ret
      exact ⟨rfl, bel3 _ _ _ _⟩
    | true =>
      go_enter Tryz.func84, Tryz.ntmps84
      go_wp2
      go_ret
      exact ⟨rfl, bel3 _ _ _ _⟩
  · -- 4
    have hs : inR p.bs x.ins.length 4 a b = plainB p.bs a := by simp [inR]
    rw [hs]
    clear hs
    go_enter Tryz.func84, Tryz.ntmps84
    go_wp2_with (go_at_call 53; refine (HPL.out _ (bel3 _ _ _ _)).mono ?_; rintro e w1 ⟨rfl, k1⟩)
    go_ret
    exact ⟨rfl, (bel3 w _ _ _).trans (k1.mono (bel3 w _ _ _).size)⟩
  · -- 5
    have hs : inR p.bs x.ins.length 5 a b = closB p.bs a := by simp [inR]
    rw [hs]
    clear hs
    by_cases h1 : 0 ≤ a
    · obtain ⟨M, rfl⟩ : ∃ M : Nat, a = M := ⟨a.toNat, by omega⟩
      by_cases h2 : M < p.bs.length
      · obtain ⟨q, q1, e, ea, hb, c0, c1, -⟩ := HP.out.b.blk h2
        have hs : closB p.bs M = p.bs[M].param := by simp [closB, h2]
        rw [e, hs]
        have d1 := fun o o' o'' => cell_al3 c1 hb o o' o''
        have t2 : (M : Int) < (p.bs.length : Int) := by omega
        generalize p.bs[M].param = pr at *
        clear hs e HPL HP c0 c1
        go_enter Tryz.func84, Tryz.ntmps84
        go_wp2
        go_ret
        exact ⟨rfl, bel3 _ _ _ _⟩
      · have hs : closB p.bs M = false := by simp [closB, h2]
        have t2 : decide ((M : Int) < (p.bs.length : Int)) = false := by simp; omega
        rw [hs]
        go_enter Tryz.func84, Tryz.ntmps84
        go_wp2
        go_ret
        exact ⟨rfl, bel3 _ _ _ _⟩
    · have hs : closB p.bs a = false := by simp [closB, h1]
      have t2 : decide (0 ≤ a) = false := by simp; omega
      rw [hs]
      go_enter Tryz.func84, Tryz.ntmps84
      go_wp2
      go_ret
      exact ⟨rfl, bel3 _ _ _ _⟩
  · -- 6
    have hs : inR p.bs x.ins.length 6 a b = true := by simp [inR]
    rw [hs]
    clear hs
    go_enter Tryz.func84, Tryz.ntmps84
    go_wp2
    go_ret
    exact ⟨rfl, bel3 _ _ _ _⟩
  · -- 7
    have hs : inR p.bs x.ins.length 7 a b = true := by simp [inR]
    rw [hs]
    clear hs
    go_enter Tryz.func84, Tryz.ntmps84
    go_wp2
    go_ret
    exact ⟨rfl, bel3 _ _ _ _⟩
  · -- 8
    have hs : inR p.bs x.ins.length 8 a b = (decide (0 ≤ a) && decide (a ≤ (x.ins.length : Int))) := by simp [inR]
    rw [hs]
    clear hs
    cases h : decide (0 ≤ a) with
    | false =>
      go_enter Tryz.func84, Tryz.ntmps84
      go_wp2
      go_ret
      exact ⟨rfl, bel3 _ _ _ _⟩
    | true =>
      go_enter Tryz.func84, Tryz.ntmps84
      go_wp2
      go_ret
      exact ⟨rfl, bel3 _ _ _ _⟩
  · -- 9
    have hs : inR p.bs x.ins.length 9 a b = (decide (0 ≤ a) && decide (a ≤ (x.ins.length : Int))) := by simp [inR]
    rw [hs]
    clear hs
    cases h : decide (0 ≤ a) with
    | false =>
      go_enter Tryz.func84, Tryz.ntmps84
      go_wp2
      go_ret
      exact ⟨rfl, bel3 _ _ _ _⟩
    | true =>
      go_enter Tryz.func84, Tryz.ntmps84
      go_wp2
      go_ret
      exact ⟨rfl, bel3 _ _ _ _⟩
  · -- 10
    have hs : inR p.bs x.ins.length 10 a b = true := by simp [inR]
    rw [hs]
    clear hs
    go_enter Tryz.func84, Tryz.ntmps84
    go_wp2
    go_ret
    exact ⟨rfl, bel3 _ _ _ _⟩
  · -- 11
    have hs : inR p.bs x.ins.length 11 a b = true := by simp [inR]
    rw [hs]
    clear hs
    go_enter Tryz.func84, Tryz.ntmps84
    go_wp2
    go_ret
    exact ⟨rfl, bel3 _ _ _ _⟩
  · -- 12
    have hs : inR p.bs x.ins.length 12 a b = true := by simp [inR]
    rw [hs]
    clear hs
    go_enter Tryz.func84, Tryz.ntmps84
    go_wp2
    go_ret
    exact ⟨rfl, bel3 _ _ _ _⟩
  · -- 13
    have hs : inR p.bs x.ins.length 13 a b = (decide (0 ≤ a) && decide (a ≤ (x.ins.length : Int))) := by simp [inR]
    rw [hs]
    clear hs
    cases h : decide (0 ≤ a) with
    | false =>
      go_enter Tryz.func84, Tryz.ntmps84
      go_wp2
      go_ret
      exact ⟨rfl, bel3 _ _ _ _⟩
    | true =>
      go_enter Tryz.func84, Tryz.ntmps84
      go_wp2
      go_ret
      exact ⟨rfl, bel3 _ _ _ _⟩
  · -- 14
    have hs : inR p.bs x.ins.length 14 a b = true := by simp [inR]
    rw [hs]
    clear hs
    go_enter Tryz.func84, Tryz.ntmps84
    go_wp2
    go_ret
    exact ⟨rfl, bel3 _ _ _ _⟩
  · -- 15
    have hs : inR p.bs x.ins.length 15 a b = (decide (1 ≤ a) && decide (a ≤ 1000)) := by simp [inR]
    rw [hs]
    clear hs
    cases h : decide (1 ≤ a) with
    | false =>
      go_enter Tryz.func84, Tryz.ntmps84
      go_wp2
      go_ret
      exact ⟨rfl, bel3 _ _ _ _⟩
    | true =>
      go_enter Tryz.func84, Tryz.ntmps84
      go_wp2
      go_ret
      exact ⟨rfl, bel3 _ _ _ _⟩
  · -- 16
    have hs : inR p.bs x.ins.length 16 a b = (decide (1 ≤ b) && decide (b ≤ 999999) && decide (0 ≤ a) && decide (a ≤ b)) := by simp [inR]
    rw [hs]
    clear hs
    cases ha : decide (1 ≤ b) <;> cases hb : decide (b ≤ 999999) <;> cases hc : decide (0 ≤ a)
    all_goals
      go_enter Tryz.func84, Tryz.ntmps84
      go_wp2
      go_ret
      exact ⟨rfl, bel3 _ _ _ _⟩
  · have hs : inR p.bs x.ins.length op a b = true := by simp [inR, *]
    rw [hs]
    clear hs
    go_enter Tryz.func84, Tryz.ntmps84
    go_wp2
    go_ret
    exact ⟨rfl, bel3 _ _ _ _⟩
end Go.Proofs.YtgboboljgcfggaaGreatDoor
namespace Go.Proofs.YtgboboljgcfggaaGreatDoor
open Go.RowKit
theorem r99 (s : ByteArray) (c : Int) (w : World) : (callFunc 167 #[.string s, .int .u8 c]).run Tryz.prog w = .ok (.value (.int .i64 (Lib.indexByte s.data.toList c.toNat.toUInt8))) w := by
  rw [run_callFunc_extern Tryz.func167 (by kernel_rfl) (by kernel_rfl) (by kernel_rfl) (e := Extern.BytealgIndexByte.indexByte) (by kernel_rfl), Lib.run_indexByteString]
  rfl
set_option maxRecDepth 100000 in
theorem indexByte_any (s : ByteArray) (c : Int) (w : World) : Calls Tryz.prog 161 #[.string s, .int .u8 c] w fun e w' => e = .returned (.int .i64 (Lib.indexByte s.data.toList c.toNat.toUInt8)) ∧ w' = w := by
  have h := r99 s c w
  go_enter Tryz.func161, Tryz.ntmps161
  go_wp2
  go_ret
  exact ⟨rfl, rfl⟩
set_option maxRecDepth 100000 in
theorem index1_any (s : ByteArray) (c : UInt8) (w : World) : Calls Tryz.prog 148 #[.string s, .string ⟨#[c]⟩] w fun e w' => e = .returned (.int .i64 (Lib.indexByte s.data.toList c)) ∧ w' = w := by
  have h := indexByte_any s (c.toNat : Int) w
  have hc : ((c.toNat : Int).toNat.toUInt8) = c := by simp
  rw [hc] at h
  have HI := Lib.hid h
  clear h hc
  cases hs : ([c] == s.toList) with
  | true =>
    have e0 : Lib.indexByte s.data.toList c = 0 := by
      have h1 : [c] = s.toList := by simpa using hs
      rw [← ByteArray.toList_eq, ← h1]
      simp [Lib.indexByte]
    rw [e0]
    go_enter Tryz.func148, Tryz.ntmps148
    go_wp2
    go_ret
    exact ⟨rfl, rfl⟩
  | false =>
    go_enter Tryz.func148, Tryz.ntmps148
    go_wp2_with (go_at_call 161; refine HI.out.mono ?_; rintro e w1 ⟨rfl, rfl⟩)
    go_ret
    exact ⟨rfl, rfl⟩
set_option maxRecDepth 100000 in
theorem strIndex1_any (s : ByteArray) (c : UInt8) (w : World) : Calls Tryz.prog 107 #[.string s, .string ⟨#[c]⟩] w fun e w' => e = .returned (.int .i64 (Lib.indexByte s.data.toList c)) ∧ w' = w := by
  have HI := Lib.hid (index1_any s c w)
  go_enter Tryz.func107, Tryz.ntmps107
  go_wp2_with (go_at_call 148; refine HI.out.mono ?_; rintro e w1 ⟨rfl, rfl⟩)
  go_ret
  exact ⟨rfl, rfl⟩
set_option maxRecDepth 100000 in
theorem contains1_any (s : ByteArray) (c : UInt8) (w : World) : Calls Tryz.prog 83 #[.string s, .string ⟨#[c]⟩] w fun e w' => e = .returned (.bool (decide (0 ≤ Lib.indexByte s.data.toList c))) ∧ w' = w := by
  have HI := Lib.hid (strIndex1_any s c w)
  generalize Lib.indexByte s.data.toList c = k at *
  go_enter Tryz.func83, Tryz.ntmps83
  go_wp2_with (go_at_call 107; refine HI.out.mono ?_; rintro e w1 ⟨rfl, rfl⟩)
  go_ret
  exact ⟨rfl, rfl⟩
end Go.Proofs.YtgboboljgcfggaaGreatDoor
namespace Go.Proofs.YtgboboljgcfggaaGreatDoor
open Go.RowKit
def nmOk (t : T) : Bool := t == [43] || t == [45] || t == [42] || t == [61] || t == [60]
theorem nmOk_one (c : UInt8) : decide (0 ≤ Lib.indexByte [43, 45, 42, 61, 60] c) = nmOk [c] := by
  by_cases h1 : c = 43
  · subst h1; rfl
  · by_cases h2 : c = 45
    · subst h2; rfl
    · by_cases h3 : c = 42
      · subst h3; rfl
      · by_cases h4 : c = 61
        · subst h4; rfl
        · by_cases h5 : c = 60
          · subst h5; rfl
          · have q : Lib.indexByte [43, 45, 42, 61, 60] c = -1 := by simp [Lib.indexByte, Ne.symm h1, Ne.symm h2, Ne.symm h3, Ne.symm h4, Ne.symm h5]
            rw [q]
            simp [nmOk, h1, h2, h3, h4, h5]
theorem nmOk_len {t : T} (h : t.length ≠ 1) : nmOk t = false := by
  have : ∀ c : UInt8, t ≠ [c] := fun c e => by rw [e] at h; simp at h
  simp [nmOk, this]
def ckB (K A B Nm R : Bool) (a b : Int) (name : T) : Int :=
  if K = false then 9
  else if (!A && a != 0) || (!B && b != 0) || (!Nm && name != []) then 1
  else if Nm && !nmOk name then 6
  else if R = false then 2 else 0
def ckI (bs : List Blk) (nb : Nat) (op a b : Int) (name : T) : Int := ckB (fK op) (fA op) (fB op) (fN op) (inR bs nb op a b) a b name
theorem shapes {op : Int} (h : fK op = true) : (fA op = true ∧ fB op = false ∧ fN op = false) ∨ (fA op = false ∧ fB op = false ∧ fN op = true) ∨ (fA op = true ∧ fB op = true ∧ fN op = false) ∨ (fA op = false ∧ fB op = false ∧ fN op = false) := by
  rcases op_split op with rfl | rfl | rfl | rfl | rfl | rfl | rfl | rfl | rfl | rfl | rfl | rfl | rfl | rfl | rfl | rfl | ⟨h1, h2, h3, h4, h5, h6, h7, h8, h9, h10, h11, h12, h13, h14, h15, h16⟩
  rotate_right
  · simp [fK, fA, *] at h
  all_goals decide
set_option maxRecDepth 100000 in
set_option maxHeartbeats 4000000 in
theorem checkInstr_any (p : Prg) (x : Blk) (op a b : Int) (name : T) (w : World) (hp : p.Rd w)(hnl : name.length ≤ 9223372036854775807) :
    Calls Tryz.prog 51 #[p.v, x.v, (Ins.mk op a b name).v] w fun e w' => e = .returned (.int .i64 (ckI p.bs x.ins.length op a b name)) ∧ Below w.heap.size w w' := by
  have PL := fun (W : World) (hb : Below w.heap.size w W) => inRange_any p x op a b name W (hp.below hb)
  have FI := fun W => fields_any op W
  unfold Prg.v Blk.v Ins.v at PL
  unfold Prg.v Blk.v Ins.v
  simp only [] at PL ⊢
  have CT := fun (c : UInt8) (W : World) => contains1_any ⟨#[43, 45, 42, 61, 60]⟩ c W
  simp only [nmOk_one] at CT
  have HCT := Lib.hid CT
  clear CT
  have SH := fun h : fK op = true => shapes h
  unfold ckI
  generalize inR p.bs x.ins.length op a b = R at *
  generalize fK op = K at *
  generalize fA op = A at *
  generalize fB op = B at *
  generalize fN op = Nm at *
  cases K with
  | false =>
    have HFI := Lib.hid FI
    clear FI SH PL hp
    have hs : ckB false A B Nm R a b name = 9 := rfl
    rw [hs]
    clear hs
    go_enter Tryz.func51, Tryz.ntmps51
    go_wp2_with (go_at_call 82; refine (HFI.out _).mono ?_; rintro e w1 ⟨rfl, rfl⟩)
    go_ret
    exact ⟨rfl, bel3 _ _ _ _⟩
  | true =>
    have hsh := SH rfl
    have HPL := Lib.hid PL
    have HFI := Lib.hid FI
    clear FI SH PL hp
    rcases hsh with ⟨rfl, rfl, rfl⟩ | ⟨rfl, rfl, rfl⟩ | ⟨rfl, rfl, rfl⟩ | ⟨rfl, rfl, rfl⟩
    · -- 1 0 0
      by_cases qb' : b = 0
      rotate_right
      · have qb : (b != 0) = true := by simpa using qb'
        have hs : ckB true true false false R a b name = 1 := by simp [ckB, qb']
        rw [hs]
        clear hs
        clear qb'
        go_enter Tryz.func51, Tryz.ntmps51
        go_wp2_with (first | (go_at_call 82; refine (HFI.out _).mono ?_; rintro e w1 ⟨rfl, rfl⟩) | (go_at_call 83; refine (HCTc.out _).mono ?_; rintro e w3 ⟨rfl, rfl⟩) | (go_at_call 84; refine (HPL.out _ (bel3 _ _ _ _)).mono ?_; rintro e w2 ⟨rfl, k2⟩))
        go_ret
        exact ⟨rfl, bel3 _ _ _ _⟩
      subst qb'
      have qb : ((0 : Int) != 0) = false := rfl
      by_cases qn' : name = []
      rotate_right
      · have qn : (name != []) = true := by simpa using qn'
        have qn2 : name.isEmpty = false := by simpa using qn'
        have hs : ckB true true false false R a 0 name = 1 := by simp [ckB, qn']
        rw [hs]
        clear hs
        clear qn'
        go_enter Tryz.func51, Tryz.ntmps51
        go_wp2_with (first | (go_at_call 82; refine (HFI.out _).mono ?_; rintro e w1 ⟨rfl, rfl⟩) | (go_at_call 83; refine (HCTc.out _).mono ?_; rintro e w3 ⟨rfl, rfl⟩) | (go_at_call 84; refine (HPL.out _ (bel3 _ _ _ _)).mono ?_; rintro e w2 ⟨rfl, k2⟩))
        go_ret
        exact ⟨rfl, bel3 _ _ _ _⟩
      subst qn'
      have qn : (([] : T) != []) = false := rfl
      cases R with
      | false =>
        have hs : ckB true true false false false a 0 [] = 2 := by simp [ckB]
        rw [hs]
        clear hs
        go_enter Tryz.func51, Tryz.ntmps51
        go_wp2_with (first | (go_at_call 82; refine (HFI.out _).mono ?_; rintro e w1 ⟨rfl, rfl⟩) | (go_at_call 83; refine (HCTc.out _).mono ?_; rintro e w3 ⟨rfl, rfl⟩) | (go_at_call 84; refine (HPL.out _ (bel3 _ _ _ _)).mono ?_; rintro e w2 ⟨rfl, k2⟩))
        go_ret
        exact ⟨rfl, (bel3 w _ _ _).trans (k2.mono (bel3 w _ _ _).size)⟩
      | true =>
        have hs : ckB true true false false true a 0 [] = 0 := by simp [ckB]
        rw [hs]
        clear hs
        go_enter Tryz.func51, Tryz.ntmps51
        go_wp2_with (first | (go_at_call 82; refine (HFI.out _).mono ?_; rintro e w1 ⟨rfl, rfl⟩) | (go_at_call 83; refine (HCTc.out _).mono ?_; rintro e w3 ⟨rfl, rfl⟩) | (go_at_call 84; refine (HPL.out _ (bel3 _ _ _ _)).mono ?_; rintro e w2 ⟨rfl, k2⟩))
        go_ret
        exact ⟨rfl, (bel3 w _ _ _).trans (k2.mono (bel3 w _ _ _).size)⟩
    · -- 0 0 1
      by_cases qa' : a = 0
      rotate_right
      · have qa : (a != 0) = true := by simpa using qa'
        have hs : ckB true false false true R a b name = 1 := by simp [ckB, qa']
        rw [hs]
        clear hs
        clear qa'
        go_enter Tryz.func51, Tryz.ntmps51
        go_wp2_with (first | (go_at_call 82; refine (HFI.out _).mono ?_; rintro e w1 ⟨rfl, rfl⟩) | (go_at_call 83; refine (HCTc.out _).mono ?_; rintro e w3 ⟨rfl, rfl⟩) | (go_at_call 84; refine (HPL.out _ (bel3 _ _ _ _)).mono ?_; rintro e w2 ⟨rfl, k2⟩))
        go_ret
        exact ⟨rfl, bel3 _ _ _ _⟩
      subst qa'
      have qa : ((0 : Int) != 0) = false := rfl
      by_cases qb' : b = 0
      rotate_right
      · have qb : (b != 0) = true := by simpa using qb'
        have hs : ckB true false false true R 0 b name = 1 := by simp [ckB, qb']
        rw [hs]
        clear hs
        clear qb'
        go_enter Tryz.func51, Tryz.ntmps51
        go_wp2_with (first | (go_at_call 82; refine (HFI.out _).mono ?_; rintro e w1 ⟨rfl, rfl⟩) | (go_at_call 83; refine (HCTc.out _).mono ?_; rintro e w3 ⟨rfl, rfl⟩) | (go_at_call 84; refine (HPL.out _ (bel3 _ _ _ _)).mono ?_; rintro e w2 ⟨rfl, k2⟩))
        go_ret
        exact ⟨rfl, bel3 _ _ _ _⟩
      subst qb'
      have qb : ((0 : Int) != 0) = false := rfl
      by_cases z : name.length = 1
      · obtain ⟨c, rfl⟩ := List.length_eq_one_iff.1 z
        clear z
        have hcc := HCT.out c
        have HCTc := Lib.hid hcc
        clear HCT hcc
        obtain ⟨ok, hok⟩ : ∃ ok, nmOk [c] = ok := ⟨_, rfl⟩
        rw [hok] at HCTc
        cases ok with
        | false =>
          have hs : ckB true false false true R 0 0 [c] = 6 := by simp [ckB, hok]
          rw [hs]
          clear hs
          go_enter Tryz.func51, Tryz.ntmps51
          go_wp2_with (first | (go_at_call 82; refine (HFI.out _).mono ?_; rintro e w1 ⟨rfl, rfl⟩) | (go_at_call 83; refine (HCTc.out _).mono ?_; rintro e w3 ⟨rfl, rfl⟩) | (go_at_call 84; refine (HPL.out _ (bel3 _ _ _ _)).mono ?_; rintro e w2 ⟨rfl, k2⟩))
          go_ret
          exact ⟨rfl, bel3 _ _ _ _⟩
        | true =>
          cases R with
          | false =>
            have hs : ckB true false false true false 0 0 [c] = 2 := by simp [ckB, hok]
            rw [hs]
            clear hs
            go_enter Tryz.func51, Tryz.ntmps51
            go_wp2_with (first | (go_at_call 82; refine (HFI.out _).mono ?_; rintro e w1 ⟨rfl, rfl⟩) | (go_at_call 83; refine (HCTc.out _).mono ?_; rintro e w3 ⟨rfl, rfl⟩) | (go_at_call 84; refine (HPL.out _ (bel3 _ _ _ _)).mono ?_; rintro e w2 ⟨rfl, k2⟩))
            go_ret
            exact ⟨rfl, (bel3 w _ _ _).trans (k2.mono (bel3 w _ _ _).size)⟩
          | true =>
            have hs : ckB true false false true true 0 0 [c] = 0 := by simp [ckB, hok]
            rw [hs]
            clear hs
            go_enter Tryz.func51, Tryz.ntmps51
            go_wp2_with (first | (go_at_call 82; refine (HFI.out _).mono ?_; rintro e w1 ⟨rfl, rfl⟩) | (go_at_call 83; refine (HCTc.out _).mono ?_; rintro e w3 ⟨rfl, rfl⟩) | (go_at_call 84; refine (HPL.out _ (bel3 _ _ _ _)).mono ?_; rintro e w2 ⟨rfl, k2⟩))
            go_ret
            exact ⟨rfl, (bel3 w _ _ _).trans (k2.mono (bel3 w _ _ _).size)⟩
      · have hk := nmOk_len z
        have z2 : ((name.length : Int) != 1) = true := by simp; omega
        have hs : ckB true false false true R 0 0 name = 6 := by simp [ckB, hk]
        rw [hs]
        clear hs
        clear z hk
        go_enter Tryz.func51, Tryz.ntmps51
        go_wp2_with (first | (go_at_call 82; refine (HFI.out _).mono ?_; rintro e w1 ⟨rfl, rfl⟩) | (go_at_call 83; refine (HCTc.out _).mono ?_; rintro e w3 ⟨rfl, rfl⟩) | (go_at_call 84; refine (HPL.out _ (bel3 _ _ _ _)).mono ?_; rintro e w2 ⟨rfl, k2⟩))
        go_ret
        exact ⟨rfl, bel3 _ _ _ _⟩
    · -- 1 1 0
      by_cases qn' : name = []
      rotate_right
      · have qn : (name != []) = true := by simpa using qn'
        have qn2 : name.isEmpty = false := by simpa using qn'
        have hs : ckB true true true false R a b name = 1 := by simp [ckB, qn']
        rw [hs]
        clear hs
        clear qn'
        go_enter Tryz.func51, Tryz.ntmps51
        go_wp2_with (first | (go_at_call 82; refine (HFI.out _).mono ?_; rintro e w1 ⟨rfl, rfl⟩) | (go_at_call 83; refine (HCTc.out _).mono ?_; rintro e w3 ⟨rfl, rfl⟩) | (go_at_call 84; refine (HPL.out _ (bel3 _ _ _ _)).mono ?_; rintro e w2 ⟨rfl, k2⟩))
        go_ret
        exact ⟨rfl, bel3 _ _ _ _⟩
      subst qn'
      have qn : (([] : T) != []) = false := rfl
      cases R with
      | false =>
        have hs : ckB true true true false false a b [] = 2 := by simp [ckB]
        rw [hs]
        clear hs
        go_enter Tryz.func51, Tryz.ntmps51
        go_wp2_with (first | (go_at_call 82; refine (HFI.out _).mono ?_; rintro e w1 ⟨rfl, rfl⟩) | (go_at_call 83; refine (HCTc.out _).mono ?_; rintro e w3 ⟨rfl, rfl⟩) | (go_at_call 84; refine (HPL.out _ (bel3 _ _ _ _)).mono ?_; rintro e w2 ⟨rfl, k2⟩))
        go_ret
        exact ⟨rfl, (bel3 w _ _ _).trans (k2.mono (bel3 w _ _ _).size)⟩
      | true =>
        have hs : ckB true true true false true a b [] = 0 := by simp [ckB]
        rw [hs]
        clear hs
        go_enter Tryz.func51, Tryz.ntmps51
        go_wp2_with (first | (go_at_call 82; refine (HFI.out _).mono ?_; rintro e w1 ⟨rfl, rfl⟩) | (go_at_call 83; refine (HCTc.out _).mono ?_; rintro e w3 ⟨rfl, rfl⟩) | (go_at_call 84; refine (HPL.out _ (bel3 _ _ _ _)).mono ?_; rintro e w2 ⟨rfl, k2⟩))
        go_ret
        exact ⟨rfl, (bel3 w _ _ _).trans (k2.mono (bel3 w _ _ _).size)⟩
    · -- 0 0 0
      by_cases qa' : a = 0
      rotate_right
      · have qa : (a != 0) = true := by simpa using qa'
        have hs : ckB true false false false R a b name = 1 := by simp [ckB, qa']
        rw [hs]
        clear hs
        clear qa'
        go_enter Tryz.func51, Tryz.ntmps51
        go_wp2_with (first | (go_at_call 82; refine (HFI.out _).mono ?_; rintro e w1 ⟨rfl, rfl⟩) | (go_at_call 83; refine (HCTc.out _).mono ?_; rintro e w3 ⟨rfl, rfl⟩) | (go_at_call 84; refine (HPL.out _ (bel3 _ _ _ _)).mono ?_; rintro e w2 ⟨rfl, k2⟩))
        go_ret
        exact ⟨rfl, bel3 _ _ _ _⟩
      subst qa'
      have qa : ((0 : Int) != 0) = false := rfl
      by_cases qb' : b = 0
      rotate_right
      · have qb : (b != 0) = true := by simpa using qb'
        have hs : ckB true false false false R 0 b name = 1 := by simp [ckB, qb']
        rw [hs]
        clear hs
        clear qb'
        go_enter Tryz.func51, Tryz.ntmps51
        go_wp2_with (first | (go_at_call 82; refine (HFI.out _).mono ?_; rintro e w1 ⟨rfl, rfl⟩) | (go_at_call 83; refine (HCTc.out _).mono ?_; rintro e w3 ⟨rfl, rfl⟩) | (go_at_call 84; refine (HPL.out _ (bel3 _ _ _ _)).mono ?_; rintro e w2 ⟨rfl, k2⟩))
        go_ret
        exact ⟨rfl, bel3 _ _ _ _⟩
      subst qb'
      have qb : ((0 : Int) != 0) = false := rfl
      by_cases qn' : name = []
      rotate_right
      · have qn : (name != []) = true := by simpa using qn'
        have qn2 : name.isEmpty = false := by simpa using qn'
        have hs : ckB true false false false R 0 0 name = 1 := by simp [ckB, qn']
        rw [hs]
        clear hs
        clear qn'
        go_enter Tryz.func51, Tryz.ntmps51
        go_wp2_with (first | (go_at_call 82; refine (HFI.out _).mono ?_; rintro e w1 ⟨rfl, rfl⟩) | (go_at_call 83; refine (HCTc.out _).mono ?_; rintro e w3 ⟨rfl, rfl⟩) | (go_at_call 84; refine (HPL.out _ (bel3 _ _ _ _)).mono ?_; rintro e w2 ⟨rfl, k2⟩))
        go_ret
        exact ⟨rfl, bel3 _ _ _ _⟩
      subst qn'
      have qn : (([] : T) != []) = false := rfl
      cases R with
      | false =>
        have hs : ckB true false false false false 0 0 [] = 2 := by simp [ckB]
        rw [hs]
        clear hs
        go_enter Tryz.func51, Tryz.ntmps51
        go_wp2_with (first | (go_at_call 82; refine (HFI.out _).mono ?_; rintro e w1 ⟨rfl, rfl⟩) | (go_at_call 83; refine (HCTc.out _).mono ?_; rintro e w3 ⟨rfl, rfl⟩) | (go_at_call 84; refine (HPL.out _ (bel3 _ _ _ _)).mono ?_; rintro e w2 ⟨rfl, k2⟩))
        go_ret
        exact ⟨rfl, (bel3 w _ _ _).trans (k2.mono (bel3 w _ _ _).size)⟩
      | true =>
        have hs : ckB true false false false true 0 0 [] = 0 := by simp [ckB]
        rw [hs]
        clear hs
        go_enter Tryz.func51, Tryz.ntmps51
        go_wp2_with (first | (go_at_call 82; refine (HFI.out _).mono ?_; rintro e w1 ⟨rfl, rfl⟩) | (go_at_call 83; refine (HCTc.out _).mono ?_; rintro e w3 ⟨rfl, rfl⟩) | (go_at_call 84; refine (HPL.out _ (bel3 _ _ _ _)).mono ?_; rintro e w2 ⟨rfl, k2⟩))
        go_ret
        exact ⟨rfl, (bel3 w _ _ _).trans (k2.mono (bel3 w _ _ _).size)⟩
end Go.Proofs.YtgboboljgcfggaaGreatDoor
namespace Go.Proofs.YtgboboljgcfggaaGreatDoor
open Go.RowKit
def dstOf (ops : Array Oper) (i : Nat) : Option Tmp := match ops[i]? with | some o => o.dst | none => none
def waits (md : Region.Mode) (ops : Array Oper) (i j : Nat) : Bool := match ops[i]? with | some o => o.after.any fun e => Region.binds md e && e.on == j | none => false
def dstsB (ops : Array Oper) (m : Nat) : Bool :=
  (List.range ops.size).all fun i => match dstOf ops i with
    | none => true
    | some t => decide (t < m) && (List.range ops.size).all fun j => j == i || dstOf ops j != some t
def plainB' (ops : Array Oper) : Bool := (List.range ops.size).all fun i => match ops[i]? with | some o => o.guard.isNone | none => true
def okB (md : Region.Mode) (ops : Array Oper) (wr : List Bool) (ms : List (List Nat)) (i k : Nat) : Bool :=
  match ms[k]? with
  | none => false
  | some m => m.all (fun j => !(j == i) && !waits md ops j i) && (List.range ops.size).all fun j => !(wr.getD j false) || !waits md ops i j || m.contains j
def okL (md : Region.Mode) (ops : Array Oper) (wr : List Bool) (ms : List (List Nat)) (i : Nat) : List Nat := (List.range ms.length).filter (okB md ops wr ms i)
def stepB (n : Nat) (ms : List (List Nat)) (i k k' : Nat) : Bool := match ms[k]?, ms[k']? with
  | some m, some m' => (List.range n).all (fun j => m'.contains j == (m.contains j || j == i)) && m'.all fun j => decide (j < n)
  | _, _ => false
def finL (n : Nat) (wr : List Bool) (ms : List (List Nat)) : List Nat := (List.range ms.length).filter fun k => match ms[k]? with | some m => (List.range n).all fun j => !(wr.getD j false) || m.contains j | none => false
def AllL : List Nat → (Nat → Prop) → Prop
  | [], _ => True
  | k :: ks, P => P k ∧ AllL ks P
theorem AllL.at {P : Nat → Prop} : ∀ {ks : List Nat}, AllL ks P → ∀ k ∈ ks, P k
  | x :: ks, h, k, hk => by
    rcases List.mem_cons.1 hk with rfl | hk
    · exact h.1
    · exact AllL.at h.2 k hk
def knownB (md : Region.Mode) (ops : Array Oper) (i t : Nat) : Bool := (List.range ops.size).all fun j => dstOf ops j != some t || waits md ops i j
def valAt (ops : Array Oper) (vs : List Value) (a0 : Act) (t : Nat) : Value := match (List.range ops.size).find? fun i => dstOf ops i == some t with | some i => vs.getD i undef | none => a0.tmps.getD t undef
def finA : List Oper → List Value → Act → Act
  | o :: os, v :: vs, a => finA os vs (a.put o.dst v)
  | _, _, a => a
def nx (o : Oper) (v : Value) : Next := match o.dst with | none => .skip | some _ => .value v
def Runs (P : Program) (o : Oper) (a : Act) (v : Value) (w w' : World) : Prop :=
  (execOp a.eval o).run P w = .ok (nx o v) w' ∨ ∃ f args, (execOp a.eval o).run P w = .ok (.enter f args) w ∧ Calls P f args w fun e w'' => e = .returned v ∧ w'' = w'
def Obl (P : Program) (md : Region.Mode) (ops : Array Oper) (wr : List Bool) (ms : List (List Nat)) (vs : List Value) (ws : List World) (a0 : Act) (i : Nat) (o : Oper) : Prop :=
  ∀ (k : Nat) (a : Act), k ∈ okL md ops wr ms i → (∀ t, knownB md ops i t = true → a.eval (.tmp t) = valAt ops vs a0 t) →
    ∃ k' w w', (if wr.getD i false then stepB ops.size ms i k k' = true else k' = k) ∧ ws[k]? = some w ∧ ws[k']? = some w' ∧ Runs P o a (vs.getD i undef) w w'
def Obls (P : Program) (md : Region.Mode) (ops : Array Oper) (wr : List Bool) (ms : List (List Nat)) (vs : List Value) (ws : List World) (a0 : Act) : Nat → List Oper → Prop
  | _, [] => True
  | i, o :: os => Obl P md ops wr ms vs ws a0 i o ∧ Obls P md ops wr ms vs ws a0 (i + 1) os
theorem Obls.at {P : Program} {md : Region.Mode} {ops : Array Oper} {wr : List Bool} {ms : List (List Nat)} {vs : List Value} {ws : List World} {a0 : Act} : ∀ {l : List Oper} {s : Nat}, Obls P md ops wr ms vs ws a0 s l → ∀ (i : Nat) o, l[i]? = some o → Obl P md ops wr ms vs ws a0 (s + i) o
  | [], _, _, i, o, h => by simp at h
  | x :: l, s, h, 0, o, e => by simp at e; subst e; exact h.1
  | x :: l, s, h, i + 1, o, e => by
    have := Obls.at h.2 i o (by simpa using e)
    rwa [show s + (i + 1) = s + 1 + i by omega]
theorem put_same {a : Act} {t : Nat} {v : Value} (ht : t < a.tmps.size) : (a.put (some t) v).tmps.getD t undef = v := by simp [Act.put, ht]
theorem put_other {a : Act} {d : Option Tmp} {t : Nat} {v : Value} (h : d ≠ some t) : (a.put d v).tmps.getD t undef = a.tmps.getD t undef := by
  cases d with
  | none => rfl
  | some u =>
    have : u ≠ t := fun e => h (by rw [e])
    simp [Act.put, Array.getElem?_setIfInBounds_ne this]
theorem put_size (a : Act) (d : Option Tmp) (v : Value) : (a.put d v).tmps.size = a.tmps.size := by cases d <;> simp [Act.put]
theorem put_defers (a : Act) (d : Option Tmp) (v : Value) : (a.put d v).defers = a.defers := by cases d <;> rfl
theorem act_ext {a b : Act} (h1 : a.tmps.size = b.tmps.size) (h2 : a.defers = b.defers) (h : ∀ t, t < a.tmps.size → a.tmps.getD t undef = b.tmps.getD t undef) : a = b := by
  obtain ⟨ta, da⟩ := a
  obtain ⟨tb, db⟩ := b
  simp only at h1 h2 h
  subst h2
  congr 1
  apply Array.ext h1
  intro i hi hj
  have := h i hi
  simpa [hi, hj] using this
structure FrI (ops : Array Oper) (vs : List Value) (a0 : Act) (listed : Nat → Bool) (a : Act) : Prop where
  size : a.tmps.size = a0.tmps.size
  defers : a.defers = a0.defers
  done : ∀ (i : Nat) t, dstOf ops i = some t → listed i = true → a.tmps.getD t undef = vs.getD i undef
  other : ∀ t, (∀ i, dstOf ops i = some t → listed i = false) → a.tmps.getD t undef = a0.tmps.getD t undef
theorem dsts_spec {ops : Array Oper} {m : Nat} (h : dstsB ops m = true) {i t : Nat} (hi : dstOf ops i = some t) : t < m ∧ ∀ j, j ≠ i → dstOf ops j ≠ some t := by
  have hn : ∀ {i t}, dstOf ops i = some t → i < ops.size := fun {i t} h => by
    unfold dstOf at h
    rcases Nat.lt_or_ge i ops.size with h' | h'
    · exact h'
    · rw [Array.getElem?_eq_none h'] at h; cases h
  have h1 := List.all_eq_true.1 h i (List.mem_range.2 (hn hi))
  rw [hi] at h1
  simp only [Bool.and_eq_true, decide_eq_true_eq] at h1
  refine ⟨h1.1, fun j hj e => ?_⟩
  have h2 := List.all_eq_true.1 h1.2 j (List.mem_range.2 (hn e))
  simp [hj, e] at h2
theorem FrI.put {ops : Array Oper} {vs : List Value} {a0 : Act} {listed : Nat → Bool} {a : Act} (h : FrI ops vs a0 listed a) (hd : dstsB ops a0.tmps.size = true) (i : Nat) {v : Value} (hv : ∀ t, dstOf ops i = some t → v = vs.getD i undef) (hun : listed i = false) :
    FrI ops vs a0 (fun j => if j = i then true else listed j) (a.put (dstOf ops i) v) where
  size := by rw [put_size]; exact h.size
  defers := by rw [put_defers]; exact h.defers
  done j t hj hl := by
    by_cases e : j = i
    · subst e
      rw [hj, put_same (by rw [h.size]; exact (dsts_spec hd hj).1)]
      exact hv t hj
    · simp only [e, if_false] at hl
      rw [put_other ((dsts_spec hd hj).2 i (Ne.symm e))]
      exact h.done j t hj hl
  other t ht := by
    have : dstOf ops i ≠ some t := fun e => by have := ht i e; simp at this
    rw [put_other this]
    exact h.other t fun j hj => by
      have := ht j hj
      split at this
      · cases this
      · exact this
theorem FrI.unique {ops : Array Oper} {vs : List Value} {a0 : Act} {l l' : Nat → Bool} {a a' : Act} (h : FrI ops vs a0 l a) (h' : FrI ops vs a0 l' a') (hl : ∀ i, i < ops.size → l i = l' i) : a = a' := by
  refine act_ext (h.size.trans h'.size.symm) (h.defers.trans h'.defers.symm) fun t _ => ?_
  have hn : ∀ {i t}, dstOf ops i = some t → i < ops.size := fun {i t} h => by
    unfold dstOf at h
    rcases Nat.lt_or_ge i ops.size with h' | h'
    · exact h'
    · rw [Array.getElem?_eq_none h'] at h; cases h
  by_cases e : ∃ i, dstOf ops i = some t ∧ l i = true
  · obtain ⟨i, e1, e2⟩ := e
    rw [h.done i t e1 e2, h'.done i t e1 (by rw [← hl i (hn e1)]; exact e2)]
  · have q : ∀ i, dstOf ops i = some t → l i = false := fun i e1 => by
      cases e2 : l i with
      | false => rfl
      | true => exact absurd ⟨i, e1, e2⟩ e
    rw [h.other t q, h'.other t fun i e1 => by rw [← hl i (hn e1)]; exact q i e1]
theorem finA_ok {ops : Array Oper} {vs : List Value} {a0 : Act} (hd : dstsB ops a0.tmps.size = true) : ∀ (l : List Oper) (us : List Value) (s : Nat) (a : Act), l.length = us.length → (∀ i, i < l.length → dstOf ops (s + i) = (match l[i]? with | some o => o.dst | none => none)) → (∀ i, i < us.length → vs.getD (s + i) undef = us.getD i undef) →
    FrI ops vs a0 (fun j => decide (j < s)) a → FrI ops vs a0 (fun j => decide (j < s + l.length)) (finA l us a)
  | [], [], s, a, _, _, _, h => h
  | o :: l, u :: us, s, a, hl, ho, hv, h => by
    have h0 := ho 0 (by simp)
    simp only [Nat.add_zero, List.getElem?_cons_zero] at h0
    have h1 := h.put hd s (v := u) (fun t _ => by have := hv 0 (by simp); simpa using this.symm) (by simp)
    have h2 : (fun j => if j = s then true else decide (j < s)) = fun j => decide (j < s + 1) := by
      funext j
      by_cases e : j = s
      · simp [e]
      · have : (j < s) ↔ (j < s + 1) := by omega
        simp [e, this]
    rw [h2, h0] at h1
    have h3 := finA_ok hd l us (s + 1) (a.put o.dst u) (by simpa using hl) (fun i hi => by
      have := ho (i + 1) (by simpa using hi)
      rw [show s + 1 + i = s + (i + 1) by omega, this]
      simp) (fun i hi => by
      have := hv (i + 1) (by simpa using hi)
      rw [show s + 1 + i = s + (i + 1) by omega, this]
      simp) h1
    have e : s + (o :: l).length = s + 1 + l.length := by simp; omega
    rw [e]
    exact h3
theorem waits_spec {md : Region.Mode} {ops : Array Oper} {i j : Nat} (h : waits md ops i j = true) : ∃ o, ops[i]? = some o ∧ ∃ e ∈ o.after, Region.binds md e = true ∧ e.on = j := by
  unfold waits at h
  split at h
  · rename_i o ho
    obtain ⟨e, he, hb⟩ := Array.any_eq_true'.1 h
    simp only [Bool.and_eq_true, beq_iff_eq] at hb
    exact ⟨o, ho, e, he, hb.1, hb.2⟩
  · cases h
structure PhI (md : Region.Mode) (ops : Array Oper) (wr : List Bool) (ms : List (List Nat)) (vs : List Value) (ws : List World) (a0 : Act) (T : Nat) (m : Nat) (listed : Array Bool) (a : Act) (w : World) : Prop where
  size : listed.size = ops.size
  left : (List.range T).countP (fun i => !listed.getD i false) = m
  tail : ∀ t, T ≤ t → t < ops.size → listed.getD t false = false
  closed : ∀ j oj, ops[j]? = some oj → listed.getD j false = true → ∀ e ∈ oj.after, Region.binds md e = true → listed.getD e.on false = true
  w : ∃ (k : Nat) (m : List Nat), ws[k]? = some w ∧ ms[k]? = some m ∧ (∀ j ∈ m, j < ops.size ∧ listed.getD j false = true) ∧ ∀ j, j < ops.size → wr.getD j false = true → listed.getD j false = true → j ∈ m
  fr : FrI ops vs a0 (fun i => listed.getD i false) a
theorem exists_ready {md : Region.Mode} {ops : Array Oper} (hf : ((List.range ops.size).all fun i => match ops[i]? with | some o => o.after.all (fun e => !Region.binds md e || decide (e.on < i)) | none => true) = true) {listed : Array Bool} (hs : listed.size = ops.size) :
    ∀ (n i : Nat), i ≤ n → i < ops.size → listed.getD i false = false → ∃ j, j ∈ Region.ready md ops listed := by
  intro n
  induction n with
  | zero =>
    intro i hi hlt hun
    have : i = 0 := by omega
    subst this
    refine ⟨0, mem_ready.2 ⟨by simp [hs, hlt] at hun ⊢; exact hun, ops[0], by simp [hlt], fun e he hb => ?_⟩⟩
    have h1 := List.all_eq_true.1 hf 0 (List.mem_range.2 hlt)
    simp only [Array.getElem?_eq_getElem hlt] at h1
    have h2 := Array.all_eq_true'.1 h1 e he
    simp [hb] at h2
  | succ n ih =>
    intro i hi hlt hun
    by_cases hall : ∀ e ∈ (ops[i]).after, Region.binds md e = true → listed.getD e.on false = true
    · exact ⟨i, mem_ready.2 ⟨by simp [hs, hlt] at hun ⊢; exact hun, ops[i], by simp [hlt], hall⟩⟩
    · have : ∃ e ∈ (ops[i]).after, Region.binds md e = true ∧ listed.getD e.on false = false := by
        refine Classical.byContradiction fun hc => hall fun e he hb => ?_
        cases h3 : listed.getD e.on false with
        | true => rfl
        | false => exact absurd ⟨e, he, hb, h3⟩ hc
      obtain ⟨e, he, hb, hun2⟩ := this
      have h1 := List.all_eq_true.1 hf i (List.mem_range.2 hlt)
      simp only [Array.getElem?_eq_getElem hlt] at h1
      have h2 := Array.all_eq_true'.1 h1 e he
      simp [hb] at h2
      exact ih e.on (by omega) (by omega) hun2
theorem getD_rep (m j : Nat) : (Array.replicate m false).getD j false = false := by
  rcases Nat.lt_or_ge j m with h | h
  · simp [h]
  · simp [h]
theorem getD_bth {listed : Array Bool} {i : Nat} (h : listed.getD i true = false) : listed.getD i false = false := by
  rcases Nat.lt_or_ge i listed.size with h' | h'
  · simp [h'] at h ⊢; exact h
  · simp [Array.getElem?_eq_none h'] at h
theorem wpAny_invT {P : Program} {md : Region.Mode} {ops : Array Oper} {Q : Exit → Act → World → Prop} {f : Nat} (I : Nat → Array Bool → Act → World → Prop)
    (hne : ∀ n l a w, I (n + 1) l a w → Region.ready md ops l ≠ [])
    (hstep : ∀ n l a w i, I (n + 1) l a w → i ∈ Region.ready md ops l → wpOp P ops Q i (fun a' w' => I n (l.setIfInBounds i true) a' w') a w)
    (hend : ∀ l a w, I 0 l a w → wpAny P md ops Q f l a w) : ∀ n l a w, I n l a w → wpAny P md ops Q (n + f) l a w := by
  intro n
  induction n with
  | zero => intro l a w h; rw [Nat.zero_add]; exact hend l a w h
  | succ n ih =>
    intro l a w h
    rw [show n + 1 + f = (n + f) + 1 by omega]
    exact ⟨fun h0 => absurd h0 (hne n l a w h), fun i hi => wpOp_mono (fun a' w' h' => ih _ a' w' h') (hstep n l a w i h hi)⟩
theorem wpOp_of {P : Program} {ops : Array Oper} {Q : Exit → Act → World → Prop} {i : Nat} {K : Act → World → Prop} {a : Act} {w : World} {o : Oper} (ho : ops[i]? = some o) (hg : o.guard = none) (h : o.wp P a w K Q) : wpOp P ops Q i K a w := by
  unfold wpOp
  simp only [ho]
  rw [if_pos (by simp [Region.wanted, hg])]
  exact .inl h
def fwdB (md : Region.Mode) (ops : Array Oper) : Bool := (List.range ops.size).all fun i => match ops[i]? with | some o => o.after.all (fun e => !Region.binds md e || decide (e.on < i)) | none => true
theorem left_set {T n i : Nat} {listed : Array Bool} (hT : T ≤ n) (hs : listed.size = n) (hi : i < T) (hun : listed.getD i false = false) {m : Nat} (h : (List.range T).countP (fun j => !listed.getD j false) = m + 1) :
    (List.range T).countP (fun j => !(listed.setIfInBounds i true).getD j false) = m := by
  have key : ∀ k, k ≤ T → (List.range k).countP (fun j => !listed.getD j false) = (List.range k).countP (fun j => !(listed.setIfInBounds i true).getD j false) + if i < k then 1 else 0 := by
    intro k
    induction k with
    | zero => simp
    | succ k ih =>
      intro hk
      rw [List.range_succ, List.countP_append, List.countP_append, ih (by omega)]
      by_cases e : k = i
      · subst e
        have h1 : (listed.setIfInBounds k true).getD k false = true := by simp [hs, show k < n by omega]
        simp only [List.countP_singleton, h1, hun]
        simp
      · have h1 : (listed.setIfInBounds i true).getD k false = listed.getD k false := getD_set_ne false (Ne.symm e)
        simp only [List.countP_singleton, h1]
        have h2 : (i < k + 1) ↔ (i < k) := by omega
        simp only [h2]
        omega
  have := key T (Nat.le_refl _)
  simp only [hi, if_true] at this
  omega
theorem getD_tr {listed : Array Bool} {i : Nat} (hi : i < listed.size) (h : listed.getD i false = false) : listed.getD i true = false := by
  simp [hi] at h ⊢; exact h
theorem wp_phase_tail {P : Program} {id : Nat} {l : List Oper} {Q : Exit → Act → World → Prop} {a0 : Act} {w : World} (wr : List Bool) (ms : List (List Nat)) (vs : List Value) (ws : List World) (kf : Nat) (af : Act) (T : Nat) (hT : T ≤ l.length) (hm : P.follows .mixedOrders = true)
    (hd : dstsB l.toArray a0.tmps.size = true) (hp : plainB' l.toArray = true) (hf : fwdB .any l.toArray = true) (hl : T = vs.length) (hkf : finL T wr ms = [kf]) (haf : finA (l.take T) vs a0 = af)
    (hsk : T < l.length → Region.sinkB .any l.toArray T = true) (hch : T < l.length → Region.chainB .any l.toArray T = true)
    (hm0 : ms[0]? = some []) (hw0 : ws[0]? = some w.drew) (ho : Obls P .any l.toArray wr ms vs ws a0 0 (l.take T)) {wf : World} (hwf : ws[kf]? = some wf)
    (hsq : Region.seqB .any l.toArray (l.length - T) T (List.replicate T true ++ List.replicate (l.length - T) false).toArray = true) (hfin : wpList P l.toArray Q (l.drop T) af wf) : (Code.region id l.toArray true).wp P Q a0 w := by
  have hsz : l.toArray.size = T + (l.length - T) := by simp; omega
  have hT' : T ≤ l.toArray.size := by simpa using hT
  refine wp_region_any hm ?_
  rw [show wpAny P .any l.toArray Q l.toArray.size = wpAny P .any l.toArray Q (T + (l.length - T)) by rw [← hsz]]
  refine wpAny_invT (f := l.length - T) (PhI .any l.toArray wr ms vs ws a0 T) ?_ ?_ ?_ _ _ _ _ ?_
  · intro n listed a w h
    have : ∃ i, i < T ∧ listed.getD i false = false := by
      have h1 := h.left
      refine Classical.byContradiction fun hc => ?_
      have h0 : (List.range T).countP (fun i => !listed.getD i false) = 0 := by
        rw [List.countP_eq_zero]
        intro i hi
        simp only [Bool.not_eq_true', Bool.not_eq_false]
        cases h3 : listed.getD i false with
        | true => rfl
        | false => exact absurd ⟨i, List.mem_range.1 hi, h3⟩ hc
      omega
    obtain ⟨i, hi, hun⟩ := this
    obtain ⟨j, hj⟩ := exists_ready (md := .any) hf h.size i i (Nat.le_refl _) (by omega) hun
    intro e
    rw [e] at hj
    cases hj
  · intro n listed a w i h hi
    obtain ⟨hun1, o, hoi, hall⟩ := mem_ready.1 hi
    have hilt : i < l.toArray.size := (Array.getElem?_eq_some_iff.1 hoi).1
    have hun : listed.getD i false = false := getD_bth hun1
    have hiT : i < T := by
      rcases Nat.lt_or_ge i T with h' | h'
      · exact h'
      · exfalso
        have hlT : T < l.length := by have : i < l.length := by simpa using hilt
                                      omega
        have : ∃ q, q < T ∧ listed.getD q false = false := by
          have h1 := h.left
          refine Classical.byContradiction fun hc => ?_
          have h0 : (List.range T).countP (fun i => !listed.getD i false) = 0 := by
            rw [List.countP_eq_zero]
            intro i hi
            simp only [Bool.not_eq_true', Bool.not_eq_false]
            cases h3 : listed.getD i false with
            | true => rfl
            | false => exact absurd ⟨i, List.mem_range.1 hi, h3⟩ hc
          omega
        obtain ⟨q, hq, hqu⟩ := this
        refine tail_waits (md := .any) (n := T) (hsk hlT) (hch hlT) (by simpa using hlT) ⟨h.size, h.closed, fun t ht ht' => getD_tr (by rw [h.size]; exact ht') (h.tail t ht ht')⟩ _ q rfl hq (getD_tr (by rw [h.size]; omega) hqu) i h' hi
    have wl : ∀ j, waits .any l.toArray i j = true → listed.getD j false = true := fun j hj => by
      obtain ⟨o', ho', e, he, hb, hon⟩ := waits_spec hj
      have : o' = o := Option.some.inj (ho'.symm.trans hoi)
      subst this
      rw [← hon]; exact hall e he hb
    obtain ⟨k, m, ek, em, hm1, hm2⟩ := h.w
    have hk : k ∈ okL .any l.toArray wr ms i := by
      refine List.mem_filter.2 ⟨List.mem_range.2 (List.getElem?_eq_some_iff.1 em).1, ?_⟩
      unfold okB
      rw [em]
      simp only [Bool.and_eq_true, List.all_eq_true, Bool.or_eq_true, Bool.not_eq_true', beq_eq_false_iff_ne]
      refine ⟨fun j hj => ⟨fun e => ?_, ?_⟩, fun j hj => ?_⟩
      · subst e
        have := (hm1 j hj).2
        rw [hun] at this
        cases this
      · cases hw : waits .any l.toArray j i with
        | false => rfl
        | true =>
          obtain ⟨o', ho', e, he, hb, hon⟩ := waits_spec hw
          have := h.closed j o' ho' (hm1 j hj).2 e he hb
          rw [hon, hun] at this
          cases this
      · cases h1 : wr.getD j false with
        | false => exact .inl (.inl rfl)
        | true =>
          cases h2 : waits .any l.toArray i j with
          | false => exact .inl (.inr rfl)
          | true => exact .inr (List.contains_iff_mem.2 (hm2 j (List.mem_range.1 hj) h1 (wl j h2)))
    have hE : ∀ t, knownB .any l.toArray i t = true → a.eval (.tmp t) = valAt l.toArray vs a0 t := fun t ht => by
      unfold Act.eval valAt
      simp only []
      cases hfd : (List.range l.toArray.size).find? (fun i => dstOf l.toArray i == some t) with
      | some j =>
        have h1 : dstOf l.toArray j = some t := by have := List.find?_some hfd; simpa using this
        have h2 : j < l.toArray.size := by have := List.mem_of_find?_eq_some hfd; simpa using this
        have h3 := List.all_eq_true.1 ht j (List.mem_range.2 h2)
        simp [h1] at h3
        exact h.fr.done j t h1 (wl j h3)
      | none =>
        refine h.fr.other t fun j hj => ?_
        have h2 : j < l.toArray.size := by
          unfold dstOf at hj
          rcases Nat.lt_or_ge j l.toArray.size with h' | h'
          · exact h'
          · rw [Array.getElem?_eq_none h'] at hj; cases hj
        have := List.find?_eq_none.1 hfd j (List.mem_range.2 h2)
        simp [hj] at this
    have hob := Obls.at ho i o (by rw [List.getElem?_take, if_pos hiT]; simpa using hoi)
    rw [Nat.zero_add] at hob
    obtain ⟨k', w1, w2, estep, e1, e2, hrun⟩ := hob _ a hk hE
    have : w1 = w := Option.some.inj (e1.symm.trans ek)
    subst this
    have hg : o.guard = none := by
      have := List.all_eq_true.1 hp i (List.mem_range.2 hilt)
      rw [hoi] at this
      simpa using this
    have hdst : dstOf l.toArray i = o.dst := by unfold dstOf; rw [hoi]
    have lset : ∀ j, listed.getD j false = true → (listed.setIfInBounds i true).getD j false = true := fun j hj => getD_set_true hj
    have iset : (listed.setIfInBounds i true).getD i false = true := by simp [h.size, show i < l.length by simpa using hilt]
    have next : ∀ v, (∀ t, o.dst = some t → v = vs.getD i undef) → PhI .any l.toArray wr ms vs ws a0 T n (listed.setIfInBounds i true) (a.put o.dst v) w2 := fun v hv => by
      refine ⟨by simpa using h.size, left_set hT' h.size hiT hun h.left, fun t ht ht' => by rw [getD_set_ne false (by omega)]; exact h.tail t ht ht', ?_, ?_, ?_⟩
      · intro j oj hj hl' e he hb
        by_cases hij : i = j
        · subst hij
          have : oj = o := Option.some.inj (hj.symm.trans hoi)
          subst this
          exact getD_set_true (hall e he hb)
        · rw [getD_set_ne false hij] at hl'
          exact getD_set_true (h.closed j oj hj hl' e he hb)
      · cases hwr : wr.getD i false with
        | false =>
          rw [hwr] at estep
          simp at estep
          subst estep
          refine ⟨k', m, e2, em, fun j hj => ⟨(hm1 j hj).1, lset j (hm1 j hj).2⟩, fun j hj h1 h2 => ?_⟩
          by_cases e : i = j
          · subst e; rw [hwr] at h1; cases h1
          · rw [getD_set_ne false e] at h2
            exact hm2 j hj h1 h2
        | true =>
          rw [hwr] at estep
          simp only [if_true] at estep
          unfold stepB at estep
          rw [em] at estep
          split at estep
          · rename_i m1 m' e3 e4
            simp only [Option.some.injEq] at e3
            subst e3
            simp only [Bool.and_eq_true, List.all_eq_true, beq_iff_eq, decide_eq_true_eq] at estep
            refine ⟨k', m', e2, e4, fun j hj => ?_, fun j hj h1 h2 => ?_⟩
            · have hjn := estep.2 j hj
              refine ⟨hjn, ?_⟩
              have h3 := estep.1 j (List.mem_range.2 hjn)
              rw [List.contains_iff_mem.2 hj] at h3
              have h4 := h3.symm
              simp only [Bool.or_eq_true, beq_iff_eq] at h4
              rcases h4 with h4 | h4
              · exact lset j (hm1 j (List.contains_iff_mem.1 h4)).2
              · subst h4; exact iset
            · have h3 := estep.1 j (List.mem_range.2 hj)
              refine List.contains_iff_mem.1 (h3.trans ?_)
              by_cases e : i = j
              · subst e; simp
              · rw [getD_set_ne false e] at h2
                rw [List.contains_iff_mem.2 (hm2 j hj h1 h2)]
                rfl
          · cases estep
      · have h1 := h.fr.put hd i (v := v) (by rw [hdst]; exact hv) hun
        rw [hdst] at h1
        have h2 : (fun j => if j = i then true else listed.getD j false) = fun j => (listed.setIfInBounds i true).getD j false := by
          funext j
          by_cases e : j = i
          · subst e; simp [h.size, show j < l.length by simpa using hilt]
          · rw [getD_set_ne false (Ne.symm e)]; simp [e]
        rw [h2] at h1
        exact h1
    refine wpOp_of hoi hg ?_
    rcases hrun with hrun | ⟨f, args, hrun, hcall⟩
    · unfold Oper.wp
      rw [hrun]
      unfold nx
      cases hdd : o.dst with
      | none =>
        rw [hdd] at next
        have := next undef (by intro t e; cases e)
        simpa [Oper.upon, hdd] using this
      | some t =>
        rw [hdd] at next
        have := next (vs.getD i undef) (fun _ _ => rfl)
        simpa [Oper.upon, hdd] using this
    · unfold Oper.wp
      rw [hrun, Oper.upon_enter]
      refine hcall.mono ?_
      rintro e w3 ⟨rfl, rfl⟩
      exact next (vs.getD i undef) (fun _ _ => rfl)
  · intro listed a w h
    have hall : ∀ i, i < T → listed.getD i false = true := fun i hi => by
      have h0 := h.left
      rw [List.countP_eq_zero] at h0
      have := h0 i (List.mem_range.2 hi)
      simpa using this
    have hlist : listed = (List.replicate T true ++ List.replicate (l.length - T) false).toArray := by
      apply Array.ext
      · rw [h.size]; simp; omega
      · intro i h1 h2
        have hi' : i < l.toArray.size := by rw [← h.size]; exact h1
        by_cases hiT : i < T
        · have h3 := hall i hiT
          have : listed[i] = true := by simpa [h1] using h3
          rw [this]
          simp [hiT]
        · have h3 := h.tail i (by omega) hi'
          have : listed[i] = false := by simpa [h1] using h3
          rw [this]
          simp [List.getElem_append, hiT]
    have h1 := finA_ok (vs := vs) hd (l.take T) vs 0 a0 (by rw [List.length_take, Nat.min_eq_left hT, hl]) (fun i hi => by
      have hi' : i < T := by rw [List.length_take, Nat.min_eq_left hT] at hi; exact hi
      unfold dstOf; rw [List.getElem?_take, if_pos hi']; simp) (fun i _ => by simp) ⟨rfl, rfl, fun i t _ h => by simp at h, fun t _ => rfl⟩
    have := h.fr.unique h1 fun i hi => by
      rw [List.length_take, Nat.min_eq_left hT, Nat.zero_add]
      by_cases hiT : i < T
      · rw [hall i hiT]; simp [hiT]
      · rw [h.tail i (by omega) hi]; simp [hiT]
    rw [this, haf]
    obtain ⟨k, m, ek, em, hm1, hm2⟩ := h.w
    have hk : k ∈ finL T wr ms := by
      refine List.mem_filter.2 ⟨List.mem_range.2 (List.getElem?_eq_some_iff.1 em).1, ?_⟩
      simp only [em, List.all_eq_true, Bool.or_eq_true, Bool.not_eq_true']
      intro j hj
      cases h1 : wr.getD j false with
      | false => exact .inl rfl
      | true =>
        have hj' : j < T := by simpa using hj
        exact .inr (List.contains_iff_mem.2 (hm2 j (by omega) h1 (hall j hj')))
    rw [hkf, List.mem_singleton] at hk
    subst hk
    have : w = wf := Option.some.inj (ek.symm.trans hwf)
    subst this
    rw [hlist]
    have hlen : (l.drop T).length = l.length - T := by simp
    rw [← hlen]
    refine wpAny_of_seq (l.drop T) T _ _ _ (fun j => by rw [List.getElem?_drop]; simp) ?_ hfin
    rw [hlen]
    exact hsq
  · refine ⟨by simp, ?_, fun t _ _ => getD_rep _ _, ?_, ⟨0, [], hw0, hm0, by simp, ?_⟩, ?_⟩
    · have : ∀ i ∈ List.range T, (!(Array.replicate l.toArray.size false).getD i false) = true := fun i hi => by rw [getD_rep]; rfl
      rw [List.countP_eq_length.2 this]
      simp
    · intro j oj _ h
      rw [getD_rep] at h
      cases h
    · intro j _ _ h
      rw [getD_rep] at h
      cases h
    · exact ⟨rfl, rfl, fun i t _ h => (by rw [getD_rep] at h; cases h), fun t _ => rfl⟩
theorem wp_phase {P : Program} {id : Nat} {l : List Oper} {Q : Exit → Act → World → Prop} {a0 : Act} {w : World} (wr : List Bool) (ms : List (List Nat)) (vs : List Value) (ws : List World) (kf : Nat) (af : Act) (hm : P.follows .mixedOrders = true)
    (hd : dstsB l.toArray a0.tmps.size = true) (hp : plainB' l.toArray = true) (hf : fwdB .any l.toArray = true) (hl : l.length = vs.length) (hkf : finL l.length wr ms = [kf]) (haf : finA l vs a0 = af)
    (hm0 : ms[0]? = some []) (hw0 : ws[0]? = some w.drew) (ho : Obls P .any l.toArray wr ms vs ws a0 0 l) {wf : World} (hwf : ws[kf]? = some wf) (hfin : Q .normal af wf) : (Code.region id l.toArray true).wp P Q a0 w := by
  have h1 : l.take l.length = l := List.take_length
  have h2 : l.drop l.length = [] := List.drop_length
  refine wp_phase_tail wr ms vs ws kf af l.length (Nat.le_refl _) hm hd hp hf hl hkf (by rw [h1]; exact haf) (fun h => absurd h (Nat.lt_irrefl _)) (fun h => absurd h (Nat.lt_irrefl _)) hm0 hw0 (by rw [h1]; exact ho) hwf ?_ ?_
  · rw [Nat.sub_self]
    unfold Region.seqB
    rw [List.isEmpty_iff, List.eq_nil_iff_forall_not_mem]
    intro j hj
    obtain ⟨h3, o, ho', _⟩ := mem_ready.1 hj
    have hlt : j < l.length := by have := (Array.getElem?_eq_some_iff.1 ho').1; simpa using this
    simp [hlt] at h3
  · rw [h2]; exact hfin
theorem wp_phaseT {P : Program} {id : Nat} {l : List Oper} {Q : Exit → Act → World → Prop} {a0 : Act} {w : World} (wr : List Bool) (ms : List (List Nat)) (vs : List Value) (ws : List World) (kf : Nat) (T : Nat) (hT : T ≤ l.length) (hm : P.follows .mixedOrders = true)
    (hd : dstsB l.toArray a0.tmps.size = true) (hp : plainB' l.toArray = true) (hf : fwdB .any l.toArray = true) (hl : T = vs.length) (hkf : finL T wr ms = [kf])
    (hsk : T < l.length → Region.sinkB .any l.toArray T = true) (hch : T < l.length → Region.chainB .any l.toArray T = true)
    (hm0 : ms[0]? = some []) (hw0 : ws[0]? = some w.drew) (ho : Obls P .any l.toArray wr ms vs ws a0 0 (l.take T)) {wf : World} (hwf : ws[kf]? = some wf)
    (hsq : Region.seqB .any l.toArray (l.length - T) T (List.replicate T true ++ List.replicate (l.length - T) false).toArray = true) (hfin : ∀ af, finA (l.take T) vs a0 = af → wpList P l.toArray Q (l.drop T) af wf) : (Code.region id l.toArray true).wp P Q a0 w :=
  wp_phase_tail wr ms vs ws kf _ T hT hm hd hp hf hl hkf rfl hsk hch hm0 hw0 ho hwf hsq (hfin _ rfl)
section
variable {P : Program} {md : Region.Mode} {ops : Array Oper} {wr : List Bool} {ms : List (List Nat)} {ws : List World} {i k : Nat} {o : Oper} {v : Value} {a : Act}
theorem okL_lt (hk : k ∈ okL md ops wr ms i) : k < ms.length := List.mem_range.1 (List.mem_filter.1 hk).1
theorem obl_pure (hwr : wr.getD i false = false) (hle : ms.length = ws.length) (hk : k ∈ okL md ops wr ms i) (h : ∀ w, (execOp a.eval o).run P w = .ok (nx o v) w) :
    ∃ k' w w', (if wr.getD i false then stepB ops.size ms i k k' = true else k' = k) ∧ ws[k]? = some w ∧ ws[k']? = some w' ∧ Runs P o a v w w' := by
  have h1 : k < ws.length := by rw [← hle]; exact okL_lt hk
  refine ⟨k, ws[k], ws[k], ?_, List.getElem?_eq_getElem h1, List.getElem?_eq_getElem h1, .inl (h _)⟩
  rw [hwr]
  simp
theorem obl_read {ks : List Nat} (hwr : wr.getD i false = false) (hks : okL md ops wr ms i = ks) (hle : ms.length = ws.length) (hk : k ∈ okL md ops wr ms i) (h : AllL ks fun k => ∀ w, ws[k]? = some w → (execOp a.eval o).run P w = .ok (nx o v) w) :
    ∃ k' w w', (if wr.getD i false then stepB ops.size ms i k k' = true else k' = k) ∧ ws[k]? = some w ∧ ws[k']? = some w' ∧ Runs P o a v w w' := by
  have h1 : k < ws.length := by rw [← hle]; exact okL_lt hk
  have h2 := AllL.at h k (by rw [← hks]; exact hk) _ (List.getElem?_eq_getElem h1)
  refine ⟨k, ws[k], ws[k], ?_, List.getElem?_eq_getElem h1, List.getElem?_eq_getElem h1, .inl h2⟩
  rw [hwr]
  simp
theorem obl_call {ks : List Nat} (hwr : wr.getD i false = false) (hks : okL md ops wr ms i = ks) (hle : ms.length = ws.length) (hk : k ∈ okL md ops wr ms i) (h : AllL ks fun k => ∀ w, ws[k]? = some w → ∃ f args, (execOp a.eval o).run P w = .ok (.enter f args) w ∧ Calls P f args w fun e w'' => e = .returned v ∧ w'' = w) :
    ∃ k' w w', (if wr.getD i false then stepB ops.size ms i k k' = true else k' = k) ∧ ws[k]? = some w ∧ ws[k']? = some w' ∧ Runs P o a v w w' := by
  have h1 : k < ws.length := by rw [← hle]; exact okL_lt hk
  have h2 := AllL.at h k (by rw [← hks]; exact hk) _ (List.getElem?_eq_getElem h1)
  refine ⟨k, ws[k], ws[k], ?_, List.getElem?_eq_getElem h1, List.getElem?_eq_getElem h1, .inr h2⟩
  rw [hwr]
  simp
theorem obl_write {ks : List Nat} (hwr : wr.getD i false = true) (hks : okL md ops wr ms i = ks) (hk : k ∈ okL md ops wr ms i) (h : AllL ks fun k => ∃ k' w w', stepB ops.size ms i k k' = true ∧ ws[k]? = some w ∧ ws[k']? = some w' ∧ (execOp a.eval o).run P w = .ok (nx o v) w') :
    ∃ k' w w', (if wr.getD i false then stepB ops.size ms i k k' = true else k' = k) ∧ ws[k]? = some w ∧ ws[k']? = some w' ∧ Runs P o a v w w' := by
  obtain ⟨k', w, w', h1, h2, h3, h4⟩ := AllL.at h k (by rw [← hks]; exact hk)
  refine ⟨k', w, w', ?_, h2, h3, .inl h4⟩
  rw [hwr]
  simpa using h1
end
end Go.Proofs.YtgboboljgcfggaaGreatDoor
namespace Go.Proofs.YtgboboljgcfggaaGreatDoor
open Go.RowKit
theorem al_new (w : World) (o : Obj) : (w.alloc o).heap[w.heap.size]? = some o := (MapKept.heap_alloc w o).1
theorem al_at (W : World) (o : Obj) {A : Nat} (h : A = W.heap.size) : (W.alloc o).heap[A]? = some o := by rw [h]; exact al_new W o
theorem heap_lt {w : World} {k : Nat} {o : Obj} (h : w.heap[k]? = some o) : k < w.heap.size := (Array.getElem?_eq_some_iff.1 h).1
section
variable {o : Oper} {a : Act} {w : World}
theorem nx_some {v : Value} (h : o.dst.isSome = true) : nx o v = .value v := by
  unfold nx
  cases e : o.dst with
  | none => rw [e] at h; cases h
  | some t => rfl
theorem nx_none {v : Value} (h : o.dst.isSome = false) : nx o v = .skip := by
  unfold nx
  cases e : o.dst with
  | none => rfl
  | some t => rw [e] at h; cases h
theorem op_move {x : Operand} {v : Value} (hd : o.dst.isSome = true) (ho : o.op = .move x) (h : a.eval x = v) : (execOp a.eval o).run Tryz.prog w = .ok (nx o v) w := by
  rw [nx_some hd]
  obtain ⟨d, op, t, p, af, g⟩ := o
  simp only at ho
  subst ho
  subst h
  go_simp
theorem op_assign {x : Operand} {v : Value} (hd : o.dst.isSome = true) (ho : o.op = .assign x) (h : a.eval x = v) : (execOp a.eval o).run Tryz.prog w = .ok (nx o v) w := by
  rw [nx_some hd]
  obtain ⟨d, op, t, p, af, g⟩ := o
  simp only at ho
  subst ho
  subst h
  go_simp
theorem op_nil {x : Tmp} {p : Addr} (hd : o.dst.isSome = true) (ho : o.op = .nilCheck (.tmp x)) (h : a.eval (.tmp x) = .pointer (some p)) : (execOp a.eval o).run Tryz.prog w = .ok (nx o (.pointer (some p))) w := by
  rw [nx_some hd]
  unfold Act.eval at h
  obtain ⟨d, op, t, ps, af, gu⟩ := o
  simp only at ho
  subst ho
  go_simp
theorem op_load1 {x : Tmp} {T : TypeId} {p : Addr} {v : Value} (hd : o.dst.isSome = true) (hT : T = 3 ∨ T = 9 ∨ T = 4) (ho : o.op = .load T (.tmp x)) (h : a.eval (.tmp x) = .pointer (some p)) (hc : w.cell? p = some v) : (execOp a.eval o).run Tryz.prog w = .ok (nx o v) w := by
  rw [nx_some hd]
  unfold Act.eval at h
  obtain ⟨d, op, t, ps, af, gu⟩ := o
  simp only at ho
  subst ho
  rcases hT with rfl | rfl | rfl <;> go_simp
end
end Go.Proofs.YtgboboljgcfggaaGreatDoor
namespace Go.Proofs.YtgboboljgcfggaaGreatDoor
open Go.RowKit
end Go.Proofs.YtgboboljgcfggaaGreatDoor

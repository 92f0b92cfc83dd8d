/- Walks and words: CoA, CoB, LabA, LabB, LabC, LabD, CoC, CoD, Own, CoE, CoS, Mpk, PlA, Cmp, PlD, LkW, LkD, App, LkE, LkF, LkG. -/
import Derived.Test.YtgboboljgcfggaaGreatDoorMc1
import Derived.Laws.RangeString
import Derived.Laws.RangeAny
import Derived.RangeFuncNested
import Derived.RangeFuncBound
import Derived.RangeFuncCalls
import Derived.RangeFuncLeaves
import Derived.Shelf.Abstract
import Derived.Shelf.RegionOpen
import Derived.WalkKit
import Derived.OwnWalkIn
import Derived.TacticsInMore
import Derived.LoopNIn
import Derived.LoopIn
import Derived.Lib.Builder
import Derived.Deep.Draws
import Derived.Deep.QuietTactic
import Derived.BigQuiet
import Derived.BigRegion
import Derived.Laws.Rows
import Derived.Below
import Derived.Lib.Hide
import Derived.Maps.AppendAt
import Derived.WalkSpells
import Derived.OwnWalk
import Derived.Laws.OwnMore
import Derived.Deep.RegionLaw
import Derived.Deep.CutRange
import Derived.StillTailTactics
import Derived.RangeFuncRecord
import Derived.Deep.RegionHeld3
import Derived.MapKept
import Derived.Maps.Keyed
import Derived.Laws.Cover1
import Derived.Sort.Walk0
import Derived.Deep.RegionWith
import Derived.WalkLawsBesides
import Derived.StringKeys
import Derived.DeepKeys4
namespace Go.Proofs.YtgboboljgcfggaaGreatDoor
open Go.RowKit
structure Dcl where
  id : Int
  kind : Int
  block : Int
deriving DecidableEq
def Dcl.cs (x : Dcl) : List Value := [iv x.id, iv x.kind, iv x.block]
structure Cod where
  label : T
  bA : Option Addr
  bc : Nat
  bs : List Blk
  dA : Option Addr
  dc : Nat
  ds : List Dcl
def Cod.cs (x : Cod) : List Value := [tv x.label, .slice x.bA x.bs.length x.bc, .slice x.dA x.ds.length x.dc]
def Cod.v (x : Cod) : Value := .agg #[.string ⟨x.label.toArray⟩, .slice x.bA x.bs.length x.bc, .slice x.dA x.ds.length x.dc]
structure Cod.Rd (w : World) (c : Cod) : Prop where
  b : RD 3 Blk.cs w c.bA c.bs
  i : ∀ x ∈ c.bs, RD 4 Ins.cs w x.A x.ins
  d : RD 3 Dcl.cs w c.dA c.ds
theorem Cod.Rd.below {w w' : World} {p : Cod} (h : p.Rd w) (hb : Below w.heap.size w w') : p.Rd w' := ⟨h.b.below hb, fun x hx => (h.i x hx).below hb, h.d.below hb⟩
theorem RD.dcl {w : World} {A : Option Addr} {L : List Dcl} (h : RD 3 Dcl.cs w A L) {k : Nat} (hk : k < L.length) : ∃ a a1 : Addr, A = some a ∧ a.add (k * 3) = a1 ∧ a1.block < w.heap.size ∧ w.cell? a1 = some (.int .i64 L[k].id) ∧ w.cell? ⟨a1.block, a1.off + 1, none⟩ = some (.int .i64 L[k].kind) ∧ w.cell? ⟨a1.block, a1.off + 2, none⟩ = some (.int .i64 L[k].block) := by
  obtain ⟨a, e, hb, hc⟩ := h.at hk
  refine ⟨a, _, e, rfl, by rw [add_block]; exact hb, by simpa using hc 0 _ rfl, ?_, ?_⟩
  · rw [← fld_add _ 1 (by omega), add_add']; exact hc 1 _ rfl
  · rw [← fld_add _ 2 (by omega), add_add']; exact hc 2 _ rfl
def fN8 (op : Int) : Bool := op == 4 || op == 10
def inR8 (bs : List Blk) (nb : Nat) (op a b : Int) : Bool :=
  if op == 1 then decide (-999999999 ≤ a) && decide (a ≤ 999999999)
  else if op == 2 then a == 0 || a == 1
  else if op == 3 then decide (0 ≤ a) && decide (a ≤ 800)
  else if op == 4 then decide (1 ≤ a) && decide (a ≤ 999999)
  else if op == 5 then closB bs a
  else if op == 8 || op == 9 || op == 13 then decide (0 ≤ a) && decide (a < nb)
  else if op == 15 then a == 1 || a == 2
  else if op == 16 then decide (1 ≤ b) && decide (b ≤ 999999) && decide (0 ≤ a) && decide (a ≤ b)
  else true
set_option maxRecDepth 100000 in
set_option maxHeartbeats 1000000 in
theorem fields8_any (op : Int) (w : World) : Calls Tryz.prog 152 #[.int .i64 op] w fun e w' => e = .returned (.tuple #[.bool (fA op), .bool (fB op), .bool (fN8 op), .bool (fK op)]) ∧ w' = w := by
  rcases op_split op with rfl | rfl | rfl | rfl | rfl | rfl | rfl | rfl | rfl | rfl | rfl | rfl | rfl | rfl | rfl | rfl | ⟨h1, h2, h3, h4, h5, h6, h7, h8, h9, h10, h11, h12, h13, h14, h15, h16⟩
  rotate_right
  · have e1 : fA op = false := by simp [fA, *]
    have e2 : fB op = false := by simp [fB, *]
    have e3 : fN8 op = false := by simp [fN8, *]
    have e4 : fK op = false := by simp [fK, *]
    rw [e1, e2, e3, e4]
    clear e1 e2 e3 e4
    go_enter Tryz.func152, Tryz.ntmps152
    go_wp2
    (try simp only [Exit.inBlock, Exit.then])
    refine bodyPost_ret (results_tmp4 rfl _ _ _) rfl ?_
    exact ⟨rfl, rfl⟩
  all_goals
    go_enter Tryz.func152, Tryz.ntmps152
    go_wp2
    (try simp only [Exit.inBlock, Exit.then])
    refine bodyPost_ret (results_tmp4 rfl _ _ _) rfl ?_
    exact ⟨rfl, rfl⟩
end Go.Proofs.YtgboboljgcfggaaGreatDoor
namespace Go.Proofs.YtgboboljgcfggaaGreatDoor
open Go.RowKit
set_option maxRecDepth 100000 in
set_option maxHeartbeats 4000000 in
theorem inRange8_any (p : Cod) (x : Blk) (op a b : Int) (name : T) (w : World) (hp : p.Rd w) :
    Calls Tryz.prog 153 #[p.v, x.v, (Ins.mk op a b name).v] w fun e w' => e = .returned (.bool (inR8 p.bs x.ins.length op a b)) ∧ Below w.heap.size w w' := by
  unfold Cod.v Blk.v Ins.v
  simp only []
  have HP := Lib.hid hp
  clear hp
  rcases op_split op with rfl | rfl | rfl | rfl | rfl | rfl | rfl | rfl | rfl | rfl | rfl | rfl | rfl | rfl | rfl | rfl | ⟨h1, h2, h3, h4, h5, h6, h7, h8, h9, h10, h11, h12, h13, h14, h15, h16⟩
  · -- 1
    have hs : inR8 p.bs x.ins.length 1 a b = (decide (-999999999 ≤ a) && decide (a ≤ 999999999)) := by simp [inR8]
    rw [hs]
    clear hs
    cases h : decide (-999999999 ≤ a) with
    | false =>
      go_enter Tryz.func153, Tryz.ntmps153
      go_wp2
      go_ret
      exact ⟨rfl, bel3 _ _ _ _⟩
    | true =>
      go_enter Tryz.func153, Tryz.ntmps153
      go_wp2
      go_ret
      exact ⟨rfl, bel3 _ _ _ _⟩
  · -- 2
    have hs : inR8 p.bs x.ins.length 2 a b = (a == 0 || a == 1) := by simp [inR8]
    rw [hs]
    clear hs
    cases h : (a == 0) with
    | false =>
      go_enter Tryz.func153, Tryz.ntmps153
      go_wp2
      go_ret
      exact ⟨rfl, bel3 _ _ _ _⟩
    | true =>
      go_enter Tryz.func153, Tryz.ntmps153
      go_wp2
      go_ret
      exact ⟨rfl, bel3 _ _ _ _⟩
  · -- 3
    have hs : inR8 p.bs x.ins.length 3 a b = (decide (0 ≤ a) && decide (a ≤ 800)) := by simp [inR8]
    rw [hs]
    clear hs
    cases h : decide (0 ≤ a) with
    | false =>
      go_enter Tryz.func153, Tryz.ntmps153
      go_wp2
      go_ret
      exact ⟨rfl, bel3 _ _ _ _⟩
    | true =>
      go_enter Tryz.func153, Tryz.ntmps153
      go_wp2
      go_ret
      exact ⟨rfl, bel3 _ _ _ _⟩
  · -- 4
    have hs : inR8 p.bs x.ins.length 4 a b = (decide (1 ≤ a) && decide (a ≤ 999999)) := by simp [inR8]
    rw [hs]
    clear hs
    cases h : decide (1 ≤ a) with
    | false =>
      go_enter Tryz.func153, Tryz.ntmps153
      go_wp2
      go_ret
      exact ⟨rfl, bel3 _ _ _ _⟩
    | true =>
      go_enter Tryz.func153, Tryz.ntmps153
      go_wp2
      go_ret
      exact ⟨rfl, bel3 _ _ _ _⟩
  · -- 5
    have hs : inR8 p.bs x.ins.length 5 a b = closB p.bs a := by simp [inR8]
    rw [hs]
    clear hs
    by_cases h1 : 0 ≤ a
    · obtain ⟨M, rfl⟩ : ∃ M : Nat, a = M := ⟨a.toNat, by omega⟩
      by_cases h2 : M < p.bs.length
      · obtain ⟨q, q1, e, ea, hb, c0, c1, -⟩ := HP.out.b.blk h2
        have hs : closB p.bs M = p.bs[M].param := by simp [closB, h2]
        rw [e, hs]
        have d1 := fun o o' o'' => cell_al3 c1 hb o o' o''
        have t2 : (M : Int) < (p.bs.length : Int) := by omega
        generalize p.bs[M].param = pr at *
        clear hs e HP c0 c1
        go_enter Tryz.func153, Tryz.ntmps153
        go_wp2
        go_ret
        exact ⟨rfl, bel3 _ _ _ _⟩
      · have hs : closB p.bs M = false := by simp [closB, h2]
        have t2 : decide ((M : Int) < (p.bs.length : Int)) = false := by simp; omega
        rw [hs]
        go_enter Tryz.func153, Tryz.ntmps153
        go_wp2
        go_ret
        exact ⟨rfl, bel3 _ _ _ _⟩
    · have hs : closB p.bs a = false := by simp [closB, h1]
      have t2 : decide (0 ≤ a) = false := by simp; omega
      rw [hs]
      go_enter Tryz.func153, Tryz.ntmps153
      go_wp2
      go_ret
      exact ⟨rfl, bel3 _ _ _ _⟩
  · -- 6
    have hs : inR8 p.bs x.ins.length 6 a b = true := by simp [inR8]
    rw [hs]
    clear hs
    go_enter Tryz.func153, Tryz.ntmps153
    go_wp2
    go_ret
    exact ⟨rfl, bel3 _ _ _ _⟩
  · -- 7
    have hs : inR8 p.bs x.ins.length 7 a b = true := by simp [inR8]
    rw [hs]
    clear hs
    go_enter Tryz.func153, Tryz.ntmps153
    go_wp2
    go_ret
    exact ⟨rfl, bel3 _ _ _ _⟩
  · -- 8
    have hs : inR8 p.bs x.ins.length 8 a b = (decide (0 ≤ a) && decide (a < (x.ins.length : Int))) := by simp [inR8]
    rw [hs]
    clear hs
    cases h : decide (0 ≤ a) with
    | false =>
      go_enter Tryz.func153, Tryz.ntmps153
      go_wp2
      go_ret
      exact ⟨rfl, bel3 _ _ _ _⟩
    | true =>
      go_enter Tryz.func153, Tryz.ntmps153
      go_wp2
      go_ret
      exact ⟨rfl, bel3 _ _ _ _⟩
  · -- 9
    have hs : inR8 p.bs x.ins.length 9 a b = (decide (0 ≤ a) && decide (a < (x.ins.length : Int))) := by simp [inR8]
    rw [hs]
    clear hs
    cases h : decide (0 ≤ a) with
    | false =>
      go_enter Tryz.func153, Tryz.ntmps153
      go_wp2
      go_ret
      exact ⟨rfl, bel3 _ _ _ _⟩
    | true =>
      go_enter Tryz.func153, Tryz.ntmps153
      go_wp2
      go_ret
      exact ⟨rfl, bel3 _ _ _ _⟩
  · -- 10
    have hs : inR8 p.bs x.ins.length 10 a b = true := by simp [inR8]
    rw [hs]
    clear hs
    go_enter Tryz.func153, Tryz.ntmps153
    go_wp2
    go_ret
    exact ⟨rfl, bel3 _ _ _ _⟩
  · -- 11
    have hs : inR8 p.bs x.ins.length 11 a b = true := by simp [inR8]
    rw [hs]
    clear hs
    go_enter Tryz.func153, Tryz.ntmps153
    go_wp2
    go_ret
    exact ⟨rfl, bel3 _ _ _ _⟩
  · -- 12
    have hs : inR8 p.bs x.ins.length 12 a b = true := by simp [inR8]
    rw [hs]
    clear hs
    go_enter Tryz.func153, Tryz.ntmps153
    go_wp2
    go_ret
    exact ⟨rfl, bel3 _ _ _ _⟩
  · -- 13
    have hs : inR8 p.bs x.ins.length 13 a b = (decide (0 ≤ a) && decide (a < (x.ins.length : Int))) := by simp [inR8]
    rw [hs]
    clear hs
    cases h : decide (0 ≤ a) with
    | false =>
      go_enter Tryz.func153, Tryz.ntmps153
      go_wp2
      go_ret
      exact ⟨rfl, bel3 _ _ _ _⟩
    | true =>
      go_enter Tryz.func153, Tryz.ntmps153
      go_wp2
      go_ret
      exact ⟨rfl, bel3 _ _ _ _⟩
  · -- 14
    have hs : inR8 p.bs x.ins.length 14 a b = true := by simp [inR8]
    rw [hs]
    clear hs
    go_enter Tryz.func153, Tryz.ntmps153
    go_wp2
    go_ret
    exact ⟨rfl, bel3 _ _ _ _⟩
  · -- 15
    have hs : inR8 p.bs x.ins.length 15 a b = (a == 1 || a == 2) := by simp [inR8]
    rw [hs]
    clear hs
    cases h : (a == 1) with
    | false =>
      go_enter Tryz.func153, Tryz.ntmps153
      go_wp2
      go_ret
      exact ⟨rfl, bel3 _ _ _ _⟩
    | true =>
      go_enter Tryz.func153, Tryz.ntmps153
      go_wp2
      go_ret
      exact ⟨rfl, bel3 _ _ _ _⟩
  · -- 16
    have hs : inR8 p.bs x.ins.length 16 a b = (decide (1 ≤ b) && decide (b ≤ 999999) && decide (0 ≤ a) && decide (a ≤ b)) := by simp [inR8]
    rw [hs]
    clear hs
    cases ha : decide (1 ≤ b) <;> cases hb : decide (b ≤ 999999) <;> cases hc : decide (0 ≤ a)
    all_goals
      go_enter Tryz.func153, Tryz.ntmps153
      go_wp2
      go_ret
      exact ⟨rfl, bel3 _ _ _ _⟩
  · have hs : inR8 p.bs x.ins.length op a b = true := by simp [inR8, *]
    rw [hs]
    clear hs
    go_enter Tryz.func153, Tryz.ntmps153
    go_wp2
    go_ret
    exact ⟨rfl, bel3 _ _ _ _⟩
end Go.Proofs.YtgboboljgcfggaaGreatDoor
namespace Go.Proofs.YtgboboljgcfggaaGreatDoor
open Go.RowKit
def isL (c : Int) : Bool := decide (97 ≤ c) && decide (c ≤ 122)
def isD (c : Int) : Bool := decide (48 ≤ c) && decide (c ≤ 57)
def bL (c : UInt8) : Bool := isL (c.toNat : Int)
def bD (c : UInt8) : Bool := isD (c.toNat : Int)
def wd (s : T) : Bool := (match s with | [] => false | c :: _ => bL c) && s.all (fun c => bL c || bD c)
set_option maxRecDepth 100000 in
theorem letter_any (c : Int) (w : World) : Calls Tryz.prog 109 #[.int .i32 c] w fun e w' => e = .returned (.bool (isL c)) ∧ w' = w := by
  unfold isL
  cases h : decide (97 ≤ c) with
  | false => go_enter Tryz.func109, Tryz.ntmps109; go_wp2; go_ret; exact ⟨rfl, rfl⟩
  | true => go_enter Tryz.func109, Tryz.ntmps109; go_wp2; go_ret; exact ⟨rfl, rfl⟩
set_option maxRecDepth 100000 in
theorem digit_any (c : Int) (w : World) : Calls Tryz.prog 110 #[.int .i32 c] w fun e w' => e = .returned (.bool (isD c)) ∧ w' = w := by
  unfold isD
  cases h : decide (48 ≤ c) with
  | false => go_enter Tryz.func110, Tryz.ntmps110; go_wp2; go_ret; exact ⟨rfl, rfl⟩
  | true => go_enter Tryz.func110, Tryz.ntmps110; go_wp2; go_ret; exact ⟨rfl, rfl⟩
theorem wd_bad {s : T} {k : Nat} (hk : k < s.length) (h : (bL s[k] || bD s[k]) = false) : wd s = false := by
  unfold wd
  rw [Bool.and_eq_false_iff]
  right
  rw [List.all_eq_false]
  exact ⟨s[k], List.getElem_mem hk, by simp [h]⟩
theorem wd_first {s : T} (hk : 0 < s.length) (h : bL s[0] = false) : wd s = false := by
  cases s with
  | nil => simp at hk
  | cons c r => simp at h; simp [wd, h]
theorem wd_good {s : T} (hk : 0 < s.length) (h : bL s[0] = true) (ha : ∀ c ∈ s, (bL c || bD c) = true) : wd s = true := by
  cases s with
  | nil => simp at hk
  | cons c r =>
    unfold wd
    simp at h
    rw [Bool.and_eq_true, List.all_eq_true]
    exact ⟨h, ha⟩
theorem high_isL {n : Nat} (h : 128 ≤ n) : isL (n : Int) = false ∧ isD (n : Int) = false := by
  unfold isL isD
  constructor
  · have : decide ((n : Int) ≤ 122) = false := by simp; omega
    rw [this, Bool.and_false]
  · have : decide ((n : Int) ≤ 57) = false := by simp; omega
    rw [this, Bool.and_false]
theorem all_snoc {s : T} {k : Nat} (hk : k < s.length) (h : ∀ c ∈ s.take k, (bL c || bD c) = true) (h' : (bL s[k] || bD s[k]) = true) : ∀ c ∈ s.take (k + 1), (bL c || bD c) = true := by
  intro c hc
  rw [List.take_succ_eq_append_getElem hk, List.mem_append, List.mem_singleton] at hc
  rcases hc with hc | rfl
  · exact h c hc
  · exact h'
set_option maxRecDepth 100000 in
set_option maxHeartbeats 2000000 in
theorem word_any (s : T) (w : World) (hs : s.length ≤ 9223372036854775807) : Calls Tryz.prog 86 #[tv s] w fun e w' => e = .returned (.bool (wd s && decide (s.length ≤ 24))) ∧ Below w.heap.size w w' := by
  have hsz : (ByteArray.mk s.toArray).size = s.length := by simp [ByteArray.size]
  by_cases h0 : s = []
  · subst h0
    have e0 : (wd [] && decide (([] : T).length ≤ 24)) = false := rfl
    rw [e0]
    go_enter Tryz.func86, Tryz.ntmps86
    go_wp2
    go_ret
    exact ⟨rfl, Below.refl _ _⟩
  by_cases h24 : 24 < s.length
  · have e0 : (wd s && decide (s.length ≤ 24)) = false := by
      have : decide (s.length ≤ 24) = false := by simp; omega
      rw [this, Bool.and_false]
    rw [e0]
    have t1 : (s == []) = false := by simpa using h0
    have t2 : (24 : Int) < (s.length : Int) := by omega
    clear e0 h0
    go_enter Tryz.func86, Tryz.ntmps86
    go_wp2
    all_goals (go_ret; exact ⟨rfl, Below.refl _ _⟩)
  · have e0 : (wd s && decide (s.length ≤ 24)) = wd s := by
      have : decide (s.length ≤ 24) = true := by simp; omega
      rw [this, Bool.and_true]
    rw [e0]
    have hpos : 0 < s.length := List.length_pos_iff.2 h0
    have t1 : (s == []) = false := by simpa using h0
    have t2 : decide ((24 : Int) < (s.length : Int)) = false := by simp; omega
    have HSZ := Lib.hid hsz
    clear e0 h0 hsz
    go_enter Tryz.func86, Tryz.ntmps86
    go_wp2
    go_loopw [3, 4] (fun _ _ wr => ∃ k : Nat, k ≤ s.length ∧ wr = w.iter ⟨s.toArray⟩ k ∧ Hid (∀ c ∈ s.take k, (bL c || bD c) = true) ∧ Hid (0 < k → bL s[0] = true)) (fun _ _ wr => s.length - wr.iterPos w.heap.size)
    case atStart => exact ⟨0, Nat.zero_le _, rfl, by simp [Hid], Lib.hid (fun h => by omega)⟩
    case round =>
      obtain ⟨k, hk, rfl, HA, HF⟩ := hrel
      have bel : ∀ j, Below w.heap.size w (w.iter ⟨s.toArray⟩ j) := fun j => (Below.refl _ _).alloc (Nat.le_refl _) _
      have BEL := Lib.hid bel
      clear bel
      by_cases hlt : k < s.length
      · have hi : k < (ByteArray.mk s.toArray).size := by rw [HSZ.out]; exact hlt
        have hd : (ByteArray.mk s.toArray)[k]'hi = s[k] := rfl
        by_cases ha : s[k].toNat < 128
        · have hnx := fun ty => run_next_ascii (P := Tryz.prog) w ⟨s.toArray⟩ k ty hi (by rw [hd]; exact ha)
          rw [hd] at hnx
          have LE := fun W => letter_any (s[k].toNat : Int) W
          have DI := fun W => digit_any (s[k].toNat : Int) W
          have HLE := Lib.hid LE
          have HDI := Lib.hid DI
          have N1 := fun h => Lib.hid (all_snoc hlt HA.out h)
          have W1 : Hid ((bL s[k] || bD s[k]) = false → wd s = false) := Lib.hid (wd_bad hlt)
          have W2 : Hid (k = 0 → bL s[k] = false → wd s = false) := Lib.hid (fun e h => by subst e; exact wd_first hlt h)
          have F1 : Hid (bL s[k] = true → 0 < k + 1 → bL s[0] = true) := Lib.hid (fun h _ => by
            by_cases e : k = 0
            · subst e; exact h
            · exact HF.out (by omega))
          have F2 : Hid (k ≠ 0 → 0 < k + 1 → bL s[0] = true) := Lib.hid (fun e _ => HF.out (by omega))
          unfold bL bD at N1 W1
          unfold bL at W2 F1
          clear LE DI HA HF hd ha
          generalize (s[k].toNat : Int) = c at *
          cases hl : isL c with
          | true =>
            rw [hl] at HLE
            have HN := N1 (by rw [hl]; rfl)
            have HF' := Lib.hid (F1.out hl)
            clear N1 W1 W2 F1 F2 hl
            go_wp2_with (go_at_call 109; refine (HLE.out _).mono ?_; rintro e w1 ⟨rfl, rfl⟩)
            go_roundw
            case rel => exact ⟨k + 1, by omega, rfl, HN, HF'⟩
            case measure => simp; omega
          | false =>
            rw [hl] at HLE
            by_cases hk0 : k = 0
            · have HW := Lib.hid (W2.out hk0 hl)
              subst hk0
              clear N1 W1 W2 F1 F2 hl
              go_wp2_with (first | (go_at_call 109; refine (HLE.out _).mono ?_; rintro e w1 ⟨rfl, rfl⟩) | (go_at_call 110; refine (HDI.out _).mono ?_; rintro e w1 ⟨rfl, rfl⟩))
              go_ret
              exact ⟨by rw [HW.out]; rfl, BEL.out _⟩
            · have tk : ((k : Int) == 0) = false := by simp; omega
              cases hdg : isD c with
              | true =>
                rw [hdg] at HDI
                have HN := N1 (by rw [hl, hdg]; rfl)
                have HF' := Lib.hid (F2.out hk0)
                clear N1 W1 W2 F1 F2 hl hdg hk0
                go_wp2_with (first | (go_at_call 109; refine (HLE.out _).mono ?_; rintro e w1 ⟨rfl, rfl⟩) | (go_at_call 110; refine (HDI.out _).mono ?_; rintro e w1 ⟨rfl, rfl⟩))
                go_roundw
                case rel => exact ⟨k + 1, by omega, rfl, HN, HF'⟩
                case measure => simp; omega
              | false =>
                rw [hdg] at HDI
                have HW := Lib.hid (W1.out (by rw [hl, hdg]; rfl))
                clear N1 W1 W2 F1 F2 hl hdg hk0
                go_wp2_with (first | (go_at_call 109; refine (HLE.out _).mono ?_; rintro e w1 ⟨rfl, rfl⟩) | (go_at_call 110; refine (HDI.out _).mono ?_; rintro e w1 ⟨rfl, rfl⟩))
                go_ret
                exact ⟨by rw [HW.out]; rfl, BEL.out _⟩
        · have hnx := fun ty => run_next_any (P := Tryz.prog) w ⟨s.toArray⟩ k ty hi
          obtain ⟨hh1, -⟩ := decode_high ⟨s.toArray⟩ k hi (by rw [hd]; omega)
          obtain ⟨q1, q2⟩ := high_isL hh1
          have LE := fun W => letter_any ((Utf8.decode ⟨s.toArray⟩ k).1 : Int) W
          have DI := fun W => digit_any ((Utf8.decode ⟨s.toArray⟩ k).1 : Int) W
          rw [q1] at LE
          rw [q2] at DI
          have HLE := Lib.hid LE
          have HDI := Lib.hid DI
          have hw : wd s = false := wd_bad hlt (by
            unfold bL bD
            obtain ⟨q3, q4⟩ := high_isL (n := s[k].toNat) (by omega)
            rw [q3, q4]; rfl)
          have HW := Lib.hid hw
          generalize (Utf8.decode ⟨s.toArray⟩ k).1 = c at *
          generalize (Utf8.decode ⟨s.toArray⟩ k).2 = m at *
          clear LE DI q1 q2 hw HA HF hd ha
          by_cases hk0 : k = 0
          · subst hk0
            go_wp2_with (first | (go_at_call 109; refine (HLE.out _).mono ?_; rintro e w1 ⟨rfl, rfl⟩) | (go_at_call 110; refine (HDI.out _).mono ?_; rintro e w1 ⟨rfl, rfl⟩))
            go_ret
            exact ⟨by rw [HW.out]; rfl, BEL.out _⟩
          · have tk : ((k : Int) == 0) = false := by simp; omega
            go_wp2_with (first | (go_at_call 109; refine (HLE.out _).mono ?_; rintro e w1 ⟨rfl, rfl⟩) | (go_at_call 110; refine (HDI.out _).mono ?_; rintro e w1 ⟨rfl, rfl⟩))
            go_ret
            exact ⟨by rw [HW.out]; rfl, BEL.out _⟩
      · have hnx := fun ty => run_next_end (P := Tryz.prog) w ⟨s.toArray⟩ k ty (by rw [HSZ.out]; exact hlt)
        have hw : wd s = true := wd_good hpos (HF.out (by omega)) (fun c hc => HA.out c (by rw [List.take_of_length_le (by omega)]; exact hc))
        have HW := Lib.hid hw
        clear hw
        go_wp2
        go_ret
        exact ⟨by rw [HW.out]; rfl, BEL.out _⟩
end Go.Proofs.YtgboboljgcfggaaGreatDoor
namespace Go.Proofs.YtgboboljgcfggaaGreatDoor
open Go.RowKit
theorem ext_take (l : T) (n : Nat) : (⟨l.toArray⟩ : ByteArray).extract 0 n = ⟨(l.take n).toArray⟩ := by
  apply ByteArray.ext
  simp [ByteArray.data_extract]
theorem ext_drop (l : T) (a : Nat) : (⟨l.toArray⟩ : ByteArray).extract a l.length = ⟨(l.drop a).toArray⟩ := by
  apply ByteArray.ext
  simp [ByteArray.data_extract, List.take_of_length_le]
def cutN (s : T) : Nat := (s.takeWhile (fun c => c != 47)).length
def lenOf : Value → Nat | .string s => s.size | _ => 0
def wd20 (s : T) : Bool := wd s && decide (s.length ≤ 20)
def labR (s : T) : Bool := if _h : cutN s < s.length then wd20 (s.take (cutN s)) && labR (s.drop (cutN s + 1)) else wd20 s
termination_by s.length
decreasing_by simp; omega
theorem labR_cut {s : T} (h : cutN s < s.length) : labR s = (wd20 (s.take (cutN s)) && labR (s.drop (cutN s + 1))) := by rw [labR, dif_pos h]
theorem labR_end {s : T} (h : ¬ cutN s < s.length) : labR s = wd20 s := by rw [labR, dif_neg h]
def lab (s : T) : Bool := decide (s.length ≤ 90) && labR s
end Go.Proofs.YtgboboljgcfggaaGreatDoor
namespace Go.Proofs.YtgboboljgcfggaaGreatDoor
open Go.RowKit Go.Shelf
attribute [local go_sem] Oper.semAt_some
theorem index_cut : ∀ q : T, Lib.indexByte q 47 = if cutN q < q.length then (cutN q : Int) else -1
  | [] => by simp [Lib.indexByte, cutN]
  | c :: q => by
    have ih := index_cut q
    by_cases h : c = 47
    · subst h
      simp [Lib.indexByte, cutN]
    · have e1 : cutN (c :: q) = cutN q + 1 := by
        unfold cutN
        have : (c != 47) = true := by simpa using h
        simp [this]
      have e2 : (c == 47) = false := by simpa using h
      have e3 : (c :: q).length = q.length + 1 := rfl
      rw [e1, e3, Lib.indexByte, e2, ih]
      by_cases h2 : cutN q < q.length
      · have a1 : (if cutN q < q.length then (cutN q : Int) else -1) = cutN q := if_pos h2
        have a2 : (if cutN q + 1 < q.length + 1 then ((cutN q + 1 : Nat) : Int) else -1) = ((cutN q + 1 : Nat) : Int) := if_pos (by omega)
        have a3 : ((cutN q : Int) == -1) = false := by rw [beq_eq_false_iff_ne]; omega
        rw [a1, a2, a3]
        simp
      · have a1 : (if cutN q < q.length then (cutN q : Int) else -1) = -1 := if_neg h2
        have a2 : (if cutN q + 1 < q.length + 1 then ((cutN q + 1 : Nat) : Int) else -1) = -1 := if_neg (by omega)
        rw [a1, a2]
        rfl
def Fin2 (b : Bool) (J Js : World → Prop) (W : World) : Prop := if b = true then J W else Js W
theorem Fin2.yes {b : Bool} {J Js : World → Prop} {W : World} (h : Fin2 b J Js W) (hb : b = true) : J W := by unfold Fin2 at h; rwa [if_pos hb] at h
theorem Fin2.no {b : Bool} {J Js : World → Prop} {W : World} (h : Fin2 b J Js W) (hb : b = false) : Js W := by unfold Fin2 at h; rwa [if_neg (by simp [hb])] at h
theorem fin2_no {b : Bool} {J Js : World → Prop} {W : World} (h : Js W) (hb : b = false) : Fin2 b J Js W := by unfold Fin2; rwa [if_neg (by simp [hb])]
theorem fin2_yes {b : Bool} {J Js : World → Prop} {W : World} (h : J W) (hb : b = true) : Fin2 b J Js W := by unfold Fin2; rwa [if_pos hb]
def lenAt (g : Nat) (W : World) : Nat :=
  match W.cell? ⟨g, 0, none⟩ with
  | some v => lenOf v
  | _ => 0
theorem lenAt_eq {g : Nat} {W : World} {q : T} (h : W.heap[g]? = some (.cells #[tv q] 9 (0, 0))) : lenAt g W = q.length := by
  have := Lib.cell_of_heap h 0
  simp [lenAt, this, lenOf, ByteArray.size]
set_option maxRecDepth 100000 in
set_option maxHeartbeats 4000000 in
theorem split_in (n : Nat) (hn : 1 ≤ n) (l g gp gz : Nat) (hgp : gp ≠ g) (hgz : gz ≠ g) (J Js : World → Prop)
    (hJ : ∀ A u, J A → J (A.setCell ⟨g, 0, none⟩ u))
    (hY : ∀ (x : T) W, J W → x.length ≤ 90 → YieldAt Fence.wide (n - 1) Tryz.prog l #[tv x] W fun e W' => e = .returned (.bool (wd20 x)) ∧ Fin2 (wd20 x) J Js W' ∧ W'.heap[g]? = W.heap[g]? ∧ W'.heap[gp]? = W.heap[gp]? ∧ W'.heap[gz]? = W.heap[gz]?)
    (s : T) (hs : s.length ≤ 90) (W : World) (hg : W.heap[g]? = some (.cells #[tv s] 9 (0, 0))) (hp : W.heap[gp]? = some (.cells #[.string ⟨#[47]⟩] 9 (0, 0))) (hz : W.heap[gz]? = some (.cells #[.int .i64 0] 3 (0, 0))) (h0 : J W) :
    CallsIn Fence.wide n Tryz.prog 149 #[.func (.yield l) #[] #[], .pointer (some ⟨gp, 0, none⟩), .pointer (some ⟨g, 0, none⟩), .pointer (some ⟨gz, 0, none⟩)] W fun e W' => (∃ r, e = .returned r) ∧ Fin2 (labR s) J Js W' := by
  have cp := Lib.cell_of_heap hp 0
  simp only [List.getElem?_toArray, List.getElem?_cons_zero] at cp
  refine callsIn_of_wp Tryz.func149 rfl trivial ?_ rfl
  simp only [Tryz.ntmps149, List.size_toArray, List.length_cons, List.length_nil, Nat.reduceAdd, Nat.reduceSub, Array.replicate_succ, Array.replicate_zero, List.push_toArray, List.append_toArray, List.nil_append, List.cons_append]
  gi_wp2
  clear cp
  gi_loopw [7, 8] (fun _ _ wr => ∃ q : T, Hid (wr.heap[g]? = some (.cells #[tv q] 9 (0, 0))) ∧ Hid (wr.heap[gp]? = some (.cells #[.string ⟨#[47]⟩] 9 (0, 0))) ∧ Hid (wr.heap[gz]? = some (.cells #[.int .i64 0] 3 (0, 0))) ∧ q.length ≤ 90 ∧ Hid (labR s = labR q) ∧ Hid (J wr)) (fun _ _ wr => lenAt g wr)
  case atStart => exact ⟨s, Lib.hid hg, Lib.hid hp, Lib.hid hz, hs, Lib.hid rfl, Lib.hid h0⟩
  case round =>
    obtain ⟨q, hu, hp2, hz2, hq, EL, hJs⟩ := hrel
    have hc := Lib.cell_of_heap hu.out 0
    have hf := Lib.frozen_of_heap hu.out 0
    have cp := Lib.cell_of_heap hp2.out 0
    have cz := Lib.cell_of_heap hz2.out 0
    simp only [List.getElem?_toArray, List.getElem?_cons_zero] at hc cp cz
    have IX := fun W => strIndex1_any ⟨q.toArray⟩ 47 W
    have ei : Lib.indexByte (ByteArray.mk q.toArray).data.toList 47 = if cutN q < q.length then (cutN q : Int) else -1 := index_cut q
    rw [ei] at IX
    clear ei
    by_cases h : cutN q < q.length
    · rw [if_pos h] at IX
      have LQ : Hid (labR s = (wd20 (q.take (cutN q)) && labR (q.drop (cutN q + 1)))) := Lib.hid (by rw [EL.out, labR_cut h])
      have HIX := Lib.hid IX
      have e1 := ext_take q (cutN q)
      have e2 := ext_drop q (cutN q + 1)
      have l1 : (q.take (cutN q)).length ≤ 90 := by simp; omega
      have l2 : (q.drop (cutN q + 1)).length ≤ 90 := by simp; omega
      have l3 : Hid ((q.drop (cutN q + 1)).length < q.length) := Lib.hid (by simp; omega)
      obtain ⟨fn, tmps, assign, body, hy, hR⟩ := hY (q.take (cutN q)) wr hJs.out l1
      obtain ⟨u, hu1⟩ : ∃ u, q.take (cutN q) = u := ⟨_, rfl⟩
      obtain ⟨v, hv1⟩ : ∃ v, q.drop (cutN q + 1) = v := ⟨_, rfl⟩
      rw [hu1] at e1 LQ hy hR
      rw [hv1] at e2 LQ l2 l3
      clear hu1 hv1 IX l1
      generalize cutN q = k at *
      have t1 : ¬ (k : Int) < 0 := by omega
      gi_wp2_with (refine ⟨trivial, ?_⟩; gi_at_call 107; refine (callsIn_wide.2 (HIX.out _)).mono ?_; rintro e w1 ⟨rfl, rfl⟩)
      refine hR.mono ?_
      rintro e W3 ⟨rfl, hJ3, k1, k2, k3⟩
      cases hw : wd20 u with
      | false =>
        have FN : Hid (Fin2 (labR s) J Js W3) := Lib.hid (fin2_no (hJ3.no hw) (by rw [LQ.out, hw]; rfl))
        clear hJ3 hw
        gi_wp2
        first | go_end0 | refine bodyPost_ret (results_none rfl _ _ _) rfl ?_
        exact ⟨⟨_, rfl⟩, FN.out⟩
      | true =>
        replace hJ3 := hJ3.yes hw
        have HL : Hid (labR s = labR v) := Lib.hid (by rw [LQ.out, hw]; rfl)
        have u3 := k1.trans hu.out
        have p3 := k2.trans hp2.out
        have z3 := k3.trans hz2.out
        have hc3 := Lib.cell_of_heap u3 0
        have hf3 := Lib.frozen_of_heap u3 0
        have cp3 := Lib.cell_of_heap p3 0
        simp only [List.getElem?_toArray, List.getElem?_cons_zero] at hc3 cp3
        have hn3 : Hid ((W3.setCell ⟨g, 0, none⟩ (tv v)).heap[g]? = some (.cells #[tv v] 9 (0, 0))) := Lib.hid (by simp [World.setCell, Array.getElem?_modify, u3])
        have hp4 : Hid ((W3.setCell ⟨g, 0, none⟩ (tv v)).heap[gp]? = some (.cells #[.string ⟨#[47]⟩] 9 (0, 0))) := Lib.hid ((Below.heap_setCell _ _ _ _ hgp).trans p3)
        have hz4 : Hid ((W3.setCell ⟨g, 0, none⟩ (tv v)).heap[gz]? = some (.cells #[.int .i64 0] 3 (0, 0))) := Lib.hid ((Below.heap_setCell _ _ _ _ hgz).trans z3)
        have HJ4 := Lib.hid (hJ _ (tv v) hJ3)
        have t5 : k ≤ 90 := by omega
        clear hJ3 hw k1 k2 k3 u3 p3 z3 hc cp cz hf
        gi_wp2
        go_roundw
        case rel => exact ⟨v, hn3, hp4, hz4, l2, HL, HJ4⟩
        case measure => rw [lenAt_eq hn3.out, lenAt_eq hu.out]; exact l3.out
    · rw [if_neg h] at IX
      have HIX := Lib.hid IX
      have LQ : Hid (labR s = wd20 q) := Lib.hid (by rw [EL.out, labR_end h])
      obtain ⟨fn, tmps, assign, body, hy, hR⟩ := hY q wr hJs.out hq
      clear IX
      gi_wp2_with (refine ⟨trivial, ?_⟩; gi_at_call 107; refine (callsIn_wide.2 (HIX.out _)).mono ?_; rintro e w1 ⟨rfl, rfl⟩)
      refine hR.mono ?_
      rintro e W3 ⟨rfl, hJ3, k1, k2, k3⟩
      have FN : Hid (Fin2 (labR s) J Js W3) := Lib.hid (by rw [LQ.out]; exact hJ3)
      clear hJ3
      gi_wp2
      go_end0
      exact ⟨⟨_, rfl⟩, FN.out⟩
end Go.Proofs.YtgboboljgcfggaaGreatDoor
namespace Go.Proofs.YtgboboljgcfggaaGreatDoor
open Go.RowKit Go.Shelf
attribute [local go_sem] Oper.semAt_some
theorem range_start {P : Program} {n : Nat} {g : Operand} {ps : Array Tmp} {assign body : Code} {Q : Exit → Act → World → Prop} {a : Act} {w : World} {gf : Nat} {lb : Array Value}
    (hg : a.eval g = .func (.func gf) #[] lb) (eg : ∀ args w, (callFunc gf args).run P w = .ok (.enter gf args) w)
    (h : ∀ fn, CallsIn Fence.wide (n - 1) P gf (#[.func (.yield (w.heap.size + 1)) #[] #[]] ++ lb)
      ((w.alloc (.deferred (some []))).alloc (.loop { state := .ready, pending := none, fn, tmps := a.tmps, params := ps, assign, body, defers := w.heap.size }))
      (rangePost Fence.wide n P (w.heap.size + 1) Q { a with defers := { target := .collected w.heap.size, args := #[] } :: a.defers })) :
    (Code.rangeFunc g ps assign body).wpIn Fence.wide n P Q a w := by
  refine wpIn_rangeFunc ?_
  intro fn _
  obtain ⟨W1, hW1⟩ : ∃ W1, (w.alloc (.deferred (some []))).alloc (.loop { state := .ready, pending := none, fn, tmps := a.tmps, params := ps, assign, body, defers := w.heap.size }) = W1 := ⟨_, rfl⟩
  refine ⟨w.heap.size + 1, [{ target := .collected w.heap.size, args := #[] }], W1, { target := .fn (.func gf) lb, args := #[.func (.yield (w.heap.size + 1)) #[] #[]] }, W1, gf,
    #[.func (.yield (w.heap.size + 1)) #[] #[]] ++ lb, W1, ?_, ?_, fun _ _ => trivial, ?_, fun h => (by cases h), ?_⟩
  · rw [← hW1]; exact run_enterLoop_outer _ _ _ _ _
  · simp only [resolve, hg]
    simp [go_sem]
  · simp [invoke, go_sem, eg]
  · rw [← hW1]; exact h fn
set_option maxRecDepth 100000 in
theorem splitSeq_any (s p : ByteArray) (w : World) :
    Calls Tryz.prog 85 #[.string s, .string p] w fun e w' => e = .returned (.func (.func 149) #[] #[.pointer (some ⟨w.heap.size + 1, 0, none⟩), .pointer (some ⟨w.heap.size, 0, none⟩), .pointer (some ⟨w.heap.size + 1 + 1, 0, none⟩)]) ∧ w' = ((w.alloc (.cells #[.string s] 9)).alloc (.cells #[.string p] 9)).alloc (.cells #[.int .i64 0] 3) := by
  have hmf : ∀ (fn : Fn) (first cap : Array Value) (w : World), (Instr.makeFunc fn first cap).run Tryz.prog w = .ok (.func fn first cap) w := fun _ _ _ _ => rfl
  go_enter Tryz.func85, Tryz.ntmps85
  go_wp2
  go_ret
  exact ⟨rfl, rfl⟩
structure LJ (w : World) (L : Nat) (r : Loop) (W : World) : Prop where
  res : W.heap[w.heap.size]? = some (.cells #[.bool false] 4 (0, 0))
  l : W.heap[L + 1]? = some (.loop r)
  d : W.heap[L]? = some (.deferred (some []))
  be : Below w.heap.size w W
theorem LJ.set {w : World} {L : Nat} {r : Loop} {W : World} (h : LJ w L r W) (hL : w.heap.size + 4 ≤ L) (u : Value) : LJ w L r (W.setCell ⟨w.heap.size + 1, 0, none⟩ u) := by
  have ht : ∀ i, i ≠ w.heap.size + 1 → (W.setCell ⟨w.heap.size + 1, 0, none⟩ u).heap[i]? = W.heap[i]? := fun i hi => Below.heap_setCell _ _ _ _ (fun e => hi (by simpa using e))
  exact ⟨(ht _ (by omega)).trans h.res, (ht _ (by omega)).trans h.l, (ht _ (by omega)).trans h.d, h.be.setCell (p := ⟨w.heap.size + 1, 0, none⟩) (by show w.heap.size ≤ w.heap.size + 1; omega) _⟩
theorem LJ.put {w : World} {L : Nat} {r : Loop} {W : World} (h : LJ w L r W) (hL : w.heap.size + 4 ≤ L) (r' : Loop) : LJ w L r' (W.putObj (L + 1) (.loop r')) := by
  have ht : ∀ i, i ≠ L + 1 → (W.putObj (L + 1) (.loop r')).heap[i]? = W.heap[i]? := fun i hi => World.putObj_heap_other (by omega)
  exact ⟨(ht _ (by omega)).trans h.res, World.putObj_heap_same (Array.getElem?_eq_some_iff.1 h.l).1, (ht _ (by omega)).trans h.d, h.be.trans ⟨rfl, rfl, rfl, by simp [World.putObj], fun k hk => ht k (by omega)⟩⟩
theorem LJ.store {w : World} {L : Nat} {r : Loop} {W : World} (h : LJ w L r W) (hL : w.heap.size + 4 ≤ L) : LJ w L r (W.setCell ⟨w.heap.size, 0, none⟩ (.bool false)) := by
  have ht : ∀ i, i ≠ w.heap.size → (W.setCell ⟨w.heap.size, 0, none⟩ (.bool false)).heap[i]? = W.heap[i]? := fun i hi => Below.heap_setCell _ _ _ _ (fun e => hi (by simpa using e))
  refine ⟨?_, (ht _ (by omega)).trans h.l, (ht _ (by omega)).trans h.d, h.be.setCell (p := ⟨w.heap.size, 0, none⟩) (Nat.le_refl _) _⟩
  simp [World.setCell, Array.getElem?_modify, h.res]
theorem LJ.below {w : World} {L : Nat} {r : Loop} {W W' : World} (h : LJ w L r W) (hb : Below W.heap.size W W') : LJ w L r W' :=
  ⟨(hb.block _ (Array.getElem?_eq_some_iff.1 h.res).1).trans h.res, (hb.block _ (Array.getElem?_eq_some_iff.1 h.l).1).trans h.l, (hb.block _ (Array.getElem?_eq_some_iff.1 h.d).1).trans h.d, h.be.trans (hb.mono h.be.size)⟩
theorem results_cell1 {fn : Func} {p : Tmp} {ty : TypeId} (h : fn.results = #[.cell p ty]) (tmps : Array Value) (P : Program) (w : World) :
    (results fn tmps).run P w = ((asAddr (tmps.getD p undef)).run P w).andThen fun a w₁ => (loadVar ty a).run P w₁ := by
  simp only [results, h]
  simp [Sem.run_bind]
theorem results_bool {fn : Func} {p : Tmp} (h : fn.results = #[.cell p 4]) (tmps : Array Value) (w : World) (a : Addr) (v : Value) (hp : tmps.getD p undef = .pointer (some a)) (hc : w.cell? a = some v) : (results fn tmps).run Tryz.prog w = .ok v w := by
  have ha := Tryz.isAgg4
  rw [results_cell1 h, hp]
  simp [go_sem, ha, loadVar, hc]
theorem al4 (w : World) (a b c d : Obj) : ((((w.alloc a).alloc b).alloc c).alloc d).heap[w.heap.size]? = some a ∧ ((((w.alloc a).alloc b).alloc c).alloc d).heap[w.heap.size + 1]? = some b ∧ ((((w.alloc a).alloc b).alloc c).alloc d).heap[w.heap.size + 2]? = some c ∧ ((((w.alloc a).alloc b).alloc c).alloc d).heap[w.heap.size + 3]? = some d := by
  have h1 := World.alloc_heap_new w a
  have h2 := World.alloc_heap_new (w.alloc a) b
  have h3 := World.alloc_heap_new ((w.alloc a).alloc b) c
  have h4 := World.alloc_heap_new (((w.alloc a).alloc b).alloc c) d
  simp only [World.size_alloc] at h2 h3 h4
  refine ⟨?_, ?_, ?_, h4⟩
  · exact (((Below.heap_alloc _ _ _ (by simp; omega)).trans (Below.heap_alloc _ _ _ (by simp; omega))).trans (Below.heap_alloc _ _ _ (by simp))).trans h1
  · exact ((Below.heap_alloc _ _ _ (by simp)).trans (Below.heap_alloc _ _ _ (by simp))).trans h2
  · exact (Below.heap_alloc _ _ _ (by simp)).trans h3
set_option maxRecDepth 100000 in
set_option maxHeartbeats 4000000 in
theorem label_any (s : T) (w : World) (hs : s.length ≤ 9223372036854775807) : Calls Tryz.prog 52 #[tv s] w fun e w' => e = .returned (.bool (lab s)) ∧ Below w.heap.size w w' := by
  by_cases h90 : 90 < s.length
  · have e0 : lab s = false := by
      have : decide (s.length ≤ 90) = false := by simp; omega
      simp [lab, this]
    rw [e0]
    have t90 : (90 : Int) < (s.length : Int) := by omega
    refine (callsIn_wide (n := 5)).1 ?_
    refine callsIn_of_wp_marks Tryz.func52 rfl trivial ?_ rfl
    simp only [Tryz.ntmps52, List.size_toArray, List.length_cons, List.length_nil, Nat.reduceAdd, Nat.reduceSub, Array.replicate_succ, Array.replicate_zero, List.push_toArray, List.append_toArray, List.nil_append, List.cons_append]
    gi_wp2
    refine ⟨_, results_bool rfl _ _ ⟨w.heap.size, 0, none⟩ (.bool false) rfl (by simp), rfl, (Below.refl _ _).alloc (Nat.le_refl _) _⟩
  · have e0 : lab s = labR s := by
      have : decide (s.length ≤ 90) = true := by simp; omega
      simp [lab, this]
    rw [e0]
    have t90 : ¬ (90 : Int) < (s.length : Int) := by omega
    refine (callsIn_wide (n := 5)).1 ?_
    refine callsIn_of_wp_marks Tryz.func52 rfl trivial ?_ rfl
    simp only [Tryz.ntmps52, List.size_toArray, List.length_cons, List.length_nil, Nat.reduceAdd, Nat.reduceSub, Array.replicate_succ, Array.replicate_zero, List.push_toArray, List.append_toArray, List.nil_append, List.cons_append]
    gi_wp2_with (refine ⟨trivial, ?_⟩; gi_at_call 85; refine (callsIn_wide.2 (splitSeq_any _ _ _)).mono ?_; rintro e w' ⟨rfl, rfl⟩)
    obtain ⟨W0, hW0⟩ : ∃ W0, (((w.alloc (.cells #[.bool false] 4)).alloc (.cells #[tv s] 9)).alloc (.cells #[.string ⟨#[47]⟩] 9)).alloc (.cells #[.int .i64 0] 3) = W0 := ⟨_, rfl⟩
    have s0 : W0.heap.size = w.heap.size + 4 := by rw [← hW0]; simp
    obtain ⟨r0, g0, p0, z0⟩ : W0.heap[w.heap.size]? = some (.cells #[.bool false] 4 (0, 0)) ∧ W0.heap[w.heap.size + 1]? = some (.cells #[tv s] 9 (0, 0)) ∧ W0.heap[w.heap.size + 2]? = some (.cells #[.string ⟨#[47]⟩] 9 (0, 0)) ∧ W0.heap[w.heap.size + 3]? = some (.cells #[.int .i64 0] 3 (0, 0)) := by rw [← hW0]; exact al4 _ _ _ _ _
    have b0 : Below w.heap.size w W0 := by rw [← hW0]; exact ((((Below.refl _ w).alloc (Nat.le_refl _) _).alloc (by simp) _).alloc (by simp; omega) _).alloc (by simp; omega) _
    rw [hW0]
    have hD : w.heap.size + 4 ≤ W0.heap.size := by omega
    clear hW0 s0
    refine range_start (gf := 149) (lb := #[.pointer (some ⟨w.heap.size + 2, 0, none⟩), .pointer (some ⟨w.heap.size + 1, 0, none⟩), .pointer (some ⟨w.heap.size + 3, 0, none⟩)]) rfl (enters_of Tryz.func149 (by kernel_rfl) rfl) ?_
    intro fn
    generalize hr : ({ state := .ready, pending := none, fn := fn, tmps := _, params := _, assign := _, body := _, defers := W0.heap.size } : Loop) = r
    obtain ⟨W1, hW1⟩ : ∃ W1, (W0.alloc (.deferred (some []))).alloc (.loop r) = W1 := ⟨_, rfl⟩
    have ho : ∀ k, k < W0.heap.size → W1.heap[k]? = W0.heap[k]? := fun k hk => by rw [← hW1]; exact (Below.heap_alloc _ _ _ (by simp; omega)).trans (Below.heap_alloc _ _ _ hk)
    have j0 : LJ w W0.heap.size r W1 := by
      refine ⟨(ho _ (by omega)).trans r0, ?_, ?_, ?_⟩
      · rw [← hW1]; have := World.alloc_heap_new (W0.alloc (.deferred (some []))) (.loop r); rwa [World.size_alloc] at this
      · rw [← hW1]; exact (Below.heap_alloc _ _ _ (by simp)).trans (World.alloc_heap_new W0 _)
      · rw [← hW1]; exact (b0.alloc (by omega) _).alloc (by simp; omega) _
    have g1 := (ho _ (by omega)).trans g0
    have p1 := (ho _ (by omega)).trans p0
    have z1 := (ho _ (by omega)).trans z0
    rw [hW1]
    clear hW1 ho
    refine (split_in 4 (by omega) (W0.heap.size + 1) (w.heap.size + 1) (w.heap.size + 2) (w.heap.size + 3) (by omega) (by omega) (LJ w W0.heap.size r) (LJ w W0.heap.size { r with state := .done, pending := some .ret }) (fun A u hA => hA.set hD u) ?_ s (by omega) W1 g1 p1 z1 j0).mono ?_
    · intro x W hj hx
      have hy := run_yield (P := Tryz.prog) (args := #[tv x]) hj.l (by rw [← hr]; rfl)
      rw [← hr] at hy
      refine ⟨_, _, _, _, hy, roundIn_of_wpIn trivial ?_⟩
      clear hy
      simp only [List.zip_toArray, List.zip_cons_cons, List.zip_nil_right, List.foldl_toArray, List.foldl_cons, List.foldl_nil, List.setIfInBounds_toArray, List.set_cons_succ, List.set_cons_zero]
      gi_wp2
      refine ⟨_, run_beginRound hj.l (by rw [← hr]), ?_⟩
      have hj2 := hj.put hD { r with state := .busy }
      have hg2 : ∀ k, k ≠ W0.heap.size + 1 → (W.putObj (W0.heap.size + 1) (.loop { r with state := .busy })).heap[k]? = W.heap[k]? := fun k hk => World.putObj_heap_other (by omega)
      generalize W.putObj (W0.heap.size + 1) (.loop { r with state := .busy }) = W2 at *
      have HJ2 := Lib.hid hj2
      have HG2 := Lib.hid hg2
      clear hj2 hg2
      by_cases h20 : 20 < x.length
      · have t1 : (20 : Int) < (x.length : Int) := by omega
        have c1 := Lib.cell_of_heap HJ2.out.res 0
        have f1 := Lib.frozen_of_heap HJ2.out.res 0
        simp only [List.getElem?_toArray, List.getElem?_cons_zero] at c1
        have hw : wd20 x = false := by
          unfold wd20
          have : decide (x.length ≤ 20) = false := by simp; omega
          rw [this, Bool.and_false]
        have HW := Lib.hid hw
        clear hw
        gi_wp2_with (refine ⟨trivial, ?_⟩)
        have hj3 := HJ2.out.store hD
        have hend := run_endRound (P := Tryz.prog) (some .ret) hj3.l
        refine ⟨_, _, hend, by rw [HW.out]; rfl, fin2_no (hj3.put hD _) HW.out, ?_, ?_, ?_⟩
        all_goals (rw [World.putObj_heap_other (by omega), Below.heap_setCell _ _ _ _ (by show _ ≠ w.heap.size; omega), HG2.out _ (by omega)])
      · have t1 : ¬ (20 : Int) < (x.length : Int) := by omega
        have WA := fun W => word_any x W (by omega)
        have hw : (wd x && decide (x.length ≤ 24)) = wd20 x := by
          unfold wd20
          have h1 : decide (x.length ≤ 24) = true := by simp; omega
          have h2 : decide (x.length ≤ 20) = true := by simp; omega
          rw [h1, h2]
        rw [hw] at WA
        have HWA := Lib.hid WA
        clear WA hw
        cases hb : wd20 x with
        | false =>
          rw [hb] at HWA
          gi_wp2_with (refine ⟨trivial, ?_⟩; gi_at_call 86; refine (CallsIn.inRound _ (callsIn_wide.2 (HWA.out _))).mono ?_; rintro e W3 ⟨rfl, k3⟩; have HJ3 := Lib.hid (HJ2.out.below k3); have K3 := Lib.hid k3; have c1 := Lib.cell_of_heap HJ3.out.res 0; have f1 := Lib.frozen_of_heap HJ3.out.res 0; simp only [List.getElem?_toArray, List.getElem?_cons_zero] at c1; clear k3)
          have hj3 := HJ3.out.store hD
          have hend := run_endRound (P := Tryz.prog) (some .ret) hj3.l
          have kb : ∀ k, k < W2.heap.size → k ≠ w.heap.size → k ≠ W0.heap.size + 1 → ((W3.setCell ⟨w.heap.size, 0, none⟩ (.bool false)).putObj (W0.heap.size + 1) (.loop { { { r with state := .busy } with state := .done } with pending := some .ret })).heap[k]? = W.heap[k]? := fun k h1 h2 h3 => by
            rw [World.putObj_heap_other (by omega), Below.heap_setCell _ _ _ _ (by show _ ≠ w.heap.size; omega), K3.out.block _ h1, HG2.out _ h3]
          have hlt := (Array.getElem?_eq_some_iff.1 HJ2.out.l).1
          refine ⟨_, _, hend, rfl, fin2_no (hj3.put hD _) rfl, kb _ (by omega) (by omega) (by omega), kb _ (by omega) (by omega) (by omega), kb _ (by omega) (by omega) (by omega)⟩
        | true =>
          rw [hb] at HWA
          gi_wp2_with (refine ⟨trivial, ?_⟩; gi_at_call 86; refine (CallsIn.inRound _ (callsIn_wide.2 (HWA.out _))).mono ?_; rintro e W3 ⟨rfl, k3⟩; have HJ3 := Lib.hid (HJ2.out.below k3); have K3 := Lib.hid k3; clear k3)
          have hj3 := HJ3.out
          have hend := run_endRound (P := Tryz.prog) none hj3.l
          have hrr : ({ { r with state := .busy } with state := if (none : Option Code).isNone = true then .ready else .done, pending := none } : Loop) = r := by rw [← hr]; rfl
          rw [hrr] at hend
          have kb : ∀ k, k < W2.heap.size → k ≠ W0.heap.size + 1 → (W3.putObj (W0.heap.size + 1) (.loop r)).heap[k]? = W.heap[k]? := fun k h1 h3 => by
            rw [World.putObj_heap_other (by omega), K3.out.block _ h1, HG2.out _ h3]
          have hlt := (Array.getElem?_eq_some_iff.1 HJ2.out.l).1
          refine ⟨_, _, hend, rfl, fin2_yes (hj3.put hD _) rfl, kb _ (by omega) (by omega), kb _ (by omega) (by omega), kb _ (by omega) (by omega)⟩
    · rintro e W2 ⟨⟨v', rfl⟩, hj⟩
      cases hl : labR s with
      | true =>
        have hj1 := hj.yes hl
        have HL := Lib.hid hl
        have hend := run_endLoop (P := Tryz.prog) hj1.l (by rw [← hr]; simp)
        have hp : r.pending = none := by rw [← hr]
        rw [hp] at hend
        have hj4 := hj1.put hD { r with state := .exhausted, pending := none }
        refine ⟨none, _, hend, ?_⟩
        generalize W2.putObj (W0.heap.size + 1) _ = W3 at *
        have HJ4 := Lib.hid hj4
        have c1 := Lib.cell_of_heap HJ4.out.res 0
        have f1 := Lib.frozen_of_heap HJ4.out.res 0
        simp only [List.getElem?_toArray, List.getElem?_cons_zero] at c1
        clear hj4 hp hj1 hj hl
        gi_wp2
        have hd : (W3.setCell ⟨w.heap.size, 0, none⟩ (.bool true)).heap[W0.heap.size]? = some (.deferred (some [])) := (Below.heap_setCell _ _ _ _ (by show _ ≠ w.heap.size; omega)).trans HJ4.out.d
        refine ⟨by simp, .inl ⟨_, _, rfl, run_takeDeferred hd, ?_⟩⟩
        refine ⟨_, results_bool rfl _ _ ⟨w.heap.size, 0, none⟩ (.bool true) rfl ?_, by rw [HL.out], ?_⟩
        · have h1 : ((W3.setCell ⟨w.heap.size, 0, none⟩ (.bool true)).putObj W0.heap.size (.deferred none)).heap[w.heap.size]? = some (.cells #[.bool true] 4 (0, 0)) := by
            rw [World.putObj_heap_other (by omega)]
            simp [World.setCell, Array.getElem?_modify, HJ4.out.res]
          simpa using Lib.cell_of_heap h1 0
        · exact (HJ4.out.be.setCell (p := ⟨w.heap.size, 0, none⟩) (Nat.le_refl _) _).trans ⟨rfl, rfl, rfl, by simp, fun k hk => World.putObj_heap_other (by omega)⟩
      | false =>
        have hj1 := hj.no hl
        have hend := run_endLoop (P := Tryz.prog) hj1.l (by simp)
        have hj4 := hj1.put hD { r with state := .exhausted, pending := some .ret }
        refine ⟨some .ret, _, hend, ?_⟩
        have HJ4 := Lib.hid hj4
        have HL := Lib.hid hl
        gi_wp2
        refine ⟨by simp, .inl ⟨_, _, rfl, run_takeDeferred HJ4.out.d, ?_⟩⟩
        refine ⟨_, results_bool rfl _ _ ⟨w.heap.size, 0, none⟩ (.bool false) rfl ?_, by rw [HL.out], ?_⟩
        · have h1 := (World.putObj_heap_other (o := .deferred none) (show w.heap.size ≠ W0.heap.size by omega)).trans HJ4.out.res
          simpa using Lib.cell_of_heap h1 0
        · exact HJ4.out.be.trans ⟨rfl, rfl, rfl, by simp, fun k hk => World.putObj_heap_other (by omega)⟩
end Go.Proofs.YtgboboljgcfggaaGreatDoor
namespace Go.Proofs.YtgboboljgcfggaaGreatDoor
open Go.RowKit
def ckB8 (K A B Nm G O L R : Bool) (a b : Int) (name : T) : Int :=
  if K = false then 9
  else if (!A && a != 0) || (!B && b != 0) || (!Nm && name != []) then 1
  else if (G && !L) || (O && !nmOk name) then 6
  else if R = false then 2 else 0
def ckI8 (bs : List Blk) (nb : Nat) (op a b : Int) (name : T) : Int := ckB8 (fK op) (fA op) (fB op) (fN8 op) (op == 4) (op == 10) (lab name) (inR8 bs nb op a b) a b name
theorem shapes8 (op : Int) : fK op = false ∨ (fK op = true ∧ fA op = true ∧ fB op = false ∧ fN8 op = false ∧ (op == 4) = false ∧ (op == 10) = false) ∨ (fK op = true ∧ fA op = false ∧ fB op = false ∧ fN8 op = false ∧ (op == 4) = false ∧ (op == 10) = false) ∨ op = 4 ∨ op = 10 ∨ op = 16 := by
  rcases op_split op with rfl | rfl | rfl | rfl | rfl | rfl | rfl | rfl | rfl | rfl | rfl | rfl | rfl | rfl | rfl | rfl | ⟨h1, h2, h3, h4, h5, h6, h7, h8, h9, h10, h11, h12, h13, h14, h15, h16⟩
  rotate_right
  · exact .inl (by simp [fK, fA, *])
  all_goals decide
theorem box3 {w : World} {c0 c1 c2 d0 d1 d2 e0 e1 e2 e3 : Value} {t0 t1 t2 : TypeId} {W : World} (h : Below (((w.alloc (.cells #[c0, c1, c2] t0)).alloc (.cells #[d0, d1, d2] t1)).alloc (.cells #[e0, e1, e2, e3] t2)).heap.size (((w.alloc (.cells #[c0, c1, c2] t0)).alloc (.cells #[d0, d1, d2] t1)).alloc (.cells #[e0, e1, e2, e3] t2)) W) :
    (W.cell? ⟨w.heap.size, 0, none⟩ = some c0 ∧ W.cell? ⟨w.heap.size, 1, none⟩ = some c1 ∧ W.cell? ⟨w.heap.size, 2, none⟩ = some c2) ∧ (W.cell? ⟨w.heap.size + 1, 0, none⟩ = some d0 ∧ W.cell? ⟨w.heap.size + 1, 1, none⟩ = some d1 ∧ W.cell? ⟨w.heap.size + 1, 2, none⟩ = some d2) ∧ W.cell? ⟨w.heap.size + 1 + 1, 0, none⟩ = some e0 ∧ W.cell? ⟨w.heap.size + 1 + 1, 1, none⟩ = some e1 ∧ W.cell? ⟨w.heap.size + 1 + 1, 2, none⟩ = some e2 ∧ W.cell? ⟨w.heap.size + 1 + 1, 3, none⟩ = some e3 := by
  have k0 : W.heap[w.heap.size]? = some (.cells #[c0, c1, c2] t0 (0, 0)) := (h.block _ (by simp; omega)).trans ((Below.heap_alloc _ _ _ (by simp; omega)).trans ((Below.heap_alloc _ _ _ (by simp)).trans (World.alloc_heap_new w _)))
  have k1 : W.heap[w.heap.size + 1]? = some (.cells #[d0, d1, d2] t1 (0, 0)) := (h.block _ (by simp)).trans ((Below.heap_alloc _ _ _ (by simp)).trans (by rw [show w.heap.size + 1 = (w.alloc (.cells #[c0, c1, c2] t0)).heap.size from by simp]; exact World.alloc_heap_new _ _))
  have k2 : W.heap[w.heap.size + 1 + 1]? = some (.cells #[e0, e1, e2, e3] t2 (0, 0)) := (h.block _ (by simp)).trans (by rw [show w.heap.size + 1 + 1 = ((w.alloc (.cells #[c0, c1, c2] t0)).alloc (.cells #[d0, d1, d2] t1)).heap.size from by simp]; exact World.alloc_heap_new _ _)
  refine ⟨⟨?_, ?_, ?_⟩, ⟨?_, ?_, ?_⟩, ?_, ?_, ?_, ?_⟩
  iterate 3 rw [Lib.cell_of_heap k0]; rfl
  iterate 3 rw [Lib.cell_of_heap k1]; rfl
  iterate 4 rw [Lib.cell_of_heap k2]; rfl
set_option maxRecDepth 100000 in
set_option maxHeartbeats 8000000 in
theorem checkInstr8_any (p : Cod) (x : Blk) (op a b : Int) (name : T) (w : World) (hp : p.Rd w) (hnl : name.length ≤ 9223372036854775807) :
    Calls Tryz.prog 116 #[p.v, x.v, (Ins.mk op a b name).v] w fun e w' => e = .returned (.int .i64 (ckI8 p.bs x.ins.length op a b name)) ∧ Below w.heap.size w w' := by
  have PL := fun (W : World) (hb : Below w.heap.size w W) => inRange8_any p x op a b name W (hp.below hb)
  have FI := fun W => fields8_any op W
  have LB := fun W => label_any name W hnl
  have CT := fun (ch : UInt8) (W : World) => contains1_any ⟨#[43, 45, 42, 61, 60]⟩ ch W
  simp only [nmOk_one] at CT
  have HCT := Lib.hid CT
  have BX := Lib.hid (fun V (h : Below (((w.alloc (.cells #[.string ⟨p.label.toArray⟩, .slice p.bA p.bs.length p.bc, .slice p.dA p.ds.length p.dc] 65)).alloc (.cells #[.int .i64 x.cap, .bool x.param, .slice x.A x.ins.length x.c] 69)).alloc (.cells #[.int .i64 op, .int .i64 a, .int .i64 b, .string ⟨name.toArray⟩] 71)).heap.size (((w.alloc (.cells #[.string ⟨p.label.toArray⟩, .slice p.bA p.bs.length p.bc, .slice p.dA p.ds.length p.dc] 65)).alloc (.cells #[.int .i64 x.cap, .bool x.param, .slice x.A x.ins.length x.c] 69)).alloc (.cells #[.int .i64 op, .int .i64 a, .int .i64 b, .string ⟨name.toArray⟩] 71)) V) => box3 (W := V) h)
  clear CT
  unfold Cod.v Blk.v Ins.v at PL
  unfold Cod.v Blk.v Ins.v
  simp only [] at PL ⊢
  unfold ckI8
  generalize inR8 p.bs x.ins.length op a b = R at *
  generalize lab name = L at *
  rcases shapes8 op with hK | ⟨hK, hA, hB, hN, h4, h10⟩ | ⟨hK, hA, hB, hN, h4, h10⟩ | rfl | rfl | rfl
  · rw [hK] at FI ⊢
    have hs : ckB8 false (fA op) (fB op) (fN8 op) (op == 4) (op == 10) L R a b name = 9 := rfl
    rw [hs]
    clear hs
    have HPL := Lib.hid PL
    have HFI := Lib.hid FI
    have HLB := Lib.hid LB
    clear PL FI LB hp
    go_enter Tryz.func116, Tryz.ntmps116
    go_wp2_with (first | (go_at_call 152; refine (HFI.out _).mono ?_; rintro e w1 ⟨rfl, rfl⟩) | (go_at_call 83; refine (HCTc.out _).mono ?_; rintro e w3 ⟨rfl, rfl⟩) | (go_at_call 153; refine (HPL.out _ (bel3 _ _ _ _)).mono ?_; rintro e w2 ⟨rfl, k2⟩))
    go_ret
    first | exact ⟨rfl, bel3 _ _ _ _⟩ | exact ⟨rfl, (bel3 w _ _ _).trans (k2.mono (bel3 w _ _ _).size)⟩
  · -- sA
    rw [hK, hA, hB, hN, h4, h10]
    rw [hA, hB, hN, hK] at FI
    clear hK hA hB hN
    have HPL := Lib.hid PL
    have HFI := Lib.hid FI
    have HLB := Lib.hid LB
    clear PL FI LB hp
    by_cases qb' : b = 0
    rotate_right
    · have qb : (b != 0) = true := by simpa using qb'
      have hs : ckB8 true true false false false false L R a b name = 1 := by simp [ckB8, qb']
      rw [hs]
      clear hs
      go_enter Tryz.func116, Tryz.ntmps116
      go_wp2_with (first | (go_at_call 152; refine (HFI.out _).mono ?_; rintro e w1 ⟨rfl, rfl⟩) | (go_at_call 83; refine (HCTc.out _).mono ?_; rintro e w3 ⟨rfl, rfl⟩) | (go_at_call 153; refine (HPL.out _ (bel3 _ _ _ _)).mono ?_; rintro e w2 ⟨rfl, k2⟩))
      go_ret
      first | exact ⟨rfl, bel3 _ _ _ _⟩ | exact ⟨rfl, (bel3 w _ _ _).trans (k2.mono (bel3 w _ _ _).size)⟩
    subst qb'
    have qb : ((0 : Int) != 0) = false := rfl
    by_cases qn' : name = []
    rotate_right
    · have qn : (name != []) = true := by simpa using qn'
      have qn2 : name.isEmpty = false := by simpa using qn'
      have hs : ckB8 true true false false false false L R a 0 name = 1 := by simp [ckB8, qn']
      rw [hs]
      clear hs
      go_enter Tryz.func116, Tryz.ntmps116
      go_wp2_with (first | (go_at_call 152; refine (HFI.out _).mono ?_; rintro e w1 ⟨rfl, rfl⟩) | (go_at_call 83; refine (HCTc.out _).mono ?_; rintro e w3 ⟨rfl, rfl⟩) | (go_at_call 153; refine (HPL.out _ (bel3 _ _ _ _)).mono ?_; rintro e w2 ⟨rfl, k2⟩))
      go_ret
      first | exact ⟨rfl, bel3 _ _ _ _⟩ | exact ⟨rfl, (bel3 w _ _ _).trans (k2.mono (bel3 w _ _ _).size)⟩
    subst qn'
    have qn : (([] : T) != []) = false := rfl
    cases R with
    | false =>
      have hs : ckB8 true true false false false false L false a 0 [] = 2 := by simp [ckB8]
      rw [hs]
      clear hs
      go_enter Tryz.func116, Tryz.ntmps116
      go_wp2_with (first | (go_at_call 152; refine (HFI.out _).mono ?_; rintro e w1 ⟨rfl, rfl⟩) | (go_at_call 83; refine (HCTc.out _).mono ?_; rintro e w3 ⟨rfl, rfl⟩) | (go_at_call 153; refine (HPL.out _ (bel3 _ _ _ _)).mono ?_; rintro e w2 ⟨rfl, k2⟩))
      go_ret
      first | exact ⟨rfl, bel3 _ _ _ _⟩ | exact ⟨rfl, (bel3 w _ _ _).trans (k2.mono (bel3 w _ _ _).size)⟩
    | true =>
      have hs : ckB8 true true false false false false L true a 0 [] = 0 := by simp [ckB8]
      rw [hs]
      clear hs
      go_enter Tryz.func116, Tryz.ntmps116
      go_wp2_with (first | (go_at_call 152; refine (HFI.out _).mono ?_; rintro e w1 ⟨rfl, rfl⟩) | (go_at_call 83; refine (HCTc.out _).mono ?_; rintro e w3 ⟨rfl, rfl⟩) | (go_at_call 153; refine (HPL.out _ (bel3 _ _ _ _)).mono ?_; rintro e w2 ⟨rfl, k2⟩))
      go_ret
      first | exact ⟨rfl, bel3 _ _ _ _⟩ | exact ⟨rfl, (bel3 w _ _ _).trans (k2.mono (bel3 w _ _ _).size)⟩
  · -- s0
    rw [hK, hA, hB, hN, h4, h10]
    rw [hA, hB, hN, hK] at FI
    clear hK hA hB hN
    have HPL := Lib.hid PL
    have HFI := Lib.hid FI
    have HLB := Lib.hid LB
    clear PL FI LB hp
    by_cases qa' : a = 0
    rotate_right
    · have qa : (a != 0) = true := by simpa using qa'
      have hs : ckB8 true false false false false false L R a b name = 1 := by simp [ckB8, qa']
      rw [hs]
      clear hs
      go_enter Tryz.func116, Tryz.ntmps116
      go_wp2_with (first | (go_at_call 152; refine (HFI.out _).mono ?_; rintro e w1 ⟨rfl, rfl⟩) | (go_at_call 83; refine (HCTc.out _).mono ?_; rintro e w3 ⟨rfl, rfl⟩) | (go_at_call 153; refine (HPL.out _ (bel3 _ _ _ _)).mono ?_; rintro e w2 ⟨rfl, k2⟩))
      go_ret
      first | exact ⟨rfl, bel3 _ _ _ _⟩ | exact ⟨rfl, (bel3 w _ _ _).trans (k2.mono (bel3 w _ _ _).size)⟩
    subst qa'
    have qa : ((0 : Int) != 0) = false := rfl
    by_cases qb' : b = 0
    rotate_right
    · have qb : (b != 0) = true := by simpa using qb'
      have hs : ckB8 true false false false false false L R 0 b name = 1 := by simp [ckB8, qb']
      rw [hs]
      clear hs
      go_enter Tryz.func116, Tryz.ntmps116
      go_wp2_with (first | (go_at_call 152; refine (HFI.out _).mono ?_; rintro e w1 ⟨rfl, rfl⟩) | (go_at_call 83; refine (HCTc.out _).mono ?_; rintro e w3 ⟨rfl, rfl⟩) | (go_at_call 153; refine (HPL.out _ (bel3 _ _ _ _)).mono ?_; rintro e w2 ⟨rfl, k2⟩))
      go_ret
      first | exact ⟨rfl, bel3 _ _ _ _⟩ | exact ⟨rfl, (bel3 w _ _ _).trans (k2.mono (bel3 w _ _ _).size)⟩
    subst qb'
    have qb : ((0 : Int) != 0) = false := rfl
    by_cases qn' : name = []
    rotate_right
    · have qn : (name != []) = true := by simpa using qn'
      have qn2 : name.isEmpty = false := by simpa using qn'
      have hs : ckB8 true false false false false false L R 0 0 name = 1 := by simp [ckB8, qn']
      rw [hs]
      clear hs
      go_enter Tryz.func116, Tryz.ntmps116
      go_wp2_with (first | (go_at_call 152; refine (HFI.out _).mono ?_; rintro e w1 ⟨rfl, rfl⟩) | (go_at_call 83; refine (HCTc.out _).mono ?_; rintro e w3 ⟨rfl, rfl⟩) | (go_at_call 153; refine (HPL.out _ (bel3 _ _ _ _)).mono ?_; rintro e w2 ⟨rfl, k2⟩))
      go_ret
      first | exact ⟨rfl, bel3 _ _ _ _⟩ | exact ⟨rfl, (bel3 w _ _ _).trans (k2.mono (bel3 w _ _ _).size)⟩
    subst qn'
    have qn : (([] : T) != []) = false := rfl
    cases R with
    | false =>
      have hs : ckB8 true false false false false false L false 0 0 [] = 2 := by simp [ckB8]
      rw [hs]
      clear hs
      go_enter Tryz.func116, Tryz.ntmps116
      go_wp2_with (first | (go_at_call 152; refine (HFI.out _).mono ?_; rintro e w1 ⟨rfl, rfl⟩) | (go_at_call 83; refine (HCTc.out _).mono ?_; rintro e w3 ⟨rfl, rfl⟩) | (go_at_call 153; refine (HPL.out _ (bel3 _ _ _ _)).mono ?_; rintro e w2 ⟨rfl, k2⟩))
      go_ret
      first | exact ⟨rfl, bel3 _ _ _ _⟩ | exact ⟨rfl, (bel3 w _ _ _).trans (k2.mono (bel3 w _ _ _).size)⟩
    | true =>
      have hs : ckB8 true false false false false false L true 0 0 [] = 0 := by simp [ckB8]
      rw [hs]
      clear hs
      go_enter Tryz.func116, Tryz.ntmps116
      go_wp2_with (first | (go_at_call 152; refine (HFI.out _).mono ?_; rintro e w1 ⟨rfl, rfl⟩) | (go_at_call 83; refine (HCTc.out _).mono ?_; rintro e w3 ⟨rfl, rfl⟩) | (go_at_call 153; refine (HPL.out _ (bel3 _ _ _ _)).mono ?_; rintro e w2 ⟨rfl, k2⟩))
      go_ret
      first | exact ⟨rfl, bel3 _ _ _ _⟩ | exact ⟨rfl, (bel3 w _ _ _).trans (k2.mono (bel3 w _ _ _).size)⟩
  · -- s4
    rw [show fK 4 = true from rfl, show fA 4 = true from rfl, show fB 4 = false from rfl, show fN8 4 = true from rfl, show ((4 : Int) == 4) = true from rfl, show ((4 : Int) == 10) = false from rfl]
    rw [show fA 4 = true from rfl, show fB 4 = false from rfl, show fN8 4 = true from rfl, show fK 4 = true from rfl] at FI
    have HPL := Lib.hid PL
    have HFI := Lib.hid FI
    have HLB := Lib.hid LB
    clear PL FI LB hp
    by_cases qb' : b = 0
    rotate_right
    · have qb : (b != 0) = true := by simpa using qb'
      have hs : ckB8 true true false true true false L R a b name = 1 := by simp [ckB8, qb']
      rw [hs]
      clear hs
      go_enter Tryz.func116, Tryz.ntmps116
      go_wp2_with (first | (go_at_call 152; refine (HFI.out _).mono ?_; rintro e w1 ⟨rfl, rfl⟩) | (go_at_call 83; refine (HCTc.out _).mono ?_; rintro e w3 ⟨rfl, rfl⟩) | (go_at_call 153; refine (HPL.out _ (bel3 _ _ _ _)).mono ?_; rintro e w2 ⟨rfl, k2⟩))
      go_ret
      first | exact ⟨rfl, bel3 _ _ _ _⟩ | exact ⟨rfl, (bel3 w _ _ _).trans (k2.mono (bel3 w _ _ _).size)⟩
    subst qb'
    have qb : ((0 : Int) != 0) = false := rfl
    cases L with
    | false =>
      have hs : ckB8 true true false true true false false R a 0 name = 6 := by simp [ckB8]
      rw [hs]
      clear hs
      go_enter Tryz.func116, Tryz.ntmps116
      go_wp2_with (first | (go_at_call 152; refine (HFI.out _).mono ?_; rintro e w1 ⟨rfl, rfl⟩) | (go_at_call 52; refine (HLB.out _).mono ?_; rintro e w4 ⟨rfl, k4⟩; have K4 := Lib.hid ((bel3 w _ _ _).trans (k4.mono (bel3 w _ _ _).size)); obtain ⟨⟨y0, y1, y2⟩, ⟨z0, z1, z2⟩, t0, t1, t2, t3⟩ := BX.out _ k4; clear k4) | (go_at_call 153; refine (HPL.out _ K4.out).mono ?_; rintro e w2 ⟨rfl, k2⟩; have K5 := Lib.hid (K4.out.trans (k2.mono K4.out.size))))
      go_ret
      first | exact ⟨rfl, K5.out⟩ | exact ⟨rfl, K4.out⟩
    | true =>
      cases R with
      | false =>
        have hs : ckB8 true true false true true false true false a 0 name = 2 := by simp [ckB8]
        rw [hs]
        clear hs
        go_enter Tryz.func116, Tryz.ntmps116
        go_wp2_with (first | (go_at_call 152; refine (HFI.out _).mono ?_; rintro e w1 ⟨rfl, rfl⟩) | (go_at_call 52; refine (HLB.out _).mono ?_; rintro e w4 ⟨rfl, k4⟩; have K4 := Lib.hid ((bel3 w _ _ _).trans (k4.mono (bel3 w _ _ _).size)); obtain ⟨⟨y0, y1, y2⟩, ⟨z0, z1, z2⟩, t0, t1, t2, t3⟩ := BX.out _ k4; clear k4) | (go_at_call 153; refine (HPL.out _ K4.out).mono ?_; rintro e w2 ⟨rfl, k2⟩; have K5 := Lib.hid (K4.out.trans (k2.mono K4.out.size))))
        go_ret
        first | exact ⟨rfl, K5.out⟩ | exact ⟨rfl, K4.out⟩
      | true =>
        have hs : ckB8 true true false true true false true true a 0 name = 0 := by simp [ckB8]
        rw [hs]
        clear hs
        go_enter Tryz.func116, Tryz.ntmps116
        go_wp2_with (first | (go_at_call 152; refine (HFI.out _).mono ?_; rintro e w1 ⟨rfl, rfl⟩) | (go_at_call 52; refine (HLB.out _).mono ?_; rintro e w4 ⟨rfl, k4⟩; have K4 := Lib.hid ((bel3 w _ _ _).trans (k4.mono (bel3 w _ _ _).size)); obtain ⟨⟨y0, y1, y2⟩, ⟨z0, z1, z2⟩, t0, t1, t2, t3⟩ := BX.out _ k4; clear k4) | (go_at_call 153; refine (HPL.out _ K4.out).mono ?_; rintro e w2 ⟨rfl, k2⟩; have K5 := Lib.hid (K4.out.trans (k2.mono K4.out.size))))
        go_ret
        first | exact ⟨rfl, K5.out⟩ | exact ⟨rfl, K4.out⟩
  · -- s10
    rw [show fK 10 = true from rfl, show fA 10 = false from rfl, show fB 10 = false from rfl, show fN8 10 = true from rfl, show ((10 : Int) == 4) = false from rfl, show ((10 : Int) == 10) = true from rfl]
    rw [show fA 10 = false from rfl, show fB 10 = false from rfl, show fN8 10 = true from rfl, show fK 10 = true from rfl] at FI
    have HPL := Lib.hid PL
    have HFI := Lib.hid FI
    have HLB := Lib.hid LB
    clear PL FI LB hp
    by_cases qa' : a = 0
    rotate_right
    · have qa : (a != 0) = true := by simpa using qa'
      have hs : ckB8 true false false true false true L R a b name = 1 := by simp [ckB8, qa']
      rw [hs]
      clear hs
      go_enter Tryz.func116, Tryz.ntmps116
      go_wp2_with (first | (go_at_call 152; refine (HFI.out _).mono ?_; rintro e w1 ⟨rfl, rfl⟩) | (go_at_call 83; refine (HCTc.out _).mono ?_; rintro e w3 ⟨rfl, rfl⟩) | (go_at_call 153; refine (HPL.out _ (bel3 _ _ _ _)).mono ?_; rintro e w2 ⟨rfl, k2⟩))
      go_ret
      first | exact ⟨rfl, bel3 _ _ _ _⟩ | exact ⟨rfl, (bel3 w _ _ _).trans (k2.mono (bel3 w _ _ _).size)⟩
    subst qa'
    have qa : ((0 : Int) != 0) = false := rfl
    by_cases qb' : b = 0
    rotate_right
    · have qb : (b != 0) = true := by simpa using qb'
      have hs : ckB8 true false false true false true L R 0 b name = 1 := by simp [ckB8, qb']
      rw [hs]
      clear hs
      go_enter Tryz.func116, Tryz.ntmps116
      go_wp2_with (first | (go_at_call 152; refine (HFI.out _).mono ?_; rintro e w1 ⟨rfl, rfl⟩) | (go_at_call 83; refine (HCTc.out _).mono ?_; rintro e w3 ⟨rfl, rfl⟩) | (go_at_call 153; refine (HPL.out _ (bel3 _ _ _ _)).mono ?_; rintro e w2 ⟨rfl, k2⟩))
      go_ret
      first | exact ⟨rfl, bel3 _ _ _ _⟩ | exact ⟨rfl, (bel3 w _ _ _).trans (k2.mono (bel3 w _ _ _).size)⟩
    subst qb'
    have qb : ((0 : Int) != 0) = false := rfl
    by_cases ql' : name.length = 1
    rotate_right
    · have ql : ((name.length : Int) != 1) = true := by simp; omega
      have hno : nmOk name = false := nmOk_len ql'
      have zn : (name.length : Int) ≤ 9223372036854775807 := by omega
      have hs : ckB8 true false false true false true L R 0 0 name = 6 := by simp [ckB8, hno]
      rw [hs]
      clear hs
      go_enter Tryz.func116, Tryz.ntmps116
      go_wp2_with (first | (go_at_call 152; refine (HFI.out _).mono ?_; rintro e w1 ⟨rfl, rfl⟩) | (go_at_call 83; refine (HCTc.out _).mono ?_; rintro e w3 ⟨rfl, rfl⟩) | (go_at_call 153; refine (HPL.out _ (bel3 _ _ _ _)).mono ?_; rintro e w2 ⟨rfl, k2⟩))
      go_ret
      first | exact ⟨rfl, bel3 _ _ _ _⟩ | exact ⟨rfl, (bel3 w _ _ _).trans (k2.mono (bel3 w _ _ _).size)⟩
    obtain ⟨ch, rfl⟩ := List.length_eq_one_iff.1 ql'
    have HCTc := Lib.hid (HCT.out ch)
    cases hno : nmOk [ch] with
    | false =>
      rw [hno] at HCTc
      have hs : ckB8 true false false true false true L R 0 0 [ch] = 6 := by simp [ckB8, hno]
      rw [hs]
      clear hs
      go_enter Tryz.func116, Tryz.ntmps116
      go_wp2_with (first | (go_at_call 152; refine (HFI.out _).mono ?_; rintro e w1 ⟨rfl, rfl⟩) | (go_at_call 83; refine (HCTc.out _).mono ?_; rintro e w3 ⟨rfl, rfl⟩) | (go_at_call 153; refine (HPL.out _ (bel3 _ _ _ _)).mono ?_; rintro e w2 ⟨rfl, k2⟩))
      go_ret
      first | exact ⟨rfl, bel3 _ _ _ _⟩ | exact ⟨rfl, (bel3 w _ _ _).trans (k2.mono (bel3 w _ _ _).size)⟩
    | true =>
      rw [hno] at HCTc
      cases R with
      | false =>
        have hs : ckB8 true false false true false true L false 0 0 [ch] = 2 := by simp [ckB8, hno]
        rw [hs]
        clear hs
        go_enter Tryz.func116, Tryz.ntmps116
        go_wp2_with (first | (go_at_call 152; refine (HFI.out _).mono ?_; rintro e w1 ⟨rfl, rfl⟩) | (go_at_call 83; refine (HCTc.out _).mono ?_; rintro e w3 ⟨rfl, rfl⟩) | (go_at_call 153; refine (HPL.out _ (bel3 _ _ _ _)).mono ?_; rintro e w2 ⟨rfl, k2⟩))
        go_ret
        first | exact ⟨rfl, bel3 _ _ _ _⟩ | exact ⟨rfl, (bel3 w _ _ _).trans (k2.mono (bel3 w _ _ _).size)⟩
      | true =>
        have hs : ckB8 true false false true false true L true 0 0 [ch] = 0 := by simp [ckB8, hno]
        rw [hs]
        clear hs
        go_enter Tryz.func116, Tryz.ntmps116
        go_wp2_with (first | (go_at_call 152; refine (HFI.out _).mono ?_; rintro e w1 ⟨rfl, rfl⟩) | (go_at_call 83; refine (HCTc.out _).mono ?_; rintro e w3 ⟨rfl, rfl⟩) | (go_at_call 153; refine (HPL.out _ (bel3 _ _ _ _)).mono ?_; rintro e w2 ⟨rfl, k2⟩))
        go_ret
        first | exact ⟨rfl, bel3 _ _ _ _⟩ | exact ⟨rfl, (bel3 w _ _ _).trans (k2.mono (bel3 w _ _ _).size)⟩
  · -- s16
    rw [show fK 16 = true from rfl, show fA 16 = true from rfl, show fB 16 = true from rfl, show fN8 16 = false from rfl, show ((16 : Int) == 4) = false from rfl, show ((16 : Int) == 10) = false from rfl]
    rw [show fA 16 = true from rfl, show fB 16 = true from rfl, show fN8 16 = false from rfl, show fK 16 = true from rfl] at FI
    have HPL := Lib.hid PL
    have HFI := Lib.hid FI
    have HLB := Lib.hid LB
    clear PL FI LB hp
    by_cases qn' : name = []
    rotate_right
    · have qn : (name != []) = true := by simpa using qn'
      have qn2 : name.isEmpty = false := by simpa using qn'
      have hs : ckB8 true true true false false false L R a b name = 1 := by simp [ckB8, qn']
      rw [hs]
      clear hs
      go_enter Tryz.func116, Tryz.ntmps116
      go_wp2_with (first | (go_at_call 152; refine (HFI.out _).mono ?_; rintro e w1 ⟨rfl, rfl⟩) | (go_at_call 83; refine (HCTc.out _).mono ?_; rintro e w3 ⟨rfl, rfl⟩) | (go_at_call 153; refine (HPL.out _ (bel3 _ _ _ _)).mono ?_; rintro e w2 ⟨rfl, k2⟩))
      go_ret
      first | exact ⟨rfl, bel3 _ _ _ _⟩ | exact ⟨rfl, (bel3 w _ _ _).trans (k2.mono (bel3 w _ _ _).size)⟩
    subst qn'
    have qn : (([] : T) != []) = false := rfl
    cases R with
    | false =>
      have hs : ckB8 true true true false false false L false a b [] = 2 := by simp [ckB8]
      rw [hs]
      clear hs
      go_enter Tryz.func116, Tryz.ntmps116
      go_wp2_with (first | (go_at_call 152; refine (HFI.out _).mono ?_; rintro e w1 ⟨rfl, rfl⟩) | (go_at_call 83; refine (HCTc.out _).mono ?_; rintro e w3 ⟨rfl, rfl⟩) | (go_at_call 153; refine (HPL.out _ (bel3 _ _ _ _)).mono ?_; rintro e w2 ⟨rfl, k2⟩))
      go_ret
      first | exact ⟨rfl, bel3 _ _ _ _⟩ | exact ⟨rfl, (bel3 w _ _ _).trans (k2.mono (bel3 w _ _ _).size)⟩
    | true =>
      have hs : ckB8 true true true false false false L true a b [] = 0 := by simp [ckB8]
      rw [hs]
      clear hs
      go_enter Tryz.func116, Tryz.ntmps116
      go_wp2_with (first | (go_at_call 152; refine (HFI.out _).mono ?_; rintro e w1 ⟨rfl, rfl⟩) | (go_at_call 83; refine (HCTc.out _).mono ?_; rintro e w3 ⟨rfl, rfl⟩) | (go_at_call 153; refine (HPL.out _ (bel3 _ _ _ _)).mono ?_; rintro e w2 ⟨rfl, k2⟩))
      go_ret
      first | exact ⟨rfl, bel3 _ _ _ _⟩ | exact ⟨rfl, (bel3 w _ _ _).trans (k2.mono (bel3 w _ _ _).size)⟩
end Go.Proofs.YtgboboljgcfggaaGreatDoor
namespace Go.Proofs.YtgboboljgcfggaaGreatDoor
open Go.RowKit
end Go.Proofs.YtgboboljgcfggaaGreatDoor
namespace Go.Proofs.YtgboboljgcfggaaGreatDoor
open Go.RowKit
abbrev Gr (w w' : World) : Prop := w.grownBy w' none
theorem gr_al (w : World) (o : Obj) : Gr w (w.alloc o) := World.grownBy_alloc w o none
theorem gr_drewN (w : World) (n : Nat) : Gr w (w.drewN n) := ⟨rfl, rfl, rfl, Nat.le_refl _, fun _ _ _ => rfl⟩
theorem gr_drew (w : World) : Gr w w.drew := gr_drewN w 1
theorem gr_refl (w : World) : Gr w w := World.grownBy.refl w none
theorem below_of {w V : World} (g : Gr w V) : Below w.heap.size w V := ⟨g.os, g.tape, g.output, g.size, fun k hk => g.block k hk (by simp)⟩
theorem gr_of {w V : World} (g : Below w.heap.size w V) : Gr w V := ⟨g.os, g.tape, g.output, g.size, fun k hk _ => g.block k hk⟩
theorem gr_h {w V : World} {k : Nat} {o : Obj} (g : Gr w V) (h : w.heap[k]? = some o) : V.heap[k]? = some o := (g.block k (heap_lt h) (by simp)).trans h
theorem gr_c {w V : World} {a : Addr} {v : Value} (g : Gr w V) (h : w.cell? a = some v) : V.cell? a = some v := g.cell h (by simp)
theorem grown_set {w : World} (k j : Nat) (u : Value) : w.grownBy (w.setCell ⟨k, j, none⟩ u) (some k) := ⟨rfl, rfl, rfl, by simp [World.setCell], fun i _ hne => Below.heap_setCell _ _ _ _ (by rintro rfl; exact hne rfl)⟩
section
variable {α : Type} {n : Nat} {cs : α → List Value} {w w' : World} {A : Option Addr} {L : List α}
theorem RD.but {row : Option Nat} (h : RD n cs w A L) (hg : w.grownBy w' row) (hne : ∀ a, A = some a → some a.block ≠ row) : RD n cs w' A L := by
  rcases h with rfl | ⟨a, e, hb, hc⟩
  · exact .inl rfl
  · refine .inr ⟨a, e, Nat.lt_of_lt_of_le hb hg.size, fun j x hx i v hv => hg.cell (hc j x hx i v hv) ?_⟩
    rw [add_block]
    exact hne a e
theorem RD.gr (h : RD n cs w A L) (g : Gr w w') : RD n cs w' A L := h.but g (by simp)
theorem RD.take (h : RD n cs w A L) (k : Nat) : RD n cs w A (L.take k) := by
  rcases h with rfl | ⟨a, e, hb, hc⟩
  · left; simp
  · refine .inr ⟨a, e, hb, fun j x hx i v hv => hc j x ?_ i v hv⟩
    rw [List.getElem?_take] at hx
    split at hx
    · exact hx
    · cases hx
theorem RD.drop (h : RD n cs w A L) (k : Nat) {A' : Option Addr} (hA : ∀ a, A = some a → k < L.length → A' = some (a.add (k * n))) : RD n cs w A' (L.drop k) := by
  by_cases hk : k < L.length
  · obtain ⟨a, e, hb, -⟩ := h.at hk
    rcases h with rfl | ⟨a', e', hb', hc⟩
    · simp at hk
    · rw [e] at e'; cases e'
      refine .inr ⟨_, hA a e hk, by rw [add_block]; exact hb, fun j x hx i v hv => ?_⟩
      rw [add_add', show k * n + (j * n + i) = (k + j) * n + i by rw [Nat.add_mul]; omega]
      exact hc (k + j) x (by rw [List.getElem?_drop] at hx; exact hx) i v hv
  · left
    exact List.drop_eq_nil_of_le (by omega)
end
theorem flat_len {α : Type} (f : α → List Value) (m : Nat) (h : ∀ x, (f x).length = m) : ∀ L : List α, (L.flatMap f).length = L.length * m
  | [] => by simp
  | x :: l => by rw [List.flatMap_cons, List.length_append, h, flat_len f m h l, List.length_cons, Nat.succ_mul]; omega
theorem flat_at {α : Type} (f : α → List Value) (m : Nat) (h : ∀ x, (f x).length = m) {i : Nat} (hi : i < m) : ∀ (L : List α) (k : Nat) {x : α}, L[k]? = some x → (L.flatMap f)[k * m + i]? = (f x)[i]?
  | [], _, _, e => by simp at e
  | y :: l, 0, x, e => by
    simp at e
    subst e
    rw [List.flatMap_cons, Nat.zero_mul, Nat.zero_add, List.getElem?_append_left (by rw [h]; exact hi)]
  | y :: l, k + 1, x, e => by
    rw [List.flatMap_cons, List.getElem?_append_right (by rw [h, Nat.succ_mul]; omega), h, show (k + 1) * m + i - m = k * m + i by rw [Nat.succ_mul]; omega]
    exact flat_at f m h hi l k (by simpa using e)
theorem rd_cells {α : Type} {n : Nat} {cs : α → List Value} {w : World} {A : Nat} {L : List α} {t : TypeId} (hn : ∀ x, (cs x).length = n) (h : w.heap[A]? = some (.cells (L.flatMap cs).toArray t (0, 0))) : RD n cs w (some ⟨A, 0, none⟩) L := by
  refine .inr ⟨_, rfl, heap_lt h, fun j x hj i v hi => ?_⟩
  have hi3 : i < n := by
    rcases Nat.lt_or_ge i n with h' | h'
    · exact h'
    · rw [List.getElem?_eq_none (by rw [hn]; exact h')] at hi; cases hi
  have ha : ((⟨A, 0, none⟩ : Addr).add (j * n + i)) = ⟨A, j * n + i, none⟩ := by
    by_cases e0 : j * n + i = 0
    · rw [e0]; rfl
    · rw [fld_add _ _ e0]; simp
  rw [ha, Lib.cell_of_heap h, List.getElem?_toArray, flat_at cs n hn hi3 _ j hj]
  exact hi
def OR {α : Type} (e : TypeId) (n : Nat) (cs : α → List Value) (w : World) (base : Nat) (v : Value) (L : List α) : Prop := w.ownsRow base e n v L.length (L.flatMap cs)
section
variable {α : Type} {e : TypeId} {n : Nat} {cs : α → List Value} {w w' : World} {base : Nat} {v : Value} {L : List α}
theorem OR.nil : OR e n cs w base (.slice none 0 0) [] := World.ownsRow_nil w base e n
theorem OR.form (hn : ∀ x, (cs x).length = n) (h : OR e n cs w base v L) : ∃ A c, v = .slice A L.length c ∧ RD n cs w A L := by
  have h0 := h
  rcases h0.2 with ⟨rfl, hl⟩ | ⟨g, cap, cur, rfl, hg, hh, hnc, hm, hs, hx⟩
  · have : L = [] := List.eq_nil_of_length_eq_zero hl
    subst this
    exact ⟨none, 0, rfl, .inl rfl⟩
  · refine ⟨some ⟨g, 0, none⟩, cap, rfl, .inr ⟨_, rfl, (h.lt g rfl).2, fun j x hj i u hi => ?_⟩⟩
    have hin : i < n := by
      rcases Nat.lt_or_ge i n with h' | h'
      · exact h'
      · rw [List.getElem?_eq_none (by rw [hn]; exact h')] at hi; cases hi
    exact World.ownsRow.cells h rfl _ u (by rw [flat_at cs n hn hin L j hj]; exact hi)
theorem OR.kept {row : Option Nat} (h : OR e n cs w base v L) (hg : w.grownBy w' row) (hne : v.ownBlock = none ∨ v.ownBlock ≠ row) : OR e n cs w' base v L := World.ownsRow.kept h hg hne
theorem OR.gr (h : OR e n cs w base v L) (hg : Gr w w') : OR e n cs w' base v L := h.kept hg (by
  cases hv : v.ownBlock with
  | none => exact .inl rfl
  | some g => exact .inr (by simp))
theorem OR.alloc (h : OR e n cs w base v L) (o : Obj) : OR e n cs (w.alloc o) base v L := World.ownsRow.alloc h o
theorem OR.lt (h : OR e n cs w base v L) : ∀ k, v.ownBlock = some k → base ≤ k ∧ k < w.heap.size := World.ownsRow.lt h
theorem OR.grow {W : World} (g0 : Gr W w) (h : OR e n cs w base v L) (hb : W.heap.size ≤ base) (g : w.grownBy w' v.ownBlock) : Gr W w' :=
  ⟨g.os.trans g0.os, g.tape.trans g0.tape, g.output.trans g0.output, Nat.le_trans g0.size g.size, fun k hk _ => (g.block k (Nat.lt_of_lt_of_le hk g0.size) (by
    intro e1
    have := h.lt k e1.symm
    omega)).trans (g0.block k hk (by simp))⟩
theorem run_appR (t ty : TypeId) {z : Value} {bytes : Nat} (hn : ∀ x, (cs x).length = n) (h1 : ∀ x, ∀ u ∈ cs x, u.oneCell' = true) (ht : Tryz.prog.underlying t = some (.slice e)) (hinfo : (Tryz.prog.info? e).map (fun i => (i.zero, i.size, i.bytes)) = some (some z, n, bytes)) (hz : z.cells.size = n) (hn0 : 0 < n) (hby : bytes ≤ 1000)
    (hown : OR e n cs w base v L) {A : Option Addr} {M : List α} (c : Nat) (hr : RD n cs w A M) (hA : A ≠ none) (hsz : L.length + M.length ≤ 1000000) (hb : base ≤ w.heap.size) :
    ∃ v' w', (Builtin.append_ #[t, t] ty #[v, .slice A M.length c]).run Tryz.prog w = .ok v' w' ∧ OR e n cs w' base v' (L ++ M) ∧ w.grownBy w' v.ownBlock ∧ (v'.ownBlock = v.ownBlock ∨ v'.ownBlock = some w.heap.size) := by
  obtain ⟨i0, hi, hz0, hz1, hz2⟩ := info_parts hinfo
  obtain ⟨a, rfl⟩ : ∃ a, A = some a := by
    cases A with
    | none => exact absurd rfl hA
    | some a => exact ⟨a, rfl⟩
  have hc : ∀ j u, (M.flatMap cs)[j]? = some u → w.cell? (a.add j) = some u := by
    intro j u hu
    have hj : j < M.length * n := by
      rw [← flat_len cs n hn M]
      exact (List.getElem?_eq_some_iff.1 hu).1
    have e0 : j / n < M.length := Nat.div_lt_of_lt_mul (by rw [Nat.mul_comm]; exact hj)
    have e1 : j % n < n := Nat.mod_lt _ hn0
    have e2 : j = j / n * n + j % n := by rw [Nat.mul_comm]; exact (Nat.div_add_mod j n).symm
    rcases hr with rfl | ⟨a', e', _, hc⟩
    · simp at hu
    · cases e'
      have e3 := List.getElem?_eq_getElem e0
      have e4 := flat_at cs n hn e1 M _ e3
      rw [← e2, hu] at e4
      rw [e2]
      exact hc _ _ e3 _ _ e4.symm
  obtain ⟨v', w', hrun, h2, h3, _, h5⟩ := run_append_own_at (P := Tryz.prog) w base t ty e i0 z n bytes ht hi hz0 hz1 hz2 hz hn0 v L.length (L.flatMap cs) hown a M.length c (M.flatMap cs) (flat_len cs n hn M) hc
    (by intro u hu; obtain ⟨x, _, hx⟩ := List.mem_flatMap.1 hu; exact h1 x u hx) (by unfold maxLen; omega) (by have := Nat.mul_le_mul (show L.length + M.length ≤ 1000000 from hsz) hby; omega) hb
  exact ⟨v', w', hrun, by unfold OR; simpa using h2, h3, h5⟩
end
end Go.Proofs.YtgboboljgcfggaaGreatDoor
namespace Go.Proofs.YtgboboljgcfggaaGreatDoor
open Go.RowKit
def fe8 : List Int → Int
  | [] => 0
  | x :: l => if x = 0 then fe8 l else x
theorem fe8_snoc (l : List Int) (x : Int) (h : fe8 l = 0) : fe8 (l ++ [x]) = x := by
  induction l with
  | nil => by_cases hx : x = 0 <;> simp [fe8, hx]
  | cons y l ih =>
    by_cases hy : y = 0
    · simp only [List.cons_append, fe8, if_pos hy] at h ⊢
      exact ih h
    · simp only [fe8, if_neg hy] at h
      exact absurd h hy
theorem fe8_app (l m : List Int) (h : fe8 l ≠ 0) : fe8 (l ++ m) = fe8 l := by
  induction l with
  | nil => exact absurd rfl h
  | cons y l ih =>
    by_cases hy : y = 0
    · simp only [List.cons_append, fe8, if_pos hy] at h ⊢
      exact ih h
    · simp only [List.cons_append, fe8, if_neg hy]
theorem fe8_at {L : List Int} {k : Nat} (hk : k < L.length) (h0 : fe8 (L.take k) = 0) : (L[k] ≠ 0 → fe8 L = L[k]) ∧ (L[k] = 0 → fe8 (L.take (k + 1)) = 0) := by
  have h1 := fe8_snoc (L.take k) L[k] h0
  rw [← List.take_succ_eq_append_getElem hk] at h1
  refine ⟨fun h => ?_, fun h => h1.trans h⟩
  have h2 := fe8_app (L.take (k + 1)) (L.drop (k + 1)) (by rw [h1]; exact h)
  rw [List.take_append_drop] at h2
  exact h2.trans h1
def errI8 (bs : List Blk) (b : Blk) : List Int := b.ins.map fun x => ckI8 bs b.ins.length x.op x.a x.b x.name
def lastOp (l : List Ins) : Int := match l.getLast? with | some x => x.op | none => 0
theorem lastOp_at {l : List Ins} (h : 0 < l.length) : lastOp l = (l[l.length - 1]).op := by
  unfold lastOp
  rw [List.getLast?_eq_getElem?, List.getElem?_eq_getElem (by omega)]
def errB8 (bs : List Blk) (b : Blk) : Int := if b.cap < 0 ∨ 400 < b.cap then 2 else if lastOp b.ins ≠ 7 then 1 else fe8 (errI8 bs b)
theorem cells3 {W : World} {k : Nat} {a b c : Value} {t : TypeId} (h : W.heap[k]? = some (.cells #[a, b, c] t (0, 0))) : W.cell? ⟨k, 0, none⟩ = some a ∧ W.cell? ⟨k, 1, none⟩ = some b ∧ W.cell? ⟨k, 2, none⟩ = some c :=
  ⟨by rw [Lib.cell_of_heap h]; rfl, by rw [Lib.cell_of_heap h]; rfl, by rw [Lib.cell_of_heap h]; rfl⟩
attribute [local irreducible] Calls in
set_option maxRecDepth 100000 in
set_option maxHeartbeats 4000000 in
theorem checkBlock8_any (p : Cod) (b : Blk) (w : World) (hp : p.Rd w) (hb : RD 4 Ins.cs w b.A b.ins) (hl : b.ins.length ≤ 9223372036854775807) (hn : ∀ x ∈ b.ins, x.name.length ≤ 9223372036854775807) :
    Calls Tryz.prog 95 #[p.v, b.v] w fun e w' => e = .returned (.int .i64 (errB8 p.bs b)) ∧ Gr w w' := by
  obtain ⟨n, hnl⟩ : ∃ n, b.ins.length = n := ⟨_, rfl⟩
  obtain ⟨Ad, hA⟩ : ∃ A, b.A = A := ⟨_, rfl⟩
  have HB := Lib.hid (fun V (g : Gr w V) => show RD 4 Ins.cs V Ad b.ins from by rw [← hA]; exact hb.gr g)
  have CI := Lib.hid (fun V (g : Gr w V) (x : Ins) (hx : x ∈ b.ins) => show Calls Tryz.prog 116 #[.agg #[.string ⟨p.label.toArray⟩, .slice p.bA p.bs.length p.bc, .slice p.dA p.ds.length p.dc], .agg #[.int .i64 b.cap, .bool b.param, .slice Ad n b.c], .agg #[.int .i64 x.op, .int .i64 x.a, .int .i64 x.b, .string ⟨x.name.toArray⟩]] V (fun e w' => e = .returned (.int .i64 (ckI8 p.bs n x.op x.a x.b x.name)) ∧ Below V.heap.size V w') from by
    have h := checkInstr8_any p b x.op x.a x.b x.name V (hp.below (below_of g)) (hn x hx)
    unfold Cod.v Blk.v Ins.v at h
    simp only [hnl, hA] at h
    exact h)
  have GW := Lib.hid (show Gr w ((w.alloc (.cells #[.string ⟨p.label.toArray⟩, .slice p.bA p.bs.length p.bc, .slice p.dA p.ds.length p.dc] 65)).alloc (.cells #[.int .i64 b.cap, .bool b.param, .slice Ad n b.c] 69)) from (gr_al _ _).trans (gr_al _ _))
  have HX := Lib.hid (fun V (g : Gr ((w.alloc (.cells #[.string ⟨p.label.toArray⟩, .slice p.bA p.bs.length p.bc, .slice p.dA p.ds.length p.dc] 65)).alloc (.cells #[.int .i64 b.cap, .bool b.param, .slice Ad n b.c] 69)) V) => cells3 (gr_h g (show ((w.alloc (.cells #[.string ⟨p.label.toArray⟩, .slice p.bA p.bs.length p.bc, .slice p.dA p.ds.length p.dc] 65)).alloc (.cells #[.int .i64 b.cap, .bool b.param, .slice Ad n b.c] 69)).heap[w.heap.size + 1]? = some (.cells #[.int .i64 b.cap, .bool b.param, .slice Ad n b.c] 69 (0, 0)) from al_at _ _ (by simp))))
  have HY := Lib.hid (fun V (g : Gr ((w.alloc (.cells #[.string ⟨p.label.toArray⟩, .slice p.bA p.bs.length p.bc, .slice p.dA p.ds.length p.dc] 65)).alloc (.cells #[.int .i64 b.cap, .bool b.param, .slice Ad n b.c] 69)) V) => cells3 (gr_h g (gr_h (gr_al _ _) (al_new w (.cells #[.string ⟨p.label.toArray⟩, .slice p.bA p.bs.length p.bc, .slice p.dA p.ds.length p.dc] 65)))))
  have HAI := Lib.hid (fun (k : Nat) (x : Ins) (hk : b.ins[k]? = some x) => show (errI8 p.bs b)[k]? = some (ckI8 p.bs n x.op x.a x.b x.name) from by unfold errI8; rw [List.getElem?_map, hk, hnl]; rfl)
  have EB := Lib.hid (show errB8 p.bs b = if b.cap < 0 ∨ 400 < b.cap then 2 else if lastOp b.ins ≠ 7 then 1 else fe8 (errI8 p.bs b) from rfl)
  have EL := Lib.hid (show (errI8 p.bs b).length = n from by unfold errI8; rw [List.length_map, hnl])
  obtain ⟨E, hE⟩ : ∃ E, errI8 p.bs b = E := ⟨_, rfl⟩
  simp only [hE] at HAI EB EL
  obtain ⟨r, hr⟩ : ∃ r, errB8 p.bs b = r := ⟨_, rfl⟩
  rw [hr] at EB ⊢
  unfold Cod.v Blk.v
  rw [hnl] at hl ⊢
  rw [hA]
  have HNL := Lib.hid hnl
  clear hp hb hn hE hr hA hnl
  by_cases hc : b.cap < 0 ∨ 400 < b.cap
  · have e2 := EB.out
    rw [if_pos hc] at e2
    subst e2
    clear CI HX HY HB HAI
    by_cases hc0 : b.cap < 0
    · go_enter Tryz.func95, Tryz.ntmps95
      go_wp2
      go_ret
      exact ⟨rfl, GW.out⟩
    · have hc1 : 400 < b.cap := hc.resolve_left hc0
      go_enter Tryz.func95, Tryz.ntmps95
      go_wp2
      go_ret
      exact ⟨rfl, GW.out⟩
  · have hc0 : ¬ b.cap < 0 := fun h => hc (.inl h)
    have hc1 : ¬ 400 < b.cap := fun h => hc (.inr h)
    by_cases h0 : n = 0
    · have e1 := EB.out
      rw [if_neg hc, show b.ins = [] from List.eq_nil_of_length_eq_zero (HNL.out.trans h0), if_pos (by decide)] at e1
      subst e1
      subst h0
      clear CI HX HY HB HAI hc
      go_enter Tryz.func95, Tryz.ntmps95
      go_wp2
      go_ret
      exact ⟨rfl, GW.out⟩
    · have hla : b.ins.length - 1 < b.ins.length := by have := HNL.out; omega
      obtain ⟨a, a1, eA, ha, hab, y0, -⟩ := (HB.out _ GW.out).ins hla
      obtain rfl := eA
      have elo := lastOp_at (l := b.ins) (by have := HNL.out; omega)
      obtain ⟨lo, hlo⟩ : ∃ z, (b.ins[b.ins.length - 1]).op = z := ⟨_, rfl⟩
      rw [hlo] at elo y0
      rw [HNL.out] at ha
      have e3 := EB.out
      rw [if_neg hc, elo] at e3
      have hnz : ((n : Int) == 0) = false := by simpa using h0
      have hI : ((n : Int) - 1) = ((n - 1 : Nat) : Int) := by omega
      have hlt1 : ((n - 1 : Nat) : Int) < (n : Int) := by omega
      clear elo hlo hc hla
      by_cases h7 : lo = 7
      · rw [if_neg (by simp [h7])] at e3
        subst h7
        have E3 := Lib.hid e3
        clear e3 h0
        go_enter Tryz.func95, Tryz.ntmps95
        go_wp2
        clear ha hab y0 hI hlt1 hnz
        go_loopw [35] (fun i V => ∃ k : Nat, k ≤ n ∧ i = .int .i64 k ∧ Hid (Gr ((w.alloc (.cells #[.string ⟨p.label.toArray⟩, .slice p.bA p.bs.length p.bc, .slice p.dA p.ds.length p.dc] 65)).alloc (.cells #[.int .i64 b.cap, .bool b.param, .slice (some a) n b.c] 69)) V ∧ fe8 (E.take k) = 0)) (fun i _ => n - (intOf i).toNat)
        case atStart => exact ⟨0, Nat.zero_le _, rfl, Lib.hid ⟨gr_refl _, rfl⟩⟩
        case round =>
          obtain ⟨k, hk, rfl, HK⟩ := hrel
          obtain ⟨gk, hfe⟩ := HK.out
          have GK := Lib.hid gk
          have FE := Lib.hid hfe
          clear gk hfe HK
          by_cases hlt : k < n
          · obtain ⟨a2, a3, eA2, ha, hab, y0, y1, y2, y3⟩ := (HB.out _ (GW.out.trans GK.out)).ins (k := k) (by rw [HNL.out]; exact hlt)
            obtain rfl := Option.some.inj eA2
            obtain ⟨x, hx⟩ : ∃ x, b.ins[k]'(by rw [HNL.out]; exact hlt) = x := ⟨_, rfl⟩
            have HXI := Lib.hid (show b.ins[k]? = some x from by rw [List.getElem?_eq_getElem (by rw [HNL.out]; exact hlt), hx])
            rw [hx] at y0 y1 y2 y3
            obtain ⟨z, hz⟩ : ∃ z, ckI8 p.bs n x.op x.a x.b x.name = z := ⟨_, rfl⟩
            have CX := Lib.hid (fun V (g : Gr wr V) => CI.out V ((GW.out.trans GK.out).trans g) x (List.mem_of_getElem? HXI.out))
            simp only [hz] at CX
            have FA := Lib.hid (show (z ≠ 0 → fe8 E = z) ∧ (z = 0 → fe8 (E.take (k + 1)) = 0) from by
              obtain ⟨hk9, h9⟩ := List.getElem?_eq_some_iff.1 (HAI.out k x HXI.out)
              have h8 := fe8_at hk9 FE.out
              rw [h9, hz] at h8
              exact h8)
            have KX := Lib.hid (fun V (g : Gr wr V) => HX.out V (GK.out.trans g))
            have KY := Lib.hid (fun V (g : Gr wr V) => HY.out V (GK.out.trans g))
            clear hx hz eA2
            go_upto_region 8 with (fail)
            have HI := Lib.hid (fun V (g : Gr (wr.alloc (.cells #[.int .i64 x.op, .int .i64 x.a, .int .i64 x.b, .string ⟨x.name.toArray⟩] 71)) V) => Lib.cell_of_heap (gr_h g (al_new wr (.cells #[.int .i64 x.op, .int .i64 x.a, .int .i64 x.b, .string ⟨x.name.toArray⟩] 71))))
            have G7 := Lib.hid (gr_al wr (.cells #[.int .i64 x.op, .int .i64 x.a, .int .i64 x.b, .string ⟨x.name.toArray⟩] 71))
            have SZ : ∃ q, wr.heap.size = q := ⟨_, rfl⟩
            obtain ⟨q, hq⟩ := SZ
            rw [hq] at HI ⊢
            clear hq
            generalize World.alloc wr _ = W7 at *
            obtain ⟨x0, x1, x2⟩ := KX.out _ G7.out
            obtain ⟨c0, c1, c2⟩ := KY.out _ G7.out
            have i0 := HI.out _ (gr_refl _) 0
            have i1 := HI.out _ (gr_refl _) 1
            have i2 := HI.out _ (gr_refl _) 2
            have i3 := HI.out _ (gr_refl _) 3
            simp only [List.getElem?_toArray, List.getElem?_cons_zero, List.getElem?_cons_succ] at i0 i1 i2 i3
            clear y0 y1 y2 y3 ha hab
            by_cases hz0 : z = 0
            · subst hz0
              go_wp2_with (first | (go_at_call 116; (with_reducible refine (CX.out _ G7.out).mono ?_); rintro e w6 ⟨rfl, k6⟩; have G6 := Lib.hid (G7.out.trans (gr_of k6)); clear k6))
              exact ⟨⟨k + 1, hlt, by simp, Lib.hid ⟨GK.out.trans G6.out, FA.out.2 trivial⟩⟩, by simp [intOf]; omega⟩
            · have hb0 : (z != 0) = true := by simpa using hz0
              have hfin : r = z := E3.out.trans (FA.out.1 hz0)
              subst hfin
              clear hz0
              go_wp2_with (first | (go_at_call 116; (with_reducible refine (CX.out _ G7.out).mono ?_); rintro e w6 ⟨rfl, k6⟩; have G6 := Lib.hid (G7.out.trans (gr_of k6)); clear k6))
              go_ret
              exact ⟨rfl, (GW.out.trans GK.out).trans G6.out⟩
          · obtain rfl : n = k := by omega
            have h0 := FE.out
            rw [List.take_of_length_le (by rw [EL.out]; exact Nat.le_refl _), ← E3.out] at h0
            subst h0
            go_wp2
            go_ret
            exact ⟨rfl, GW.out.trans GK.out⟩
      · rw [if_pos h7] at e3
        subst e3
        have hb7 : (lo != 7) = true := by simpa using h7
        clear h7 CI h0
        go_enter Tryz.func95, Tryz.ntmps95
        go_wp2
        go_ret
        exact ⟨rfl, GW.out⟩
end Go.Proofs.YtgboboljgcfggaaGreatDoor
namespace Go.Proofs.YtgboboljgcfggaaGreatDoor
open Go.RowKit
def ordD (ds : List Dcl) (x : Dcl) : Nat → Bool
  | 0 => true
  | j + 1 => match ds[j]? with | some q => decide (q.id < x.id) | none => true
def errD (bs : List Blk) (ds : List Dcl) (i : Nat) : Int := match ds[i]? with
  | none => 0
  | some x => if x.id < 1 ∨ 999999 < x.id then 2 else if ordD ds x i = false then 10 else if ¬ (x.kind = 1 ∨ x.kind = 2 ∨ x.kind = 3) then 9 else if plainB bs x.block = false then 2 else 0
def errC (p : Cod) : Int := if lab p.label = false then 6 else if fe8 (p.bs.map (errB8 p.bs)) ≠ 0 then fe8 (p.bs.map (errB8 p.bs)) else fe8 ((List.range p.ds.length).map (errD p.bs p.ds))
structure Cod.Lim (p : Cod) : Prop where
  l : p.label.length ≤ 9223372036854775807
  b : p.bs.length ≤ 9223372036854775807
  d : p.ds.length ≤ 9223372036854775807
  i : ∀ b ∈ p.bs, b.ins.length ≤ 9223372036854775807
  n : ∀ b ∈ p.bs, ∀ x ∈ b.ins, x.name.length ≤ 9223372036854775807
theorem plainB_at {bs : List Blk} {M : Nat} (h : M < bs.length) : plainB bs M = ((bs[M].cap == 0) && !bs[M].param) := by simp [plainB, h]
theorem Cod.Rd.gr {w w' : World} {p : Cod} (h : p.Rd w) (g : Gr w w') : p.Rd w' := h.below (below_of g)
theorem fe8_fail {L : List Int} {k : Nat} {x : Int} (hk : L[k]? = some x) (h0 : fe8 (L.take k) = 0) : (x ≠ 0 → fe8 L = x) ∧ (x = 0 → fe8 (L.take (k + 1)) = 0) := by
  obtain ⟨hk9, h9⟩ := List.getElem?_eq_some_iff.1 hk
  have h8 := fe8_at hk9 h0
  rw [h9] at h8
  exact h8
theorem plainB_neg {bs : List Blk} {n : Int} (h : n < 0) : plainB bs n = false := by
  unfold plainB
  rw [decide_eq_false (by omega)]
  rfl
theorem plainB_big {bs : List Blk} {M : Nat} (h : bs.length ≤ M) : plainB bs M = false := by simp [plainB, List.getElem?_eq_none h]
end Go.Proofs.YtgboboljgcfggaaGreatDoor
namespace Go.Proofs.YtgboboljgcfggaaGreatDoor
open Go.RowKit Go.Maps
structure KT {κ : Type} (kt : TypeId) (kv : κ → Value) (ok : κ → Prop) : Prop where
  K : Keyed Tryz.prog kt
  lit : ∀ k, ok k → ∃ l, keyOf Tryz.prog kt (kv k) = some l
  inj : ∀ a b, kv a = kv b → a = b
abbrev MK (κ : Type) := List (κ × Value)
section
variable {κ : Type} {kt : TypeId} {kv : κ → Value} {ok : κ → Prop}
def ensK (kv : κ → Value) : Nat → MK κ → List MapEntry
  | _, [] => []
  | j, p :: l => { key := kv p.1, val := p.2, born := j } :: ensK kv (j + 1) l
def fndK [DecidableEq κ] (k : κ) : MK κ → Nat → Option (Nat × Value)
  | [], _ => none
  | p :: l, i => if k = p.1 then some (i, p.2) else fndK k l (i + 1)
def kget [DecidableEq κ] (l : MK κ) (k : κ) : Option Value := (fndK k l 0).map (·.2)
theorem ensK_app (k : κ) (v : Value) : ∀ (l : MK κ) (j : Nat), ensK kv j (l ++ [(k, v)]) = ensK kv j l ++ [{ key := kv k, val := v, born := j + l.length }]
  | [], _ => rfl
  | _ :: l, j => by simp [ensK, ensK_app k v l]; omega
theorem ensK_at : ∀ (l : MK κ) (j i : Nat), (ensK kv j l)[i]? = l[i]?.map fun p => { key := kv p.1, val := p.2, born := j + i }
  | [], _, _ => by simp [ensK]
  | p :: l, j, 0 => by simp [ensK]
  | p :: l, j, i + 1 => by simp [ensK, ensK_at l]; congr 1; funext q; congr 1; omega
theorem fndK_none [DecidableEq κ] {k : κ} : ∀ {l : MK κ} {i : Nat}, (∀ p ∈ l, p.1 ≠ k) → fndK k l i = none
  | [], _, _ => rfl
  | p :: l, i, h => by
    rw [fndK, if_neg (fun e => h p (by simp) e.symm)]
    exact fndK_none fun q hq => h q (by simp [hq])
theorem fndK_of [DecidableEq κ] {k : κ} {v : Value} : ∀ {l : MK κ} {i j : Nat}, (l.map (·.1)).Nodup → l[j]? = some (k, v) → fndK k l i = some (i + j, v)
  | [], _, _, _, e => by simp at e
  | p :: l, i, 0, _, e => by
    simp only [List.getElem?_cons_zero, Option.some.injEq] at e
    subst e
    simp [fndK]
  | p :: l, i, j + 1, h, e => by
    rw [List.map_cons, List.nodup_cons] at h
    have e' : l[j]? = some (k, v) := by simpa using e
    have hne : k ≠ p.1 := fun e2 => h.1 (by rw [← e2]; exact List.mem_map.2 ⟨(k, v), List.mem_of_getElem? e', rfl⟩)
    rw [fndK, if_neg hne, fndK_of h.2 e']
    congr 2
    omega
structure LK (ok : κ → Prop) (l : MK κ) : Prop where
  ok : ∀ p ∈ l, ok p.1
  nd : (l.map (·.1)).Nodup
theorem findKey_k [DecidableEq κ] (h : KT kt kv ok) {l : MK κ} (hl : LK ok l) {k : κ} (hk : ok k) (j : Nat) (w : World) : (Instr.findKey kt (kv k) (ensK kv j l)).run Tryz.prog w = .ok (fndK k l 0) w := by
  obtain ⟨lx, hx⟩ := h.lit k hk
  rcases h.K.find w hx (ensK kv j l) (fun e he => by
    obtain ⟨i, hi⟩ := List.getElem?_of_mem he
    rw [ensK_at] at hi
    obtain ⟨p, hp, rfl⟩ := Option.map_eq_some_iff.1 hi
    exact h.lit p.1 (hl.ok p (List.mem_of_getElem? hp))) with ⟨h1, h2⟩ | ⟨i, e, h1, h2, h3⟩
  · rw [h1, fndK_none fun p hp e => ?_]
    obtain ⟨i, hi⟩ := List.getElem?_of_mem hp
    have h3 : (ensK kv j l)[i]? = some { key := kv p.1, val := p.2, born := j + i } := by rw [ensK_at, hi]; rfl
    exact h2 _ (List.mem_of_getElem? h3) (by rw [e])
  · rw [ensK_at] at h2
    obtain ⟨p, hp, rfl⟩ := Option.map_eq_some_iff.1 h2
    have hpk : p.1 = k := h.inj _ _ h3
    rw [h1, fndK_of (v := p.2) hl.nd (by rw [hp, ← hpk]), Nat.zero_add]
def MP (kv : κ → Value) (w : World) (b : Nat) (l : MK κ) : Prop := w.heap[b]? = some (.map (ensK kv 0 l).toArray l.length)
def setM (kv : κ → Value) (w : World) (b : Nat) (l : MK κ) : World := { w with heap := w.heap.setIfInBounds b (.map (ensK kv 0 l).toArray l.length) }
theorem MP.lt {w : World} {b : Nat} {l : MK κ} (h : MP kv w b l) : b < w.heap.size := heap_lt h
theorem MP.keep {w V : World} {b : Nat} {l : MK κ} (h : MP kv w b l) (hk : V.heap[b]? = w.heap[b]?) : MP kv V b l := hk.trans h
theorem MP.made (kv : κ → Value) (w : World) : MP kv (w.alloc (.map #[] 0)) w.heap.size [] := World.alloc_heap_new w _
theorem MP.set {w : World} {b : Nat} {l m : MK κ} (h : MP kv w b l) : MP kv (setM kv w b m) b m := by
  unfold MP setM
  simp [h.lt]
theorem setM_other {w : World} {b j : Nat} {m : MK κ} (h : j ≠ b) : (setM kv w b m).heap[j]? = w.heap[j]? := by
  unfold setM
  simp [Ne.symm h]
theorem setM_size (w : World) (b : Nat) (m : MK κ) : (setM kv w b m).heap.size = w.heap.size := by simp [setM]
theorem grown_setM (w : World) (b : Nat) (m : MK κ) : w.grownBy (setM kv w b m) (some b) := ⟨rfl, rfl, rfl, by simp [setM], fun i _ hne => setM_other (by rintro rfl; exact hne rfl)⟩
theorem lookup_k [DecidableEq κ] (h : KT kt kv ok) {w : World} {b : Nat} {l : MK κ} (hm : MP kv w b l) (hl : LK ok l) {t e : TypeId} {z : Value} (ht : Tryz.prog.underlying t = some (.map kt e)) (hz : (zeroValue e).run Tryz.prog w = .ok z w) {k : κ} (hk : ok k) :
    (Instr.lookup t (.map (some b)) (kv k) false).run Tryz.prog w = .ok ((kget l k).getD z) w ∧ (Instr.lookup t (.map (some b)) (kv k) true).run Tryz.prog w = .ok (.tuple #[(kget l k).getD z, .bool (kget l k).isSome]) w := by
  have hf := findKey_k h hl hk 0 w
  obtain ⟨lx, hx⟩ := h.lit k hk
  have hc := fun em => h.K.check w em hx
  have hg := Go.MapKept.run_getObj_map (P := Tryz.prog) hm
  unfold Instr.lookup
  unfold kget
  cases hq : fndK k l 0 with
  | none =>
    rw [hq] at hf
    simp [run_underlying ht, hg, hc, hf, hz, Result.andThen]
  | some p =>
    obtain ⟨i, v⟩ := p
    rw [hq] at hf
    simp [run_underlying ht, hg, hc, hf, Result.andThen]
theorem update_k [DecidableEq κ] (h : KT kt kv ok) {w : World} {b : Nat} {l : MK κ} (hm : MP kv w b l) (hl : LK ok l) {t e : TypeId} (ht : Tryz.prog.underlying t = some (.map kt e)) {k : κ} (hk : ok k) (hn : fndK k l 0 = none) (v : Value) :
    (Instr.mapUpdate t (.map (some b)) (kv k) v).run Tryz.prog w = .ok () (setM kv w b (l ++ [(k, v)])) := by
  have hf := findKey_k h hl hk 0 w
  obtain ⟨lx, hx⟩ := h.lit k hk
  have hc := fun em => h.K.check w em hx
  have hg := Go.MapKept.run_getObj_map (P := Tryz.prog) hm
  have hs := fun o => Go.MapKept.run_setObj_map (P := Tryz.prog) o hm
  unfold Instr.mapUpdate
  unfold setM
  rw [hn] at hf
  simp [run_underlying ht, hg, hc, hf, hs, Result.andThen, ensK_app]
theorem fndK_mem [DecidableEq κ] {k : κ} : ∀ {l : MK κ} {i : Nat}, fndK k l i = none ↔ ∀ p ∈ l, p.1 ≠ k
  | [], _ => by simp [fndK]
  | p :: l, i => by
    by_cases hk : k = p.1
    · simp [fndK, hk]
    · simp [fndK, hk, fndK_mem (l := l), Ne.symm hk]
theorem LK.nil : LK ok ([] : MK κ) := ⟨by simp, by simp⟩
theorem LK.snoc [DecidableEq κ] {l : MK κ} (h : LK ok l) {k : κ} (hk : ok k) (hn : fndK k l 0 = none) (v : Value) : LK ok (l ++ [(k, v)]) := by
  refine ⟨fun p hp => ?_, ?_⟩
  · rcases List.mem_append.1 hp with hp | hp
    · exact h.ok p hp
    · simp at hp; subst hp; exact hk
  · rw [List.map_append, List.nodup_append]
    refine ⟨h.nd, by simp, fun a ha b hb => ?_⟩
    simp at hb
    subst hb
    obtain ⟨p, hp, rfl⟩ := List.mem_map.1 ha
    exact fndK_mem.1 hn p hp
end
end Go.Proofs.YtgboboljgcfggaaGreatDoor
namespace Go.Proofs.YtgboboljgcfggaaGreatDoor
structure PB where
  cap : Int
  param : Bool
  ins : List Ins
deriving DecidableEq
structure PC where
  label : T
  blocks : List PB
  decls : List Dcl
deriving DecidableEq
structure Sp where
  code : Nat
  block : Int
deriving DecidableEq
def findC : List PC → Nat → T → Int → Option Sp
  | [], _, _, _ => none
  | c :: l, i, p, n => match (if c.label = p then c.decls.find? (fun d => d.id == n) else none) with
    | some d => some ⟨i, d.block⟩
    | none => findC l (i + 1) p n
def tgt (l : List PC) (s : Sp) (x : Ins) : Option (Option Sp) :=
  if x.op = 4 then some (findC l 0 x.name x.a) else if x.op = 5 then some (some ⟨s.code, x.a⟩) else none
def addS (k : List Sp) (x : Sp) : List Sp := if x ∈ k then k else k ++ [x]
def addAll : List Sp → List (Option Sp) → Option (List Sp)
  | k, [] => some k
  | _, none :: _ => none
  | k, some x :: r => addAll (addS k x) r
def blkAt (l : List PC) (s : Sp) : PB := match l[s.code]? with
  | some c => c.blocks.getD s.block.toNat ⟨0, false, []⟩
  | none => ⟨0, false, []⟩
def bfs (l : List PC) : Nat → Nat → List Sp → Option (Option (List Sp))
  | 0, _, _ => none
  | f + 1, i, k => match k[i]? with
    | none => some (some k)
    | some s => match addAll k ((blkAt l s).ins.filterMap (tgt l s)) with
      | none => some none
      | some k' => bfs l f (i + 1) k'
def rootsK (l : List PC) : List Sp → List (T × Int) → Option (List Sp)
  | k, [] => some k
  | k, n :: r => match findC l 0 n.1 n.2 with
    | none => none
    | some s => rootsK l (addS k s) r
def SpOk (l : List PC) (s : Sp) : Prop := ∃ c, l[s.code]? = some c ∧ 0 ≤ s.block ∧ s.block < c.blocks.length
structure CsOk (l : List PC) : Prop where
  d : ∀ c ∈ l, ∀ d ∈ c.decls, 0 ≤ d.block ∧ d.block < c.blocks.length
  x : ∀ c ∈ l, ∀ b ∈ c.blocks, ∀ x ∈ b.ins, x.op = 5 → 0 ≤ x.a ∧ x.a < c.blocks.length
theorem findC_ok {l0 : List PC} (h : CsOk l0) : ∀ (l : List PC) (i : Nat) (p : T) (n : Int) (s : Sp), (∀ j c, l[j]? = some c → l0[i + j]? = some c) → findC l i p n = some s → SpOk l0 s
  | [], _, _, _, _, _, e => by cases e
  | c :: l, i, p, n, s, hl, e => by
    rw [findC] at e
    have hc := hl 0 c rfl
    split at e
    · rename_i d hd
      cases e
      have hm : d ∈ c.decls := by
        split at hd
        · exact List.mem_of_find?_eq_some hd
        · cases hd
      exact ⟨c, hc, h.d c (List.mem_of_getElem? hc) d hm⟩
    · exact findC_ok h l (i + 1) p n s (fun j c' hj => by
        have := hl (j + 1) c' (by simpa using hj)
        rw [show i + 1 + j = i + (j + 1) from by omega]
        exact this) e
theorem blkAt_ok {l : List PC} {s : Sp} (h : SpOk l s) : ∃ c, l[s.code]? = some c ∧ blkAt l s ∈ c.blocks := by
  obtain ⟨c, hc, h1, h2⟩ := h
  refine ⟨c, hc, ?_⟩
  unfold blkAt
  rw [hc]
  simp only
  have h3 : s.block.toNat < c.blocks.length := by omega
  rw [List.getD_eq_getElem?_getD, List.getElem?_eq_getElem h3]
  exact List.getElem_mem h3
theorem tgt_ok {l : List PC} (h : CsOk l) {s : Sp} (hs : SpOk l s) {x : Ins} (hx : x ∈ (blkAt l s).ins) {t : Sp} (e : tgt l s x = some (some t)) : SpOk l t := by
  unfold tgt at e
  split at e
  · simp only [Option.some.injEq] at e
    exact findC_ok h l 0 _ _ _ (fun j c hj => by simpa using hj) e
  · split at e
    · rename_i h5
      simp only [Option.some.injEq] at e
      subst e
      obtain ⟨c, hc, hb⟩ := blkAt_ok hs
      exact ⟨c, hc, h.x c (List.mem_of_getElem? hc) _ hb x hx h5⟩
    · cases e
theorem mem_addS {k : List Sp} {x y : Sp} : y ∈ addS k x ↔ y ∈ k ∨ y = x := by
  unfold addS
  split
  · rename_i h
    exact ⟨.inl, fun h2 => h2.elim id (fun e => e ▸ h)⟩
  · simp
theorem nodup_addS {k : List Sp} {x : Sp} (h : k.Nodup) : (addS k x).Nodup := by
  unfold addS
  split
  · exact h
  · rename_i hx
    rw [List.nodup_append]
    refine ⟨h, by simp, ?_⟩
    intro a ha b hb
    simp at hb
    subst hb
    exact fun e => hx (e ▸ ha)
theorem addS_pre (k : List Sp) (x : Sp) : ∃ e, addS k x = k ++ e := by
  unfold addS
  split
  · exact ⟨[], by simp⟩
  · exact ⟨[x], rfl⟩
theorem addAll_pre : ∀ (r : List (Option Sp)) (k k' : List Sp), addAll k r = some k' → ∃ e, k' = k ++ e
  | [], k, k', h => by cases h; exact ⟨[], by simp⟩
  | none :: _, _, _, h => by cases h
  | some x :: r, k, k', h => by
    rw [addAll] at h
    obtain ⟨e, he⟩ := addAll_pre r _ _ h
    obtain ⟨e2, he2⟩ := addS_pre k x
    exact ⟨e2 ++ e, by rw [he, he2, List.append_assoc]⟩
theorem addAll_mem : ∀ (r : List (Option Sp)) (k k' : List Sp), addAll k r = some k' → (∀ y, y ∈ k' ↔ y ∈ k ∨ some y ∈ r) ∧ none ∉ r
  | [], k, k', h => by cases h; exact ⟨fun y => by simp, by simp⟩
  | none :: _, _, _, h => by cases h
  | some x :: r, k, k', h => by
    rw [addAll] at h
    obtain ⟨h1, h2⟩ := addAll_mem r _ _ h
    refine ⟨fun y => ?_, by simpa using h2⟩
    rw [h1, mem_addS, List.mem_cons, Option.some.injEq]
    constructor
    · rintro ((h | h) | h)
      · exact .inl h
      · exact .inr (.inl h)
      · exact .inr (.inr h)
    · rintro (h | h | h)
      · exact .inl (.inl h)
      · exact .inl (.inr h)
      · exact .inr h
theorem addAll_nodup : ∀ (r : List (Option Sp)) (k k' : List Sp), addAll k r = some k' → k.Nodup → k'.Nodup
  | [], k, k', h, hk => by cases h; exact hk
  | none :: _, _, _, h, _ => by cases h
  | some x :: r, k, k', h, hk => by
    rw [addAll] at h
    exact addAll_nodup r _ _ h (nodup_addS hk)
def spots (l : List PC) : List Sp := l.zipIdx.flatMap fun (c, i) => (List.range c.blocks.length).map fun j : Nat => ⟨i, (j : Int)⟩
theorem mem_spots {l : List PC} {s : Sp} (h : SpOk l s) : s ∈ spots l := by
  obtain ⟨c, hc, h1, h2⟩ := h
  unfold spots
  rw [List.mem_flatMap]
  refine ⟨(c, s.code), ?_, ?_⟩
  · rw [List.mem_zipIdx_iff_getElem?]
    simpa using hc
  · rw [List.mem_map]
    refine ⟨s.block.toNat, ?_, ?_⟩
    · rw [List.mem_range]; omega
    · obtain ⟨a, b⟩ := s
      simp only at h1 ⊢
      congr
      omega
theorem len_le_of_sub {k m : List Sp} (hk : k.Nodup) (h : ∀ y ∈ k, y ∈ m) : k.length ≤ m.length := by
  induction k generalizing m with
  | nil => simp
  | cons x k ih =>
    rw [List.nodup_cons] at hk
    have hx : x ∈ m := h x (by simp)
    have h1 := ih hk.2 (m := m.erase x) (fun y hy => by
      rw [List.mem_erase_of_ne]
      · exact h y (by simp [hy])
      · intro e; exact hk.1 (e ▸ hy))
    rw [List.length_erase_of_mem hx] at h1
    have := List.length_pos_of_mem hx
    simp only [List.length_cons]
    omega
structure Kn (l : List PC) (k : List Sp) : Prop where
  nd : k.Nodup
  ok : ∀ s ∈ k, SpOk l s
theorem Kn.len {l : List PC} {k : List Sp} (h : Kn l k) : k.length ≤ (spots l).length := len_le_of_sub h.nd fun y hy => mem_spots (h.ok y hy)
theorem Kn.step {l : List PC} (hl : CsOk l) {k k' : List Sp} (h : Kn l k) {s : Sp} (hs : s ∈ k) (e : addAll k ((blkAt l s).ins.filterMap (tgt l s)) = some k') : Kn l k' := by
  refine ⟨addAll_nodup _ _ _ e h.nd, fun y hy => ?_⟩
  rcases ((addAll_mem _ _ _ e).1 y).1 hy with h1 | h1
  · exact h.ok y h1
  · obtain ⟨x, hx, e2⟩ := List.mem_filterMap.1 h1
    exact tgt_ok hl (h.ok s hs) hx e2
theorem bfs_ends {l : List PC} (hl : CsOk l) : ∀ (f i : Nat) (k : List Sp), Kn l k → i ≤ k.length → (spots l).length < f + i → bfs l f i k ≠ none
  | 0, i, k, h, hi, hf => by have := h.len; omega
  | f + 1, i, k, h, hi, hf => by
    rw [bfs]
    split
    · simp
    · rename_i s hs
      split
      · simp
      · rename_i k' hk'
        obtain ⟨e, he⟩ := addAll_pre _ _ _ hk'
        have hlt := (List.getElem?_eq_some_iff.1 hs).1
        exact bfs_ends hl f (i + 1) k' (h.step hl (List.mem_of_getElem? hs) hk') (by rw [he, List.length_append]; omega) (by omega)
structure Fnd (l : List PC) (i : Nat) (k r : List Sp) : Prop where
  pre : ∃ e, r = k ++ e
  kn : Kn l r
  cl : ∀ j s, i ≤ j → r[j]? = some s → ∀ x ∈ (blkAt l s).ins, ∀ t, tgt l s x = some t → ∃ u, t = some u ∧ u ∈ r
  src : ∀ j t, k.length ≤ j → r[j]? = some t → ∃ j' s x, j' < j ∧ r[j']? = some s ∧ x ∈ (blkAt l s).ins ∧ tgt l s x = some (some t)
theorem addAll_src : ∀ (r : List (Option Sp)) (k k' : List Sp), addAll k r = some k' → ∀ j t, k.length ≤ j → k'[j]? = some t → some t ∈ r
  | [], k, k', h, j, t, hj, e => by
    cases h
    have := (List.getElem?_eq_some_iff.1 e).1
    omega
  | none :: _, _, _, h, _, _, _, _ => by cases h
  | some x :: r, k, k', h, j, t, hj, e => by
    rw [addAll] at h
    by_cases h1 : (addS k x).length ≤ j
    · exact List.mem_cons_of_mem _ (addAll_src r _ _ h j t h1 e)
    · obtain ⟨e1, he1⟩ := addAll_pre r _ _ h
      rw [he1, List.getElem?_append_left (by omega)] at e
      have h2 := List.mem_of_getElem? e
      unfold addS at h1 e
      split at e
      · rename_i h3
        rw [if_pos h3] at h1
        omega
      · rename_i h3
        rw [if_neg h3] at h1
        simp only [List.length_append, List.length_cons, List.length_nil] at h1
        obtain rfl : j = k.length := by omega
        simp at e
        simp [e]
theorem bfs_fnd {l : List PC} (hl : CsOk l) : ∀ (f i : Nat) (k r : List Sp), Kn l k → i ≤ k.length → bfs l f i k = some (some r) → Fnd l i k r
  | 0, _, _, _, _, _, e => by cases e
  | f + 1, i, k, r, h, hi, e => by
    rw [bfs] at e
    split at e
    · rename_i hs
      cases e
      have hlen := List.getElem?_eq_none_iff.1 hs
      refine ⟨⟨[], by simp⟩, h, fun j s hj e => ?_, fun j t hj e => ?_⟩
      · have := (List.getElem?_eq_some_iff.1 e).1
        omega
      · have := (List.getElem?_eq_some_iff.1 e).1
        omega
    · rename_i s hs
      have hlt := (List.getElem?_eq_some_iff.1 hs).1
      split at e
      · cases e
      · rename_i k' hk'
        obtain ⟨e1, he1⟩ := addAll_pre _ _ _ hk'
        have H := bfs_fnd hl f (i + 1) k' r (h.step hl (List.mem_of_getElem? hs) hk') (by rw [he1, List.length_append]; omega) e
        obtain ⟨e2, he2⟩ := H.pre
        have hrs : r[i]? = some s := by rw [he2, he1, List.append_assoc, List.getElem?_append_left hlt]; exact hs
        refine ⟨⟨e1 ++ e2, by rw [he2, he1, List.append_assoc]⟩, H.kn, fun j s' hj hjs => ?_, fun j t hj hjt => ?_⟩
        · by_cases h1 : j = i
          · subst h1
            rw [hrs] at hjs
            cases hjs
            intro x hx t ht
            have hm : t ∈ (blkAt l s).ins.filterMap (tgt l s) := List.mem_filterMap.2 ⟨x, hx, ht⟩
            obtain ⟨m1, m2⟩ := addAll_mem _ _ _ hk'
            cases t with
            | none => exact absurd hm m2
            | some u => exact ⟨u, rfl, by rw [he2, List.mem_append]; exact .inl ((m1 u).2 (.inr hm))⟩
          · exact H.cl j s' (by omega) hjs
        · by_cases h1 : k'.length ≤ j
          · exact H.src j t h1 hjt
          · have hjt2 : k'[j]? = some t := by rw [he2, List.getElem?_append_left (by omega)] at hjt; exact hjt
            have hm := addAll_src _ _ _ hk' j t hj hjt2
            obtain ⟨x, hx, e3⟩ := List.mem_filterMap.1 hm
            exact ⟨i, s, x, by omega, hrs, hx, e3⟩
def relab (l : List PC) (k : List Sp) (s : Sp) (x : Ins) : Ins := match tgt l s x with
  | some (some t) => ⟨x.op, k.idxOf t, x.b, []⟩
  | _ => x
def blkP (l : List PC) (k : List Sp) (s : Sp) : PB := ⟨(blkAt l s).cap, (blkAt l s).param, (blkAt l s).ins.map (relab l k s)⟩
def progB (l : List PC) (k : List Sp) : List PB := k.map (blkP l k)
theorem rootsK_kn {l : List PC} (hl : CsOk l) : ∀ (r : List (T × Int)) (k k' : List Sp), Kn l k → rootsK l k r = some k' → Kn l k'
  | [], _, _, h, e => by cases e; exact h
  | n :: r, k, k', h, e => by
    rw [rootsK] at e
    split at e
    · cases e
    · rename_i s hs
      refine rootsK_kn hl r _ _ ⟨nodup_addS h.nd, fun y hy => ?_⟩ e
      rcases mem_addS.1 hy with h1 | rfl
      · exact h.ok y h1
      · exact findC_ok hl l 0 _ _ _ (fun j c hj => by simpa using hj) hs
theorem rootsK_mem {l : List PC} : ∀ (r : List (T × Int)) (k k' : List Sp), rootsK l k r = some k' → (∀ n ∈ r, ∃ s, findC l 0 n.1 n.2 = some s ∧ s ∈ k') ∧ (∀ s ∈ k', s ∈ k ∨ ∃ n ∈ r, findC l 0 n.1 n.2 = some s) ∧ ∀ s ∈ k, s ∈ k'
  | [], k, k', e => by cases e; exact ⟨by simp, fun s h => .inl h, fun s h => h⟩
  | n :: r, k, k', e => by
    rw [rootsK] at e
    split at e
    · cases e
    · rename_i s hs
      obtain ⟨h1, h2, h3⟩ := rootsK_mem r _ _ e
      refine ⟨fun m hm => ?_, fun t ht => ?_, fun t ht => h3 t (mem_addS.2 (.inl ht))⟩
      · rcases List.mem_cons.1 hm with rfl | hm
        · exact ⟨s, hs, h3 s (mem_addS.2 (.inr rfl))⟩
        · exact h1 m hm
      · rcases h2 t ht with h | ⟨m, hm, h⟩
        · rcases mem_addS.1 h with h | rfl
          · exact .inl h
          · exact .inr ⟨n, by simp, hs⟩
        · exact .inr ⟨m, by simp [hm], h⟩
structure Nu (n : Nat) (k : List Int) : Prop where
  nd : k.Nodup
  ok : ∀ y ∈ k, 0 ≤ y ∧ y < n
theorem lenI_le {k m : List Int} (hk : k.Nodup) (h : ∀ y ∈ k, y ∈ m) : k.length ≤ m.length := by
  induction k generalizing m with
  | nil => simp
  | cons x k ih =>
    rw [List.nodup_cons] at hk
    have hx : x ∈ m := h x (by simp)
    have h1 := ih hk.2 (m := m.erase x) (fun y hy => by
      rw [List.mem_erase_of_ne]
      · exact h y (by simp [hy])
      · intro e; exact hk.1 (e ▸ hy))
    rw [List.length_erase_of_mem hx] at h1
    have := List.length_pos_of_mem hx
    simp only [List.length_cons]
    omega
def nums (n : Nat) : List Int := (List.range n).map fun j : Nat => (j : Int)
theorem mem_nums {n : Nat} {y : Int} : y ∈ nums n ↔ 0 ≤ y ∧ y < n := by
  unfold nums
  rw [List.mem_map]
  constructor
  · rintro ⟨j, hj, rfl⟩
    rw [List.mem_range] at hj
    omega
  · intro h
    exact ⟨y.toNat, by rw [List.mem_range]; omega, by omega⟩
theorem nums_len (n : Nat) : (nums n).length = n := by simp [nums]
theorem Nu.len {n : Nat} {k : List Int} (h : Nu n k) : k.length ≤ n := by
  have := lenI_le h.nd (m := nums n) fun y hy => mem_nums.2 (h.ok y hy)
  rwa [nums_len] at this
theorem findC_some : ∀ (l : List PC) (i : Nat) (p : T) (n : Int) (s : Sp), findC l i p n = some s → ∃ j c d, l[j]? = some c ∧ s = ⟨i + j, d.block⟩ ∧ c.label = p ∧ c.decls.find? (fun d => d.id == n) = some d
  | [], _, _, _, _, e => by cases e
  | c :: l, i, p, n, s, e => by
    rw [findC] at e
    split at e
    · rename_i d hd
      cases e
      split at hd
      · rename_i hp
        exact ⟨0, c, d, rfl, rfl, hp, hd⟩
      · cases hd
    · obtain ⟨j, c', d, h1, h2, h3, h4⟩ := findC_some l (i + 1) p n s e
      exact ⟨j + 1, c', d, by simpa using h1, by rw [h2]; congr 1; omega, h3, h4⟩
theorem findC_of : ∀ (l : List PC) (i : Nat) (p : T) (n : Int), (l.map PC.label).Nodup → ∀ (j : Nat) (c : PC) (d : Dcl), l[j]? = some c → c.label = p → c.decls.find? (fun d => d.id == n) = some d → findC l i p n = some ⟨i + j, d.block⟩
  | [], _, _, _, _, _, _, _, e, _, _ => by simp at e
  | c :: l, i, p, n, h, 0, c', d, e, hp, hd => by
    cases e
    rw [findC, if_pos hp, hd]
    rfl
  | c :: l, i, p, n, h, j + 1, c', d, e, hp, hd => by
    rw [List.map_cons, List.nodup_cons] at h
    have e' : l[j]? = some c' := by simpa using e
    have hne : c.label ≠ p := fun h2 => h.1 (by rw [h2, ← hp]; exact List.mem_map.2 ⟨c', List.mem_of_getElem? e', rfl⟩)
    rw [findC, if_neg hne]
    simp only
    rw [findC_of l (i + 1) p n h.2 j c' d e' hp hd]
    congr 2
    omega
structure Emb (l' l : List PC) (σ : Nat → Nat) : Prop where
  inj : ∀ i j, i < l'.length → j < l'.length → σ i = σ j → i = j
  at' : ∀ (i : Nat) c, l'[i]? = some c → l[σ i]? = some c
  nd : (l.map PC.label).Nodup
def sg (σ : Nat → Nat) (s : Sp) : Sp := ⟨σ s.code, s.block⟩
section
variable {l' l : List PC} {σ : Nat → Nat}
theorem Emb.fc (h : Emb l' l σ) {p : T} {n : Int} {s : Sp} (e : findC l' 0 p n = some s) : findC l 0 p n = some (sg σ s) := by
  obtain ⟨j, c, d, h1, rfl, h3, h4⟩ := findC_some _ _ _ _ _ e
  rw [findC_of l 0 p n h.nd (σ j) c d (h.at' j c h1) h3 h4]
  simp [sg]
theorem SpOk.lt {l : List PC} {s : Sp} (h : SpOk l s) : s.code < l.length := by
  obtain ⟨c, hc, -⟩ := h
  exact (List.getElem?_eq_some_iff.1 hc).1
theorem Emb.blk (h : Emb l' l σ) {s : Sp} (hs : SpOk l' s) : blkAt l (sg σ s) = blkAt l' s := by
  obtain ⟨c, hc, -⟩ := hs
  unfold blkAt
  rw [hc, show (sg σ s).code = σ s.code from rfl, h.at' _ _ hc]
  rfl
theorem Emb.tg (h : Emb l' l σ) {s t : Sp} {x : Ins} (e : tgt l' s x = some (some t)) : tgt l (sg σ s) x = some (some (sg σ t)) := by
  unfold tgt at e ⊢
  split at e
  · rename_i h4
    rw [if_pos h4]
    simp only [Option.some.injEq] at e ⊢
    exact h.fc e
  · rename_i h4
    rw [if_neg h4]
    split at e
    · rename_i h5
      rw [if_pos h5]
      simp only [Option.some.injEq] at e ⊢
      rw [← e]
      rfl
    · cases e
theorem tgt_none {l : List PC} {s : Sp} {x : Ins} : tgt l s x = none ↔ x.op ≠ 4 ∧ x.op ≠ 5 := by
  unfold tgt
  by_cases h4 : x.op = 4
  · simp [h4]
  · by_cases h5 : x.op = 5
    · simp [h5]
    · simp [h4, h5]
theorem Emb.fm (h : Emb l' l σ) (s : Sp) : ∀ (xs : List Ins), none ∉ xs.filterMap (tgt l' s) → xs.filterMap (tgt l (sg σ s)) = (xs.filterMap (tgt l' s)).map (Option.map (sg σ))
  | [], _ => rfl
  | x :: xs, hn => by
    rw [List.filterMap_cons] at hn ⊢
    rw [List.filterMap_cons]
    cases hx : tgt l' s x with
    | none =>
      rw [hx] at hn
      have h1 := tgt_none.1 hx
      rw [(tgt_none (l := l) (s := sg σ s)).2 h1]
      exact Emb.fm h s xs hn
    | some t =>
      rw [hx] at hn
      cases t with
      | none => simp at hn
      | some t =>
        rw [h.tg hx]
        simp only [List.map_cons, Option.map_some]
        rw [Emb.fm h s xs (fun h2 => hn (List.mem_cons_of_mem _ h2))]
end
end Go.Proofs.YtgboboljgcfggaaGreatDoor
namespace Go.Proofs.YtgboboljgcfggaaGreatDoor
open Go.RowKit
def cI (x y : Int) : Int := if x < y then -1 else if y < x then 1 else 0
def cS (x y : T) : Int := if x < y then -1 else if x = y then 0 else 1
def nmLt (p : T) (i : Int) (q : T) (j : Int) : Bool := decide (p < q) || (p == q && decide (i < j))
def cN (p : T) (i : Int) (q : T) (j : Int) : Int := if cS p q ≠ 0 then cS p q else cI i j
theorem cN_lt (p : T) (i : Int) (q : T) (j : Int) : decide (0 ≤ cN p i q j) = !nmLt p i q j := by
  unfold cN cS cI nmLt
  by_cases h1 : p < q
  · simp [h1]
  · by_cases h2 : p = q
    · subst h2
      by_cases h3 : i < j
      · simp [h1, h3]
      · by_cases h4 : j < i <;> simp [h1, h3, h4]
    · simp [h1, h2]
set_option maxRecDepth 100000 in
theorem cmpInt_any (x y : Int) (w : World) : Calls Tryz.prog 76 #[.int .i64 x, .int .i64 y] w fun e w' => e = .returned (.int .i64 (cI x y)) ∧ w' = w := by
  unfold cI
  by_cases h1 : x < y
  · rw [if_pos h1]
    go_enter Tryz.func76, Tryz.ntmps76
    go_wp2
    go_ret
    exact ⟨rfl, rfl⟩
  · rw [if_neg h1]
    by_cases h2 : y < x
    · rw [if_pos h2]
      go_enter Tryz.func76, Tryz.ntmps76
      go_wp2
      go_ret
      exact ⟨rfl, rfl⟩
    · rw [if_neg h2]
      go_enter Tryz.func76, Tryz.ntmps76
      go_wp2
      go_ret
      exact ⟨rfl, rfl⟩
set_option maxRecDepth 100000 in
theorem cmpStr_any (x y : T) (w : World) : Calls Tryz.prog 75 #[tv x, tv y] w fun e w' => e = .returned (.int .i64 (cS x y)) ∧ w' = w := by
  unfold cS
  by_cases h1 : x < y
  · rw [if_pos h1]
    have t1 : Op.bytesLess x y = true := by rw [bytesLess_eq]; simpa using h1
    clear h1
    go_enter Tryz.func75, Tryz.ntmps75
    go_wp2
    go_ret
    exact ⟨rfl, rfl⟩
  · rw [if_neg h1]
    have t1 : Op.bytesLess x y = false := by rw [bytesLess_eq]; simpa using h1
    clear h1
    by_cases h2 : x = y
    · rw [if_pos h2]
      have t2 : (x == y) = true := by simpa using h2
      clear h2
      go_enter Tryz.func75, Tryz.ntmps75
      go_wp2
      go_ret
      exact ⟨rfl, rfl⟩
    · rw [if_neg h2]
      have t2 : (x == y) = false := by simpa using h2
      clear h2
      go_enter Tryz.func75, Tryz.ntmps75
      go_wp2
      go_ret
      exact ⟨rfl, rfl⟩
set_option maxRecDepth 100000 in
theorem or2_any (x y : Int) (g : Nat) (w : World) (c0 : w.cell? ⟨g, 0, none⟩ = some (.int .i64 x)) (c1 : w.cell? ⟨g, 1, none⟩ = some (.int .i64 y)) : Calls Tryz.prog 74 #[.slice (some ⟨g, 0, none⟩) 2 2] w fun e w' => e = .returned (.int .i64 (if x ≠ 0 then x else y)) ∧ w' = w := by
  by_cases h1 : x = 0
  · rw [if_neg (by simpa using h1)]
    subst h1
    by_cases h2 : y = 0
    · subst h2
      go_enter Tryz.func74, Tryz.ntmps74
      go_wp2
      refine wp_loop_rounds 3 ?_
      rw [rounds_succ]
      go_wp2
      rw [rounds_succ]
      go_wp2
      rw [rounds_succ]
      go_wp2
      go_ret
      exact ⟨rfl, rfl⟩
    · have t2 : (y != 0) = true := by simpa using h2
      clear h2
      go_enter Tryz.func74, Tryz.ntmps74
      go_wp2
      refine wp_loop_rounds 2 ?_
      rw [rounds_succ]
      go_wp2
      rw [rounds_succ]
      go_wp2
      go_ret
      exact ⟨rfl, rfl⟩
  · rw [if_pos (by simpa using h1)]
    have t2 : (x != 0) = true := by simpa using h1
    clear h1
    go_enter Tryz.func74, Tryz.ntmps74
    go_wp2
    refine wp_loop_rounds 1 ?_
    rw [rounds_succ]
    go_wp2
    go_ret
    exact ⟨rfl, rfl⟩
end Go.Proofs.YtgboboljgcfggaaGreatDoor
namespace Go.Proofs.YtgboboljgcfggaaGreatDoor
def nlt (a b : Stt) : Prop := nmLt a.pack a.id b.pack b.id = true
theorem nlt_iff {a b : Stt} : nlt a b ↔ a.pack < b.pack ∨ a.pack = b.pack ∧ a.id < b.id := by
  unfold nlt nmLt
  simp
theorem nlt_irr (a : Stt) : ¬ nlt a a := by
  rw [nlt_iff]
  rintro (h | ⟨-, h⟩)
  · exact List.lt_irrefl _ h
  · omega
theorem nlt_tr {a b c : Stt} (h : nlt a b) (k : nlt b c) : nlt a c := by
  rw [nlt_iff] at *
  rcases h with h | ⟨h, h'⟩ <;> rcases k with k | ⟨k, k'⟩
  · exact .inl (List.lt_trans h k)
  · exact .inl (k ▸ h)
  · exact .inl (h ▸ k)
  · exact .inr ⟨h.trans k, by omega⟩
theorem nlt_tri (a b : Stt) : nlt a b ∨ (a.pack = b.pack ∧ a.id = b.id) ∨ nlt b a := by
  rw [nlt_iff, nlt_iff]
  by_cases h1 : a.pack < b.pack
  · exact .inl (.inl h1)
  · by_cases h2 : b.pack < a.pack
    · exact .inr (.inr (.inl h2))
    · have e : a.pack = b.pack := List.le_antisymm h2 h1
      rcases Int.lt_trichotomy a.id b.id with h | h | h
      · exact .inl (.inr ⟨e, h⟩)
      · exact .inr (.inl ⟨e, h⟩)
      · exact .inr (.inr (.inr ⟨e.symm, h⟩))
def insS : List Stt → Stt → List Stt
  | [], s => [s]
  | x :: l, s => if nmLt x.pack x.id s.pack s.id = true then x :: insS l s else if x.pack = s.pack ∧ x.id = s.id then x :: l else s :: x :: l
theorem insS_mem {s : Stt} : ∀ {l : List Stt}, l.Pairwise nlt → (∀ x ∈ l, x.pack = s.pack → x.id = s.id → x = s) → ∀ y, y ∈ insS l s ↔ y ∈ l ∨ y = s
  | [], _, _, y => by simp [insS]
  | x :: l, h, hf, y => by
    rw [List.pairwise_cons] at h
    rw [insS]
    split
    · rw [List.mem_cons, insS_mem h.2 (fun z hz => hf z (by simp [hz])), List.mem_cons]
      constructor
      · rintro (h | h | h) <;> simp [h]
      · rintro ((h | h) | h) <;> simp [h]
    · split
      · rename_i h2
        have := hf x (by simp) h2.1 h2.2
        subst this
        simp only [List.mem_cons]
        exact ⟨.inl, fun h => h.elim id .inl⟩
      · simp [or_comm]
theorem insS_srt {s : Stt} : ∀ {l : List Stt}, l.Pairwise nlt → (∀ x ∈ l, x.pack = s.pack → x.id = s.id → x = s) → (insS l s).Pairwise nlt
  | [], _, _ => by simp [insS]
  | x :: l, h, hf => by
    have h0 := h
    rw [List.pairwise_cons] at h
    rw [insS]
    split
    · rename_i h1
      rw [List.pairwise_cons]
      refine ⟨fun y hy => ?_, insS_srt h.2 fun z hz => hf z (by simp [hz])⟩
      rcases (insS_mem h.2 (fun z hz => hf z (by simp [hz])) y).1 hy with h2 | rfl
      · exact h.1 y h2
      · exact h1
    · rename_i h1
      split
      · exact h0
      · rename_i h2
        rw [List.pairwise_cons]
        have hs : nlt s x := by
          rcases nlt_tri s x with h3 | h3 | h3
          · exact h3
          · exact absurd ⟨h3.1.symm, h3.2.symm⟩ h2
          · exact absurd h3 h1
        refine ⟨fun y hy => ?_, h0⟩
        rcases List.mem_cons.1 hy with rfl | hy
        · exact hs
        · exact nlt_tr hs (h.1 y hy)
theorem srt_uniq : ∀ {l m : List Stt}, l.Pairwise nlt → m.Pairwise nlt → (∀ y, y ∈ l ↔ y ∈ m) → l = m
  | [], [], _, _, _ => rfl
  | [], y :: m, _, _, h => by have := (h y).2 (by simp); cases this
  | x :: l, [], _, _, h => by have := (h x).1 (by simp); cases this
  | x :: l, y :: m, hl, hm, h => by
    rw [List.pairwise_cons] at hl hm
    have e : x = y := by
      rcases List.mem_cons.1 ((h x).1 (by simp)) with e | h1
      · exact e
      · rcases List.mem_cons.1 ((h y).2 (by simp)) with e | h2
        · exact e.symm
        · exact absurd (nlt_tr (hm.1 x h1) (hl.1 y h2)) (nlt_irr _)
    subst e
    rw [srt_uniq hl.2 hm.2 fun z => ?_]
    constructor
    · intro hz
      rcases List.mem_cons.1 ((h z).1 (by simp [hz])) with e | h1
      · subst e; exact absurd (hl.1 z hz) (nlt_irr _)
      · exact h1
    · intro hz
      rcases List.mem_cons.1 ((h z).2 (by simp [hz])) with e | h1
      · subst e; exact absurd (hm.1 z hz) (nlt_irr _)
      · exact h1
def stOf (b : T × Int → Int) (n : T × Int) : Stt := ⟨n.1, n.2, b n⟩
theorem foldS {b : T × Int → Int} : ∀ (r done : List (T × Int)) (l : List Stt), l.Pairwise nlt → (∀ y, y ∈ l ↔ ∃ n ∈ done, y = stOf b n) → (r.foldl (fun l n => insS l (stOf b n)) l).Pairwise nlt ∧ ∀ y, y ∈ r.foldl (fun l n => insS l (stOf b n)) l ↔ ∃ n ∈ done ++ r, y = stOf b n
  | [], done, l, h, hm => ⟨h, by simpa using hm⟩
  | n :: r, done, l, h, hm => by
    rw [List.foldl_cons]
    have hf : ∀ x ∈ l, x.pack = (stOf b n).pack → x.id = (stOf b n).id → x = stOf b n := fun x hx e1 e2 => by
      obtain ⟨m, -, rfl⟩ := (hm x).1 hx
      obtain ⟨m1, m2⟩ := m
      obtain ⟨n1, n2⟩ := n
      simp only [stOf] at e1 e2
      subst e1
      subst e2
      rfl
    obtain ⟨a, c⟩ := foldS r (done ++ [n]) (insS l (stOf b n)) (insS_srt h hf) (fun y => by
      rw [insS_mem h hf, hm]
      constructor
      · rintro (⟨m, h1, h2⟩ | h1)
        · exact ⟨m, by simp [h1], h2⟩
        · exact ⟨n, by simp, h1⟩
      · rintro ⟨m, h1, h2⟩
        rcases List.mem_append.1 h1 with h1 | h1
        · exact .inl ⟨m, h1, h2⟩
        · simp at h1
          subst h1
          exact .inr h2)
    exact ⟨a, by simpa using c⟩
def startsOf (b : T × Int → Int) (r : List (T × Int)) : List Stt := r.foldl (fun l n => insS l (stOf b n)) []
theorem startsOf_srt (b : T × Int → Int) (r : List (T × Int)) : (startsOf b r).Pairwise nlt := (foldS r [] [] .nil (by simp)).1
theorem startsOf_mem (b : T × Int → Int) (r : List (T × Int)) (y : Stt) : y ∈ startsOf b r ↔ ∃ n ∈ r, y = stOf b n := by
  have := (foldS (b := b) r [] [] .nil (by simp)).2 y
  rw [List.nil_append] at this
  exact this
def cmpS : List Stt → List Stt
  | [] => []
  | [x] => [x]
  | x :: y :: l => if x = y then cmpS (y :: l) else x :: cmpS (y :: l)
theorem cmpS_mem : ∀ (l : List Stt) (y : Stt), y ∈ cmpS l ↔ y ∈ l
  | [], _ => by simp [cmpS]
  | [_], _ => by simp [cmpS]
  | x :: z :: l, y => by
    rw [cmpS]
    split
    · rename_i e
      subst e
      rw [cmpS_mem (x :: l) y]
      simp
    · rw [List.mem_cons, cmpS_mem (z :: l) y, List.mem_cons (a := y) (b := x)]
theorem cmpS_srt : ∀ (l : List Stt), l.Pairwise (fun a b => nlt a b ∨ a = b) → (cmpS l).Pairwise nlt
  | [], _ => by simp [cmpS]
  | [_], _ => by simp [cmpS]
  | x :: z :: l, h => by
    rw [List.pairwise_cons] at h
    rw [cmpS]
    split
    · exact cmpS_srt _ h.2
    · rename_i hne
      rw [List.pairwise_cons]
      refine ⟨fun y hy => ?_, cmpS_srt _ h.2⟩
      rw [cmpS_mem] at hy
      have h2 := h.2
      rw [List.pairwise_cons] at h2
      have hxz : nlt x z := (h.1 z (by simp)).resolve_right hne
      rcases List.mem_cons.1 hy with rfl | hy
      · exact hxz
      · rcases h2.1 y hy with h3 | rfl
        · exact nlt_tr hxz h3
        · exact hxz
theorem cmpS_eq {b : T × Int → Int} {r : List (T × Int)} {l : List Stt} (hp : l.Perm (r.map (stOf b))) (hs : l.Pairwise (fun a b => nlt a b ∨ a = b)) : cmpS l = startsOf b r := by
  refine srt_uniq (cmpS_srt l hs) (startsOf_srt b r) fun y => ?_
  rw [cmpS_mem, hp.mem_iff, startsOf_mem, List.mem_map]
  constructor
  · rintro ⟨n, h1, h2⟩; exact ⟨n, h1, h2.symm⟩
  · rintro ⟨n, h1, h2⟩; exact ⟨n, h1, h2.symm⟩
end Go.Proofs.YtgboboljgcfggaaGreatDoor
namespace Go.Proofs.YtgboboljgcfggaaGreatDoor
open Go.RowKit Go.Maps Go.WideMaps
structure CRd (w : World) (A : Option Addr) (L : List Cod) : Prop where
  rd : RD 3 Cod.cs w A L
  c : ∀ c ∈ L, c.Rd w
theorem CRd.gr {w w' : World} {A : Option Addr} {L : List Cod} (h : CRd w A L) (g : Gr w w') : CRd w' A L := ⟨h.rd.gr g, fun c hc => (h.c c hc).gr g⟩
theorem RD.cod {w : World} {A : Option Addr} {L : List Cod} (h : RD 3 Cod.cs w A L) {k : Nat} (hk : k < L.length) : ∃ a a1 : Addr, A = some a ∧ a.add (k * 3) = a1 ∧ a1.block < w.heap.size ∧ w.cell? a1 = some (.string ⟨L[k].label.toArray⟩) ∧ w.cell? ⟨a1.block, a1.off + 1, none⟩ = some (.slice L[k].bA L[k].bs.length L[k].bc) ∧ w.cell? ⟨a1.block, a1.off + 2, none⟩ = some (.slice L[k].dA L[k].ds.length L[k].dc) := by
  obtain ⟨a, e, hb, hc⟩ := h.at hk
  refine ⟨a, _, e, rfl, by rw [add_block]; exact hb, by simpa using hc 0 _ rfl, ?_, ?_⟩
  · rw [← fld_add _ 1 (by omega), add_add']; exact hc 1 _ rfl
  · rw [← fld_add _ 2 (by omega), add_add']; exact hc 2 _ rfl
def errK (L : List Cod) (k : Nat) : Int := match L[k]? with
  | none => 0
  | some c => if errC c ≠ 0 then errC c else if c.label ∈ (L.take k).map Cod.label then 7 else 0
def errL (L : List Cod) : Int := fe8 ((List.range L.length).map (errK L))
theorem ktT : KT (κ := T) 9 (fun t => tv t) (fun t => t.length ≤ maxLen) where
  K := string_keyed Tryz.underlying9
  lit k hk := ⟨_, keyOf_string_mk Tryz.underlying9 (s := ⟨k.toArray⟩) (by simpa [ByteArray.size] using hk)⟩
  inj a b h := by simpa using h
structure Nam where
  pack : T
  id : Int
deriving DecidableEq
def Nam.v (n : Nam) : Value := .agg #[.string ⟨n.pack.toArray⟩, .int .i64 n.id]
def Nam.Ok (n : Nam) : Prop := n.pack.length ≤ maxLen ∧ (Lit.int .i64 n.id).wf = true
def Sp.v (s : Sp) : Value := .agg #[iv s.code, iv s.block]
def Sp.Key (s : Sp) : Prop := (Lit.int .i64 s.code).wf = true ∧ (Lit.int .i64 s.block).wf = true
theorem laidOut' : laidOutB Tryz.prog = true := by kernel_rfl
theorem types_size : Tryz.prog.types.size = 257 := by kernel_rfl
theorem ktN : KT (κ := Nam) 33 Nam.v Nam.Ok where
  K := Keyed.of_law (deep_law_laid laidOut' (m := 2) (by omega) (of_decide_eq_true (by kernel_rfl)) (by kernel_rfl) (by rw [Tryz.underlying33]))
  lit k hk := by
    refine ⟨.string (keyBytes [.string k.pack, .int .i64 k.id]), ?_⟩
    unfold keyOf Nam.v
    rw [Tryz.underlying33]
    simp only
    rw [if_pos (by rw [show Tryz.prog.keyType 33 = true from by kernel_rfl]; simp [Value.formed, Tryz.underlying33]; kernel_rfl), types_size]
    have h3 : Tryz.prog.keyLits 257 3 [Value.int .i64 k.id] = some [.int .i64 k.id] := by
      unfold Program.keyLits
      simp [Tryz.underlying3, hk.2]
    have h9 : Tryz.prog.keyLits 257 9 [Value.string ⟨k.pack.toArray⟩] = some [.string k.pack] := by
      unfold Program.keyLits
      have := hk.1
      simp [Tryz.underlying9, ByteArray.size, this]
    unfold Program.keyLits
    rw [Tryz.underlying33]
    simp only
    rw [if_pos ⟨by rw [show Tryz.prog.cellsOf 33 = 2 from by kernel_rfl]; rfl, by kernel_rfl⟩]
    have c9 : Tryz.prog.cellsOf 9 = 1 := by kernel_rfl
    have c3 : Tryz.prog.cellsOf 3 = 1 := by kernel_rfl
    simp [List.mapM_cons, Value.cells, c9, c3, h9, h3]
  inj a b h := by
    obtain ⟨p, i⟩ := a
    obtain ⟨q, j⟩ := b
    simp only [Nam.v] at h
    simp at h
    simp [h]
theorem ktS : KT (κ := Sp) 107 Sp.v Sp.Key where
  K := Keyed.of_law (deep_law_laid laidOut' (m := 2) (by omega) (of_decide_eq_true (by kernel_rfl)) (by kernel_rfl) (by rw [Tryz.underlying107]))
  lit k hk := by
    refine ⟨.string (keyBytes [.int .i64 k.code, .int .i64 k.block]), ?_⟩
    unfold keyOf Sp.v
    rw [Tryz.underlying107]
    simp only
    rw [if_pos (by rw [show Tryz.prog.keyType 107 = true from by kernel_rfl]; simp [Value.formed, Tryz.underlying107]; kernel_rfl), types_size]
    have h3 : ∀ n : Int, (Lit.int .i64 n).wf = true → Tryz.prog.keyLits 257 3 [Value.int .i64 n] = some [.int .i64 n] := by
      intro n hn
      unfold Program.keyLits
      simp [Tryz.underlying3, hn]
    unfold Program.keyLits
    rw [Tryz.underlying107]
    simp only
    rw [if_pos ⟨by rw [show Tryz.prog.cellsOf 107 = 2 from by kernel_rfl]; rfl, by kernel_rfl⟩]
    have c3 : Tryz.prog.cellsOf 3 = 1 := by kernel_rfl
    simp [List.mapM_cons, Value.cells, c3, h3 _ hk.1, h3 _ hk.2]
  inj a b h := by
    obtain ⟨p, i⟩ := a
    obtain ⟨q, j⟩ := b
    simp only [Sp.v] at h
    simp at h
    obtain ⟨h1, rfl⟩ := h
    obtain rfl : p = q := by omega
    rfl
end Go.Proofs.YtgboboljgcfggaaGreatDoor
namespace Go.Proofs.YtgboboljgcfggaaGreatDoor
open Go.RowKit Go.Maps
def Blk.pb (b : Blk) : PB := ⟨b.cap, b.param, b.ins⟩
def Cod.pl (c : Cod) : PC := ⟨c.label, c.bs.map Blk.pb, c.ds⟩
def pls (L : List Cod) : List PC := L.map Cod.pl
theorem set2c {V : World} {k : Nat} {x0 x1 : Value} {t : TypeId} (h : V.heap[k]? = some (.cells #[x0, x1] t (0, 0))) (u0 u1 : Value) : ((V.setCell ⟨k, 0, none⟩ u0).setCell ⟨k, 1, none⟩ u1).heap[k]? = some (.cells #[u0, u1] t (0, 0)) := by
  simp [World.setCell, Array.getElem?_modify, h]
theorem gr_cell {w W : World} (g : Gr w W) {k j : Nat} (hk : w.heap.size ≤ k) (u : Value) : Gr w (W.setCell ⟨k, j, none⟩ u) :=
  ⟨g.os, g.tape, g.output, by simpa [World.setCell] using g.size, fun i hi hn => (Below.heap_setCell _ _ _ _ (by show i ≠ k; omega)).trans (g.block i hi hn)⟩
theorem frz {W : World} {k : Nat} {c : Array Value} {t : TypeId} (h : W.heap[k]? = some (.cells c t (0, 0))) : ∀ j, W.frozen? ⟨k, j, none⟩ = false := by
  intro j
  simp [World.frozen?, h]
end Go.Proofs.YtgboboljgcfggaaGreatDoor
namespace Go.Proofs.YtgboboljgcfggaaGreatDoor
open Go.RowKit
structure EL {α : Type} (t e : TypeId) (n : Nat) (cs : α → List Value) : Prop where
  hn : ∀ x, (cs x).length = n
  h1 : ∀ x, ∀ u ∈ cs x, u.oneCell' = true
  ht : Tryz.prog.underlying t = some (.slice e)
  hi : ∃ (z : Value) (bytes : Nat), (Tryz.prog.info? e).map (fun i => (i.zero, i.size, i.bytes)) = some (some z, n, bytes) ∧ z.cells.size = n ∧ bytes ≤ 1000
  h0 : 0 < n
section
variable {α : Type} {t e : TypeId} {n : Nat} {cs : α → List Value}
theorem run_app0 (E : EL t e n cs) {w : World} {base : Nat} {v : Value} {L : List α} (ty : TypeId) (c : Nat) (h : OR e n cs w base v L) : (Builtin.append_ #[t, t] ty #[v, .slice none 0 c]).run Tryz.prog w = .ok v w := by
  obtain ⟨z, bytes, hinfo, -, -⟩ := E.hi
  obtain ⟨i0, hi, hz0, hz1, hz2⟩ : ∃ i0, Tryz.prog.info? e = some i0 ∧ i0.zero = some z ∧ i0.size = n ∧ i0.bytes = bytes := by
    cases hq : Tryz.prog.info? e with
    | none => rw [hq] at hinfo; cases hinfo
    | some i0 => rw [hq] at hinfo; simp at hinfo; exact ⟨i0, rfl, hinfo.1, hinfo.2.1, hinfo.2.2⟩
  rcases h.2 with ⟨rfl, hl⟩ | ⟨g, cap, cur, rfl, hg, hh, hn, -⟩
  · simp [Builtin.append_, run_underlying E.ht, Go.sizeOf, typeInfo, hi, Builtin.lenOf, Builtin.firstCells]
  · simp [Builtin.append_, run_underlying E.ht, Go.sizeOf, typeInfo, hi, Builtin.lenOf, Builtin.firstCells, hn, storeCells]
theorem run_appA (E : EL t e n cs) {w : World} {base : Nat} {v : Value} {L : List α} (ty : TypeId) (hown : OR e n cs w base v L) {A : Option Addr} {M : List α} (c : Nat) (hr : RD n cs w A M) (hsz : L.length + M.length ≤ 1000000) (hb : base ≤ w.heap.size) :
    ∃ v' w', (Builtin.append_ #[t, t] ty #[v, .slice A M.length c]).run Tryz.prog w = .ok v' w' ∧ OR e n cs w' base v' (L ++ M) ∧ w.grownBy w' v.ownBlock ∧ (v'.ownBlock = v.ownBlock ∨ v'.ownBlock = some w.heap.size) := by
  by_cases hA : A = none
  · subst hA
    have hM : M = [] := by
      rcases hr with h | ⟨a, e, _⟩
      · exact h
      · cases e
    subst hM
    exact ⟨v, w, run_app0 E ty c hown, by simpa using hown, World.grownBy.but (gr_refl _) _, .inl rfl⟩
  · obtain ⟨z, bytes, hinfo, hz, hby⟩ := E.hi
    exact run_appR t ty E.hn E.h1 E.ht hinfo hz E.h0 hby hown c hr hA hsz hb
theorem step_app (E : EL t e n cs) {ops : Array Oper} {o : Oper} {a : Act} {w : World} {K : Act → World → Prop} {Q : Exit → Act → World → Prop} {Z : Prop} (hgd : o.guard = none) (s x : Operand)
    (ho : o.op = .call { callee := .builtin .append, args := #[s, x], argTypes := #[t, t] }) (base : Nat) {v : Value} {L : List α} (hs : a.eval s = v) (hown : OR e n cs w base v L)
    {A : Option Addr} {M : List α} {m c : Nat} (hm : M.length = m) (hx : a.eval x = .slice A m c) (hr : RD n cs w A M) (hsz : L.length + M.length ≤ 1000000) (hb : base ≤ w.heap.size)
    (h : ∀ v' w', OR e n cs w' base v' (L ++ M) → w.grownBy w' v.ownBlock → (v'.ownBlock = v.ownBlock ∨ v'.ownBlock = some w.heap.size) → K (a.put o.dst v') w') : if Region.wanted o (yielded ops a.tmps) = true then Oper.wp Tryz.prog o a w K Q else Z := by
  have hw : Region.wanted o (yielded ops a.tmps) = true := by simp [Region.wanted, hgd]
  rw [if_pos hw]
  subst hm
  obtain ⟨v', w', hrun, h2, h3, h4⟩ := run_appA E o.type hown c hr hsz hb
  unfold Oper.wp
  simp [execOp, ho, resolve, invoke, builtin, hs, hx, hrun, Result.andThen]
  exact h v' w' h2 h3 h4
theorem wpList_app (E : EL t e n cs) {w : World} {ops : Array Oper} {rest : List Oper} {o : Oper} {a : Act} {Q : Exit → Act → World → Prop} (hgd : o.guard = none) (s x : Operand)
    (ho : o.op = .call { callee := .builtin .append, args := #[s, x], argTypes := #[t, t] }) (base : Nat) {v : Value} {L : List α} (hs : a.eval s = v) (hown : OR e n cs w base v L)
    {A : Option Addr} {M : List α} {m c : Nat} (hm : M.length = m) (hx : a.eval x = .slice A m c) (hr : RD n cs w A M) (hsz : L.length + M.length ≤ 1000000) (hb : base ≤ w.heap.size)
    (h : ∀ v' w', OR e n cs w' base v' (L ++ M) → w.grownBy w' v.ownBlock → (v'.ownBlock = v.ownBlock ∨ v'.ownBlock = some w.heap.size) → wpList Tryz.prog ops Q rest (a.put o.dst v') w') : wpList Tryz.prog ops Q (o :: rest) a w := by
  subst hm
  refine wpList_plain hgd fun K hK => ?_
  obtain ⟨v', w', hrun, h2, h3, h4⟩ := run_appA E o.type hown c hr hsz hb
  unfold Oper.wp execOp
  simp only [ho, resolve, invoke, builtin, Sem.run_bind, Sem.run_pure, Result.andThen_ok, List.map_toArray, List.map_cons, List.map_nil, hs, hx, hrun]
  exact hK _ _ (h v' w' h2 h3 h4)
theorem or_made {V : World} {b base : Nat} (h : V.heap[b]? = some (.cells #[] e (0, 0))) (hb : base ≤ b) : OR e n cs V base (.slice (some ⟨b, 0, none⟩) 0 0) ([] : List α) :=
  ⟨by simp, .inr ⟨b, 0, #[], rfl, hb, h, Nat.le_refl _, by unfold maxLen; omega, by simp, by simp⟩⟩
end
end Go.Proofs.YtgboboljgcfggaaGreatDoor
namespace Go.Proofs.YtgboboljgcfggaaGreatDoor
open Go.RowKit Go.Maps
def Sp.cs (s : Sp) : List Value := [iv s.code, iv s.block]
theorem RD.sp {w : World} {Ad : Option Addr} {L : List Sp} (h : RD 2 Sp.cs w Ad L) {k : Nat} (hk : k < L.length) : ∃ a a1 : Addr, Ad = some a ∧ a.add (k * 2) = a1 ∧ a1.block < w.heap.size ∧ w.cell? a1 = some (.int .i64 L[k].code) ∧ w.cell? ⟨a1.block, a1.off + 1, none⟩ = some (.int .i64 L[k].block) := by
  obtain ⟨a, e, hb, hc⟩ := h.at hk
  refine ⟨a, _, e, rfl, by rw [add_block]; exact hb, by simpa using hc 0 _ rfl, ?_⟩
  rw [← fld_add _ 1 (by omega), add_add']; exact hc 1 _ rfl
theorem gr_own {w V V' : World} {b : Nat} (g : Gr w V) (hb : w.heap.size ≤ b) (h : V.grownBy V' (some b)) : Gr w V' :=
  ⟨h.os.trans g.os, h.tape.trans g.tape, h.output.trans g.output, Nat.le_trans g.size h.size, fun j hj _ => (h.block j (Nat.lt_of_lt_of_le hj g.size) (fun e => by cases e; omega)).trans (g.block j hj (by simp))⟩
end Go.Proofs.YtgboboljgcfggaaGreatDoor
namespace Go.Proofs.YtgboboljgcfggaaGreatDoor
open Go.RowKit Go.Maps
theorem elS : EL 111 107 2 Sp.cs where
  hn _ := rfl
  h1 x u hu := by
    simp only [Sp.cs, List.mem_cons, List.not_mem_nil, or_false] at hu
    rcases hu with rfl | rfl <;> rfl
  ht := Tryz.underlying111
  hi := ⟨.agg #[iv 0, iv 0], 16, by kernel_rfl, rfl, by decide⟩
  h0 := by decide
def numF : Nat → List Sp → MK Sp
  | _, [] => []
  | i, s :: K => (s, iv i) :: numF (i + 1) K
theorem numF_snoc (x : Sp) : ∀ (i : Nat) (K : List Sp), numF i (K ++ [x]) = numF i K ++ [(x, iv ((i + K.length : Nat) : Int))]
  | i, [] => by simp [numF]
  | i, s :: K => by
    rw [List.cons_append, numF, numF, numF_snoc x (i + 1) K, List.cons_append]
    rw [List.length_cons, show i + 1 + K.length = i + (K.length + 1) from by omega]
theorem numF_get (x : Sp) : ∀ (i j : Nat) (K : List Sp), (fndK x (numF i K) j).map (·.2) = if x ∈ K then some (iv ((i + K.idxOf x : Nat) : Int)) else none
  | i, j, [] => by simp [numF, fndK]
  | i, j, s :: K => by
    rw [numF, fndK]
    by_cases h : x = s
    · subst h; simp
    · rw [if_neg h, numF_get x (i + 1) (j + 1) K, List.idxOf_cons, show (s == x) = false from by simpa using fun e => h e.symm]
      by_cases hk : x ∈ K
      · rw [if_pos hk, if_pos (List.mem_cons_of_mem _ hk)]
        congr 3
        simp only [cond_false]
        omega
      · rw [if_neg hk, if_neg (by simp [h, hk])]
def numL (K : List Sp) : MK Sp := numF 0 K
theorem numL_get (K : List Sp) (x : Sp) : kget (numL K) x = if x ∈ K then some (iv (K.idxOf x)) else none := by
  unfold kget numL
  rw [numF_get]
  simp
theorem numL_no {K : List Sp} {x : Sp} (h : x ∉ K) : fndK x (numL K) 0 = none := by
  have h1 := numL_get K x
  rw [if_neg h] at h1
  unfold kget at h1
  simpa using h1
theorem numL_snoc (K : List Sp) (x : Sp) : numL (K ++ [x]) = numL K ++ [(x, iv K.length)] := by
  unfold numL
  rw [numF_snoc]
  simp
structure LM (kb m1 m2 base : Nat) (Ad : Option Addr) (cp n : Nat) (dl : MK Nam) (K : List Sp) (v : Value) (V : World) : Prop where
  h : V.heap[kb]? = some (.cells #[.slice Ad n cp, .map (some m1), .map (some m2), v] 113 (0, 0))
  d : MP Nam.v V m1 dl
  ld : LK Nam.Ok dl
  n : MP Sp.v V m2 (numL K)
  ln : LK Sp.Key (numL K)
  o : OR 107 2 Sp.cs V base v K
  lt : kb < base ∧ m1 < base ∧ m2 < base
  ne : kb ≠ m1 ∧ kb ≠ m2 ∧ m1 ≠ m2
structure NF (kb m2 base : Nat) (v : Value) (V W : World) : Prop where
  os : W.os = V.os
  tape : W.tape = V.tape
  output : W.output = V.output
  size : V.heap.size ≤ W.heap.size
  same : ∀ k, k < V.heap.size → k ≠ kb → k ≠ m2 → v.ownBlock ≠ some k → W.heap[k]? = V.heap[k]?
section
variable {kb m1 m2 base cp n : Nat} {Ad : Option Addr} {dl : MK Nam} {K : List Sp} {v : Value} {V W : World}
theorem NF.of (g : Gr V W) : NF kb m2 base v V W := ⟨g.os, g.tape, g.output, g.size, fun k hk _ _ _ => g.block k hk (by simp)⟩
theorem LM.gr (h : LM kb m1 m2 base Ad cp n dl K v V) (g : Gr V W) : LM kb m1 m2 base Ad cp n dl K v W :=
  ⟨gr_h g h.h, h.d.keep (g.block _ h.d.lt (by simp)), h.ld, h.n.keep (g.block _ h.n.lt (by simp)), h.ln, h.o.gr g, h.lt, h.ne⟩
theorem LM.hd (h : LM kb m1 m2 base Ad cp n dl K v V) : (V.cell? ⟨kb, 0, none⟩ = some (.slice Ad n cp) ∧ V.cell? ⟨kb, 1, none⟩ = some (.map (some m1)) ∧ V.cell? ⟨kb, 2, none⟩ = some (.map (some m2)) ∧ V.cell? ⟨kb, 3, none⟩ = some v) ∧ ∀ j, V.frozen? ⟨kb, j, none⟩ = false :=
  ⟨⟨by rw [Lib.cell_of_heap h.h]; rfl, by rw [Lib.cell_of_heap h.h]; rfl, by rw [Lib.cell_of_heap h.h]; rfl, by rw [Lib.cell_of_heap h.h]; rfl⟩, frz h.h⟩
theorem heap_set3 {k : Nat} {x0 x1 x2 x3 : Value} {t : TypeId} (h : V.heap[k]? = some (.cells #[x0, x1, x2, x3] t (0, 0))) (u : Value) : (V.setCell ⟨k, 3, none⟩ u).heap[k]? = some (.cells #[x0, x1, x2, u] t (0, 0)) := by
  simp [World.setCell, Array.getElem?_modify, h]
theorem LM.put (h : LM kb m1 m2 base Ad cp n dl K v V) {x : Sp} (hx : x ∉ K) (hk : x.Key) {U U' : World} {v' : Value} (hU : Gr (setM Sp.v V m2 (numL K ++ [(x, iv K.length)])) U) (o' : OR 107 2 Sp.cs U' base v' (K ++ [x])) (g' : U.grownBy U' v.ownBlock) :
    LM kb m1 m2 base Ad cp n dl (addS K x) v' (U'.setCell ⟨kb, 3, none⟩ v') ∧ NF kb m2 base v V (U'.setCell ⟨kb, 3, none⟩ v') := by
  have e : addS K x = K ++ [x] := by unfold addS; rw [if_neg hx]
  obtain ⟨l1, l2, l3⟩ := h.lt
  obtain ⟨n1, n2, n3⟩ := h.ne
  have hkb := heap_lt h.h
  have hd := h.d.lt
  have hm := h.n.lt
  have hsz : (setM Sp.v V m2 (numL K ++ [(x, iv K.length)])).heap.size = V.heap.size := setM_size _ _ _
  have hlt := h.o.lt
  have h7 := o'.lt
  have stU : ∀ j, j < V.heap.size → j ≠ m2 → U.heap[j]? = V.heap[j]? := fun j hj hne => (hU.block j (by omega) (by simp)).trans (setM_other hne)
  have st : ∀ j, j < base → j < V.heap.size → U'.heap[j]? = U.heap[j]? := fun j hj hj2 => g'.block j (by have := hU.size; omega) (fun e2 => by have := hlt j e2.symm; omega)
  have own : ∀ j, v'.ownBlock = some j → base ≤ j := fun j hj => (h7 j hj).1
  refine ⟨⟨heap_set3 (((st kb l1 hkb).trans (stU kb hkb n2)).trans h.h) _, ?_, h.ld, ?_, ?_, ?_, h.lt, h.ne⟩, ?_⟩
  · exact h.d.keep (((Below.heap_setCell _ _ _ _ (by show m1 ≠ kb; omega)).trans (st m1 l2 hd)).trans (stU m1 hd n3))
  · rw [e, numL_snoc]
    have hs : MP Sp.v (setM Sp.v V m2 (numL K ++ [(x, iv K.length)])) m2 (numL K ++ [(x, iv K.length)]) := h.n.set
    exact hs.keep (((Below.heap_setCell _ _ _ _ (by show m2 ≠ kb; omega)).trans (st m2 l3 hm)).trans (hU.block m2 (by omega) (by simp)))
  · rw [e, numL_snoc]
    exact h.ln.snoc hk (numL_no hx) _
  · rw [e]
    refine o'.kept (grown_set _ _ _) ?_
    cases hq : v'.ownBlock with
    | none => exact .inl rfl
    | some j => right; intro e2; have := own j hq; cases e2; omega
  · refine ⟨g'.os.trans hU.os, g'.tape.trans hU.tape, g'.output.trans hU.output, ?_, fun j hj h1 h2 h3 => ?_⟩
    · have := hU.size
      have := g'.size
      simp only [World.setCell, Array.size_modify]
      omega
    · exact (Below.heap_setCell _ _ _ _ (by show j ≠ kb; exact h1)).trans ((g'.block j (by have := hU.size; omega) (fun e2 => h3 e2.symm)).trans (stU j hj h2))
theorem NF.pre {w : World} (g : Gr w V) (h : NF kb m2 base v V W) : NF kb m2 base v w W :=
  ⟨h.os.trans g.os, h.tape.trans g.tape, h.output.trans g.output, Nat.le_trans g.size h.size, fun k hk h1 h2 h3 => (h.same k (Nat.lt_of_lt_of_le hk g.size) h1 h2 h3).trans (g.block k hk (by simp))⟩
theorem LM.mid {x0 x1 x2 : Value} {t : TypeId} {u : Value} (h : V.heap[kb]? = some (.cells #[x0, x1, x2, u] t (0, 0))) (hl : ∀ j, v.ownBlock = some j → base ≤ j) (hk : kb < base) {U w7 : World} (g : Gr V U) (g7 : U.grownBy w7 v.ownBlock) : w7.cell? ⟨kb, 3, none⟩ = some u ∧ ∀ j, w7.frozen? ⟨kb, j, none⟩ = false := by
  have h1 := gr_h g h
  have h2 := (g7.block kb (heap_lt h1) (fun e => by have := hl kb e.symm; omega)).trans h1
  exact ⟨by rw [Lib.cell_of_heap h2]; rfl, frz h2⟩
theorem app_val {K : List Sp} {x : Sp} {nk b : Nat} {v7 : Value} {U : World} (hn : K.length = nk) (o : OR 107 2 Sp.cs U b v7 (K ++ [x])) : ∃ A c, v7 = .slice A (nk + 1) c := by
  obtain ⟨A, c, e, -⟩ := o.form elS.hn
  exact ⟨A, c, by rw [e, List.length_append, hn]; rfl⟩
end
end Go.Proofs.YtgboboljgcfggaaGreatDoor
namespace Go.Proofs.YtgboboljgcfggaaGreatDoor
open Go.RowKit Go.Maps
def ent (i : Nat) (c : Cod) (d : Dcl) : Nam × Value := (⟨c.label, d.id⟩, .agg #[iv i, iv d.block])
def dlF : Nat → List Cod → MK Nam
  | _, [] => []
  | i, c :: L => c.ds.map (ent i c) ++ dlF (i + 1) L
theorem dlF_app : ∀ (i : Nat) (L M : List Cod), dlF i (L ++ M) = dlF i L ++ dlF (i + L.length) M
  | i, [], M => by simp [dlF]
  | i, c :: L, M => by
    rw [List.cons_append, dlF, dlF, dlF_app (i + 1) L M, List.append_assoc, List.length_cons, show i + 1 + L.length = i + (L.length + 1) from by omega]
theorem dlF_split {L : List Cod} {k : Nat} {x : Cod} (h : L[k]? = some x) : dlF 0 L = dlF 0 (L.take k) ++ (x.ds.map (ent k x) ++ dlF (k + 1) (L.drop (k + 1))) := by
  obtain ⟨hk, e⟩ := List.getElem?_eq_some_iff.1 h
  have h1 : L = L.take k ++ x :: L.drop (k + 1) := by
    rw [← e, ← List.drop_eq_getElem_cons hk, List.take_append_drop]
  have hl : (L.take k).length = k := by rw [List.length_take]; omega
  conv => lhs; rw [h1, dlF_app, hl, Nat.zero_add, dlF]
theorem dlF_take {L : List Cod} {k : Nat} {x : Cod} (h : L[k]? = some x) : dlF 0 (L.take (k + 1)) = dlF 0 (L.take k) ++ x.ds.map (ent k x) := by
  have hk := (List.getElem?_eq_some_iff.1 h).1
  rw [List.take_add_one, h, Option.toList_some, dlF_app, List.length_take, Nat.min_eq_left (by omega), Nat.zero_add]
  simp [dlF]
def dlP (L : List Cod) (k : Nat) (x : Cod) (j : Nat) : MK Nam := dlF 0 (L.take k) ++ (x.ds.take j).map (ent k x)
theorem dlP_succ {L : List Cod} {k j : Nat} {x : Cod} {d : Dcl} (h : x.ds[j]? = some d) : dlP L k x (j + 1) = dlP L k x j ++ [ent k x d] := by
  unfold dlP
  rw [List.take_add_one, h, Option.toList_some, List.map_append, ← List.append_assoc]
  rfl
theorem dlP_no {L : List Cod} {k j : Nat} {x : Cod} {d : Dcl} (hx : L[k]? = some x) (h : x.ds[j]? = some d) (nd : ((dlF 0 L).map (·.1)).Nodup) : fndK (ent k x d).1 (dlP L k x j) 0 = none := by
  have e : dlF 0 L = dlP L k x j ++ (ent k x d :: ((x.ds.drop (j + 1)).map (ent k x) ++ dlF (k + 1) (L.drop (k + 1)))) := by
    obtain ⟨hj, e⟩ := List.getElem?_eq_some_iff.1 h
    have h1 : x.ds = x.ds.take j ++ d :: x.ds.drop (j + 1) := by rw [← e, ← List.drop_eq_getElem_cons hj, List.take_append_drop]
    unfold dlP
    rw [dlF_split hx]
    conv => lhs; rw [h1]
    simp
  rw [e, List.map_append, List.map_cons, List.nodup_append] at nd
  refine fndK_mem.2 fun p hp he => ?_
  exact nd.2.2 p.1 (List.mem_map.2 ⟨p, hp, rfl⟩) _ (by simp) he
section
variable {kb m1 m2 base cp n : Nat} {Ad : Option Addr} {dl : MK Nam} {K : List Sp} {v : Value} {V W : World}
theorem LM.putD (h : LM kb m1 m2 base Ad cp n dl K v V) {p : Nam × Value} (hp : p.1.Ok) (hn : fndK p.1 dl 0 = none) : LM kb m1 m2 base Ad cp n (dl ++ [p]) K v (setM Nam.v V m1 (dl ++ [p])) := by
  obtain ⟨n1, n2, n3⟩ := h.ne
  have hlt := h.o.lt
  have l2 := h.lt.2.1
  exact ⟨(setM_other n1).trans h.h, h.d.set, h.ld.snoc hp hn p.2, h.n.keep (setM_other (Ne.symm n3)), h.ln, h.o.kept (grown_setM _ _ _) (by
    cases hq : v.ownBlock with
    | none => exact .inl rfl
    | some j => right; intro e2; have := (hlt j hq).1; cases e2; omega), h.lt, h.ne⟩
end
theorem gr_setM {κ : Type} {kv : κ → Value} {w V : World} (g : Gr w V) {b : Nat} (hb : w.heap.size ≤ b) (m : MK κ) : Gr w (setM kv V b m) :=
  ⟨g.os, g.tape, g.output, by rw [setM_size]; exact g.size, fun j hj hn => (setM_other (by omega)).trans (g.block j hj hn)⟩
attribute [local irreducible] Calls in
set_option maxRecDepth 100000 in
set_option maxHeartbeats 4000000 in
theorem newLinker_any (Ad : Option Addr) (cp : Nat) (L : List Cod) (w : World) (hL : CRd w Ad L) (hl : L.length ≤ 9223372036854775807) (hi : ∀ x ∈ L, x.Lim) (nd : ((dlF 0 L).map (·.1)).Nodup) (hw : ∀ x ∈ L, ∀ d ∈ x.ds, (Lit.int .i64 d.id).wf = true) :
    Calls Tryz.prog 41 #[.slice Ad L.length cp] w fun e w' => e = .returned (.pointer (some ⟨w.heap.size + 2, 0, none⟩)) ∧ LM (w.heap.size + 2) w.heap.size (w.heap.size + 1) (w.heap.size + 3) Ad cp L.length (dlF 0 L) [] (.slice none 0 0) w' ∧ Gr w w' ∧ w.heap.size + 3 ≤ w'.heap.size := by
  have HC := Lib.hid (fun V (g : Gr w V) => (hL.gr g).rd)
  have HDC := Lib.hid (fun V (g : Gr w V) x (hx : x ∈ L) => ((hL.gr g).c x hx).d)
  have HLM := Lib.hid hi
  have HND := Lib.hid nd
  have HWF := Lib.hid hw
  obtain ⟨n, hn⟩ : ∃ n, L.length = n := ⟨_, rfl⟩
  have HN := Lib.hid hn
  rw [hn] at hl ⊢
  have M0 := Lib.hid (show LM (w.heap.size + 2) w.heap.size (w.heap.size + 1) (w.heap.size + 3) Ad cp n (dlF 0 (L.take 0)) [] (.slice none 0 0) (((w.alloc (.map #[] 0)).alloc (.map #[] 0)).alloc (.cells #[.slice Ad n cp, .map (some w.heap.size), .map (some (w.heap.size + 1)), .slice none 0 0] 113)) from
    ⟨al_at _ _ (by simp), ((Below.heap_alloc _ _ _ (by simp; omega)).trans (Below.heap_alloc _ _ _ (by simp))).trans (al_new w _), by simpa [dlF] using LK.nil, (Below.heap_alloc _ _ _ (by simp)).trans (al_at _ _ (by simp)), by simpa [numL, numF] using LK.nil, OR.nil, by omega, by omega⟩)
  have G0 := Lib.hid (show Gr w (((w.alloc (.map #[] 0)).alloc (.map #[] 0)).alloc (.cells #[.slice Ad n cp, .map (some w.heap.size), .map (some (w.heap.size + 1)), .slice none 0 0] 113)) from ((gr_al _ _).trans (gr_al _ _)).trans (gr_al _ _))
  have Z0 := Lib.hid (show w.heap.size + 3 ≤ (((w.alloc (.map #[] 0)).alloc (.map #[] 0)).alloc (.cells #[.slice Ad n cp, .map (some w.heap.size), .map (some (w.heap.size + 1)), .slice none 0 0] 113)).heap.size from by simp)
  clear hL hi hn nd hw
  have hmm := @run_makeMap Tryz.prog
  go_enter Tryz.func41, Tryz.ntmps41
  go_wp2
  clear hmm
  go_loopw [15] (fun u V => ∃ k : Nat, k ≤ n ∧ u = .int .i64 k ∧ Hid (Gr w V ∧ w.heap.size + 3 ≤ V.heap.size ∧ LM (w.heap.size + 2) w.heap.size (w.heap.size + 1) (w.heap.size + 3) Ad cp n (dlF 0 (L.take k)) [] (.slice none 0 0) V)) (fun u _ => n - (intOf u).toNat)
  case atStart => exact ⟨0, Nat.zero_le _, rfl, Lib.hid ⟨G0.out, Z0.out, M0.out⟩⟩
  case round =>
    clear M0 G0 Z0
    obtain ⟨k, hk, rfl, HK⟩ := hrel
    obtain ⟨gm, hz, hm⟩ := HK.out
    have GM := Lib.hid gm
    have ZM := Lib.hid hz
    have HM := Lib.hid hm
    clear gm hz hm HK
    by_cases hlt : k < n
    · obtain ⟨a, a1, eA, ha, hab, y0, y1, y2⟩ := (HC.out _ GM.out).cod (k := k) (by rw [HN.out]; exact hlt)
      obtain rfl := eA
      obtain ⟨x, hx⟩ : ∃ x, L[k]'(by rw [HN.out]; exact hlt) = x := ⟨_, rfl⟩
      have HXI := Lib.hid (show L[k]? = some x from by rw [List.getElem?_eq_getElem (by rw [HN.out]; exact hlt), hx])
      rw [hx] at y0 y1 y2
      have HDX := Lib.hid (fun V (g : Gr wr V) => HDC.out V (GM.out.trans g) x (List.mem_of_getElem? HXI.out))
      have hdl := (HLM.out x (List.mem_of_getElem? HXI.out)).d
      have HLL := Lib.hid (show x.label.length ≤ maxLen from by have := (HLM.out x (List.mem_of_getElem? HXI.out)).l; unfold maxLen; omega)
      obtain ⟨nd, hnd⟩ : ∃ m, x.ds.length = m := ⟨_, rfl⟩
      have HND2 := Lib.hid hnd
      obtain ⟨dA, hdA⟩ : ∃ m, x.dA = m := ⟨_, rfl⟩
      rw [hnd] at hdl y2
      rw [hdA] at y2
      simp only [hdA] at HDX
      have HDA := Lib.hid hdA
      clear hx hnd hdA
      go_upto_region 5 with (fail)
      have HQ := Lib.hid (al_new wr (.cells #[.string ⟨x.label.toArray⟩, .slice x.bA x.bs.length x.bc, .slice dA nd x.dc] 65))
      have G7 := Lib.hid (gr_al wr (.cells #[.string ⟨x.label.toArray⟩, .slice x.bA x.bs.length x.bc, .slice dA nd x.dc] 65))
      have HMQ := Lib.hid (HM.out.gr (gr_al wr (.cells #[.string ⟨x.label.toArray⟩, .slice x.bA x.bs.length x.bc, .slice dA nd x.dc] 65)))
      obtain ⟨q, hq⟩ : ∃ q, wr.heap.size = q := ⟨_, rfl⟩
      have hq3 : w.heap.size + 3 ≤ q := by rw [← hq]; exact ZM.out
      rw [hq] at HQ ⊢
      clear hq
      generalize World.alloc wr _ = W7 at *
      have ZQ := Lib.hid (show w.heap.size + 3 ≤ W7.heap.size from by have := G7.out.size; have := ZM.out; omega)
      clear y0 y1 y2 ha hab
      have i2 : W7.cell? ⟨q, 2, none⟩ = some (.slice dA nd x.dc) := by rw [Lib.cell_of_heap HQ.out]; rfl
      have HDW := Lib.hid (fun V (g : Gr wr V) => HDX.out V g)
      have HM0 := Lib.hid (show LM (w.heap.size + 2) w.heap.size (w.heap.size + 1) (w.heap.size + 3) (some a) cp n (dlP L k x 0) [] (.slice none 0 0) W7 from by unfold dlP; simpa using HMQ.out)
      go_wp2
      clear i2
      go_loopw [23] (fun u V => ∃ j : Nat, j ≤ nd ∧ u = .int .i64 j ∧ Hid (Gr w V ∧ w.heap.size + 3 ≤ V.heap.size ∧ V.heap[q]? = some (.cells #[.string ⟨x.label.toArray⟩, .slice x.bA x.bs.length x.bc, .slice dA nd x.dc] 65 (0, 0)) ∧ RD 3 Dcl.cs V dA x.ds ∧ LM (w.heap.size + 2) w.heap.size (w.heap.size + 1) (w.heap.size + 3) (some a) cp n (dlP L k x j) [] (.slice none 0 0) V)) (fun u _ => nd - (intOf u).toNat)
      case atStart => exact ⟨0, Nat.zero_le _, rfl, Lib.hid ⟨GM.out.trans G7.out, ZQ.out, HQ.out, HDX.out _ G7.out, HM0.out⟩⟩
      case round =>
        clear HM0 HMQ HQ ZQ
        obtain ⟨j, hj, rfl, HJ⟩ := hrel
        obtain ⟨gj, zj, qj, rj, mj⟩ := HJ.out
        have GJ := Lib.hid gj
        have ZJ := Lib.hid zj
        have QJ := Lib.hid qj
        have RJ := Lib.hid rj
        have MJ := Lib.hid mj
        clear gj zj qj rj mj HJ
        by_cases hjn : j < nd
        · obtain ⟨b, b1, eB, hb, hbb, z0, z1, z2⟩ := RJ.out.dcl (k := j) (by rw [HND2.out]; exact hjn)
          obtain rfl := eB
          obtain ⟨d, hd⟩ : ∃ y, x.ds[j]'(by rw [HND2.out]; exact hjn) = y := ⟨_, rfl⟩
          have HDI := Lib.hid (show x.ds[j]? = some d from by rw [List.getElem?_eq_getElem (by rw [HND2.out]; exact hjn), hd])
          rw [hd] at z0 z1 z2
          clear hd
          obtain ⟨R1, rfl⟩ : ∃ R, R = wr := ⟨_, rfl⟩
          go_upto_region 8 with (fail)
          have HDB := Lib.hid (al_new R1 (.cells #[.int .i64 d.id, .int .i64 d.kind, .int .i64 d.block] 126))
          have G8 := Lib.hid (gr_al R1 (.cells #[.int .i64 d.id, .int .i64 d.kind, .int .i64 d.block] 126))
          obtain ⟨q2, hq2⟩ : ∃ q, R1.heap.size = q := ⟨_, rfl⟩
          rw [hq2] at HDB ⊢
          clear hq2
          generalize World.alloc R1 _ = W8 at *
          have MJ8 := Lib.hid (MJ.out.gr G8.out)
          have QJ8 := Lib.hid (gr_h G8.out QJ.out)
          have c0 : W8.cell? ⟨q, 0, none⟩ = some (.string ⟨x.label.toArray⟩) := by rw [Lib.cell_of_heap QJ8.out]; rfl
          have d0 : W8.cell? ⟨q2, 0, none⟩ = some (.int .i64 d.id) := by rw [Lib.cell_of_heap HDB.out]; rfl
          have d2 : W8.cell? ⟨q2, 2, none⟩ = some (.int .i64 d.block) := by rw [Lib.cell_of_heap HDB.out]; rfl
          obtain ⟨⟨-, k1, -, -⟩, -⟩ := MJ8.out.hd
          clear z0 z1 z2 hb hbb
          have HNO := Lib.hid (dlP_no HXI.out HDI.out HND.out)
          have HOK := Lib.hid (show (ent k x d).1.Ok from ⟨HLL.out, HWF.out x (List.mem_of_getElem? HXI.out) d (List.mem_of_getElem? HDI.out)⟩)
          go_still_tail 13, (by kernel_rfl)
          change wpList _ _ _ _ _ W8.drew
          generalize hW9 : W8.drew = W9
          have G9 := Lib.hid (show Gr W8 W9 from by rw [← hW9]; exact gr_drew _)
          clear hW9 c0 d0 d2 k1
          have MJ9 := Lib.hid (MJ8.out.gr G9.out)
          have up := (show (Instr.mapUpdate 109 (.map (some w.heap.size)) (.agg #[.string ⟨x.label.toArray⟩, .int .i64 d.id]) (.agg #[.int .i64 k, .int .i64 d.block])).run Tryz.prog W9 = .ok () (setM Nam.v W9 w.heap.size (dlP L k x j ++ [ent k x d])) from update_k ktN MJ9.out.d MJ9.out.ld Tryz.underlying109 HOK.out HNO.out _)
          have MN := Lib.hid (MJ9.out.putD HOK.out HNO.out)
          rw [← dlP_succ HDI.out] at up MN
          have GN := Lib.hid (gr_setM (kv := Nam.v) (GJ.out.trans (G8.out.trans G9.out)) (Nat.le_refl w.heap.size) (dlP L k x (j + 1)))
          have ZN := Lib.hid (show w.heap.size + 3 ≤ (setM Nam.v W9 w.heap.size (dlP L k x (j + 1))).heap.size from by rw [setM_size]; have := ZJ.out; have := G8.out.size; have := G9.out.size; omega)
          have QN := Lib.hid (show (setM Nam.v W9 w.heap.size (dlP L k x (j + 1))).heap[q]? = some (.cells #[.string ⟨x.label.toArray⟩, .slice x.bA x.bs.length x.bc, .slice (some b) nd x.dc] 65 (0, 0)) from (setM_other (by omega)).trans (gr_h G9.out QJ8.out))
          have RN := Lib.hid (HDC.out _ GN.out x (List.mem_of_getElem? HXI.out))
          have hrn := RN.out
          rw [HDA.out] at hrn
          clear RN
          have RN := Lib.hid hrn
          clear hrn
          go_wp2
          exact ⟨⟨j + 1, hjn, by simp, Lib.hid ⟨GN.out, ZN.out, QN.out, RN.out, MN.out⟩⟩, by simp [intOf]; omega⟩
        · obtain rfl : nd = j := by omega
          have ME := Lib.hid (show LM (w.heap.size + 2) w.heap.size (w.heap.size + 1) (w.heap.size + 3) (some a) cp n (dlF 0 (L.take (k + 1))) [] (.slice none 0 0) wr from by
            have h := MJ.out
            unfold dlP at h
            rw [List.take_of_length_le (l := x.ds) (by rw [HND2.out]; exact Nat.le_refl _), ← dlF_take HXI.out] at h
            exact h)
          go_wp2
          exact ⟨⟨k + 1, hlt, by simp, Lib.hid ⟨GJ.out, ZJ.out, ME.out⟩⟩, by simp [intOf]; omega⟩
    · obtain rfl : n = k := by omega
      have hm := HM.out
      rw [List.take_of_length_le (by rw [HN.out]; exact Nat.le_refl _)] at hm
      have HME := Lib.hid hm
      clear hm
      go_wp2
      go_ret
      exact ⟨rfl, HME.out, GM.out, ZM.out⟩
end Go.Proofs.YtgboboljgcfggaaGreatDoor

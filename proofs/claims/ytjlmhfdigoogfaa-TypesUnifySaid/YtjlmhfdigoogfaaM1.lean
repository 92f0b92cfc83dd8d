/- The walks and the words of the family types, part 1: Words, Tpl, SmA, SmB, SmC, SmD, Win, Rng, Chk. -/
import Derived.WalkKit
import Derived.Deep.Draws
import Derived.Deep.QuietTactic
import Derived.BigQuiet
import Derived.BigRegion
import Derived.Laws.Rows
import Derived.Below
import Derived.Lib.Hide
import Derived.Maps.AppendAt
import Derived.WalkSpells
import Derived.OwnWalk
import Derived.Laws.OwnMore
import Derived.Deep.RegionLaw
import Derived.Deep.CutRange
import Derived.StillTailTactics
import Derived.RangeFuncRecord
import Derived.Lib.Builder
import Derived.Deep.RegionHeld3
import Derived.Test.YtjlmhfdigoogfaaProg
import Derived.RangeFuncNested
import Derived.RangeFuncBound
import Derived.RangeFuncCalls
import Derived.RangeFuncLeaves
import Derived.Shelf.Abstract
import Derived.Shelf.RegionOpen
import Derived.OwnWalkIn
import Derived.TacticsInMore
import Derived.LoopNIn
import Derived.LoopIn
namespace Go.Proofs.Ytjlmhfdigoogfaa
open Go.RowKit

abbrev T := List UInt8
abbrev tv (x : T) : Value := Value.string ⟨x.toArray⟩
abbrev iv (n : Int) : Value := .int .i64 n
/-- Nothing that was is turned. -/
abbrev Gr (w w' : World) : Prop := w.grownBy w' none
theorem gr_al (w : World) (o : Obj) : Gr w (w.alloc o) := World.grownBy_alloc w o none
theorem gr_drewN (w : World) (n : Nat) : Gr w (w.drewN n) := ⟨rfl, rfl, rfl, Nat.le_refl _, fun _ _ _ => rfl⟩
theorem gr_drew (w : World) : Gr w w.drew := gr_drewN w 1
theorem gr_refl (w : World) : Gr w w := World.grownBy.refl w none
theorem below_of {w V : World} (g : Gr w V) : Below w.heap.size w V := ⟨g.os, g.tape, g.output, g.size, fun k hk => g.block k hk (by simp)⟩
theorem gr_of {w V : World} (g : Below w.heap.size w V) : Gr w V := ⟨g.os, g.tape, g.output, g.size, fun k hk _ => g.block k hk⟩
theorem heap_lt {w : World} {g : Nat} {o : Obj} (h : w.heap[g]? = some o) : g < w.heap.size := (Array.getElem?_eq_some_iff.1 h).1
theorem al_new (W : World) (o : Obj) : (W.alloc o).heap[W.heap.size]? = some o := World.alloc_heap_new W o
theorem al_at (W : World) (o : Obj) {A : Nat} (h : A = W.heap.size) : (W.alloc o).heap[A]? = some o := by rw [h]; exact al_new W o
theorem gr_h {w V : World} {k : Nat} {o : Obj} (g : Gr w V) (h : w.heap[k]? = some o) : V.heap[k]? = some o := (g.block k (heap_lt h) (by simp)).trans h
theorem gr_c {w V : World} {a : Addr} {v : Value} (g : Gr w V) (h : w.cell? a = some v) : V.cell? a = some v := g.cell h (by simp)
theorem grown_set {w : World} (k j : Nat) (u : Value) : w.grownBy (w.setCell ⟨k, j, none⟩ u) (some k) := ⟨rfl, rfl, rfl, by simp [World.setCell], fun i _ hne => Below.heap_setCell _ _ _ _ (by rintro rfl; exact hne rfl)⟩

theorem add_block (a : Addr) (n : Nat) : (a.add n).block = a.block := by unfold Addr.add; split <;> rfl
theorem add_add' (a : Addr) (i j : Nat) : (a.add i).add j = a.add (i + j) := by
  unfold Addr.add
  by_cases hi : i = 0 <;> by_cases hj : j = 0 <;> simp [hi, hj, Nat.add_assoc]
theorem fld_add (a : Addr) (i : Nat) (hi : i ≠ 0) : a.add i = ⟨a.block, a.off + i, none⟩ := by unfold Addr.add; rw [if_neg hi]
theorem add_zero' (a : Addr) : a.add 0 = a := rfl

/-- From an address on the records of a list lie in memory, n cells each. -/
def RD {α : Type} (n : Nat) (cs : α → List Value) (w : World) (A : Option Addr) (L : List α) : Prop :=
  L = [] ∨ ∃ a, A = some a ∧ a.block < w.heap.size ∧ ∀ j x, L[j]? = some x → ∀ i v, (cs x)[i]? = some v → w.cell? (a.add (j * n + i)) = some v
section
variable {α : Type} {n : Nat} {cs : α → List Value} {w w' : World} {A : Option Addr} {L : List α}
theorem RD.nil : RD n cs w A ([] : List α) := .inl rfl
theorem RD.at (h : RD n cs w A L) {k : Nat} (hk : k < L.length) : ∃ a, A = some a ∧ a.block < w.heap.size ∧ ∀ i v, (cs L[k])[i]? = some v → w.cell? (a.add (k * n + i)) = some v := by
  rcases h with rfl | ⟨a, e, hb, hc⟩
  · simp at hk
  · exact ⟨a, e, hb, hc k _ (List.getElem?_eq_getElem hk)⟩
theorem RD.but {row : Option Nat} (h : RD n cs w A L) (hg : w.grownBy w' row) (hne : ∀ a, A = some a → some a.block ≠ row) : RD n cs w' A L := by
  rcases h with rfl | ⟨a, e, hb, hc⟩
  · exact .inl rfl
  · refine .inr ⟨a, e, Nat.lt_of_lt_of_le hb hg.size, fun j x hx i v hv => hg.cell (hc j x hx i v hv) ?_⟩
    rw [add_block]
    exact hne a e
theorem RD.gr (h : RD n cs w A L) (g : Gr w w') : RD n cs w' A L := h.but g (by simp)
theorem RD.take (h : RD n cs w A L) (k : Nat) : RD n cs w A (L.take k) := by
  rcases h with rfl | ⟨a, e, hb, hc⟩
  · left; simp
  · refine .inr ⟨a, e, hb, fun j x hx i v hv => hc j x ?_ i v hv⟩
    rw [List.getElem?_take] at hx
    split at hx
    · exact hx
    · cases hx
/-- What lies behind the first k records. -/
theorem RD.drop (h : RD n cs w A L) (k : Nat) {A' : Option Addr} (hA : ∀ a, A = some a → k < L.length → A' = some (a.add (k * n))) : RD n cs w A' (L.drop k) := by
  by_cases hk : k < L.length
  · obtain ⟨a, e, hb, -⟩ := h.at hk
    rcases h with rfl | ⟨a', e', hb', hc⟩
    · simp at hk
    · rw [e] at e'; cases e'
      refine .inr ⟨_, hA a e hk, by rw [add_block]; exact hb, fun j x hx i v hv => ?_⟩
      rw [add_add', show k * n + (j * n + i) = (k + j) * n + i by rw [Nat.add_mul]; omega]
      exact hc (k + j) x (by rw [List.getElem?_drop] at hx; exact hx) i v hv
  · left
    exact List.drop_eq_nil_of_le (by omega)
end
theorem flat_len {α : Type} (f : α → List Value) (m : Nat) (h : ∀ x, (f x).length = m) : ∀ L : List α, (L.flatMap f).length = L.length * m
  | [] => by simp
  | x :: l => by rw [List.flatMap_cons, List.length_append, h, flat_len f m h l, List.length_cons, Nat.succ_mul]; omega
theorem flat_at {α : Type} (f : α → List Value) (m : Nat) (h : ∀ x, (f x).length = m) {i : Nat} (hi : i < m) : ∀ (L : List α) (k : Nat) {x : α}, L[k]? = some x → (L.flatMap f)[k * m + i]? = (f x)[i]?
  | [], _, _, e => by simp at e
  | y :: l, 0, x, e => by
    simp at e
    subst e
    rw [List.flatMap_cons, Nat.zero_mul, Nat.zero_add, List.getElem?_append_left (by rw [h]; exact hi)]
  | y :: l, k + 1, x, e => by
    rw [List.flatMap_cons, List.getElem?_append_right (by rw [h, Nat.succ_mul]; omega), h, show (k + 1) * m + i - m = k * m + i by rw [Nat.succ_mul]; omega]
    exact flat_at f m h hi l k (by simpa using e)
theorem rd_cells {α : Type} {n : Nat} {cs : α → List Value} {w : World} {A : Nat} {L : List α} {t : TypeId} (hn : ∀ x, (cs x).length = n) (h : w.heap[A]? = some (.cells (L.flatMap cs).toArray t (0, 0))) : RD n cs w (some ⟨A, 0, none⟩) L := by
  refine .inr ⟨_, rfl, heap_lt h, fun j x hj i v hi => ?_⟩
  have hi3 : i < n := by
    rcases Nat.lt_or_ge i n with h' | h'
    · exact h'
    · rw [List.getElem?_eq_none (by rw [hn]; exact h')] at hi; cases hi
  have ha : ((⟨A, 0, none⟩ : Addr).add (j * n + i)) = ⟨A, j * n + i, none⟩ := by
    by_cases e0 : j * n + i = 0
    · rw [e0]; rfl
    · rw [fld_add _ _ e0]; simp
  rw [ha, Lib.cell_of_heap h, List.getElem?_toArray, flat_at cs n hn hi3 _ j hj]
  exact hi

/-- A slice value that owns the records of a list: n cells each, of type e. -/
def OR {α : Type} (e : TypeId) (n : Nat) (cs : α → List Value) (w : World) (base : Nat) (v : Value) (L : List α) : Prop := w.ownsRow base e n v L.length (L.flatMap cs)
section
variable {α : Type} {e : TypeId} {n : Nat} {cs : α → List Value} {w w' : World} {base : Nat} {v : Value} {L : List α}
theorem OR.nil : OR e n cs w base (.slice none 0 0) [] := World.ownsRow_nil w base e n
theorem OR.form (hn : ∀ x, (cs x).length = n) (h : OR e n cs w base v L) : ∃ A c, v = .slice A L.length c ∧ RD n cs w A L := by
  have h0 := h
  rcases h0.2 with ⟨rfl, hl⟩ | ⟨g, cap, cur, rfl, hg, hh, hnc, hm, hs, hx⟩
  · have : L = [] := List.eq_nil_of_length_eq_zero hl
    subst this
    exact ⟨none, 0, rfl, .inl rfl⟩
  · refine ⟨some ⟨g, 0, none⟩, cap, rfl, .inr ⟨_, rfl, (h.lt g rfl).2, fun j x hj i u hi => ?_⟩⟩
    have hin : i < n := by
      rcases Nat.lt_or_ge i n with h' | h'
      · exact h'
      · rw [List.getElem?_eq_none (by rw [hn]; exact h')] at hi; cases hi
    exact World.ownsRow.cells h rfl _ u (by rw [flat_at cs n hn hin L j hj]; exact hi)
theorem OR.kept {row : Option Nat} (h : OR e n cs w base v L) (hg : w.grownBy w' row) (hne : v.ownBlock = none ∨ v.ownBlock ≠ row) : OR e n cs w' base v L := World.ownsRow.kept h hg hne
theorem OR.gr (h : OR e n cs w base v L) (hg : Gr w w') : OR e n cs w' base v L := h.kept hg (by
  cases hv : v.ownBlock with
  | none => exact .inl rfl
  | some g => exact .inr (by simp))
theorem OR.alloc (h : OR e n cs w base v L) (o : Obj) : OR e n cs (w.alloc o) base v L := World.ownsRow.alloc h o
theorem OR.empty (hb : base ≤ w.heap.size) : OR e n cs (w.alloc (.cells #[] e)) base (.slice (some ⟨w.heap.size, 0, none⟩) 0 0) ([] : List α) :=
  World.ownsRow_made w #[] 0 hb (by unfold maxLen; omega) (by simp)
theorem OR.lt (h : OR e n cs w base v L) : ∀ k, v.ownBlock = some k → base ≤ k ∧ k < w.heap.size := World.ownsRow.lt h
/-- A row where it lies. -/
theorem OR.form2 (hn : ∀ x, (cs x).length = n) (h : OR e n cs w base v L) : ∃ A c, v = .slice A L.length c ∧ RD n cs w A L ∧ L.length ≤ c ∧ c ≤ 9223372036854775807 ∧ (A = none → c = 0) ∧ ∀ a, A = some a → base ≤ a.block ∧ a.block < w.heap.size ∧ a = ⟨a.block, 0, none⟩ := by
  obtain ⟨A, c, e0, hr⟩ := h.form hn
  have h0 := h
  rcases h0.2 with ⟨e1, hl⟩ | ⟨g, cap, cur, e1, hg, hh, hnc, hm, hs, hx⟩
  · rw [e0] at e1
    obtain ⟨rfl, h3, rfl⟩ := Value.slice.inj e1
    exact ⟨none, 0, e0, hr, by omega, by omega, fun _ => rfl, fun a h => by cases h⟩
  · rw [e0] at e1
    obtain ⟨rfl, -, rfl⟩ := Value.slice.inj e1
    refine ⟨_, _, e0, hr, by omega, by unfold maxLen at hm; omega, (fun h => by cases h), fun a h => ?_⟩
    cases h
    exact ⟨hg, heap_lt hh, rfl⟩
/-- Changes of a row of the call's own leave what was. -/
theorem OR.grow {W : World} (g0 : Gr W w) (h : OR e n cs w base v L) (hb : W.heap.size ≤ base) (g : w.grownBy w' v.ownBlock) : Gr W w' :=
  ⟨g.os.trans g0.os, g.tape.trans g0.tape, g.output.trans g0.output, Nat.le_trans g0.size g.size, fun k hk _ => (g.block k (Nat.lt_of_lt_of_le hk g0.size) (by
    intro e1
    have := h.lt k e1.symm
    omega)).trans (g0.block k hk (by simp))⟩

theorem run_appR (t ty : TypeId) {z : Value} {bytes : Nat} (hn : ∀ x, (cs x).length = n) (h1 : ∀ x, ∀ u ∈ cs x, u.oneCell' = true) (ht : Try.prog.underlying t = some (.slice e)) (hinfo : (Try.prog.info? e).map (fun i => (i.zero, i.size, i.bytes)) = some (some z, n, bytes)) (hz : z.cells.size = n) (hn0 : 0 < n) (hby : bytes ≤ 1000)
    (hown : OR e n cs w base v L) {A : Option Addr} {M : List α} (c : Nat) (hr : RD n cs w A M) (hA : A ≠ none) (hsz : L.length + M.length ≤ 1000000) (hb : base ≤ w.heap.size) :
    ∃ v' w', (Builtin.append_ #[t, t] ty #[v, .slice A M.length c]).run Try.prog w = .ok v' w' ∧ OR e n cs w' base v' (L ++ M) ∧ w.grownBy w' v.ownBlock ∧ (v'.ownBlock = v.ownBlock ∨ v'.ownBlock = some w.heap.size) := by
  obtain ⟨i0, hi, hz0, hz1, hz2⟩ := info_parts hinfo
  obtain ⟨a, rfl⟩ : ∃ a, A = some a := by
    cases A with
    | none => exact absurd rfl hA
    | some a => exact ⟨a, rfl⟩
  have hc : ∀ j u, (M.flatMap cs)[j]? = some u → w.cell? (a.add j) = some u := by
    intro j u hu
    have hj : j < M.length * n := by
      rw [← flat_len cs n hn M]
      exact (List.getElem?_eq_some_iff.1 hu).1
    have e0 : j / n < M.length := Nat.div_lt_of_lt_mul (by rw [Nat.mul_comm]; exact hj)
    have e1 : j % n < n := Nat.mod_lt _ hn0
    have e2 : j = j / n * n + j % n := by rw [Nat.mul_comm]; exact (Nat.div_add_mod j n).symm
    rcases hr with rfl | ⟨a', e', _, hc⟩
    · simp at hu
    · cases e'
      have e3 := List.getElem?_eq_getElem e0
      have e4 := flat_at cs n hn e1 M _ e3
      rw [← e2, hu] at e4
      rw [e2]
      exact hc _ _ e3 _ _ e4.symm
  obtain ⟨v', w', hrun, h2, h3, _, h5⟩ := run_append_own_at (P := Try.prog) w base t ty e i0 z n bytes ht hi hz0 hz1 hz2 hz hn0 v L.length (L.flatMap cs) hown a M.length c (M.flatMap cs) (flat_len cs n hn M) hc
    (by intro u hu; obtain ⟨x, _, hx⟩ := List.mem_flatMap.1 hu; exact h1 x u hx) (by unfold maxLen; omega) (by have := Nat.mul_le_mul (show L.length + M.length ≤ 1000000 from hsz) hby; omega) hb
  exact ⟨v', w', hrun, by unfold OR; simpa using h2, h3, h5⟩
end

/-- A type, with the places of its lists. -/
inductive Ty where
  | mk (kind var : Int) (A : Option Addr) (c : Nat) (sub : List Ty)
def Ty.kind : Ty → Int | .mk k _ _ _ _ => k
def Ty.var : Ty → Int | .mk _ v _ _ _ => v
def Ty.A : Ty → Option Addr | .mk _ _ a _ _ => a
def Ty.c : Ty → Nat | .mk _ _ _ c _ => c
def Ty.sub : Ty → List Ty | .mk _ _ _ _ l => l
def Ty.cs (x : Ty) : List Value := [iv x.kind, iv x.var, .slice x.A x.sub.length x.c]
def Ty.v (x : Ty) : Value := .agg #[iv x.kind, iv x.var, .slice x.A x.sub.length x.c]
theorem Ty.cs_len (x : Ty) : x.cs.length = 3 := rfl
theorem Ty.cell1 (x : Ty) : ∀ u ∈ x.cs, u.oneCell' = true := by
  intro u hu
  simp only [Ty.cs, List.mem_cons, List.not_mem_nil, or_false] at hu
  rcases hu with rfl | rfl | rfl <;> rfl
/-- A type, plain. -/
inductive PT where
  | mk (kind var : Int) (sub : List PT)
def PT.kind : PT → Int | .mk k _ _ => k
def PT.var : PT → Int | .mk _ v _ => v
def PT.sub : PT → List PT | .mk _ _ l => l
theorem PT.eta (t : PT) : PT.mk t.kind t.var t.sub = t := by cases t; rfl
mutual
def Ty.er : Ty → PT
  | .mk k v _ _ l => .mk k v (ers l)
def ers : List Ty → List PT
  | [] => []
  | x :: l => x.er :: ers l
end
@[simp] theorem ers_nil : ers [] = [] := by simp [ers]
@[simp] theorem ers_cons (x : Ty) (l : List Ty) : ers (x :: l) = x.er :: ers l := by simp [ers]
theorem ers_map (l : List Ty) : ers l = l.map Ty.er := by induction l <;> simp [*]
@[simp] theorem ers_append (l m : List Ty) : ers (l ++ m) = ers l ++ ers m := by simp [ers_map]
@[simp] theorem ers_length (l : List Ty) : (ers l).length = l.length := by simp [ers_map]
theorem er_kind (x : Ty) : x.er.kind = x.kind := by cases x; simp [Ty.er, PT.kind, Ty.kind]
theorem er_var (x : Ty) : x.er.var = x.var := by cases x; simp [Ty.er, PT.var, Ty.var]
theorem er_sub (x : Ty) : x.er.sub = ers x.sub := by cases x; simp [Ty.er, PT.sub, Ty.sub]
theorem er_eq (x : Ty) : x.er = .mk x.kind x.var (ers x.sub) := by cases x; simp [Ty.er, Ty.kind, Ty.var, Ty.sub]

/-- Types that lie in memory. -/
inductive TRd (w : World) : Option Addr → Nat → List Ty → Prop
  | mk {A : Option Addr} {c : Nat} {L : List Ty} (hc : L.length ≤ c) (hm : c ≤ 9223372036854775807) (h0 : A = none → c = 0) (hr : RD 3 Ty.cs w A L) (hs : ∀ x ∈ L, TRd w x.A x.c x.sub) : TRd w A c L
section
variable {w w' : World} {A : Option Addr} {c : Nat} {L : List Ty}
theorem TRd.hc (h : TRd w A c L) : L.length ≤ c := by cases h; assumption
theorem TRd.hm (h : TRd w A c L) : c ≤ 9223372036854775807 := by cases h; assumption
theorem TRd.h0 (h : TRd w A c L) : A = none → c = 0 := by cases h; assumption
theorem TRd.hr (h : TRd w A c L) : RD 3 Ty.cs w A L := by cases h; assumption
theorem TRd.hs (h : TRd w A c L) : ∀ x ∈ L, TRd w x.A x.c x.sub := by cases h; assumption
theorem TRd.nil (w : World) : TRd w none 0 [] := .mk (by simp) (by omega) (fun _ => rfl) (.inl rfl) (by simp)
theorem TRd.gr (h : TRd w A c L) (g : Gr w w') : TRd w' A c L := by
  induction h with
  | mk hc hm h0 hr _ ih => exact .mk hc hm h0 (hr.gr g) ih
/-- One of the types. -/
theorem TRd.at (h : TRd w A c L) {k : Nat} (hk : k < L.length) : ∃ a a1 : Addr, A = some a ∧ a.add (k * 3) = a1 ∧ a1.block < w.heap.size ∧ w.cell? a1 = some (iv L[k].kind) ∧ w.cell? ⟨a1.block, a1.off + 1, none⟩ = some (iv L[k].var) ∧ w.cell? ⟨a1.block, a1.off + 2, none⟩ = some (.slice L[k].A L[k].sub.length L[k].c) ∧ TRd w L[k].A L[k].c L[k].sub := by
  obtain ⟨a, e, hb, hc⟩ := h.hr.at hk
  refine ⟨a, _, e, rfl, by rw [add_block]; exact hb, by simpa using hc 0 _ rfl, ?_, ?_, h.hs _ (List.getElem_mem hk)⟩
  · rw [← fld_add _ 1 (by omega), add_add']; exact hc 1 _ rfl
  · rw [← fld_add _ 2 (by omega), add_add']; exact hc 2 _ rfl
end
abbrev Ty.Rd (w : World) (x : Ty) : Prop := TRd w x.A x.c x.sub
end Go.Proofs.Ytjlmhfdigoogfaa
namespace Go.Proofs.Ytjlmhfdigoogfaa

mutual
/-- Of how many types a type consists. -/
def PT.size : PT → Nat
  | .mk _ _ s => 1 + psz s
def psz : List PT → Nat
  | [] => 0
  | x :: l => x.size + psz l
end
mutual
/-- The types within a type. -/
def PT.pre : PT → List PT
  | .mk k v s => .mk k v s :: pres s
def pres : List PT → List PT
  | [] => []
  | x :: l => x.pre ++ pres l
end
@[simp] theorem psz_nil : psz [] = 0 := by simp [psz]
@[simp] theorem psz_cons (x : PT) (l : List PT) : psz (x :: l) = x.size + psz l := by simp [psz]
@[simp] theorem psz_append (l m : List PT) : psz (l ++ m) = psz l + psz m := by induction l with | nil => simp | cons x l ih => simp [ih]; omega
theorem size_eq (t : PT) : t.size = 1 + psz t.sub := by cases t; simp [PT.size, PT.sub]
theorem size_pos (t : PT) : 1 ≤ t.size := by rw [size_eq]; omega
@[simp] theorem pres_nil : pres [] = [] := by simp [pres]
@[simp] theorem pres_cons (x : PT) (l : List PT) : pres (x :: l) = x.pre ++ pres l := by simp [pres]
@[simp] theorem pres_append (l m : List PT) : pres (l ++ m) = pres l ++ pres m := by induction l with | nil => simp | cons x l ih => simp [ih]
theorem pre_eq (t : PT) : t.pre = t :: pres t.sub := by cases t; simp [PT.pre, PT.sub]
theorem psz_mem {x : PT} {l : List PT} (h : x ∈ l) : x.size ≤ psz l := by
  induction l with
  | nil => cases h
  | cons y l ih =>
    rcases List.mem_cons.1 h with rfl | h
    · simp
    · have := ih h; simp; omega
theorem psz_len (l : List PT) : l.length ≤ psz l := by
  induction l with
  | nil => simp
  | cons x l ih => have := size_pos x; simp; omega
theorem psz_take_succ {l : List PT} {k : Nat} (h : k < l.length) : psz (l.take (k + 1)) = psz (l.take k) + (l[k]).size := by
  rw [List.take_succ_eq_append_getElem h, psz_append]; simp
theorem psz_take_le (l : List PT) (k : Nat) : psz (l.take k) ≤ psz l := by
  have := congrArg psz (List.take_append_drop k l)
  rw [psz_append] at this
  omega
/-- Types by their sizes. -/
theorem PT.ind {P : PT → Prop} (h : ∀ k v s, (∀ x ∈ s, P x) → P (.mk k v s)) (t : PT) : P t := by
  suffices H : ∀ n (t : PT), t.size ≤ n → P t from H t.size t (Nat.le_refl _)
  intro n
  induction n with
  | zero => intro t ht; have := size_pos t; omega
  | succ n ih =>
    intro t ht
    cases t with
    | mk k v s =>
      refine h k v s fun x hx => ih x ?_
      have h1 := psz_mem hx
      have h2 := size_eq (.mk k v s)
      simp only [PT.sub] at h2
      omega
mutual
theorem pre_len : ∀ t : PT, t.pre.length = t.size
  | .mk k v s => by simp [PT.pre, PT.size, pres_len s]; omega
theorem pres_len : ∀ s : List PT, (pres s).length = psz s
  | [] => by simp
  | x :: l => by simp [pre_len x, pres_len l]
end

/-- The first that is not zero. -/
def fe : List Int → Int
  | [] => 0
  | x :: l => if x = 0 then fe l else x
theorem fe_append (l m : List Int) : fe (l ++ m) = if fe l = 0 then fe m else fe l := by
  induction l with
  | nil => simp [fe]
  | cons x l ih =>
    by_cases h : x = 0
    · simp [fe, h, ih]
    · simp [fe, h]
theorem fe_zero : ∀ {l : List Int}, fe l = 0 → ∀ x ∈ l, x = 0
  | [], _, x, h => by simp at h
  | y :: l, e, x, h => by
    by_cases hy : y = 0
    · simp only [fe, if_pos hy] at e
      rcases List.mem_cons.1 h with rfl | h
      · exact hy
      · exact fe_zero e x h
    · simp only [fe, if_neg hy] at e
      exact absurd e hy
theorem fe_all : ∀ {l : List Int}, (∀ x ∈ l, x = 0) → fe l = 0
  | [], _ => rfl
  | y :: l, h => by
    have := h y (by simp)
    subst this
    simp only [fe, if_true]
    exact fe_all fun x hx => h x (by simp [hx])
/-- How many elements Sub has. -/
def prt (k : Int) : Nat := if k = 3 then 1 else if k = 4 then 2 else 0
/-- The error of a type, apart from those in its Sub. -/
def ck1 (t : PT) : Int :=
  if t.kind < 1 ∨ 5 < t.kind then 9
  else if (t.kind ≠ 5 ∧ t.var ≠ 0) ∨ t.sub.length ≠ prt t.kind then 1
  else if t.var < 0 ∨ 999999 < t.var then 2
  else 0
/-- The error of a type, apart from its size. -/
def cke (t : PT) : Int := fe (t.pre.map ck1)
def ckes (l : List PT) : Int := fe ((pres l).map ck1)
theorem cke_eq (t : PT) : cke t = if ck1 t = 0 then ckes t.sub else ck1 t := by
  unfold cke ckes
  rw [pre_eq]
  simp [fe]
theorem ckes_nil : ckes [] = 0 := by simp [ckes, fe]
theorem ckes_cons (x : PT) (l : List PT) : ckes (x :: l) = if cke x = 0 then ckes l else cke x := by
  unfold ckes cke
  simp [fe_append]
theorem ckes_append (l m : List PT) : ckes (l ++ m) = if ckes l = 0 then ckes m else ckes l := by
  unfold ckes
  simp [fe_append]
/-- Why a type is not valid. -/
def ck (t : PT) : Int := if 200 < t.size then 4 else cke t
/-- A valid type. -/
structure VT (t : PT) : Prop where
  k : 1 ≤ t.kind ∧ t.kind ≤ 5
  v : t.kind ≠ 5 → t.var = 0
  r : 0 ≤ t.var ∧ t.var ≤ 999999
  n : t.sub.length = prt t.kind
theorem ck1_ok {t : PT} (h : ck1 t = 0) : VT t := by
  unfold ck1 at h
  split at h
  · cases h
  · split at h
    · cases h
    · split at h
      · cases h
      · rename_i h1 h2 h3
        simp only [not_or, not_and, Decidable.not_not] at h1 h2 h3
        exact ⟨by omega, h2.1, by omega, h2.2⟩
theorem cke_ok {t : PT} (h : cke t = 0) : VT t ∧ ∀ x ∈ t.sub, cke x = 0 := by
  rw [cke_eq] at h
  split at h
  · rename_i h1
    refine ⟨ck1_ok h1, fun x hx => ?_⟩
    unfold ckes at h
    refine fe_all fun y hy => fe_zero h y ?_
    obtain ⟨z, hz, rfl⟩ := List.mem_map.1 hy
    refine List.mem_map.2 ⟨z, ?_, rfl⟩
    clear h hy
    revert hx
    generalize t.sub = l
    induction l with
    | nil => intro hx; cases hx
    | cons q l ih =>
      intro hx
      rw [pres_cons, List.mem_append]
      rcases List.mem_cons.1 hx with rfl | hx
      · exact .inl hz
      · exact .inr (ih hx)
  · rename_i h1
    exact absurd h h1
/-- The variables, in the order in which they occur first, after others. -/
def adv (l : List Int) (t : PT) : List Int := if t.kind = 5 ∧ ¬ t.var ∈ l then l ++ [t.var] else l
def sn (l : List Int) (t : PT) : List Int := t.pre.foldl adv l
def sns (l : List Int) (s : List PT) : List Int := (pres s).foldl adv l
theorem sn_eq (l : List Int) (t : PT) : sn l t = sns (adv l t) t.sub := by unfold sn sns; rw [pre_eq]; rfl
theorem sns_nil (l : List Int) : sns l [] = l := by simp [sns]
theorem sns_cons (l : List Int) (x : PT) (s : List PT) : sns l (x :: s) = sns (sn l x) s := by simp [sns, sn]
theorem sns_snoc (l : List Int) (x : PT) (s : List PT) : sns l (s ++ [x]) = sn (sns l s) x := by simp [sns, sn]
theorem adv_len (l : List Int) (t : PT) : (adv l t).length ≤ l.length + 1 := by unfold adv; split <;> simp
theorem fold_adv_len (m : List PT) : ∀ l : List Int, (m.foldl adv l).length ≤ l.length + m.length := by
  induction m with
  | nil => intro l; simp
  | cons x m ih => intro l; have h1 := ih (adv l x); have h2 := adv_len l x; simp; omega
theorem sn_len (l : List Int) (t : PT) : (sn l t).length ≤ l.length + t.size := by have := fold_adv_len t.pre l; rw [pre_len] at this; exact this
end Go.Proofs.Ytjlmhfdigoogfaa
namespace Go.Proofs.Ytjlmhfdigoogfaa
open Go.RowKit

theorem Ty.ind {P : Ty → Prop} (h : ∀ x : Ty, (∀ y ∈ x.sub, P y) → P x) (x : Ty) : P x := by
  suffices H : ∀ n (x : Ty), x.er.size ≤ n → P x from H x.er.size x (Nat.le_refl _)
  intro n
  induction n with
  | zero => intro t ht; have := size_pos t.er; omega
  | succ n ih =>
    intro t ht
    refine h t fun y hy => ih y ?_
    have h1 : y.er ∈ ers t.sub := by rw [ers_map]; exact List.mem_map.2 ⟨y, hy, rfl⟩
    have h2 := psz_mem h1
    have h3 := size_eq t.er
    rw [er_sub] at h3
    omega
/-- A type in a box behind a world. -/
structure B1 (k v : Int) (s : Value) (w V : World) : Prop where
  gr : Gr w V
  h : V.heap[w.heap.size]? = some (.cells #[iv k, iv v, s] 24 (0, 0))
theorem B1.of (k v : Int) (s : Value) (w : World) : B1 k v s w (w.alloc (.cells #[iv k, iv v, s] 24)) := ⟨gr_al _ _, al_new _ _⟩
theorem B1.grow {k v : Int} {s : Value} {w V V' : World} (h : B1 k v s w V) (g : Gr V V') : B1 k v s w V' := ⟨h.gr.trans g, gr_h g h.h⟩
theorem B1.c {k v : Int} {s : Value} {w V : World} (h : B1 k v s w V) : V.cell? ⟨w.heap.size, 0, none⟩ = some (iv k) ∧ V.cell? ⟨w.heap.size, 1, none⟩ = some (iv v) ∧ V.cell? ⟨w.heap.size, 2, none⟩ = some s := by
  refine ⟨?_, ?_, ?_⟩ <;> · rw [Lib.cell_of_heap h.h]; rfl
abbrev vS (x : Ty) : Value := .slice x.A x.sub.length x.c
/-- The size, at most a limit and one. -/
def szL (t : PT) (limit : Int) : Int := if (t.size : Int) ≤ limit then t.size else limit + 1
theorem szL_le (t : PT) (limit : Int) : szL t limit ≤ limit + 1 ∧ (0 ≤ limit → 1 ≤ szL t limit) := by
  unfold szL
  have := size_pos t
  split <;> omega
set_option maxRecDepth 100000 in
set_option maxHeartbeats 4000000 in
theorem size_any (x : Ty) : ∀ (limit : Int) (w : World), x.Rd w → 0 ≤ limit → limit ≤ 1000 → Calls Try.prog 54 #[x.v, iv limit] w fun e w' => e = .returned (iv (szL x.er limit)) ∧ Gr w w' := by
  induction x using Ty.ind with
  | h x ih =>
    intro limit w hx l0 l1
    have IH := Lib.hid ih
    have HX := Lib.hid (fun V (g : Gr w V) => TRd.gr hx g)
    have BX := Lib.hid (B1.of x.kind x.var (.slice x.A x.sub.length x.c) w)
    have SZ := Lib.hid (show x.er.size = 1 + psz (ers x.sub) by rw [size_eq, er_sub])
    have hlen : x.sub.length ≤ 9223372036854775807 := Nat.le_trans hx.hc hx.hm
    clear ih hx
    unfold Ty.v
    go_enter Try.func54, Try.ntmps54
    go_wp2
    go_loopw [5, 6] (fun n i V => ∃ (k : Nat) (m : Int), k ≤ x.sub.length ∧ i = .int .i64 k ∧ n = .int .i64 m ∧ 1 ≤ m ∧ m ≤ limit + 1 ∧ Hid (B1 x.kind x.var (.slice x.A x.sub.length x.c) w V ∧ (m ≤ limit → m = 1 + psz ((ers x.sub).take k)) ∧ (¬ m ≤ limit → limit < 1 + psz (ers x.sub))) ) (fun _ i _ => x.sub.length - (intOf i).toNat)
    case atStart => exact ⟨0, 1, Nat.zero_le _, rfl, rfl, Int.le_refl _, by omega, Lib.hid ⟨BX.out, by simp, by omega⟩⟩
    case round =>
      clear BX
      obtain ⟨k, m, hk, rfl, rfl, m0, m1, HG⟩ := hrel
      obtain ⟨-, -, b2⟩ := HG.out.1.c
      by_cases hlt : k < x.sub.length
      · by_cases hm : m ≤ limit
        · obtain ⟨a, a1, hA, ha, hab, c0, c1, c2, hsub⟩ := (HX.out _ HG.out.1.gr).at hlt
          obtain ⟨y, hy⟩ : ∃ y, y = x.sub[k] := ⟨_, rfl⟩
          have CL := Lib.hid (IH.out x.sub[k] (List.getElem_mem hlt) (limit - m) wr hsub (by omega) (by omega))
          have PS := Lib.hid (show psz ((ers x.sub).take (k + 1)) = psz ((ers x.sub).take k) + x.sub[k].er.size by
            rw [psz_take_succ (by simpa using hlt)]
            congr 2
            simp [ers_map])
          rw [← hy] at c0 c1 c2 CL PS
          rw [hA] at b2
          have w1 : IntKind.i64.wrap (limit - m) = limit - m := IntWalk.i64_in _ (by omega)
          have SL := szL_le y.er (limit - m)
          unfold Ty.v at CL
          have LE := Lib.hid (psz_take_le (ers x.sub) (k + 1))
          have SD : Hid (szL y.er (limit - m) = if (y.er.size : Int) ≤ limit - m then (y.er.size : Int) else limit - m + 1) := Lib.hid rfl
          generalize szL y.er (limit - m) = s at *
          have w2 : IntKind.i64.wrap (m + s) = m + s := IntWalk.i64_in _ (by omega)
          clear hA hsub hy
          go_wp2_with (first | (go_at_call 54; refine CL.out.mono ?_; rintro e w1 ⟨rfl, g1⟩; have G1 := Lib.hid (HG.out.1.grow g1); clear g1))
          refine ⟨⟨k + 1, m + s, by omega, by simp, rfl, by omega, by omega, Lib.hid ⟨G1.out, fun h => ?_, fun h => ?_⟩⟩, by simp [intOf]; omega⟩
          · have h1 := HG.out.2.1 hm
            have h2 := SD.out
            rw [PS.out]
            split at h2 <;> omega
          · have h1 := HG.out.2.1 hm
            have h2 := SD.out
            have h3 := LE.out
            rw [PS.out] at h3
            split at h2 <;> omega
        · go_wp2
          go_ret
          have h1 := HG.out.2.2 hm
          have hfin : szL x.er limit = m := by
            unfold szL
            rw [SZ.out, if_neg (by omega)]
            omega
          exact ⟨by rw [hfin]; rfl, HG.out.1.gr⟩
      · obtain rfl : k = x.sub.length := by omega
        have hfin : szL x.er limit = m := by
          unfold szL
          rw [SZ.out]
          by_cases hm : m ≤ limit
          · have h1 := HG.out.2.1 hm
            rw [List.take_of_length_le (by simp)] at h1
            rw [if_pos (by omega)]
            omega
          · have h1 := HG.out.2.2 hm
            rw [if_neg (by omega)]
            omega
        have FN := Lib.hid hfin
        clear hfin
        go_wp2
        go_ret
        exact ⟨by rw [FN.out]; rfl, HG.out.1.gr⟩

def grt (t : PT) : Bool := decide (40 < t.size)
theorem szL_gt (t : PT) (n : Nat) : (n : Int) < szL t n ↔ n < t.size := by
  unfold szL
  split <;> omega
set_option maxRecDepth 100000 in
set_option maxHeartbeats 4000000 in
theorem great1_any (x : Ty) (w : World) (hx : x.Rd w) : Calls Try.prog 40 #[x.v] w fun e w' => e = .returned (.bool (grt x.er)) ∧ Gr w w' := by
  have CL := Lib.hid (fun V (g : Gr w V) => size_any x 40 V (hx.gr g) (by omega) (by omega))
  have BX := Lib.hid (B1.of x.kind x.var (.slice x.A x.sub.length x.c) w)
  obtain ⟨b0, b1, b2⟩ := BX.out.c
  have e1 : grt x.er = decide ((40 : Int) < szL x.er 40) := by
    unfold grt
    rw [decide_eq_decide]
    exact (szL_gt x.er 40).symm
  rw [e1]
  clear hx e1
  unfold Ty.v at *
  generalize szL x.er 40 = s at *
  go_enter Try.func40, Try.ntmps40
  go_wp2_with (first | (go_at_call 54; refine (CL.out _ BX.out.gr).mono ?_; rintro e w1 ⟨rfl, g1⟩; have G1 := Lib.hid (BX.out.gr.trans g1); clear g1))
  go_ret
  exact ⟨by first | rfl | simp, G1.out⟩
set_option maxRecDepth 100000 in
set_option maxHeartbeats 4000000 in
/-- Whether one of some types is too large. -/
theorem great_any (A : Option Addr) (c : Nat) (L : List Ty) (w : World) (hL : TRd w A c L) : Calls Try.prog 12 #[.slice A L.length c] w fun e w' => e = .returned (.bool ((ers L).any grt)) ∧ Gr w w' := by
  have HL := Lib.hid (fun V (g : Gr w V) => TRd.gr hL g)
  have hlen : L.length ≤ 9223372036854775807 := Nat.le_trans hL.hc hL.hm
  clear hL
  go_enter Try.func12, Try.ntmps12
  go_wp2
  go_loopw [4, 7] (fun _ i V => ∃ k : Nat, k ≤ L.length ∧ i = .int .i64 k ∧ Hid (Gr w V ∧ (ers (L.take k)).any grt = false)) (fun _ i _ => L.length - (intOf i).toNat)
  case atStart => exact ⟨0, Nat.zero_le _, rfl, Lib.hid ⟨gr_refl w, by simp⟩⟩
  case round =>
    obtain ⟨k, hk, rfl, HG⟩ := hrel
    by_cases hlt : k < L.length
    · obtain ⟨a, a1, hA, ha, hab, c0, c1, c2, hsub⟩ := (HL.out _ HG.out.1).at hlt
      obtain ⟨y, hy⟩ : ∃ y, L[k] = y := ⟨_, rfl⟩
      rw [hy] at c0 c1 c2 hsub
      have HT := Lib.hid (show L.take (k + 1) = L.take k ++ [y] by rw [← hy]; exact List.take_succ_eq_append_getElem hlt)
      have HD := Lib.hid (show L = L.take k ++ y :: L.drop (k + 1) by
        rw [← hy, ← List.drop_eq_getElem_cons hlt, List.take_append_drop])
      have CL := Lib.hid (fun V (g : Gr wr V) => great1_any y V (TRd.gr hsub g))
      unfold Ty.v at CL
      subst hA
      clear hy hsub HL
      cases hq : grt y.er with
      | true =>
        go_wp2_with (first | (go_at_call 40; refine (CL.out _ (gr_al _ _)).mono ?_; rintro e w1 ⟨rfl, g1⟩; have G1 := Lib.hid ((HG.out.1.trans (gr_al _ _)).trans g1); clear g1))
        go_ret
        exact ⟨by rw [HD.out]; simp [hq], G1.out⟩
      | false =>
        go_wp2_with (first | (go_at_call 40; refine (CL.out _ (gr_al _ _)).mono ?_; rintro e w1 ⟨rfl, g1⟩; have G1 := Lib.hid ((HG.out.1.trans (gr_al _ _)).trans g1); clear g1))
        exact ⟨⟨k + 1, by omega, by simp, Lib.hid ⟨G1.out, by rw [HT.out]; simp only [ers_append, List.any_append, HG.out.2]; simp [hq]⟩⟩, by simp [intOf]; omega⟩
    · obtain rfl : L.length = k := by omega
      have h1 := HG.out.2
      rw [List.take_length] at h1
      have H1 := Lib.hid h1
      clear h1
      go_wp2
      go_ret
      exact ⟨by rw [H1.out]; rfl, HG.out.1⟩
end Go.Proofs.Ytjlmhfdigoogfaa
namespace Go.Proofs.Ytjlmhfdigoogfaa
open Go.RowKit

set_option maxRecDepth 100000 in
theorem parts_any (k : Int) (w : World) : Calls Try.prog 84 #[iv k] w fun e w' => e = .returned (iv (prt k)) ∧ w' = w := by
  have e : prt k = if k = 3 then 1 else if k = 4 then 2 else 0 := rfl
  by_cases h3 : k = 3
  · subst h3
    go_enter Try.func84, Try.ntmps84
    go_wp2
    go_ret
    exact ⟨rfl, rfl⟩
  · by_cases h4 : k = 4
    · subst h4
      go_enter Try.func84, Try.ntmps84
      go_wp2
      go_ret
      exact ⟨rfl, rfl⟩
    · rw [e, if_neg h3, if_neg h4]
      clear e
      go_enter Try.func84, Try.ntmps84
      go_wp2
      go_ret
      exact ⟨rfl, rfl⟩
theorem ck1_split (t : PT) : (t.kind < 1 ∧ ck1 t = 9) ∨ (¬ t.kind < 1 ∧ 5 < t.kind ∧ ck1 t = 9) ∨ ((¬ t.kind < 1 ∧ ¬ 5 < t.kind) ∧ (((t.kind ≠ 5 ∧ t.var ≠ 0) ∧ ck1 t = 1) ∨ (¬ (t.kind ≠ 5 ∧ t.var ≠ 0) ∧ t.sub.length ≠ prt t.kind ∧ ck1 t = 1) ∨ ((¬ (t.kind ≠ 5 ∧ t.var ≠ 0) ∧ t.sub.length = prt t.kind) ∧ ((t.var < 0 ∧ ck1 t = 2) ∨ (¬ t.var < 0 ∧ 999999 < t.var ∧ ck1 t = 2) ∨ (¬ t.var < 0 ∧ ¬ 999999 < t.var ∧ ck1 t = 0))))) := by
  unfold ck1
  by_cases h1 : t.kind < 1
  · left; exact ⟨h1, by rw [if_pos (.inl h1)]⟩
  · right
    by_cases h2 : 5 < t.kind
    · left; exact ⟨h1, h2, by rw [if_pos (.inr h2)]⟩
    · right
      refine ⟨⟨h1, h2⟩, ?_⟩
      rw [if_neg (by omega)]
      by_cases h3 : t.kind ≠ 5 ∧ t.var ≠ 0
      · left; exact ⟨h3, by rw [if_pos (.inl h3)]⟩
      · right
        by_cases h4 : t.sub.length = prt t.kind
        · right
          refine ⟨⟨h3, h4⟩, ?_⟩
          rw [if_neg (by simp [h4]; omega)]
          by_cases h5 : t.var < 0
          · left; exact ⟨h5, by rw [if_pos (.inl h5)]⟩
          · right
            by_cases h6 : 999999 < t.var
            · left; exact ⟨h5, h6, by rw [if_pos (.inr h6)]⟩
            · right; exact ⟨h5, h6, by rw [if_neg (by omega)]⟩
        · left; exact ⟨h3, h4, by rw [if_pos (.inr h4)]⟩
theorem kinds {k : Int} (h1 : ¬ k < 1) (h2 : ¬ 5 < k) : k = 1 ∨ k = 2 ∨ k = 3 ∨ k = 4 ∨ k = 5 := by omega
set_option maxRecDepth 100000 in
set_option maxHeartbeats 4000000 in
theorem checkOne_any (x : Ty) (w : World) (hl : x.sub.length ≤ 9223372036854775807) : Calls Try.prog 53 #[x.v] w fun e w' => e = .returned (iv (ck1 x.er)) ∧ Gr w w' := by
  have BX := Lib.hid (B1.of x.kind x.var (.slice x.A x.sub.length x.c) w)
  obtain ⟨b0, b1, b2⟩ := BX.out.c
  have hs := ck1_split x.er
  rw [er_kind, er_var, er_sub, ers_length] at hs
  unfold Ty.v
  generalize ck1 x.er = r at *
  generalize x.kind = k at *
  generalize x.var = v at *
  generalize x.sub.length = n at *
  rcases hs with ⟨h1, rfl⟩ | ⟨h1, h2, rfl⟩ | ⟨⟨h1, h2⟩, hs⟩
  · have q1 : (k == 1) = false := by simp; omega
    have q2 : (k == 2) = false := by simp; omega
    have q3 : (k == 5) = false := by simp; omega
    have q4 : (k == 3) = false := by simp; omega
    have q5 : (k == 4) = false := by simp; omega
    clear h1
    go_enter Try.func53, Try.ntmps53
    go_wp2
    go_ret
    exact ⟨rfl, BX.out.gr⟩
  · have q1 : (k == 1) = false := by simp; omega
    have q2 : (k == 2) = false := by simp; omega
    have q3 : (k == 5) = false := by simp; omega
    have q4 : (k == 3) = false := by simp; omega
    have q5 : (k == 4) = false := by simp; omega
    clear h1 h2
    go_enter Try.func53, Try.ntmps53
    go_wp2
    go_ret
    exact ⟨rfl, BX.out.gr⟩
  · have hk := kinds h1 h2
    clear h1 h2
    rcases hk with rfl | rfl | rfl | rfl | rfl
    all_goals
      simp only [prt, Int.reduceEq, if_false, if_true, ne_eq, not_true_eq_false, not_false_eq_true, false_and, true_and, false_or, Decidable.not_not] at hs
    · have hs' : (¬ n = 0 ∧ r = 1) ∨ (n = 0 ∧ ¬ v = 0 ∧ r = 1) ∨ (n = 0 ∧ v = 0 ∧ r = 0) := by omega
      clear hs
      rcases hs' with ⟨hn, rfl⟩ | ⟨rfl, hv, rfl⟩ | ⟨rfl, rfl, rfl⟩
      · have hi : ¬ (n : Int) = 0 := by omega
        go_enter Try.func53, Try.ntmps53
        go_wp2
        go_ret
        exact ⟨rfl, BX.out.gr⟩
      · go_enter Try.func53, Try.ntmps53
        go_wp2
        go_ret
        exact ⟨rfl, BX.out.gr⟩
      · go_enter Try.func53, Try.ntmps53
        go_wp2
        go_ret
        exact ⟨rfl, BX.out.gr⟩
    · have hs' : (¬ n = 0 ∧ r = 1) ∨ (n = 0 ∧ ¬ v = 0 ∧ r = 1) ∨ (n = 0 ∧ v = 0 ∧ r = 0) := by omega
      clear hs
      rcases hs' with ⟨hn, rfl⟩ | ⟨rfl, hv, rfl⟩ | ⟨rfl, rfl, rfl⟩
      · have hi : ¬ (n : Int) = 0 := by omega
        go_enter Try.func53, Try.ntmps53
        go_wp2
        go_ret
        exact ⟨rfl, BX.out.gr⟩
      · go_enter Try.func53, Try.ntmps53
        go_wp2
        go_ret
        exact ⟨rfl, BX.out.gr⟩
      · go_enter Try.func53, Try.ntmps53
        go_wp2
        go_ret
        exact ⟨rfl, BX.out.gr⟩
    · have hs' : (¬ n = 1 ∧ r = 1) ∨ (n = 1 ∧ ¬ v = 0 ∧ r = 1) ∨ (n = 1 ∧ v = 0 ∧ r = 0) := by omega
      clear hs
      rcases hs' with ⟨hn, rfl⟩ | ⟨rfl, hv, rfl⟩ | ⟨rfl, rfl, rfl⟩
      · have hi : ¬ (n : Int) = 1 := by omega
        go_enter Try.func53, Try.ntmps53
        go_wp2
        go_ret
        exact ⟨rfl, BX.out.gr⟩
      · go_enter Try.func53, Try.ntmps53
        go_wp2
        go_ret
        exact ⟨rfl, BX.out.gr⟩
      · go_enter Try.func53, Try.ntmps53
        go_wp2
        go_ret
        exact ⟨rfl, BX.out.gr⟩
    · have hs' : (¬ n = 2 ∧ r = 1) ∨ (n = 2 ∧ ¬ v = 0 ∧ r = 1) ∨ (n = 2 ∧ v = 0 ∧ r = 0) := by omega
      clear hs
      rcases hs' with ⟨hn, rfl⟩ | ⟨rfl, hv, rfl⟩ | ⟨rfl, rfl, rfl⟩
      · have hi : ¬ (n : Int) = 2 := by omega
        go_enter Try.func53, Try.ntmps53
        go_wp2
        go_ret
        exact ⟨rfl, BX.out.gr⟩
      · go_enter Try.func53, Try.ntmps53
        go_wp2
        go_ret
        exact ⟨rfl, BX.out.gr⟩
      · go_enter Try.func53, Try.ntmps53
        go_wp2
        go_ret
        exact ⟨rfl, BX.out.gr⟩
    · have hs' : (¬ n = 0 ∧ r = 1) ∨ (n = 0 ∧ v < 0 ∧ r = 2) ∨ (n = 0 ∧ ¬ v < 0 ∧ 999999 < v ∧ r = 2) ∨ (n = 0 ∧ ¬ v < 0 ∧ ¬ 999999 < v ∧ r = 0) := by omega
      clear hs
      rcases hs' with ⟨hn, rfl⟩ | ⟨rfl, hv, rfl⟩ | ⟨rfl, hv, hv2, rfl⟩ | ⟨rfl, hv, hv2, rfl⟩
      all_goals
        go_enter Try.func53, Try.ntmps53
        go_wp2
        go_ret
        exact ⟨rfl, BX.out.gr⟩
end Go.Proofs.Ytjlmhfdigoogfaa
namespace Go.Proofs.Ytjlmhfdigoogfaa
open Go.RowKit

set_option maxRecDepth 100000 in
set_option maxHeartbeats 4000000 in
theorem rcheck_any (x : Ty) : ∀ (w : World), x.Rd w → Calls Try.prog 55 #[x.v] w fun e w' => e = .returned (iv (cke x.er)) ∧ Gr w w' := by
  induction x using Ty.ind with
  | h x ih =>
    intro w hx
    have hs := ck1_split x.er
    have HC := Lib.hid (cke_eq x.er)
    rw [er_kind, er_var, er_sub, ers_length] at hs
    have IH := Lib.hid ih
    have HX := Lib.hid (fun V (g : Gr w V) => TRd.gr hx g)
    have BX := Lib.hid (B1.of x.kind x.var (.slice x.A x.sub.length x.c) w)
    obtain ⟨b0, b1, b2⟩ := BX.out.c
    have hlen : x.sub.length ≤ 9223372036854775807 := Nat.le_trans hx.hc hx.hm
    have PA := Lib.hid parts_any
    clear ih hx
    unfold Ty.v
    obtain ⟨r, hr⟩ : ∃ r, ck1 x.er = r := ⟨_, rfl⟩
    rw [hr] at hs HC
    clear hr
    rcases hs with ⟨h1, rfl⟩ | ⟨h1, h2, rfl⟩ | ⟨⟨h1, h2⟩, hs⟩
    · go_enter Try.func55, Try.ntmps55
      go_wp2
      go_ret
      exact ⟨by rw [HC.out]; rfl, BX.out.gr⟩
    · go_enter Try.func55, Try.ntmps55
      go_wp2
      go_ret
      exact ⟨by rw [HC.out]; rfl, BX.out.gr⟩
    · rcases hs with ⟨⟨h3, h4⟩, rfl⟩ | hs
      · have g1 : (x.kind != 5) = true := by simpa using h3
        have g2 : (x.var != 0) = true := by simpa using h4
        go_enter Try.func55, Try.ntmps55
        go_wp2
        go_quiet (fail)
        go_wp2
        go_ret
        exact ⟨by rw [HC.out]; rfl, BX.out.gr.trans (gr_drewN _ _)⟩
      · obtain ⟨p, hp⟩ : ∃ p, prt x.kind = p := ⟨_, rfl⟩
        have PA' := Lib.hid (fun V => parts_any x.kind V)
        rw [hp] at PA' hs
        clear PA hp
        have hs' : (¬ (x.sub.length : Int) = (p : Int) ∧ r = 1) ∨ (x.sub.length = p ∧ ((x.var < 0 ∧ r = 2) ∨ (¬ x.var < 0 ∧ 999999 < x.var ∧ r = 2) ∨ (¬ x.var < 0 ∧ ¬ 999999 < x.var ∧ r = 0))) := by omega
        have hg : x.kind = 5 ∨ (¬ x.kind = 5 ∧ x.var = 0) := by omega
        have ES := Lib.hid (er_sub x)
        clear hs
        obtain ⟨N, hN⟩ : ∃ N, N = x.sub.length := ⟨_, rfl⟩
        rw [← hN] at BX b0 b1 b2 hlen hs' ⊢
        have NN := Lib.hid hN
        clear hN
        generalize x.kind = kk at *
        generalize x.var = vv at *
        rcases hg with h5 | ⟨h5, h0⟩
        · subst h5
          rcases hs' with ⟨hn, rfl⟩ | ⟨rfl, hs'⟩
          · go_enter Try.func55, Try.ntmps55
            go_wp2
            generalize hV0 : World.alloc w _ = V0
            rw [hV0] at BX b0 b1 b2
            clear hV0
            go_quiet ((go_at_call 84; exact Calls.quiet_of_same (PA'.out _)))
            have B3 := Lib.hid (BX.out.grow (gr_drewN _ nq))
            clear b0 b1 b2
            obtain ⟨b0, b1, b2⟩ := B3.out.c
            generalize World.drewN _ nq = V1 at *
            go_wp2
            go_ret
            exact ⟨by rw [HC.out]; rfl, B3.out.gr⟩
          · skip
            rcases hs' with ⟨hv, rfl⟩ | ⟨hv, hv2, rfl⟩ | ⟨hv, hv2, rfl⟩
            · go_enter Try.func55, Try.ntmps55
              go_wp2
              generalize hV0 : World.alloc w _ = V0
              rw [hV0] at BX b0 b1 b2
              clear hV0
              go_quiet ((go_at_call 84; exact Calls.quiet_of_same (PA'.out _)))
              have B3 := Lib.hid (BX.out.grow (gr_drewN _ nq))
              clear b0 b1 b2
              obtain ⟨b0, b1, b2⟩ := B3.out.c
              generalize World.drewN _ nq = V1 at *
              go_wp2
              go_ret
              exact ⟨by rw [HC.out]; rfl, B3.out.gr⟩
            · go_enter Try.func55, Try.ntmps55
              go_wp2
              generalize hV0 : World.alloc w _ = V0
              rw [hV0] at BX b0 b1 b2
              clear hV0
              go_quiet ((go_at_call 84; exact Calls.quiet_of_same (PA'.out _)))
              have B3 := Lib.hid (BX.out.grow (gr_drewN _ nq))
              clear b0 b1 b2
              obtain ⟨b0, b1, b2⟩ := B3.out.c
              generalize World.drewN _ nq = V1 at *
              go_wp2
              go_ret
              exact ⟨by rw [HC.out]; rfl, B3.out.gr⟩
            · go_enter Try.func55, Try.ntmps55
              go_wp2
              generalize hV0 : World.alloc w _ = V0
              rw [hV0] at BX b0 b1 b2
              clear hV0
              go_quiet ((go_at_call 84; exact Calls.quiet_of_same (PA'.out _)))
              have B3 := Lib.hid (BX.out.grow (gr_drewN _ nq))
              clear b0 b1 b2
              obtain ⟨b0, b1, b2⟩ := B3.out.c
              generalize World.drewN _ nq = V1 at *
              go_wp2
              go_loopw [3, 4] (fun i _ V => ∃ k : Nat, k ≤ N ∧ i = .int .i64 k ∧ Hid (B1 5 vv (.slice x.A N x.c) w V ∧ ckes ((ers x.sub).take k) = 0)) (fun i _ _ => N - (intOf i).toNat)
              case atStart => exact ⟨0, Nat.zero_le _, rfl, Lib.hid ⟨B3.out, by simp [ckes_nil]⟩⟩
              case round =>
                clear B3 BX b0 b1 b2
                obtain ⟨k, hk, rfl, HG⟩ := hrel
                obtain ⟨b0, b1, b2⟩ := HG.out.1.c
                by_cases hlt : k < N
                · obtain ⟨a, a1, hA, ha, hab, c0, c1, c2, hsub⟩ := (HX.out _ HG.out.1.gr).at (by rw [← NN.out]; exact hlt)
                  obtain ⟨y, hy⟩ : ∃ y, x.sub[k]'(by rw [← NN.out]; exact hlt) = y := ⟨_, rfl⟩
                  have CL := Lib.hid (IH.out y (by rw [← hy]; exact List.getElem_mem _) wr (by rw [← hy]; exact hsub))
                  rw [hy] at c0 c1 c2
                  have HT := Lib.hid (show (ers x.sub).take (k + 1) = (ers x.sub).take k ++ [y.er] by rw [List.take_succ_eq_append_getElem (by rw [ers_length, ← NN.out]; exact hlt)]; simp [ers_map, hy])
                  have HD := Lib.hid (show ckes (ers x.sub) = ckes ((ers x.sub).take k ++ y.er :: (ers x.sub).drop (k + 1)) by
                    have h1 := List.take_append_drop k (ers x.sub)
                    have h2 : (ers x.sub).drop k = y.er :: (ers x.sub).drop (k + 1) := by rw [List.drop_eq_getElem_cons (by rw [ers_length, ← NN.out]; exact hlt)]; simp [ers_map, hy]
                    rw [h2] at h1
                    rw [h1])
                  rw [hA] at b2
                  clear hA hsub hy HX
                  unfold Ty.v at CL
                  obtain ⟨q, hq⟩ : ∃ q, cke y.er = q := ⟨_, rfl⟩
                  rw [hq] at CL
                  have HQ := Lib.hid hq
                  clear hq
                  by_cases hq0 : q = 0
                  · subst hq0
                    go_wp2_with (first | (go_at_call 55; refine CL.out.mono ?_; rintro e w1 ⟨rfl, g1⟩; have G1 := Lib.hid (HG.out.1.grow g1); clear g1))
                    exact ⟨⟨k + 1, by omega, by simp, Lib.hid ⟨G1.out, by rw [HT.out, ckes_append, if_pos HG.out.2, ckes_cons, if_pos HQ.out, ckes_nil]⟩⟩, by simp [intOf]; omega⟩
                  · have hqb : (q != 0) = true := by simpa using hq0
                    have Q0 := Lib.hid hq0
                    clear hq0
                    go_wp2_with (first | (go_at_call 55; refine CL.out.mono ?_; rintro e w1 ⟨rfl, g1⟩; have G1 := Lib.hid (HG.out.1.grow g1); clear g1))
                    go_ret
                    refine ⟨?_, G1.out.gr⟩
                    have e1 : cke x.er = q := by
                      rw [show cke x.er = ckes x.er.sub by have := HC.out; simpa using this, ES.out, HD.out, ckes_append, if_pos HG.out.2, ckes_cons, HQ.out, if_neg Q0.out]
                    rw [e1]
                    rfl
                · obtain rfl : N = k := by omega
                  go_wp2
                  go_ret
                  refine ⟨?_, HG.out.1.gr⟩
                  have h2 := HG.out.2
                  rw [List.take_of_length_le (by rw [ers_length, ← NN.out]; exact Nat.le_refl _)] at h2
                  rw [show cke x.er = ckes x.er.sub by have := HC.out; simpa using this, ES.out, h2]
                  rfl
        · subst h0
          rcases hs' with ⟨hn, rfl⟩ | ⟨rfl, hs'⟩
          · go_enter Try.func55, Try.ntmps55
            go_wp2
            generalize hV0 : World.alloc w _ = V0
            rw [hV0] at BX b0 b1 b2
            clear hV0
            go_quiet ((go_at_call 84; exact Calls.quiet_of_same (PA'.out _)))
            have B3 := Lib.hid (BX.out.grow (gr_drewN _ nq))
            clear b0 b1 b2
            obtain ⟨b0, b1, b2⟩ := B3.out.c
            generalize World.drewN _ nq = V1 at *
            go_wp2
            go_ret
            exact ⟨by rw [HC.out]; rfl, B3.out.gr⟩
          · skip
            rcases hs' with ⟨hv, rfl⟩ | ⟨hv, hv2, rfl⟩ | ⟨hv, hv2, rfl⟩
            · exact absurd hv (by omega)
            · exact absurd hv2 (by omega)
            · go_enter Try.func55, Try.ntmps55
              go_wp2
              generalize hV0 : World.alloc w _ = V0
              rw [hV0] at BX b0 b1 b2
              clear hV0
              go_quiet ((go_at_call 84; exact Calls.quiet_of_same (PA'.out _)))
              have B3 := Lib.hid (BX.out.grow (gr_drewN _ nq))
              clear b0 b1 b2
              obtain ⟨b0, b1, b2⟩ := B3.out.c
              generalize World.drewN _ nq = V1 at *
              go_wp2
              go_loopw [3, 4] (fun i _ V => ∃ k : Nat, k ≤ N ∧ i = .int .i64 k ∧ Hid (B1 kk 0 (.slice x.A N x.c) w V ∧ ckes ((ers x.sub).take k) = 0)) (fun i _ _ => N - (intOf i).toNat)
              case atStart => exact ⟨0, Nat.zero_le _, rfl, Lib.hid ⟨B3.out, by simp [ckes_nil]⟩⟩
              case round =>
                clear B3 BX b0 b1 b2
                obtain ⟨k, hk, rfl, HG⟩ := hrel
                obtain ⟨b0, b1, b2⟩ := HG.out.1.c
                by_cases hlt : k < N
                · obtain ⟨a, a1, hA, ha, hab, c0, c1, c2, hsub⟩ := (HX.out _ HG.out.1.gr).at (by rw [← NN.out]; exact hlt)
                  obtain ⟨y, hy⟩ : ∃ y, x.sub[k]'(by rw [← NN.out]; exact hlt) = y := ⟨_, rfl⟩
                  have CL := Lib.hid (IH.out y (by rw [← hy]; exact List.getElem_mem _) wr (by rw [← hy]; exact hsub))
                  rw [hy] at c0 c1 c2
                  have HT := Lib.hid (show (ers x.sub).take (k + 1) = (ers x.sub).take k ++ [y.er] by rw [List.take_succ_eq_append_getElem (by rw [ers_length, ← NN.out]; exact hlt)]; simp [ers_map, hy])
                  have HD := Lib.hid (show ckes (ers x.sub) = ckes ((ers x.sub).take k ++ y.er :: (ers x.sub).drop (k + 1)) by
                    have h1 := List.take_append_drop k (ers x.sub)
                    have h2 : (ers x.sub).drop k = y.er :: (ers x.sub).drop (k + 1) := by rw [List.drop_eq_getElem_cons (by rw [ers_length, ← NN.out]; exact hlt)]; simp [ers_map, hy]
                    rw [h2] at h1
                    rw [h1])
                  rw [hA] at b2
                  clear hA hsub hy HX
                  unfold Ty.v at CL
                  obtain ⟨q, hq⟩ : ∃ q, cke y.er = q := ⟨_, rfl⟩
                  rw [hq] at CL
                  have HQ := Lib.hid hq
                  clear hq
                  by_cases hq0 : q = 0
                  · subst hq0
                    go_wp2_with (first | (go_at_call 55; refine CL.out.mono ?_; rintro e w1 ⟨rfl, g1⟩; have G1 := Lib.hid (HG.out.1.grow g1); clear g1))
                    exact ⟨⟨k + 1, by omega, by simp, Lib.hid ⟨G1.out, by rw [HT.out, ckes_append, if_pos HG.out.2, ckes_cons, if_pos HQ.out, ckes_nil]⟩⟩, by simp [intOf]; omega⟩
                  · have hqb : (q != 0) = true := by simpa using hq0
                    have Q0 := Lib.hid hq0
                    clear hq0
                    go_wp2_with (first | (go_at_call 55; refine CL.out.mono ?_; rintro e w1 ⟨rfl, g1⟩; have G1 := Lib.hid (HG.out.1.grow g1); clear g1))
                    go_ret
                    refine ⟨?_, G1.out.gr⟩
                    have e1 : cke x.er = q := by
                      rw [show cke x.er = ckes x.er.sub by have := HC.out; simpa using this, ES.out, HD.out, ckes_append, if_pos HG.out.2, ckes_cons, HQ.out, if_neg Q0.out]
                    rw [e1]
                    rfl
                · obtain rfl : N = k := by omega
                  go_wp2
                  go_ret
                  refine ⟨?_, HG.out.1.gr⟩
                  have h2 := HG.out.2
                  rw [List.take_of_length_le (by rw [ers_length, ← NN.out]; exact Nat.le_refl _)] at h2
                  rw [show cke x.er = ckes x.er.sub by have := HC.out; simpa using this, ES.out, h2]
                  rfl
end Go.Proofs.Ytjlmhfdigoogfaa
namespace Go.Proofs.Ytjlmhfdigoogfaa
open Go.RowKit

set_option maxRecDepth 100000 in
set_option maxHeartbeats 4000000 in
/-- The reference's Check. -/
theorem rCheck_any (x : Ty) (w : World) (hx : x.Rd w) : Calls Try.prog 18 #[x.v] w fun e w' => e = .returned (iv (ck x.er)) ∧ Gr w w' := by
  have CL := Lib.hid (fun V (g : Gr w V) => size_any x 200 V (hx.gr g) (by omega) (by omega))
  have CK := Lib.hid (fun V (g : Gr w V) => rcheck_any x V (hx.gr g))
  have BX := Lib.hid (B1.of x.kind x.var (.slice x.A x.sub.length x.c) w)
  obtain ⟨b0, b1, b2⟩ := BX.out.c
  have e1 := szL_gt x.er 200
  have hs : ((200 : Int) < szL x.er 200 ∧ ck x.er = 4) ∨ (¬ (200 : Int) < szL x.er 200 ∧ ck x.er = cke x.er) := by
    unfold ck
    by_cases h : 200 < x.er.size
    · left; exact ⟨e1.2 h, if_pos h⟩
    · right; exact ⟨fun h' => h (e1.1 h'), if_neg h⟩
  clear hx e1
  unfold Ty.v at *
  generalize szL x.er 200 = s at *
  generalize cke x.er = q at *
  rcases hs with ⟨h1, h2⟩ | ⟨h1, h2⟩
  · rw [h2]
    clear h2
    go_enter Try.func18, Try.ntmps18
    go_wp2_with (first | (go_at_call 54; refine (CL.out _ BX.out.gr).mono ?_; rintro e w1 ⟨rfl, g1⟩; have G1 := Lib.hid (BX.out.grow g1); clear g1))
    go_ret
    exact ⟨rfl, G1.out.gr⟩
  · rw [h2]
    clear h2 b0 b1 b2
    go_enter Try.func18, Try.ntmps18
    obtain ⟨b0, b1, b2⟩ := BX.out.c
    go_wp2_with (first | (go_at_call 54; refine (CL.out _ BX.out.gr).mono ?_; rintro e w1 ⟨rfl, g1⟩; have G1 := Lib.hid (BX.out.grow g1); clear g1 b0 b1 b2; obtain ⟨b0, b1, b2⟩ := G1.out.c) | (go_at_call 55; refine (CK.out _ G1.out.gr).mono ?_; rintro e w2 ⟨rfl, g2⟩; have G2 := Lib.hid (G1.out.gr.trans g2); clear g2))
    go_ret
    exact ⟨rfl, G2.out⟩

abbrev NC (n : Int) : List Value := [iv n]
theorem NC_len (n : Int) : (NC n).length = 1 := rfl
theorem NC_cell1 (n : Int) : ∀ u ∈ NC n, u.oneCell' = true := by
  intro u hu
  simp only [NC, List.mem_cons, List.not_mem_nil, or_false] at hu
  subst hu; rfl
theorem RD.num {w : World} {A : Option Addr} {L : List Int} (h : RD 1 NC w A L) {k : Nat} (hk : k < L.length) : ∃ a, A = some a ∧ a.block < w.heap.size ∧ w.cell? (a.add k) = some (.int .i64 L[k]) := by
  obtain ⟨a, e, hb, hc⟩ := h.at hk
  exact ⟨a, e, hb, by simpa using hc 0 _ rfl⟩
theorem not_mem_take {L : List Int} {n : Int} {k : Nat} (hk : k < L.length) (h : ¬ n ∈ L.take k) (h2 : ¬ L[k] = n) : ¬ n ∈ L.take (k + 1) := by
  rw [List.take_succ_eq_append_getElem hk, List.mem_append]
  rintro (h3 | h3)
  · exact h h3
  · simp at h3; exact h2 h3.symm
set_option maxRecDepth 100000 in
set_option maxHeartbeats 4000000 in
/-- Whether a list has a number (the reference's). -/
theorem has_any (A : Option Addr) (c : Nat) (L : List Int) (n : Int) (w : World) (hr : RD 1 NC w A L) (hl : L.length ≤ 1000000) : Calls Try.prog 65 #[.slice A L.length c, iv n] w fun e w' => e = .returned (.bool (decide (n ∈ L))) ∧ w' = w := by
  have HR := Lib.hid hr
  clear hr
  go_enter Try.func65, Try.ntmps65
  go_wp2
  go_loopw [5] (fun i V => ∃ k : Nat, k ≤ L.length ∧ i = .int .i64 k ∧ Hid (V = w ∧ ¬ n ∈ L.take k)) (fun i _ => L.length - (intOf i).toNat)
  case atStart => exact ⟨0, Nat.zero_le _, rfl, Lib.hid ⟨rfl, by simp⟩⟩
  case round =>
    obtain ⟨k, hk, rfl, HG⟩ := hrel
    obtain rfl := HG.out.1
    by_cases hlt : k < L.length
    · obtain ⟨a, rfl, hab, c0⟩ := HR.out.num hlt
      have HM := Lib.hid (List.getElem_mem hlt)
      have HN := Lib.hid (fun h => not_mem_take hlt HG.out.2 h)
      generalize L[k] = z at *
      by_cases hz : z = n
      · subst hz
        go_wp2
        go_ret
        exact ⟨by rw [decide_eq_true HM.out]; rfl, rfl⟩
      · have HZ := Lib.hid hz
        go_wp2
        exact ⟨⟨k + 1, by omega, by simp, Lib.hid ⟨trivial, HN.out HZ.out⟩⟩, by simp [intOf]; omega⟩
    · obtain rfl : L.length = k := by omega
      have h2 := HG.out.2
      rw [List.take_length] at h2
      have H2 := Lib.hid h2
      clear h2
      go_wp2
      go_ret
      exact ⟨by rw [decide_eq_false H2.out]; rfl, rfl⟩
set_option maxRecDepth 100000 in
set_option maxHeartbeats 4000000 in
/-- slices.Index of numbers. -/
theorem index_any (A : Option Addr) (c : Nat) (L : List Int) (n : Int) (w : World) (hr : RD 1 NC w A L) (hl : L.length ≤ 1000000) : Calls Try.prog 105 #[.slice A L.length c, iv n] w fun e w' => (∃ r : Int, e = .returned (iv r) ∧ Hid (0 ≤ r ↔ n ∈ L)) ∧ w' = w := by
  have HR := Lib.hid hr
  clear hr
  go_enter Try.func105, Try.ntmps105
  go_wp2
  go_loopw [5, 8] (fun _ i V => ∃ k : Nat, k ≤ L.length ∧ i = .int .i64 k ∧ Hid (V = w ∧ ¬ n ∈ L.take k)) (fun _ i _ => L.length - (intOf i).toNat)
  case atStart => exact ⟨0, Nat.zero_le _, rfl, Lib.hid ⟨rfl, by simp⟩⟩
  case round =>
    obtain ⟨k, hk, rfl, HG⟩ := hrel
    obtain rfl := HG.out.1
    by_cases hlt : k < L.length
    · obtain ⟨a, rfl, hab, c0⟩ := HR.out.num hlt
      have HM := Lib.hid (List.getElem_mem hlt)
      have HN := Lib.hid (fun h => not_mem_take hlt HG.out.2 h)
      generalize L[k] = z at *
      by_cases hz : n = z
      · subst hz
        go_wp2
        go_ret
        exact ⟨⟨k, rfl, Lib.hid ⟨fun _ => HM.out, fun _ => by omega⟩⟩, rfl⟩
      · have HZ := Lib.hid hz
        go_wp2
        exact ⟨⟨k + 1, by omega, by simp, Lib.hid ⟨trivial, HN.out fun h => HZ.out h.symm⟩⟩, by simp [intOf]; omega⟩
    · obtain rfl : L.length = k := by omega
      have h2 := HG.out.2
      rw [List.take_length] at h2
      have H2 := Lib.hid h2
      clear h2
      go_wp2
      go_ret
      exact ⟨⟨-1, rfl, Lib.hid ⟨fun h => absurd h (by decide), fun h => absurd h H2.out⟩⟩, rfl⟩
set_option maxRecDepth 100000 in
/-- slices.Contains of numbers. -/
theorem contains_any (A : Option Addr) (c : Nat) (L : List Int) (n : Int) (w : World) (hr : RD 1 NC w A L) (hl : L.length ≤ 1000000) : Calls Try.prog 85 #[.slice A L.length c, iv n] w fun e w' => e = .returned (.bool (decide (n ∈ L))) ∧ w' = w := by
  have IX := Lib.hid (index_any A c L n w hr hl)
  clear hr
  go_enter Try.func85, Try.ntmps85
  go_wp2_with (go_at_call 105; refine IX.out.mono ?_; rintro e w1 ⟨⟨r, rfl, HR⟩, rfl⟩)
  go_ret
  exact ⟨by rw [show decide (n ∈ L) = decide (0 ≤ r) from decide_eq_decide.2 HR.out.symm]; rfl, rfl⟩
set_option maxRecDepth 100000 in
set_option maxHeartbeats 4000000 in
/-- Whether two lists of numbers are equal. -/
theorem sameInts_any (A B : Option Addr) (c d : Nat) (L M : List Int) (w : World) (hA : RD 1 NC w A L) (hB : RD 1 NC w B M) (hl : L.length ≤ 1000000) (hm : M.length ≤ 1000000) : Calls Try.prog 19 #[.slice A L.length c, .slice B M.length d] w fun e w' => e = .returned (.bool (decide (L = M))) ∧ Gr w w' := by
  by_cases hn : L.length = M.length
  · have HA := Lib.hid (fun V (g : Gr w V) => hA.gr g)
    have HB := Lib.hid (fun V (g : Gr w V) => hB.gr g)
    have HN := Lib.hid hn
    rw [← hn]
    clear hA hB hn
    go_enter Try.func19, Try.ntmps19
    go_wp2
    go_loopw [5] (fun i V => ∃ k : Nat, k ≤ L.length ∧ i = .int .i64 k ∧ Hid (Gr w V ∧ L.take k = M.take k)) (fun i _ => L.length - (intOf i).toNat)
    case atStart => exact ⟨0, Nat.zero_le _, rfl, Lib.hid ⟨gr_refl w, by simp⟩⟩
    case round =>
      obtain ⟨k, hk, rfl, HG⟩ := hrel
      by_cases hlt : k < L.length
      · have hlt2 : k < M.length := by rw [← HN.out]; exact hlt
        obtain ⟨a, rfl, hab, c0⟩ := (HA.out _ HG.out.1).num hlt
        obtain ⟨b, rfl, hbb, d0⟩ := (HB.out _ HG.out.1).num hlt2
        obtain ⟨z, hz⟩ : ∃ z, L[k] = z := ⟨_, rfl⟩
        obtain ⟨u, hu⟩ : ∃ u, M[k] = u := ⟨_, rfl⟩
        rw [hz] at c0
        rw [hu] at d0
        have HZ := Lib.hid hz
        have HU := Lib.hid hu
        clear hz hu hab hbb
        by_cases he : z = u
        · subst he
          go_wp2
          go_quiet (fail)
          go_wp2
          exact ⟨⟨k + 1, by omega, by simp, Lib.hid ⟨HG.out.1.trans (gr_drewN _ _), by rw [List.take_succ_eq_append_getElem hlt, List.take_succ_eq_append_getElem hlt2, HG.out.2, HZ.out, HU.out]⟩⟩, by simp [intOf]; omega⟩
        · have HE := Lib.hid he
          have hb : (z != u) = true := by simpa using he
          clear he
          go_wp2
          go_quiet (fail)
          go_wp2
          go_ret
          refine ⟨?_, HG.out.1.trans (gr_drewN _ _)⟩
          rw [decide_eq_false (by rintro rfl; exact HE.out (HZ.out.symm.trans HU.out))]
          rfl
      · obtain rfl : L.length = k := by omega
        have h2 := HG.out.2
        rw [List.take_length, HN.out, List.take_length] at h2
        have H2 := Lib.hid h2
        clear h2
        go_wp2
        go_ret
        exact ⟨by rw [decide_eq_true H2.out]; rfl, HG.out.1⟩
  · have hb : ((L.length : Int) != (M.length : Int)) = true := by simpa using (by omega : ¬ (L.length : Int) = (M.length : Int))
    rw [decide_eq_false (by rintro rfl; exact hn rfl)]
    have hb2 : ¬ (L.length : Int) = (M.length : Int) := by omega
    clear hA hB
    go_enter Try.func19, Try.ntmps19
    go_wp2
    go_ret
    exact ⟨rfl, gr_refl _⟩
end Go.Proofs.Ytjlmhfdigoogfaa
namespace Go.Proofs.Ytjlmhfdigoogfaa
open Go.RowKit Go.Shelf
attribute [local go_sem] Oper.semAt_some

/-- Of the numbers that stand in a relation to a thing, the least. -/
theorem least_of (p : Nat → Prop) (h : ∃ n, p n) : ∃ n, p n ∧ ∀ m, p m → n ≤ m := by
  obtain ⟨n, hn⟩ := h
  induction n using Nat.strongRecOn with
  | ind n ih =>
    by_cases h : ∃ m, m < n ∧ p m
    · obtain ⟨m, h1, h2⟩ := h
      exact ih m h1 h2
    · exact ⟨n, hn, fun m hm => Nat.le_of_not_lt fun h' => h ⟨m, h', hm⟩⟩
theorem least_fun {α β : Type} (R : Nat → α → β → Prop) : ∃ mu : α → β → Nat, ∀ a b, (∃ m, R m a b) → R (mu a b) a b ∧ ∀ m, R m a b → mu a b ≤ m := by
  have h : ∀ a, ∃ f : β → Nat, ∀ b, (∃ m, R m a b) → R (f b) a b ∧ ∀ m, R m a b → f b ≤ m := fun a =>
    Classical.axiomOfChoice (r := fun b n => (∃ m, R m a b) → R n a b ∧ ∀ m, R m a b → n ≤ m) fun b => by
      by_cases h : ∃ m, R m a b
      · obtain ⟨n, h1, h2⟩ := least_of (fun m => R m a b) h
        exact ⟨n, fun _ => ⟨h1, h2⟩⟩
      · exact ⟨0, fun h' => absurd h' h⟩
  exact Classical.axiomOfChoice (β := fun _ => β → Nat) (r := fun a (f : β → Nat) => ∀ b, (∃ m, R m a b) → R (f b) a b ∧ ∀ m, R m a b → f b ≤ m) h

section
variable {α : Type} {e : TypeId} {n : Nat} {cs : α → List Value} {w w' : World} {base : Nat} {v : Value} {L : List α}
/-- A row stays where its block stays. -/
theorem OR.keepAt (h : OR e n cs w base v L) (hk : ∀ k, v.ownBlock = some k → w'.heap[k]? = w.heap[k]?) : OR e n cs w' base v L := by
  refine ⟨h.1, ?_⟩
  rcases h.2 with h1 | ⟨g, cap, cur, rfl, hg, hh, rest⟩
  · exact .inl h1
  · exact .inr ⟨g, cap, cur, rfl, hg, (hk g rfl).trans hh, rest⟩
/-- A row's last element goes. -/
theorem OR.short (hn : ∀ x, (cs x).length = n) {g cap : Nat} {x : α} (h : OR e n cs w base (.slice (some ⟨g, 0, none⟩) (L.length + 1) cap) (L ++ [x])) : OR e n cs w base (.slice (some ⟨g, 0, none⟩) L.length cap) L := by
  have hl : (L.flatMap cs).length = L.length * n := flat_len cs n hn L
  refine ⟨hl, ?_⟩
  rcases h.2 with ⟨h1, _⟩ | ⟨g', cap', cur, e1, hg, hh, hnc, hm, hs, hx⟩
  · cases h1
  · obtain ⟨e2, -, e3⟩ := Value.slice.inj e1
    simp only [Option.some.injEq, Addr.mk.injEq, and_true] at e2
    subst e2; subst e3
    refine .inr ⟨g, cap, cur, rfl, hg, hh, by simp at hnc; omega, hm, hs, ?_⟩
    have h2 := congrArg (List.take (L.length * n)) hx
    rw [List.take_take, List.flatMap_append, List.take_left' hl, Nat.min_eq_left (by simp [Nat.succ_mul])] at h2
    exact h2
/-- A row's cells may be written. -/
theorem OR.frz {g m cap : Nat} (h : OR e n cs w base (.slice (some ⟨g, 0, none⟩) m cap) L) (j : Nat) : w.frozen? ⟨g, j, none⟩ = false := by
  rcases h.2 with ⟨h1, _⟩ | ⟨g', cap', cur, e1, hg, hh, rest⟩
  · cases h1
  · have e2 := (Value.slice.inj e1).1
    simp only [Option.some.injEq, Addr.mk.injEq, and_true] at e2
    subst e2
    simp [World.frozen?, hh]
/-- A new row of one element. -/
theorem OR.one (hn : ∀ x, (cs x).length = n) (x : α) {b : Array Value} (hb : base ≤ w.heap.size) (h : b = (cs x).toArray) : OR e n cs (w.alloc (.cells b e)) base (.slice (some ⟨w.heap.size, 0, none⟩) 1 1) [x] := by
  subst h
  refine ⟨by simp [hn], .inr ⟨_, 1, _, rfl, hb, al_new w _, Nat.le_refl _, by unfold maxLen; omega, by simp [hn], ?_⟩⟩
  have h1 : ([x].flatMap cs) = cs x := by simp
  rw [h1]
  simp only [List.length_singleton, Nat.one_mul]
  rw [List.take_of_length_le (by simp [hn])]
end
/-- A list of types with its place. -/
structure SL where
  A : Option Addr
  c : Nat
  L : List Ty
def SL.cs (s : SL) : List Value := [.slice s.A s.L.length s.c]
theorem SL.cs_len (s : SL) : s.cs.length = 1 := rfl
theorem SL.cell1 (s : SL) : ∀ u ∈ s.cs, u.oneCell' = true := by
  intro u hu
  simp only [SL.cs, List.mem_cons, List.not_mem_nil, or_false] at hu
  subst hu; rfl
theorem OR.slAt {w : World} {base g m cap : Nat} {L : List SL} (h : OR 22 1 SL.cs w base (.slice (some ⟨g, 0, none⟩) m cap) L) {k : Nat} {s : SL} (hs : L[k]? = some s) : w.cell? ⟨g, k, none⟩ = some (.slice s.A s.L.length s.c) := by
  have hm : m = L.length := by
    rcases h.2 with ⟨h1, _⟩ | ⟨g', cap', cur, e1, _⟩
    · cases h1
    · exact (Value.slice.inj e1).2.1
  subst hm
  have h1 := World.ownsRow.cells h rfl k _ (by have := flat_at SL.cs 1 SL.cs_len (i := 0) (by omega) L k hs; simp only [Nat.mul_one, Nat.add_zero] at this; rw [this]; rfl)
  by_cases hk : k = 0
  · subst hk; exact h1
  · rw [fld_add _ _ hk] at h1; simpa using h1
theorem OR.slSet {w : World} {base g m cap : Nat} {L : List SL} {s s' : SL} (h : OR 22 1 SL.cs w base (.slice (some ⟨g, 0, none⟩) m cap) (L ++ [s])) : OR 22 1 SL.cs (w.setCell ⟨g, L.length, none⟩ (.slice s'.A s'.L.length s'.c)) base (.slice (some ⟨g, 0, none⟩) m cap) (L ++ [s']) ∧ w.grownBy (w.setCell ⟨g, L.length, none⟩ (.slice s'.A s'.L.length s'.c)) (some g) := by
  have hm : m = (L ++ [s]).length := by
    rcases h.2 with ⟨h1, _⟩ | ⟨g', cap', cur, e1, _⟩
    · cases h1
    · exact (Value.slice.inj e1).2.1
  have h1 := World.ownsRow.stored (show w.ownsRow base 22 1 (.slice (some ⟨g, 0, none⟩) (L ++ [s]).length cap) (L ++ [s]).length ((L ++ [s]).flatMap SL.cs) by rw [← hm]; rw [hm] at h; rw [hm]; exact h) L.length (.slice s'.A s'.L.length s'.c)
  have e1 : ((L ++ [s]).flatMap SL.cs).set L.length (.slice s'.A s'.L.length s'.c) = (L ++ [s']).flatMap SL.cs := by
    have hl : (L.flatMap SL.cs).length = L.length := by rw [flat_len SL.cs 1 SL.cs_len]; omega
    rw [List.flatMap_append, List.flatMap_append, List.set_append_right _ _ (by omega), hl, Nat.sub_self]
    rfl
  rw [e1] at h1
  refine ⟨?_, h1.2⟩
  rw [hm]
  have := h1.1
  unfold OR
  simpa using this
mutual
/-- The types within a type, with their places. -/
def Ty.pre : Ty → List Ty
  | .mk k v A c s => .mk k v A c s :: preTs s
def preTs : List Ty → List Ty
  | [] => []
  | x :: l => x.pre ++ preTs l
end
theorem preT_eq (t : Ty) : t.pre = t :: preTs t.sub := by cases t; simp [Ty.pre, Ty.sub]
@[simp] theorem preTs_nil : preTs [] = [] := by simp [preTs]
@[simp] theorem preTs_cons (x : Ty) (l : List Ty) : preTs (x :: l) = x :: (preTs x.sub ++ preTs l) := by simp [preTs, preT_eq]
mutual
theorem preT_er : ∀ t : Ty, t.pre.map Ty.er = t.er.pre
  | .mk k v A c s => by simp [Ty.pre, Ty.er, PT.pre, preTs_er s]
theorem preTs_er : ∀ s : List Ty, (preTs s).map Ty.er = pres (ers s)
  | [] => by simp
  | x :: l => by
    have h := preT_er x
    rw [preT_eq] at h
    rw [preTs_cons, ers_cons, pres_cons, ← h, ← preTs_er l]
    simp
end
theorem preT_len (t : Ty) : t.pre.length = t.er.size := by rw [← pre_len, ← preT_er]; simp
theorem snoc_cases {α : Type} (l : List α) : l = [] ∨ ∃ l' x, l = l' ++ [x] := by
  rcases List.eq_nil_or_concat l with h | ⟨l', x, h⟩
  · exact .inl h
  · exact .inr ⟨l', x, by rw [h]; simp⟩
/-- What is to come. -/
def pend (St : List SL) : List Ty := St.reverse.flatMap fun s => preTs s.L
theorem pend_snoc (St : List SL) (s : SL) : pend (St ++ [s]) = preTs s.L ++ pend St := by simp [pend]

/-- What is below a number, and some blocks, stay. -/
structure Kp (B : Nat) (own : Nat → Prop) (W W' : World) : Prop where
  os : W'.os = W.os
  tape : W'.tape = W.tape
  output : W'.output = W.output
  size : W.heap.size ≤ W'.heap.size
  same : ∀ k, k < B ∨ own k → W'.heap[k]? = W.heap[k]?
theorem Kp.of {B : Nat} {own : Nat → Prop} {W W' : World} (h : Gr W W') (hB : B ≤ W.heap.size) (ho : ∀ k, own k → k < W.heap.size) : Kp B own W W' :=
  ⟨h.os, h.tape, h.output, h.size, fun k hk => h.block k (by rcases hk with hk | hk; omega; exact ho k hk) (by simp)⟩
theorem Kp.trans {B : Nat} {own : Nat → Prop} {U V W : World} (h : Kp B own U V) (k : Kp B own V W) : Kp B own U W :=
  ⟨k.os.trans h.os, k.tape.trans h.tape, k.output.trans h.output, Nat.le_trans h.size k.size, fun j hj => (k.same j hj).trans (h.same j hj)⟩
theorem Kp.row {B : Nat} {own : Nat → Prop} {W W' : World} {g : Nat} (h : W.grownBy W' (some g)) (hB : B ≤ W.heap.size) (ho : ∀ k, own k → k < W.heap.size) (hg : B ≤ g) (hn : ¬ own g) : Kp B own W W' :=
  ⟨h.os, h.tape, h.output, h.size, fun k hk => h.block k (by rcases hk with hk | hk; omega; exact ho k hk) (by
    intro e
    cases e
    rcases hk with hk | hk
    · omega
    · exact hn hk)⟩
/-- What a loop over the types within a type keeps; it has blocks of its own. -/
structure Yl (x : Ty) (w0 : World) (bt B n l : Nat) (J : List Ty → (Nat → Prop) → World → Prop) (F : List Ty → Ty → World → Prop) : Prop where
  gr : ∀ pre own W, J pre own W → Gr w0 W ∧ B ≤ W.heap.size
  box : ∀ pre own W, J pre own W → W.heap[bt]? = some (.cells #[iv x.kind, iv x.var, .slice x.A x.sub.length x.c] 24 (0, 0))
  lim : ∀ pre own W, J pre own W → pre.length ≤ 1000
  lt : ∀ pre own W, J pre own W → ∀ k, own k → k < W.heap.size
  keep : ∀ pre own W W', J pre own W → Kp B own W W' → J pre own W'
  yield : ∀ pre own y W, J pre own W → y.Rd W → (∃ post, x.pre = pre ++ y :: post) → YieldAt Fence.wide n Try.prog l #[y.v] W fun e W' => ((∀ k, B ≤ k → k < W.heap.size → ¬ own k → W'.heap[k]? = W.heap[k]?) ∧ W.heap.size ≤ W'.heap.size) ∧ ((e = .returned (.bool true) ∧ ∃ own', (∀ k, own' k → own k ∨ W.heap.size ≤ k) ∧ J (pre ++ [y]) own' W') ∨ (e = .returned (.bool false) ∧ F pre y W'))
theorem OR.someR {α : Type} {e : TypeId} {n : Nat} {cs : α → List Value} {w : World} {base : Nat} {v : Value} {L : List α} (h : OR e n cs w base v L) (hL : L ≠ []) : ∃ g c, v = .slice (some ⟨g, 0, none⟩) L.length c ∧ base ≤ g := by
  rcases h.2 with ⟨_, hl⟩ | ⟨g, cap, cur, e1, hg, _⟩
  · exact absurd (List.eq_nil_of_length_eq_zero hl) hL
  · exact ⟨g, cap, e1, hg⟩
/-- Between two rounds. -/
structure WS (x : Ty) (w0 : World) (B : Nat) (J : List Ty → (Nat → Prop) → World → Prop) (m : Nat) (v : Value) (W : World) (g cap : Nat) (St : List SL) (pre : List Ty) (own : Nat → Prop) : Prop where
  ev : v = .slice (some ⟨g, 0, none⟩) St.length cap
  o : OR 22 1 SL.cs W B v St
  j : J pre own W
  ng : ¬ own g
  e : pre ++ pend St = x.pre
  t : ∀ s ∈ St, TRd w0 s.A s.c s.L
  em : m = 2 * (pend St).length + St.length
  n : St.length ≤ pre.length
theorem info22 : (Try.prog.info? 22).map (fun i => (i.zero, i.size, i.bytes)) = some (some (.slice none 0 0), 1, 24) := by kernel_rfl

/-- An append to the row of lists. -/
theorem wpList_appSI {n : Nat} (w : World) {ops : Array Oper} {rest : List Oper} {o : Oper} {a : Act} {Q : Exit → Act → World → Prop} (hgd : o.guard = none) (s x : Operand)
    (ho : o.op = .call { callee := .builtin .append, args := #[s, x], argTypes := #[116, 116] }) (base : Nat) {v : Value} {L : List SL} (hs : a.eval s = v) (hown : OR 22 1 SL.cs w base v L)
    {A : Option Addr} {M : List SL} {m c : Nat} (hm : M.length = m) (hx : a.eval x = .slice A m c) (hr : RD 1 SL.cs w A M) (hA : A ≠ none) (hsz : L.length + M.length ≤ 1000000) (hb : base ≤ w.heap.size)
    (h : ∀ v' w', OR 22 1 SL.cs w' base v' (L ++ M) → w.grownBy w' v.ownBlock → (v'.ownBlock = v.ownBlock ∨ v'.ownBlock = some w.heap.size) → wpListIn Fence.wide n Try.prog ops Q rest (a.put o.dst v') w') : wpListIn Fence.wide n Try.prog ops Q (o :: rest) a w := by
  subst hm
  refine wpListIn_plain hgd fun K hK => ?_
  obtain ⟨v', w', hrun, h2, h3, h4⟩ := run_appR (t := 116) (ty := o.type) SL.cs_len SL.cell1 Try.underlying116 info22 rfl (by decide) (by decide) hown c hr hA hsz hb
  unfold Oper.wpIn
  refine ⟨?_, ?_⟩
  · simp [Oper.about, ho, resolve, Target.leads, Sem.run_pure]
  · rw [Oper.semAt_plain _ _ _ (by rw [ho]; intro c hc'; cases hc')]
    simp [execOp, ho, resolve, invoke, builtin, hs, hx, hrun, Result.andThen]
    exact hK _ _ (h v' w' h2 h3 h4)

set_option maxRecDepth 100000 in
set_option maxHeartbeats 4000000 in
theorem within_in (x : Ty) (w0 : World) (bt l n : Nat) (hn : 1 ≤ n) (J : List Ty → (Nat → Prop) → World → Prop) (F : List Ty → Ty → World → Prop) (W : World) (hx : x.Rd w0) (Y : Yl x w0 bt W.heap.size (n - 1) l J F) (h0 : J [] (fun _ => False) W) :
    CallsIn Fence.wide n Try.prog 83 #[.func (.yield l) #[] #[], .pointer (some ⟨bt, 0, none⟩)] W fun e W' => (∃ r, e = .returned r) ∧ ((∃ own, J x.pre own W') ∨ ∃ pre y post, x.pre = pre ++ y :: post ∧ F pre y W') := by
  have hbt : bt < W.heap.size := heap_lt (Y.box _ _ _ h0)
  have c0 := Lib.cell_of_heap (Y.box _ _ _ h0) 0
  have c1 := Lib.cell_of_heap (Y.box _ _ _ h0) 1
  have c2 := Lib.cell_of_heap (Y.box _ _ _ h0) 2
  simp only [List.getElem?_toArray, List.getElem?_cons_zero, List.getElem?_cons_succ] at c0 c1 c2
  have YY := Lib.hid Y
  have HX := Lib.hid (fun V (g : Gr w0 V) => TRd.gr hx g)
  obtain ⟨fn, tmps, assign, body, hy, hR⟩ := Y.yield [] _ x W h0 (hx.gr (Y.gr _ _ _ h0).1) ⟨preTs x.sub, preT_eq x⟩
  clear Y hx
  unfold Ty.v at hy
  refine callsIn_of_wp Try.func83 rfl trivial ?_ rfl
  simp only [Try.ntmps83, List.size_toArray, List.length_cons, List.length_nil, Nat.reduceAdd, Nat.reduceSub, Array.replicate_succ, Array.replicate_zero, List.push_toArray, List.append_toArray, List.nil_append, List.cons_append]
  gi_wp2
  refine hR.mono ?_
  rintro e W3 ⟨⟨hk3, hs3⟩, ⟨rfl, own, ho3, hJ3⟩ | ⟨rfl, hF3⟩⟩
  · have hJ3' : J [x] own W3 := hJ3
    have d2 := Lib.cell_of_heap (YY.out.box _ _ _ hJ3') 2
    simp only [List.getElem?_toArray, List.getElem?_cons_zero, List.getElem?_cons_succ] at d2
    have b3 : W.heap.size ≤ W3.heap.size := hs3
    have S0 := Lib.hid (show WS x w0 W.heap.size J (2 * (pend [⟨x.A, x.c, x.sub⟩]).length + 1) (.slice (some ⟨W3.heap.size, 0, none⟩) 1 1) (W3.alloc (.cells #[.slice x.A x.sub.length x.c] 22)) W3.heap.size 1 [⟨x.A, x.c, x.sub⟩] [x] own from
      ⟨rfl, OR.one SL.cs_len _ b3 rfl, YY.out.keep _ _ _ _ hJ3' (Kp.of (gr_al _ _) b3 (YY.out.lt _ _ _ hJ3')), fun h => absurd (YY.out.lt _ _ _ hJ3' _ h) (by omega), by rw [preT_eq]; simp [pend], fun s hs => by simp only [List.mem_singleton] at hs; subst hs; exact HX.out _ (gr_refl _), by simp, by simp⟩)
    obtain ⟨mu, hmu⟩ := least_fun (fun m (v : Value) (V : World) => ∃ g cap St pre own, WS x w0 W.heap.size J m v V g cap St pre own)
    have MU := Lib.hid hmu
    clear hJ3 hJ3' hk3 hR hmu hy c0 c1 c2 h0
    gi_wp2
    clear d2
    gi_loopw [3, 4, 5] (fun v _ _ V => ∃ m g cap St pre own, Hid (WS x w0 W.heap.size J m v V g cap St pre own)) (fun v _ _ V => mu v V)
    case atStart => exact ⟨_, _, _, _, _, _, S0⟩
    case round =>
      obtain ⟨m0, g0, cap0, St0, pre0, own0, hS0⟩ := hrel
      obtain ⟨⟨g, cap, St, pre, own, hS⟩, hmin⟩ := MU.out _ _ ⟨m0, g0, cap0, St0, pre0, own0, hS0.out⟩
      have hmu0 : ∃ q, mu u3 wr = q := ⟨_, rfl⟩
      obtain ⟨q, hq⟩ := hmu0
      rw [hq] at hS
      have HQ := Lib.hid hq
      obtain rfl := hS.ev
      clear hS0 hmin S0 hq
      rcases snoc_cases St with rfl | ⟨St, s, rfl⟩
      · have FF := Lib.hid (show J x.pre own wr by have h1 := hS.e; simp [pend] at h1; rw [← h1]; exact hS.j)
        clear hS
        gi_wp2
        first | go_end0 | refine bodyPost_ret (results_none rfl _ _ _) rfl ?_
        exact ⟨⟨_, rfl⟩, .inl ⟨_, FF.out⟩⟩
      · have hk : St.length ≤ 1000 := by have h1 := hS.n; have h2 := YY.out.lim _ _ _ hS.j; simp at h1; omega
        have ce := hS.o.slAt (k := St.length) (s := s) (by simp)
        have cf := hS.o.frz St.length
        have TS := hS.t s (by simp)
        have gb := hS.o.lt g rfl
        obtain ⟨k, hkk⟩ : ∃ k, St.length = k := ⟨_, rfl⟩
        have hl : (St ++ [s]).length = k + 1 := by simp [hkk]
        rw [hl] at hS HQ ⊢
        rw [hkk] at hk ce cf
        have kc : k + 1 ≤ cap := by
          rcases hS.o.2 with ⟨h1, _⟩ | ⟨g', cap', cur, e1, hg, hh, hnc, _⟩
          · cases h1
          · have e2 := (Value.slice.inj e1).2.2
            omega
        have kc' : k ≤ cap := by omega
        have HS := Lib.hid hS
        have HK := Lib.hid hkk
        clear hkk hS hl
        have ww : IntKind.i64.wrap (((k + 1 : Nat) : Int) - 1) = k := by rw [IntWalk.i64_in _ ⟨by omega, by omega⟩]; omega
        rcases s with ⟨sA, sc, sL⟩
        cases sL with
        | nil =>
          have hN : WS x w0 W.heap.size J (2 * (pend St).length + k) (.slice (some ⟨g, 0, none⟩) k cap) wr g cap St pre own :=
            ⟨by rw [HK.out], by have := HS.out.o; rw [← HK.out] at this ⊢; exact OR.short SL.cs_len this, HS.out.j, HS.out.ng, by have := HS.out.e; rw [pend_snoc] at this; simpa using this, fun s hs => HS.out.t s (by simp [hs]), by rw [HK.out], by have := HS.out.n; simp at this; omega⟩
          have HN := Lib.hid hN
          have HM := Lib.hid (show 2 * (pend St).length + k < q by have := HS.out.em; rw [pend_snoc] at this; simp at this; have := HK.out; omega)
          clear hN
          gi_wp2
          exact ⟨⟨_, _, _, _, _, _, HN⟩, by rw [HQ.out]; exact Nat.lt_of_le_of_lt ((MU.out _ _ ⟨_, _, _, _, _, _, HN.out⟩).2 _ ⟨_, _, _, _, _, HN.out⟩) HM.out⟩
        | cons y sL =>
          obtain ⟨a, a1, ha, ha1, hab, c0, c1, c2, hsub⟩ := (TRd.gr TS (YY.out.gr _ _ _ HS.out.j).1).at (k := 0) (by simp)
          obtain rfl : sA = some a := ha
          rw [Nat.zero_mul, add_zero'] at ha1
          subst ha1
          simp only [List.getElem_cons_zero] at c0 c1 c2 hsub
          have hcc : sL.length + 1 ≤ sc := by have := TS.hc; simpa using this
          simp only [List.length_cons] at ce
          obtain ⟨A', c', hcase, ht'⟩ : ∃ A' c', ((sc = 1 ∧ A' = some a ∧ c' = 0) ∨ (¬ sc = 1 ∧ A' = some ⟨a.block, a.off + 3, none⟩ ∧ c' = sc - 1)) ∧ TRd w0 A' c' sL := by
            by_cases h1 : sc = 1
            · obtain rfl : sL = [] := List.eq_nil_of_length_eq_zero (by omega)
              exact ⟨some a, 0, .inl ⟨h1, rfl, rfl⟩, .mk (by simp) (by omega) (fun _ => rfl) (.inl rfl) (by simp)⟩
            · refine ⟨_, _, .inr ⟨h1, rfl, rfl⟩,   .mk (by omega) (by have h2 : sc ≤ 9223372036854775807 := TS.hm; omega) (fun h => by cases h) ?_ fun z hz => TS.hs z (by simp [hz])⟩
              have := TS.hr.drop 1 (A' := some ⟨a.block, a.off + 3, none⟩) (fun b hb _ => by cases hb; rw [fld_add _ _ (by omega)])
              simpa using this
          have j5 : J pre own ((wr.setCell ⟨g, k, none⟩ (.slice A' sL.length c')).alloc (.cells #[iv y.kind, iv y.var, .slice y.A y.sub.length y.c] 24)) :=
            YY.out.keep _ _ _ _ HS.out.j ((Kp.row (grown_set g k _) (YY.out.gr _ _ _ HS.out.j).2 (YY.out.lt _ _ _ HS.out.j) gb.1 HS.out.ng).trans (Kp.of (gr_al _ _) (by have := (YY.out.gr _ _ _ HS.out.j).2; simpa [World.setCell] using this) (by have := YY.out.lt _ _ _ HS.out.j; simpa [World.setCell] using this)))
          have hpost : ∃ post, x.pre = pre ++ y :: post := ⟨preTs y.sub ++ preTs sL ++ pend St, by have := HS.out.e; rw [pend_snoc] at this; rw [← this]; simp⟩
          have o5 : OR 22 1 SL.cs ((wr.setCell ⟨g, k, none⟩ (.slice A' sL.length c')).alloc (.cells #[iv y.kind, iv y.var, .slice y.A y.sub.length y.c] 24)) W.heap.size (.slice (some ⟨g, 0, none⟩) (k + 1) cap) (St ++ [⟨A', c', sL⟩]) := by
            have := (HS.out.o.slSet (s' := ⟨A', c', sL⟩)).1
            rw [HK.out] at this
            exact this.alloc _
          have u5 : ((wr.setCell ⟨g, k, none⟩ (.slice A' sL.length c')).alloc (.cells #[iv y.kind, iv y.var, .slice y.A y.sub.length y.c] 24)).heap[wr.heap.size]? = some (.cells #[iv y.kind, iv y.var, .slice y.A y.sub.length y.c] 24 (0, 0)) := al_at _ _ (by simp [World.setCell])
          obtain ⟨fn2, tmps2, assign2, body2, hy2, hR2⟩ := YY.out.yield pre own y _ j5 (TRd.gr (TS.hs y (by simp)) (YY.out.gr _ _ _ j5).1) hpost
          unfold Ty.v at hy2
          have LT5 := Lib.hid (YY.out.lt _ _ _ j5)
          have WB := Lib.hid (YY.out.gr _ _ _ HS.out.j).2
          have PO := Lib.hid hpost
          have O5 := Lib.hid o5
          have U5 := Lib.hid u5
          have T5 := Lib.hid (show TRd w0 A' c' sL ∧ TRd w0 y.A y.c y.sub from ⟨ht', TS.hs y (by simp)⟩)
          obtain ⟨SN, hSN⟩ : ∃ SN : List SL, St ++ [⟨A', c', sL⟩] ++ [⟨y.A, y.c, y.sub⟩] = SN := ⟨_, rfl⟩
          have hpn : pend SN = preTs y.sub ++ (preTs sL ++ pend St) := by rw [← hSN, pend_snoc, pend_snoc]
          have SF := Lib.hid (show pre ++ [y] ++ pend SN = x.pre ∧ SN.length = k + 2 ∧ (∀ s ∈ SN, TRd w0 s.A s.c s.L) ∧ 2 * (pend SN).length + (k + 2) < q ∧ k + 2 ≤ (pre ++ [y]).length from
            ⟨by have := HS.out.e; rw [pend_snoc] at this; rw [hpn, ← this]; simp, by rw [← hSN]; simp [HK.out], fun s hs => by
              rw [← hSN] at hs
              simp only [List.mem_append, List.mem_singleton, or_assoc] at hs
              rcases hs with hs | rfl | rfl
              · exact HS.out.t s (by simp [hs])
              · exact ht'
              · exact TS.hs y (by simp), by have := HS.out.em; rw [pend_snoc] at this; rw [hpn]; simp at *; have := HK.out; omega, by have := HS.out.n; have := HK.out; simp at *; omega⟩)
          have HSN := Lib.hid hSN
          have LTW := Lib.hid (YY.out.lt _ _ _ HS.out.j)
          have NG := Lib.hid HS.out.ng
          clear hpost o5 u5 ht' TS hsub j5 hSN hpn T5
          rcases hcase with ⟨h1, rfl, rfl⟩ | ⟨h1, rfl, rfl⟩
          all_goals
            gi_wp2
            refine hR2.mono ?_
            rintro e W6 ⟨⟨hk6, hs6⟩, ⟨rfl, own6, ho6, hJ6⟩ | ⟨rfl, hF6⟩⟩
            · have u6 := (hk6 _ WB.out (heap_lt U5.out) (fun h => absurd (LTW.out _ h) (by omega))).trans U5.out
              have d0 := Lib.cell_of_heap u6 2
              simp only [List.getElem?_toArray, List.getElem?_cons_zero, List.getElem?_cons_succ] at d0
              have o6 := O5.out.keepAt (w' := W6) (fun q hq => by
                obtain ⟨l1, l2⟩ := O5.out.lt q hq
                exact hk6 q l1 l2 (by cases hq; exact NG.out))
              have S6 := Lib.hid (show W.heap.size ≤ W6.heap.size by have h1 := heap_lt U5.out; have h2 := WB.out; omega)
              have O6 := Lib.hid o6
              have J6 := Lib.hid hJ6
              have N6 := Lib.hid (show ¬ own6 g from fun h => by
                rcases ho6 g h with h | h
                · exact NG.out h
                · have := (O5.out.lt g rfl).2; omega)
              have L6 := Lib.hid (YY.out.lt _ _ _ hJ6)
              clear u6 o6 hJ6 hk6 hR2 hy2 c0 c1 c2 ce cf
              gi_wp2_with (gi_at_builtin; refine wpList_appSI _ rfl (.tmp 46) (.tmp 49) rfl W.heap.size rfl (O6.out.alloc _) (M := [⟨y.A, y.c, y.sub⟩]) rfl rfl (rd_cells (t := 22) SL.cs_len (al_new _ _)) (by simp) (by have := HK.out; simp; omega) (by have := S6.out; simp; omega) ?_; intro v7 w7 o7 g7 b7; rw [HSN.out] at o7; have B7 := Lib.hid b7; clear b7; have O7 := Lib.hid o7; have G7 := Lib.hid g7; clear o7 g7)
              obtain ⟨g8, c8, rfl, hg8⟩ := O7.out.someR (by intro h; have := SF.out.2.1; rw [h] at this; simp at this)
              have J7 : J (pre ++ [y]) own6 w7 := YY.out.keep _ _ _ _ J6.out ((Kp.of (gr_al _ _) S6.out L6.out).trans (Kp.row (g := g) G7.out (by have := S6.out; simp; omega) (fun k hk => by have := L6.out k hk; simp; omega) (O6.out.lt g rfl).1 N6.out))
              have N7 : ¬ own6 g8 := fun h => by
                have h8 := B7.out
                simp only [Value.ownBlock] at h8
                rcases h8 with h8 | h8
                · cases h8; exact N6.out h
                · simp only [Option.some.injEq] at h8; have := L6.out g8 h; simp at h8; omega
              have hN : WS x w0 W.heap.size J (2 * (pend SN).length + (k + 2)) (.slice (some ⟨g8, 0, none⟩) SN.length c8) w7 g8 c8 SN (pre ++ [y]) own6 :=
                ⟨rfl, O7.out, J7, N7, SF.out.1, SF.out.2.2.1, by rw [SF.out.2.1], by rw [SF.out.2.1]; exact SF.out.2.2.2.2⟩
              exact ⟨⟨_, _, _, _, _, _, Lib.hid hN⟩, by rw [HQ.out]; exact Nat.lt_of_le_of_lt ((MU.out _ _ ⟨_, _, _, _, _, _, hN⟩).2 _ ⟨_, _, _, _, _, hN⟩) SF.out.2.2.2.1⟩
            · have FF := Lib.hid hF6
              clear hF6 hk6 hR2
              gi_wp2
              refine bodyPost_ret (results_none rfl _ _ _) rfl ?_
              obtain ⟨post, hp⟩ := PO.out
              exact ⟨⟨_, rfl⟩, .inr ⟨pre, y, post, hp, FF.out⟩⟩
  · have FF := Lib.hid hF3
    clear hF3 hk3 hR
    gi_wp2
    refine bodyPost_ret (results_none rfl _ _ _) rfl ?_
    exact ⟨⟨_, rfl⟩, .inr ⟨[], x, _, preT_eq x, FF.out⟩⟩
end Go.Proofs.Ytjlmhfdigoogfaa
namespace Go.Proofs.Ytjlmhfdigoogfaa
open Go.RowKit Go.Shelf
attribute [local go_sem] Oper.semAt_some

/-- A range over a closure starts: its record and the block for deferred calls lie behind the world. -/
theorem range_start {P : Program} {n : Nat} {g : Operand} {ps : Array Tmp} {assign body : Code} {Q : Exit → Act → World → Prop} {a : Act} {w : World} {gf : Nat} {lb : Array Value}
    (hg : a.eval g = .func (.func gf) #[] lb) (eg : ∀ args w, (callFunc gf args).run P w = .ok (.enter gf args) w)
    (h : ∀ fn, CallsIn Fence.wide (n - 1) P gf (#[.func (.yield (w.heap.size + 1)) #[] #[]] ++ lb)
      ((w.alloc (.deferred (some []))).alloc (.loop { state := .ready, pending := none, fn, tmps := a.tmps, params := ps, assign, body, defers := w.heap.size }))
      (rangePost Fence.wide n P (w.heap.size + 1) Q { a with defers := { target := .collected w.heap.size, args := #[] } :: a.defers })) :
    (Code.rangeFunc g ps assign body).wpIn Fence.wide n P Q a w := by
  refine wpIn_rangeFunc ?_
  intro fn _
  obtain ⟨W1, hW1⟩ : ∃ W1, (w.alloc (.deferred (some []))).alloc (.loop { state := .ready, pending := none, fn, tmps := a.tmps, params := ps, assign, body, defers := w.heap.size }) = W1 := ⟨_, rfl⟩
  refine ⟨w.heap.size + 1, [{ target := .collected w.heap.size, args := #[] }], W1, { target := .fn (.func gf) lb, args := #[.func (.yield (w.heap.size + 1)) #[] #[]] }, W1, gf,
    #[.func (.yield (w.heap.size + 1)) #[] #[]] ++ lb, W1, ?_, ?_, fun _ _ => trivial, ?_, fun h => (by cases h), ?_⟩
  · rw [← hW1]; exact run_enterLoop_outer _ _ _ _ _
  · simp only [resolve, hg]
    simp [go_sem]
  · simp [invoke, go_sem, eg]
  · rw [← hW1]; exact h fn

set_option maxRecDepth 100000 in
theorem within_any (x : Ty) (w : World) :
    Calls Try.prog 52 #[x.v] w fun e w' => e = .returned (.func (.func 83) #[] #[.pointer (some ⟨w.heap.size, 0, none⟩)]) ∧ w' = w.alloc (.cells #[iv x.kind, iv x.var, .slice x.A x.sub.length x.c] 24) := by
  unfold Ty.v
  go_enter Try.func52, Try.ntmps52
  go_wp2
  go_ret
  exact ⟨rfl, rfl⟩

/-- What a loop's body leaves. -/
def BodyP (b : Nat) (own : Nat → Prop) (I : List Ty → (Nat → Prop) → World → Prop) (E : List Ty → Ty → World → Prop) (pre : List Ty) (y : Ty) (W : World) : Exit → Act → World → Prop
  | .normal, _, W' => ((∀ k, b ≤ k → k < W.heap.size → ¬ own k → W'.heap[k]? = W.heap[k]?) ∧ W.heap.size ≤ W'.heap.size) ∧ ∃ own', (∀ k, own' k → own k ∨ W.heap.size ≤ k) ∧ I (pre ++ [y]) own' W'
  | .ret, _, W' => ((∀ k, b ≤ k → k < W.heap.size → ¬ own k → W'.heap[k]? = W.heap[k]?) ∧ W.heap.size ≤ W'.heap.size) ∧ E pre y W'
  | _, _, _ => False
/-- All but one block stays. -/
structure But (l : Nat) (W W' : World) : Prop where
  os : W'.os = W.os
  tape : W'.tape = W.tape
  output : W'.output = W.output
  size : W'.heap.size = W.heap.size
  same : ∀ k, k ≠ l → W'.heap[k]? = W.heap[k]?
theorem But.put (W : World) (l : Nat) (o : Obj) : But l W (W.putObj l o) := ⟨rfl, rfl, rfl, by simp [World.putObj], fun k hk => World.putObj_heap_other (by omega)⟩
theorem But.kp {l B : Nat} {own : Nat → Prop} {W W' : World} (h : But l W W') (hl : B ≤ l) (hn : ¬ own l) : Kp B own W W' :=
  ⟨h.os, h.tape, h.output, by rw [h.size]; exact Nat.le_refl _, fun k hk => h.same k (by
    rintro rfl
    rcases hk with hk | hk
    · omega
    · exact hn hk)⟩
theorem But.below {l : Nat} {W W' : World} (h : But l W W') : Below l W W' := ⟨h.os, h.tape, h.output, by rw [h.size]; exact Nat.le_refl _, fun k hk => h.same k (by omega)⟩
theorem range_w {n : Nat} {Q : Exit → Act → World → Prop} {a : Act} {w0 w : World} {x : Ty} {bt : Nat} {g : Operand} {ps : Array Tmp} {assign body : Code} (hn : 3 ≤ n)
    (hg : a.eval g = .func (.func 83) #[] #[.pointer (some ⟨bt, 0, none⟩)]) (hps : ps.size = 1) (hx : x.Rd w0) (I : List Ty → (Nat → Prop) → World → Prop) (E : List Ty → Ty → World → Prop)
    (hI : ∀ pre own W, I pre own W → Gr w0 W ∧ w.heap.size ≤ W.heap.size ∧ W.heap[bt]? = some (.cells #[iv x.kind, iv x.var, .slice x.A x.sub.length x.c] 24 (0, 0)) ∧ pre.length ≤ 1000 ∧ ∀ k, own k → k < W.heap.size)
    (hkI : ∀ pre own W W', I pre own W → Kp w.heap.size own W W' → I pre own W') (hkE : ∀ pre y W W', E pre y W → But (w.heap.size + 1) W W' → E pre y W')
    (h0 : I [] (fun _ => False) w)
    (round : ∀ l pre own y W, I pre own W → w.heap.size + 2 ≤ W.heap.size → (∀ k, own k → w.heap.size + 2 ≤ k) → y.Rd W → (∃ post, x.pre = pre ++ y :: post) → w.heap.size + 1 = l →
      assign.wpIn (Fence.wide.inRound l) (n - 1 - 1) Try.prog (Exit.then (fun a₁ W₁ => ((∀ k, w.heap.size ≤ k → k < W.heap.size → ¬ own k → W₁.heap[k]? = W.heap[k]?) ∧ W.heap.size ≤ W₁.heap.size) ∧ ∀ W₂, But l W₁ W₂ → body.wpIn (Fence.wide.inRound l) (n - 1 - 1) Try.prog (fun e a' W' => (∀ k, w.heap.size ≤ k → k < W.heap.size → ¬ own k → k ≠ l → W₂.heap[k]? = W.heap[k]?) → BodyP w.heap.size own I E pre y W₂ e a' W') a₁ W₂) (fun _ _ _ => False))
        { tmps := (ps.zip #[y.v]).foldl (fun tmps (t, a) => tmps.setIfInBounds t a) a.tmps, defers := [] } W)
    (fin : ∀ own W', I x.pre own W' → (∀ k, own k → w.heap.size + 2 ≤ k) → W'.heap[w.heap.size]? = some (.deferred (some [])) → Q .normal { a with defers := { target := .collected w.heap.size, args := #[] } :: a.defers } W')
    (early : ∀ pre y post W', x.pre = pre ++ y :: post → E pre y W' → W'.heap[w.heap.size]? = some (.deferred (some [])) → Q .ret { a with defers := { target := .collected w.heap.size, args := #[] } :: a.defers } W') :
    (Code.rangeFunc g ps assign body).wpIn Fence.wide n Try.prog Q a w := by
  refine range_start hg (enters_of Try.func83 (by kernel_rfl) rfl) ?_
  intro fn
  generalize hr : ({ state := .ready, pending := none, fn := fn, tmps := _, params := _, assign := _, body := _, defers := w.heap.size } : Loop) = r
  obtain ⟨W1, hW1⟩ : ∃ W1, (w.alloc (.deferred (some []))).alloc (.loop r) = W1 := ⟨_, rfl⟩
  have s1 : W1.heap.size = w.heap.size + 2 := by rw [← hW1]; simp
  have l1 : W1.heap[w.heap.size + 1]? = some (.loop r) := by rw [← hW1]; exact al_at _ _ (by simp)
  have d1 : W1.heap[w.heap.size]? = some (.deferred (some [])) := by rw [← hW1]; exact (Below.heap_alloc _ _ _ (by simp)).trans (al_new w _)
  have b1 : Gr w W1 := by rw [← hW1]; exact (gr_al _ _).trans (gr_al _ _)
  rw [hW1]
  clear hW1
  have hj0 : I [] (fun _ => False) W1 := hkI _ _ _ _ h0 (Kp.of b1 (Nat.le_refl _) fun k h => h.elim)
  have YL : Yl x w0 bt W1.heap.size (n - 1 - 1) (w.heap.size + 1) (fun pre own W => (I pre own W ∧ W1.heap.size ≤ W.heap.size ∧ ∀ k, own k → W1.heap.size ≤ k) ∧ W.heap[w.heap.size + 1]? = some (.loop r) ∧ W.heap[w.heap.size]? = some (.deferred (some [])))
      (fun pre y W => E pre y W ∧ W.heap[w.heap.size + 1]? = some (.loop { r with state := .done, pending := some .ret }) ∧ W.heap[w.heap.size]? = some (.deferred (some []))) := by
    refine ⟨fun pre own W h => ⟨(hI _ _ _ h.1.1).1, h.1.2.1⟩, fun pre own W h => (hI _ _ _ h.1.1).2.2.1, fun pre own W h => (hI _ _ _ h.1.1).2.2.2.1, fun pre own W h => (hI _ _ _ h.1.1).2.2.2.2, ?_, ?_⟩
    · intro pre own W W' ⟨⟨hi, hs, ho⟩, hl, hd⟩ hb
      exact ⟨⟨hkI _ _ _ _ hi ⟨hb.os, hb.tape, hb.output, hb.size, fun k hk => hb.same k (by
        rcases hk with hk | hk
        · left; omega
        · right; exact hk)⟩, Nat.le_trans hs hb.size, ho⟩, (hb.same _ (by left; omega)).trans hl, (hb.same _ (by left; omega)).trans hd⟩
    · intro pre own y W ⟨⟨hi, hs, ho⟩, hl, hd⟩ hy hpost
      have hyl := run_yield (P := Try.prog) (args := #[y.v]) hl (by rw [← hr]; exact hps.symm)
      refine ⟨_, _, _, _, hyl, roundIn_of_wpIn trivial ?_⟩
      have ea : r.assign = assign := by rw [← hr]
      have eb : r.body = body := by rw [← hr]
      have ep : r.params = ps := by rw [← hr]
      have et : r.tmps = a.tmps := by rw [← hr]
      have R0 := round (w.heap.size + 1) pre own y W hi (by omega) (fun k hk => by have := ho k hk; omega) hy hpost rfl
      rw [← ea, ← eb, ← ep, ← et] at R0
      refine wpIn_mono R0 ?_
      intro e a₁ W₁ he
      have nl : ¬ own (w.heap.size + 1) := fun h => by have := ho _ h; omega
      have nd : ¬ own w.heap.size := fun h => by have := ho _ h; omega
      cases e with
      | normal =>
        obtain ⟨⟨k1, k2⟩, hbody⟩ := he
        have hl1 : W₁.heap[w.heap.size + 1]? = some (.loop r) := (k1 _ (by omega) (by omega) nl).trans hl
        have hd1 : W₁.heap[w.heap.size]? = some (.deferred (some [])) := (k1 _ (by omega) (by omega) nd).trans hd
        refine ⟨_, run_beginRound hl1 (by rw [← hr]), ?_⟩
        have B2 := But.put W₁ (w.heap.size + 1) (.loop { r with state := .busy })
        refine wpIn_mono (hbody _ B2) ?_
        intro e a₂ W₃ hp0
        have hl2 : (W₁.putObj (w.heap.size + 1) (.loop { r with state := .busy })).heap[w.heap.size + 1]? = some (.loop { r with state := .busy }) := World.putObj_heap_same (heap_lt hl1)
        have hd2 : (W₁.putObj (w.heap.size + 1) (.loop { r with state := .busy })).heap[w.heap.size]? = some (.deferred (some [])) := (B2.same _ (by omega)).trans hd1
        have hp := hp0 fun k h1 h2 h3 h4 => (B2.same k h4).trans (k1 k h1 h2 h3)
        have z2 := B2.size
        have k2' : ∀ k, W1.heap.size ≤ k → k < W.heap.size → ¬ own k → (W₁.putObj (w.heap.size + 1) (.loop { r with state := .busy })).heap[k]? = W.heap[k]? := fun k h1 h2 h3 => (B2.same k (by omega)).trans (k1 k (by omega) h2 h3)
        clear hp0 B2
        generalize W₁.putObj (w.heap.size + 1) (.loop { r with state := .busy }) = W₂ at *
        have lt2 := heap_lt hl2
        cases e with
        | normal =>
          obtain ⟨⟨m1, m2⟩, own', ho', hi3⟩ := hp
          have hl3 := (m1 _ (by omega) lt2 nl).trans hl2
          have hd3 := (m1 _ (Nat.le_refl _) (heap_lt hd2) nd).trans hd2
          have hend := run_endRound (P := Try.prog) none hl3
          have ho2 : ∀ k, own' k → W1.heap.size ≤ k := fun k hk => by
            rcases ho' k hk with h | h
            · exact ho k h
            · omega
          have B4 := But.put W₃ (w.heap.size + 1) (.loop { { r with state := .busy } with state := if (none : Option Code).isNone = true then .ready else .done, pending := none })
          refine ⟨_, _, hend, ⟨?_, ?_⟩, .inl ⟨rfl, own', fun k hk => ?_, ⟨hkI _ _ _ _ hi3 (B4.kp (by omega) fun h => by have := ho2 _ h; omega), by rw [B4.size]; omega, ho2⟩, ?_, (B4.same _ (by omega)).trans hd3⟩⟩
          · intro k h1 h2 h3
            rw [B4.same _ (by omega), m1 k (by omega) (by omega) h3, k2' k h1 h2 h3]
          · rw [B4.size]; omega
          · rcases ho' k hk with h | h
            · exact .inl h
            · right; omega
          · rw [World.putObj_heap_same (heap_lt hl3), ← hr]; rfl
        | ret =>
          obtain ⟨⟨m1, m2⟩, hi3⟩ := hp
          have hl3 := (m1 _ (by omega) lt2 nl).trans hl2
          have hd3 := (m1 _ (Nat.le_refl _) (heap_lt hd2) nd).trans hd2
          have hend := run_endRound (P := Try.prog) (some .ret) hl3
          have B4 := But.put W₃ (w.heap.size + 1) (.loop { { r with state := .busy } with state := if (some Code.ret : Option Code).isNone = true then .ready else .done, pending := some .ret })
          refine ⟨_, _, hend, ⟨?_, ?_⟩, .inr ⟨rfl, hkE _ _ _ _ hi3 B4, ?_, (B4.same _ (by omega)).trans hd3⟩⟩
          · intro k h1 h2 h3
            rw [B4.same _ (by omega), m1 k (by omega) (by omega) h3, k2' k h1 h2 h3]
          · rw [B4.size]; omega
          · rw [World.putObj_heap_same (heap_lt hl3)]; rfl
        | exit id => exact hp.elim
        | goto t => exact hp.elim
        | panic c => exact hp.elim
        | outgrown => exact hp.elim
      | exit id => exact he
      | goto t => exact he
      | ret => exact he
      | panic c => exact he
      | outgrown => exact he
  have sW1 : w.heap.size ≤ W1.heap.size := by omega
  refine (within_in x w0 bt (w.heap.size + 1) (n - 1) (by omega) _ _ W1 hx YL ⟨⟨hj0, Nat.le_refl _, fun k h => h.elim⟩, l1, d1⟩).mono ?_
  rintro e W2 ⟨⟨v', rfl⟩, ⟨own, ⟨hi, hs, ho⟩, hl, hd⟩ | ⟨pre, y, post, hp, hE, hl, hd⟩⟩
  · have hend := run_endLoop (P := Try.prog) hl (by rw [← hr]; simp)
    have hp : r.pending = none := by rw [← hr]
    rw [hp] at hend
    have B4 := But.put W2 (w.heap.size + 1) (.loop { r with state := .exhausted, pending := none })
    exact ⟨none, _, hend, fin own _ (hkI _ _ _ _ hi (B4.kp (by omega) fun h => by have := ho _ h; omega)) (fun k hk => by have := ho k hk; omega) ((B4.same _ (by omega)).trans hd)⟩
  · have hend := run_endLoop (P := Try.prog) hl (by simp)
    refine ⟨some .ret, _, hend, ?_⟩
    have B4 := But.put W2 (w.heap.size + 1) (.loop { r with state := .exhausted, pending := some .ret })
    have hq := early pre y post _ hp (hkE _ _ _ _ hE B4) ((B4.same _ (by omega)).trans hd)
    gi_wp2
    exact hq
end Go.Proofs.Ytjlmhfdigoogfaa
namespace Go.Proofs.Ytjlmhfdigoogfaa
open Go.RowKit Go.Shelf
attribute [local go_sem] Oper.semAt_some

theorem results_cell1 {fn : Func} {p : Tmp} {ty : TypeId} (h : fn.results = #[.cell p ty]) (tmps : Array Value) (P : Program) (w : World) :
    (results fn tmps).run P w = ((asAddr (tmps.getD p undef)).run P w).andThen fun a w₁ => (loadVar ty a).run P w₁ := by
  simp only [results, h]
  simp [Sem.run_bind]
theorem results_int {fn : Func} {p : Tmp} (h : fn.results = #[.cell p 28]) (tmps : Array Value) (w : World) (a : Addr) (v : Value) (hp : tmps.getD p undef = .pointer (some a)) (hc : w.cell? a = some v) : (results fn tmps).run Try.prog w = .ok v w := by
  have ha := Try.isAgg28
  rw [results_cell1 h, hp]
  simp [go_sem, ha, loadVar, hc]
theorem gr_below {w W W' : World} (g : Gr w W) {n : Nat} (hn : w.heap.size ≤ n) (hb : Below n W W') : Gr w W' :=
  ⟨hb.os.trans g.os, hb.tape.trans g.tape, hb.output.trans g.output, Nat.le_trans g.size hb.size, fun k hk _ => (hb.block k (by omega)).trans (g.block k hk (by simp))⟩
theorem gr_cell {w W : World} (g : Gr w W) {k j : Nat} (hk : w.heap.size ≤ k) (u : Value) : Gr w (W.setCell ⟨k, j, none⟩ u) :=
  ⟨g.os, g.tape, g.output, by simpa [World.setCell] using g.size, fun i hi hn => (Below.heap_setCell _ _ _ _ (by show i ≠ k; omega)).trans (g.block i hi hn)⟩
theorem set_same {W : World} {k : Nat} {v u : Value} {t : TypeId} (h : W.heap[k]? = some (.cells #[v] t (0, 0))) : (W.setCell ⟨k, 0, none⟩ u).heap[k]? = some (.cells #[u] t (0, 0)) := by
  simp [World.setCell, Array.getElem?_modify, h]
theorem Kp.below {B : Nat} {own : Nat → Prop} {W W' : World} (h : Kp B own W W') : Below B W W' := ⟨h.os, h.tape, h.output, h.size, fun k hk => h.same k (.inl hk)⟩
/-- Between the rounds of Check's first loop. -/
structure C1 (w : World) (x : Ty) (pre : List Ty) (W : World) : Prop where
  t : W.heap[w.heap.size]? = some (.cells #[iv x.kind, iv x.var, .slice x.A x.sub.length x.c] 24 (0, 0))
  r : W.heap[w.heap.size + 1]? = some (.cells #[iv 0] 28 (0, 0))
  n : W.heap[w.heap.size + 2]? = some (.cells #[iv pre.length] 3 (0, 0))
  b : W.heap[w.heap.size + 3]? = some (.cells #[iv x.kind, iv x.var, .slice x.A x.sub.length x.c] 24 (0, 0))
  gr : Gr w W
  s : w.heap.size + 4 ≤ W.heap.size
  l : pre.length ≤ 200
theorem C1.keep {w : World} {x : Ty} {pre : List Ty} {W W' : World} (h : C1 w x pre W) {n : Nat} (hn : w.heap.size + 4 ≤ n) (hb : Below n W W') : C1 w x pre W' :=
  ⟨(hb.block _ (by omega)).trans h.t, (hb.block _ (by omega)).trans h.r, (hb.block _ (by omega)).trans h.n, (hb.block _ (by omega)).trans h.b, gr_below h.gr (by omega) hb, Nat.le_trans h.s hb.size, h.l⟩
/-- A result in its box. -/
structure CE (w : World) (e : Int) (W : World) : Prop where
  r : W.heap[w.heap.size + 1]? = some (.cells #[iv e] 28 (0, 0))
  gr : Gr w W
theorem CE.keep {w : World} {e : Int} {W W' : World} (h : CE w e W) {n : Nat} (hn : w.heap.size + 2 ≤ n) (hb : Below n W W') : CE w e W' :=
  ⟨(hb.block _ (by omega)).trans h.r, gr_below h.gr (by omega) hb⟩
/-- Between the rounds of Check's second loop. -/
structure C2 (w : World) (x : Ty) (bt : Nat) (pre : List Ty) (W : World) : Prop where
  r : W.heap[w.heap.size + 1]? = some (.cells #[iv 0] 28 (0, 0))
  d : W.heap[w.heap.size + 4]? = some (.deferred (some []))
  b : W.heap[bt]? = some (.cells #[iv x.kind, iv x.var, .slice x.A x.sub.length x.c] 24 (0, 0))
  gr : Gr w W
  ok : ∀ z ∈ pre, ck1 z.er = 0
  l : ∃ post, x.pre = pre ++ post
theorem C2.keep {w : World} {x : Ty} {bt : Nat} {pre : List Ty} {W W' : World} (h : C2 w x bt pre W) (hb5 : w.heap.size + 5 ≤ bt) (hb : Below (bt + 1) W W') : C2 w x bt pre W' :=
  ⟨(hb.block _ (by omega)).trans h.r, (hb.block _ (by omega)).trans h.d, (hb.block _ (by omega)).trans h.b, gr_below h.gr (by omega) hb, h.ok, h.l⟩
theorem C2.grow {w : World} {x : Ty} {bt : Nat} {pre : List Ty} {W W' : World} (h : C2 w x bt pre W) (g : Gr W W') : C2 w x bt pre W' :=
  ⟨gr_h g h.r, gr_h g h.d, gr_h g h.b, h.gr.trans g, h.ok, h.l⟩
/-- The error of the second loop. -/
structure C2E (w : World) (y : Ty) (pre : List Ty) (W : World) : Prop where
  e : CE w (ck1 y.er) W
  d : W.heap[w.heap.size + 4]? = some (.deferred (some []))
  n : ck1 y.er ≠ 0
  ok : ∀ z ∈ pre, ck1 z.er = 0
theorem cke_pre {x : Ty} (h : ∀ z ∈ x.pre, ck1 z.er = 0) : cke x.er = 0 := by
  unfold cke
  rw [← preT_er]
  apply fe_all
  intro q hq
  rw [List.map_map] at hq
  obtain ⟨z, hz, rfl⟩ := List.mem_map.1 hq
  exact h z hz
theorem cke_stop {x : Ty} {pre post : List Ty} {y : Ty} (hp : x.pre = pre ++ y :: post) (h : ∀ z ∈ pre, ck1 z.er = 0) (hn : ck1 y.er ≠ 0) : cke x.er = ck1 y.er := by
  unfold cke
  rw [← preT_er, hp, List.map_append, List.map_append, fe_append, if_pos (fe_all fun q hq => by
    rw [List.map_map] at hq
    obtain ⟨z, hz, rfl⟩ := List.mem_map.1 hq
    exact h z hz)]
  simp [fe, hn]
theorem put_def {w W : World} {k : Nat} (g : Gr w W) (hk : w.heap.size ≤ k) (o : Obj) : Gr w (W.putObj k o) := gr_below g (n := w.heap.size) (Nat.le_refl _) ⟨rfl, rfl, rfl, by simp [World.putObj], fun i hi => World.putObj_heap_other (by omega)⟩
set_option maxRecDepth 100000 in
set_option maxHeartbeats 8000000 in
theorem check_any (x : Ty) (w : World) (hx : x.Rd w) : Calls Try.prog 17 #[x.v] w fun e w' => e = .returned (iv (ck x.er)) ∧ Gr w w' := by
  have HX := Lib.hid hx
  have WI := Lib.hid (fun V => within_any x V)
  have CO := Lib.hid checkOne_any
  clear hx
  refine (callsIn_wide (n := 5)).1 ?_
  refine callsIn_of_wp_marks Try.func17 rfl trivial ?_ rfl
  simp only [Try.ntmps17, List.size_toArray, List.length_cons, List.length_nil, Nat.reduceAdd, Nat.reduceSub, Array.replicate_succ, Array.replicate_zero, List.push_toArray, List.append_toArray, List.nil_append, List.cons_append]
  unfold Ty.v at WI ⊢
  gi_wp2_with (refine ⟨trivial, ?_⟩; gi_at_call 52; refine (callsIn_wide.2 (WI.out _)).mono ?_; rintro e w' ⟨rfl, rfl⟩)
  obtain ⟨W0, hW0⟩ : ∃ W0, (((w.alloc (.cells #[iv x.kind, iv x.var, .slice x.A x.sub.length x.c] 24)).alloc (.cells #[iv 0] 28)).alloc (.cells #[iv 0] 3)).alloc (.cells #[iv x.kind, iv x.var, .slice x.A x.sub.length x.c] 24) = W0 := ⟨_, rfl⟩
  have s0 : W0.heap.size = w.heap.size + 4 := by rw [← hW0]; simp
  have i0 : C1 w x [] W0 := by
    rw [← hW0]
    refine ⟨?_, ?_, ?_, ?_, ((gr_al _ _).trans (gr_al _ _)).trans ((gr_al _ _).trans (gr_al _ _)), by simp, by simp⟩
    · exact ((Below.heap_alloc _ _ _ (by simp; omega)).trans (Below.heap_alloc _ _ _ (by simp; omega))).trans ((Below.heap_alloc _ _ _ (by simp)).trans (al_new w _))
    · exact ((Below.heap_alloc _ _ _ (by simp)).trans (Below.heap_alloc _ _ _ (by simp))).trans (al_at _ _ (by simp))
    · exact (Below.heap_alloc _ _ _ (by simp)).trans (al_at _ _ (by simp))
    · exact al_at _ _ (by simp)
  rw [hW0]
  clear hW0
  refine range_w (w0 := w) (x := x) (bt := w.heap.size + 1 + 1 + 1) (by omega) rfl rfl HX.out (fun pre own W => C1 w x pre W ∧ ∀ k, ¬ own k) (fun pre y W => pre.length = 200 ∧ CE w 4 W) (fun pre own W h => ⟨h.1.gr, by rw [s0]; exact h.1.s, h.1.b, by have := h.1.l; omega, fun k hk => absurd hk (h.2 k)⟩) (fun pre own W W' h hb => ⟨h.1.keep (by omega) hb.below, h.2⟩) (fun pre y W W' h hb => ⟨h.1, h.2.keep (by omega) hb.below⟩) ⟨i0, fun k h => h⟩ ?_ ?_ ?_
  · intro l pre own y W hi hsz _ hy hp hl
    have HI := Lib.hid hi.1
    have HN := Lib.hid hi.2
    have HS := Lib.hid s0
    clear hi i0 s0
    gi_wp2
    refine ⟨⟨fun k _ _ _ => trivial, Nat.le_refl _⟩, fun W₂ hb => ?_⟩
    have h2 := HI.out.keep (by have := HS.out; omega) hb.below
    have c0 := Lib.cell_of_heap h2.n 0
    have f0 := Lib.frozen_of_heap h2.n 0
    have c1 := Lib.cell_of_heap h2.r 0
    have f1 := Lib.frozen_of_heap h2.r 0
    simp only [List.getElem?_toArray, List.getElem?_cons_zero] at c0 c1
    have H2 := Lib.hid h2
    have hln := h2.l
    clear h2 hb
    obtain ⟨m, hm⟩ : ∃ m, pre.length = m := ⟨_, rfl⟩
    rw [hm] at c0 hln
    have HM := Lib.hid hm
    clear hm
    by_cases h200 : m = 200
    · subst h200
      gi_wp2
      intro _
      refine ⟨⟨fun k h1 h2 _ => ?_, by simp [World.setCell]⟩, HM.out, ?_, gr_cell (gr_cell H2.out.gr (by omega) _) (by omega) _⟩
      · rw [Below.heap_setCell _ _ _ _ (by show k ≠ w.heap.size + 1; have := HS.out; omega), Below.heap_setCell _ _ _ _ (by show k ≠ w.heap.size + 1 + 1; have := HS.out; omega)]
      · exact set_same ((Below.heap_setCell _ _ _ _ (by show w.heap.size + 1 ≠ w.heap.size + 1 + 1; omega)).trans H2.out.r)
    · have h201 : ¬ (200 : Int) < (m : Int) + 1 := by omega
      gi_wp2
      intro _
      have o : ∀ k, k ≠ w.heap.size + 2 → (W₂.setCell ⟨w.heap.size + 1 + 1, 0, none⟩ (.int .i64 ((m : Int) + 1))).heap[k]? = W₂.heap[k]? := fun k hk => Below.heap_setCell _ _ _ _ (by show k ≠ w.heap.size + 1 + 1; omega)
      refine ⟨⟨fun k h1 h2 _ => o k (by have := HS.out; omega), by simp [World.setCell]⟩, own, fun k hk => .inl hk, ⟨(o _ (by omega)).trans H2.out.t, (o _ (by omega)).trans H2.out.r, ?_, (o _ (by omega)).trans H2.out.b, gr_cell H2.out.gr (by omega) _, by have := H2.out.s; simpa [World.setCell] using this, by have := HM.out; simp; omega⟩, HN.out⟩
      have := set_same (u := .int .i64 ((m : Int) + 1)) H2.out.n
      rw [this]
      simp [HM.out]
  · intro own W' hi _ hd
    replace hi := hi.1
    have b1 := Lib.cell_of_heap hi.t 0
    have b2 := Lib.cell_of_heap hi.t 1
    have b3 := Lib.cell_of_heap hi.t 2
    simp only [List.getElem?_toArray, List.getElem?_cons_zero, List.getElem?_cons_succ] at b1 b2 b3
    have HI := Lib.hid hi
    have HD := Lib.hid hd
    clear hi hd i0
    gi_wp2_with (refine ⟨trivial, ?_⟩; gi_at_call 52; refine (callsIn_wide.2 (WI.out _)).mono ?_; rintro e w' ⟨rfl, rfl⟩)
    have b5 : w.heap.size + 5 ≤ W'.heap.size := by have := heap_lt HD.out; omega
    have k0 : C2 w x W'.heap.size [] (W'.alloc (.cells #[iv x.kind, iv x.var, .slice x.A x.sub.length x.c] 24)) :=
      ⟨gr_h (gr_al _ _) HI.out.r, gr_h (gr_al _ _) (by have := HD.out; rwa [s0] at this), al_new _ _, HI.out.gr.trans (gr_al _ _), by simp, ⟨_, rfl⟩⟩
    have z5 : (W'.alloc (.cells #[iv x.kind, iv x.var, .slice x.A x.sub.length x.c] 24)).heap.size = W'.heap.size + 1 := by simp
    have L200 := Lib.hid HI.out.l
    generalize W'.alloc (.cells #[iv x.kind, iv x.var, .slice x.A x.sub.length x.c] 24) = W5 at *
    generalize W'.heap.size = bt at *
    clear b1 b2 b3 HI HD s0
    refine range_w (w0 := w) (x := x) (bt := bt) (by omega) rfl rfl HX.out (fun pre own W => C2 w x bt pre W ∧ W5.heap.size ≤ W.heap.size ∧ ∀ k, ¬ own k) (fun pre y W => C2E w y pre W) (fun pre own W h => ⟨h.1.gr, h.2.1, h.1.b, by obtain ⟨post, hp⟩ := h.1.l; have h1 := congrArg List.length hp; have := L200.out; simp at h1; omega, fun k hk => absurd hk (h.2.2 k)⟩) (fun pre own W W' h hb => ⟨h.1.keep b5 (by have := hb.below; rw [z5] at this; exact this), Nat.le_trans h.2.1 hb.size, h.2.2⟩) (fun pre y W W' h hb => ⟨h.e.keep (by omega) hb.below, (hb.below.block _ (by omega)).trans h.d, h.n, h.ok⟩) ⟨k0, Nat.le_refl _, fun k h => h⟩ ?_ ?_ ?_
    · intro l pre own y W hi hsz _ hy hp hl
      have HI := Lib.hid hi
      have HS := Lib.hid z5
      have HP := Lib.hid hp
      have SL := Lib.hid (Nat.le_trans hy.hc hy.hm)
      clear hi k0 z5 hy hp
      unfold Ty.v
      gi_wp2
      refine ⟨⟨fun k _ hk _ => Below.heap_alloc _ _ _ hk, by simp⟩, fun W₂ hb => ?_⟩
      have hlt : W.heap.size ≠ l := by omega
      have u2 : W₂.heap[W.heap.size]? = some (.cells #[iv y.kind, iv y.var, .slice y.A y.sub.length y.c] 24 (0, 0)) := (hb.same _ hlt).trans (al_new W _)
      have h2 := (HI.out.1.grow (gr_al W (.cells #[iv y.kind, iv y.var, .slice y.A y.sub.length y.c] 24))).keep b5 (hb.below.mono (by have := HS.out; omega))
      have c0 := Lib.cell_of_heap u2 0
      have c1 := Lib.cell_of_heap u2 1
      have c2 := Lib.cell_of_heap u2 2
      have d1 := Lib.cell_of_heap h2.r 0
      have f1 := Lib.frozen_of_heap h2.r 0
      simp only [List.getElem?_toArray, List.getElem?_cons_zero, List.getElem?_cons_succ] at c0 c1 c2 d1
      have H2 := Lib.hid h2
      have Z2 := Lib.hid (show W5.heap.size ≤ W₂.heap.size from Nat.le_trans HI.out.2.1 (by rw [hb.size]; simp))
      have CY := Lib.hid (CO.out y W₂ SL.out)
      unfold Ty.v at CY
      obtain ⟨q, hq⟩ : ∃ q, ck1 y.er = q := ⟨_, rfl⟩
      rw [hq] at CY
      have HQ := Lib.hid hq
      clear hq h2 u2 hb
      by_cases q0 : q = 0
      · subst q0
        gi_wp2_with (refine ⟨trivial, ?_⟩; gi_at_call 53; refine (CallsIn.inRound _ (callsIn_wide.2 CY.out)).mono ?_; rintro e W3 ⟨rfl, g3⟩; have G3 := Lib.hid g3; clear g3)
        intro _
        refine ⟨⟨fun k h1 h2 _ => G3.out.block k h2 (by simp), G3.out.size⟩, own, fun k hk => .inl hk, ⟨gr_h G3.out H2.out.r, gr_h G3.out H2.out.d, gr_h G3.out H2.out.b, H2.out.gr.trans G3.out, fun z hz => ?_, ?_⟩, Nat.le_trans Z2.out G3.out.size, HI.out.2.2⟩
        · rcases List.mem_append.1 hz with hz | hz
          · exact H2.out.ok z hz
          · simp only [List.mem_singleton] at hz; subst hz; exact HQ.out
        · obtain ⟨post, hp⟩ := HP.out
          exact ⟨post, by rw [hp]; simp⟩
      · have q1 : (q != 0) = true := by simpa using q0
        have Q0 := Lib.hid q0
        clear q0
        gi_wp2_with (refine ⟨trivial, ?_⟩; gi_at_call 53; refine (CallsIn.inRound _ (callsIn_wide.2 CY.out)).mono ?_; rintro e W3 ⟨rfl, g3⟩; have G3 := Lib.hid g3; have d1' := gr_c g3 d1; have f1' := Lib.frozen_of_heap (gr_h g3 H2.out.r) 0; clear g3 d1 f1)
        intro _
        refine ⟨⟨fun k h1 h2 _ => ?_, by have := G3.out.size; simpa [World.setCell] using this⟩, ⟨?_, gr_cell (H2.out.gr.trans G3.out) (by omega) _⟩, ?_, by rw [HQ.out]; exact Q0.out, H2.out.ok⟩
        · rw [Below.heap_setCell _ _ _ _ (by show k ≠ w.heap.size + 1; have := HS.out; omega)]
          exact G3.out.block k h2 (by simp)
        · rw [HQ.out]; exact set_same (gr_h G3.out H2.out.r)
        · rw [Below.heap_setCell _ _ _ _ (by show w.heap.size + 4 ≠ w.heap.size + 1; omega)]
          exact gr_h G3.out H2.out.d
    · intro own W' hi _ hd
      have d1 := Lib.cell_of_heap hi.1.r 0
      have f1 := Lib.frozen_of_heap hi.1.r 0
      simp only [List.getElem?_toArray, List.getElem?_cons_zero] at d1
      have HI := Lib.hid hi.1
      have HD := Lib.hid hd
      have HS := Lib.hid z5
      clear hi hd k0 z5
      gi_wp2
      have dd : (W'.setCell ⟨w.heap.size + 1, 0, none⟩ (iv 0)).heap[W5.heap.size]? = some (.deferred (some [])) := (Below.heap_setCell _ _ _ _ (by show W5.heap.size ≠ w.heap.size + 1; have := HS.out; omega)).trans HD.out
      have dr : ((W'.setCell ⟨w.heap.size + 1, 0, none⟩ (iv 0)).putObj W5.heap.size (.deferred none)).heap[w.heap.size + 1]? = some (.cells #[iv 0] 28 (0, 0)) := by
        rw [World.putObj_heap_other (by have := HS.out; omega)]
        exact set_same HI.out.r
      have dd2 : ((W'.setCell ⟨w.heap.size + 1, 0, none⟩ (iv 0)).putObj W5.heap.size (.deferred none)).heap[w.heap.size + 4]? = some (.deferred (some [])) := by
        rw [World.putObj_heap_other (by have := HS.out; omega), Below.heap_setCell _ _ _ _ (by show w.heap.size + 4 ≠ w.heap.size + 1; omega)]
        exact HI.out.d
      refine ⟨by simp, .inl ⟨_, _, rfl, run_takeDeferred dd, ?_⟩⟩
      refine ⟨by simp, .inl ⟨_, _, rfl, run_takeDeferred dd2, ?_⟩⟩
      refine ⟨_, results_int rfl _ _ ⟨w.heap.size + 1, 0, none⟩ (iv 0) rfl ?_, ?_, ?_⟩
      · have h1 := (World.putObj_heap_other (o := .deferred none) (show w.heap.size + 1 ≠ w.heap.size + 4 by omega)).trans dr
        simpa using Lib.cell_of_heap h1 0
      · have h1 : cke x.er = 0 := cke_pre HI.out.ok
        have h2 : ck x.er = 0 := by unfold ck; rw [if_neg (by have := L200.out; rw [preT_len] at this; omega), h1]
        rw [h2]
      · exact put_def (put_def (gr_cell HI.out.gr (by omega) _) (by have := HS.out; omega) _) (by omega) _
    · intro pre y post W' hp hE hd
      have HE := Lib.hid hE
      have HD := Lib.hid hd
      have HP := Lib.hid hp
      have HS := Lib.hid z5
      clear hE hd hp k0 z5
      gi_wp2
      have dr : (W'.putObj W5.heap.size (.deferred none)).heap[w.heap.size + 1]? = some (.cells #[iv (ck1 y.er)] 28 (0, 0)) := by
        rw [World.putObj_heap_other (by have := HS.out; omega)]
        exact HE.out.e.r
      have dd2 : (W'.putObj W5.heap.size (.deferred none)).heap[w.heap.size + 4]? = some (.deferred (some [])) := by
        rw [World.putObj_heap_other (by have := HS.out; omega)]
        exact HE.out.d
      refine ⟨by simp, .inl ⟨_, _, rfl, run_takeDeferred HD.out, ?_⟩⟩
      refine ⟨by simp, .inl ⟨_, _, rfl, run_takeDeferred dd2, ?_⟩⟩
      refine ⟨_, results_int rfl _ _ ⟨w.heap.size + 1, 0, none⟩ (iv (ck1 y.er)) rfl ?_, ?_, ?_⟩
      · have h1 := (World.putObj_heap_other (o := .deferred none) (show w.heap.size + 1 ≠ w.heap.size + 4 by omega)).trans dr
        simpa using Lib.cell_of_heap h1 0
      · have h1 := cke_stop HP.out HE.out.ok HE.out.n
        have h2 : ck x.er = ck1 y.er := by unfold ck; rw [if_neg (by have := L200.out; rw [preT_len] at this; omega), h1]
        rw [h2]
      · exact put_def (put_def HE.out.e.gr (by have := HS.out; omega) _) (by omega) _
  · intro pre y post W' hp hE hd
    have HE := Lib.hid hE
    have HD := Lib.hid hd
    have HP := Lib.hid hp
    clear hE hd hp
    gi_wp2
    refine ⟨by simp, .inl ⟨_, _, rfl, run_takeDeferred HD.out, ?_⟩⟩
    refine ⟨_, results_int rfl _ _ ⟨w.heap.size + 1, 0, none⟩ (iv 4) rfl ?_, ?_, ?_⟩
    · have h1 := (World.putObj_heap_other (o := .deferred none) (show w.heap.size + 1 ≠ W0.heap.size by omega)).trans HE.out.2.r
      simpa using Lib.cell_of_heap h1 0
    · have h2 : ck x.er = 4 := by
        have h1 := congrArg List.length HP.out
        rw [preT_len] at h1
        have := HE.out.1
        unfold ck
        rw [if_pos (by simp at h1; omega)]
      rw [h2]
    · exact put_def HE.out.2.gr (by omega) _
end Go.Proofs.Ytjlmhfdigoogfaa

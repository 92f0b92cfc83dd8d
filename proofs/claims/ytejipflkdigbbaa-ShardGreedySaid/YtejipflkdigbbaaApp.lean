/- A slice of numbers of the call's own; append. -/
import Derived.Maps.AppendAt
import Derived.Test.YtejipflkdigbbaaWords
import Derived.WalkSpells
namespace Go.Proofs.Ytejipflkdigbbaa
open Go.RowKit

theorem info3 : (Try.prog.info? 3).map (fun i => (i.zero, i.size, i.bytes)) = some (some (.int .i64 0), 1, 8) := by kernel_rfl

/-- A slice value that owns the numbers of a list. -/
def OT (w : World) (base : Nat) (v : Value) (L : List Int) : Prop := w.ownsRow base 3 1 v L.length (L.map iv)

theorem OT.nil (w : World) (base : Nat) : OT w base (.slice none 0 0) [] := World.ownsRow_nil w base 3 1

theorem OT.form {w : World} {base : Nat} {v : Value} {L : List Int} (h : OT w base v L) : ∃ A c, v = .slice A L.length c ∧ L.length ≤ c ∧ RD iv w A L ∧ (A = none → L = []) := by
  have h0 := h
  rcases h0.2 with ⟨rfl, hn⟩ | ⟨g, cap, cur, rfl, hg, hh, hnc, hm, hs, hx⟩
  · have : L = [] := List.eq_nil_of_length_eq_zero hn
    subst this
    exact ⟨none, 0, rfl, by simp, .inl rfl, fun _ => rfl⟩
  · refine ⟨some ⟨g, 0, none⟩, cap, rfl, hnc, .inr ⟨_, rfl, ?_, fun j x hj => ?_⟩, fun e => by cases e⟩
    · exact (h.lt g rfl).2
    · exact World.ownsRow.cells h rfl j (iv x) (by simp [hj])

theorem OT.kept {w w' : World} {base : Nat} {v : Value} {L : List Int} {row : Option Nat} (h : OT w base v L) (hg : w.grownBy w' row) (hne : v.ownBlock = none ∨ v.ownBlock ≠ row) : OT w' base v L := World.ownsRow.kept h hg hne

theorem run_append_none {P : Program} (w : World) (base : Nat) (t ty e : TypeId) (i : TypeInfo) (ht : P.underlying t = some (.slice e)) (hi : P.info? e = some i) {v : Value} {n : Nat} {xs : List Value}
    (hown : w.ownsRow base e 1 v n xs) (c : Nat) : (Builtin.append_ #[t, t] ty #[v, .slice none 0 c]).run P w = .ok v w := by
  rcases hown.2 with ⟨rfl, rfl⟩ | ⟨g, cap, cur, rfl, _, _, hnc, _⟩
  · simp [Builtin.append_, run_underlying ht, sizeOf, typeInfo, hi, Builtin.lenOf, Builtin.firstCells]
  · simp [Builtin.append_, run_underlying ht, sizeOf, typeInfo, hi, Builtin.lenOf, Builtin.firstCells, hnc, storeCells]

theorem run_app (w : World) (ty : TypeId) (base : Nat) {v : Value} {L : List Int} (hown : OT w base v L) {A : Option Addr} {M : List Int} (c : Nat) (hr : RD iv w A M) (hsz : L.length + M.length ≤ 1000000) (hb : base ≤ w.heap.size) :
    ∃ v' w', (Builtin.append_ #[22, 22] ty #[v, .slice A M.length c]).run Try.prog w = .ok v' w' ∧ OT w' base v' (L ++ M) ∧ w.grownBy w' v.ownBlock ∧ (v'.ownBlock = v.ownBlock ∨ v'.ownBlock = some w.heap.size) := by
  obtain ⟨i0, hi, hz0, hz1, hz2⟩ := info_parts info3
  cases A with
  | none =>
    have hM : M = [] := by
      rcases hr with rfl | ⟨a, e, _⟩
      · rfl
      · cases e
    subst hM
    exact ⟨v, w, run_append_none w base 22 ty 3 i0 Try.underlying22 hi hown c, by simpa using hown, World.grownBy.refl w _, .inl rfl⟩
  | some a =>
    have hc : ∀ j u, (M.map iv)[j]? = some u → w.cell? (a.add j) = some u := by
      intro j u hu
      rw [List.getElem?_map] at hu
      rcases hr with rfl | ⟨a', e, _, hc⟩
      · simp at hu
      · cases e
        cases hx : M[j]? with
        | none => rw [hx] at hu; simp at hu
        | some x => rw [hx] at hu; simp at hu; rw [← hu]; exact hc j x hx
    obtain ⟨v', w', hrun, h2, h3, _, h5⟩ := run_append_own_at (P := Try.prog) w base 22 ty 3 i0 (.int .i64 0) 1 8 Try.underlying22 hi hz0 hz1 hz2 rfl (by decide) v L.length (L.map iv) hown a M.length c (M.map iv) (by simp) hc
      (by intro u hu; obtain ⟨x, _, rfl⟩ := List.mem_map.1 hu; rfl) (by unfold maxLen; omega) (by omega) hb
    exact ⟨v', w', hrun, by unfold OT; simpa using h2, h3, h5⟩

theorem wpList_app (w : World) {ops : Array Oper} {rest : List Oper} {o : Oper} {a : Act} {Q : Exit → Act → World → Prop} (hgd : o.guard = none) (s x : Operand)
    (ho : o.op = .call { callee := .builtin .append, args := #[s, x], argTypes := #[22, 22] }) (base : Nat) {v : Value} {L : List Int} (hs : a.eval s = v) (hown : OT w base v L)
    {A : Option Addr} {M : List Int} {m c : Nat} (hm : M.length = m) (hx : a.eval x = .slice A m c) (hr : RD iv w A M) (hsz : L.length + M.length ≤ 1000000) (hb : base ≤ w.heap.size)
    (h : ∀ v' w', OT w' base v' (L ++ M) → w.grownBy w' v.ownBlock → (v'.ownBlock = v.ownBlock ∨ v'.ownBlock = some w.heap.size) → wpList Try.prog ops Q rest (a.put o.dst v') w') : wpList Try.prog ops Q (o :: rest) a w := by
  subst hm
  refine wpList_plain hgd fun K hK => ?_
  obtain ⟨v', w', hrun, h2, h3, h4⟩ := run_app w o.type base hown c hr hsz hb
  unfold Oper.wp execOp
  simp only [ho, resolve, invoke, builtin, Sem.run_bind, Sem.run_pure, Result.andThen_ok, List.map_toArray, List.map_cons, List.map_nil, hs, hx, hrun]
  exact hK _ _ (h v' w' h2 h3 h4)

theorem ot_empty (w : World) {base : Nat} (hb : base ≤ w.heap.size) : OT (w.alloc (.cells #[] 3)) base (.slice (some ⟨w.heap.size, 0, none⟩) 0 0) [] :=
  World.ownsRow_made w #[] 0 hb (by unfold maxLen; omega) (by simp)

/-- One new number in a block of its own. -/
theorem rd_one (w : World) (x : Int) (t : TypeId) : RD iv (w.alloc (.cells #[iv x] t)) (some ⟨w.heap.size, 0, none⟩) [x] := by
  refine .inr ⟨_, rfl, by simp, fun j y hj => ?_⟩
  cases j with
  | zero =>
    simp at hj
    subst hj
    rw [show (({ block := w.heap.size, off := 0 } : Addr).add 0) = ⟨w.heap.size, 0, none⟩ from rfl]
    simp [World.cell?_alloc_at]
  | succ j => simp at hj


theorem OT.alloc {w : World} {base : Nat} {v : Value} {L : List Int} (h : OT w base v L) (o : Obj) : OT (w.alloc o) base v L := World.ownsRow.alloc h o

/-- The address of a cut. -/
def cutA (A : Option Addr) (c k : Nat) : Option Addr := if c = k then A else A.map (·.add k)
theorem RD.cutA {w : World} {A : Option Addr} {L : List Int} (h : RD iv w A L) (k c : Nat) (hc : L.length ≤ c) : RD iv w (cutA A c k) (L.drop k) := h.cut k c hc

theorem size3 (w : World) : (sizeOf 3).run Try.prog w = .ok 1 w := by kernel_rfl

/-- l[k:] -/
theorem run_cut (A : Option Addr) (n c : Nat) (k : Int) (j : Nat) (hj : k = (j : Int)) (h1 : j ≤ n) (w : World) :
    (Instr.slice 22 (.slice A n c) (some (.int .i64 k)) none none).run Try.prog w = .ok (.slice (cutA A c j) (n - j) (c - j)) w := by
  subst hj
  have ht : Try.prog.underlying 22 = some (.slice (Try.prog.elem 22)) := by simp [Program.elem, Try.underlying22]
  have he : Try.prog.elem 22 = 3 := by simp [Program.elem, Try.underlying22]
  rw [run_slice_l w 22 _ _ _ ht .i64 _ (by omega) (by omega), he, size3]
  simp [Result.andThen, sliced, Proofs.Ytejipflkdigbbaa.cutA]

/-- l[:k] -/
theorem run_head (A : Option Addr) (n c : Nat) (k : Int) (j : Nat) (hj : k = (j : Int)) (h1 : j ≤ c) (w : World) :
    (Instr.slice 22 (.slice A n c) none (some (.int .i64 k)) none).run Try.prog w = .ok (.slice A j c) w := by
  subst hj
  have ht : Try.prog.underlying 22 = some (.slice (Try.prog.elem 22)) := by simp [Program.elem, Try.underlying22]
  have he : Try.prog.elem 22 = 3 := by simp [Program.elem, Try.underlying22]
  rw [run_slice_h w 22 _ _ _ ht .i64 _ (by omega) (by omega), he, size3]
  cases A <;> simp [Result.andThen, sliced, Addr.add]
end Go.Proofs.Ytejipflkdigbbaa

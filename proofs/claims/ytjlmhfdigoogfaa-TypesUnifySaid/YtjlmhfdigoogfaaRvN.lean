/- Words: Unify (15): the solver while its row of classes is filled. -/
import Derived.Test.YtjlmhfdigoogfaaRvM
namespace Go.Proofs.Ytjlmhfdigoogfaa
open Go.RowKit

/-- The numbers from 0 on. -/
def upl (k : Nat) : List Int := (List.range k).map fun i : Nat => (i : Int)
theorem upl_succ (k : Nat) : upl k ++ [(k : Int)] = upl (k + 1) := by simp [upl, List.range_succ]
theorem upl_len (k : Nat) : (upl k).length = k := by simp [upl]
theorem upl_get {k i : Nat} (h : i < k) : (upl k)[i]? = some (i : Int) := by
  unfold upl
  rw [List.getElem?_map, List.getElem?_range h]
  rfl
/-- The solver while its row of classes is filled. -/
structure UpI (w : World) (sp ib tb : Nat) (A0 : Option Addr) (c0 N k : Nat) (v : Value) (U : World) : Prop where
  gr : Gr w U
  ge : w.heap.size ≤ sp ∧ w.heap.size ≤ ib ∧ w.heap.size ≤ tb
  ne : ib < sp ∧ tb < sp ∧ ib ≠ tb
  h : U.heap[sp]? = some (.cells #[.slice A0 N c0, v, .slice (some ⟨ib, 0, none⟩) N N, .slice (some ⟨tb, 0, none⟩) N N] 82 (0, 0))
  i : U.heap[ib]? = some (.cells (Array.replicate N (.bool false)) 4 (0, 0))
  t : U.heap[tb]? = some (.cells (madeCells #[iv 0, iv 0, .slice none 0 0] (N * 3)) 24 (0, 0))
  o : OR 3 1 NC U (sp + 1) v (upl k)
section
variable {w : World} {sp ib tb : Nat} {A0 : Option Addr} {c0 N k : Nat} {v : Value} {U : World}
theorem UpI.step (h : UpI w sp ib tb A0 c0 N k v U) {o : Obj} {v7 : Value} {w7 : World} (o7 : OR 3 1 NC w7 (sp + 1) v7 (upl k ++ [(k : Int)])) (g7 : (U.alloc o).grownBy w7 v.ownBlock) : UpI w sp ib tb A0 c0 N (k + 1) v7 (w7.setCell ⟨sp, 1, none⟩ v7) := by
  have hsp := heap_lt h.h
  have hi := heap_lt h.i
  have ht := heap_lt h.t
  have hlt := h.o.lt
  have h7 := o7.lt
  obtain ⟨s1, s2, s3⟩ := h.ge
  obtain ⟨n1, n2, n3⟩ := h.ne
  have ha : (U.alloc o).heap.size = U.heap.size + 1 := by simp
  have G7 : Gr w w7 := OR.grow (h.gr.trans (gr_al _ _)) (h.o.alloc o) (by omega) g7
  have st : ∀ j, j ≤ sp → w7.heap[j]? = U.heap[j]? := fun j h2 => (g7.block j (by omega) (fun e => by have := hlt j e.symm; omega)).trans (Below.heap_alloc _ _ _ (by omega))
  rw [upl_succ] at o7
  refine ⟨gr_cell G7 s1 _, h.ge, h.ne, set_heap ((st sp (Nat.le_refl _)).trans h.h), h_oth ((st ib (by omega)).trans h.i) (by omega) _, h_oth ((st tb (by omega)).trans h.t) (by omega) _, o7.kept (grown_set _ _ _) ?_⟩
  cases hb : v7.ownBlock with
  | none => exact .inl rfl
  | some j => right; intro e; have := h7 j hb; cases e; omega
theorem UpI.hd (h : UpI w sp ib tb A0 c0 N k v U) : (U.cell? ⟨sp, 0, none⟩ = some (.slice A0 N c0) ∧ U.cell? ⟨sp, 1, none⟩ = some v ∧ U.cell? ⟨sp, 2, none⟩ = some (.slice (some ⟨ib, 0, none⟩) N N) ∧ U.cell? ⟨sp, 3, none⟩ = some (.slice (some ⟨tb, 0, none⟩) N N)) ∧ ∀ j, U.frozen? ⟨sp, j, none⟩ = false := ⟨cell4 h.h, frz h.h⟩
theorem UpI.mid (h : UpI w sp ib tb A0 c0 N k v U) {o : Obj} {w7 : World} (g7 : (U.alloc o).grownBy w7 v.ownBlock) : w7.cell? ⟨sp, 1, none⟩ = some v ∧ ∀ j, w7.frozen? ⟨sp, j, none⟩ = false := by
  have hsp := heap_lt h.h
  have hlt := h.o.lt
  have ha : (U.alloc o).heap.size = U.heap.size + 1 := by simp
  have h7 := ((g7.block sp (by omega) (fun e => by have := hlt sp e.symm; omega)).trans (Below.heap_alloc _ _ _ (by omega))).trans h.h
  exact ⟨(cell4 h7).2.1, frz h7⟩
theorem upi_val {V : World} {b : Nat} {v7 : Value} (o7 : OR 3 1 NC V b v7 (upl k ++ [(k : Int)])) : ∃ A c, v7 = .slice A (k + 1) c := by
  obtain ⟨A, c, e, -⟩ := o7.form NC_len
  exact ⟨A, c, by rw [e, upl_succ, upl_len]⟩
theorem UpI.cells (h : UpI w sp ib tb A0 c0 N k v U) {W : World} (g : Gr U W) : (W.cell? ⟨sp, 1, none⟩ = some v) ∧ ∀ j, W.frozen? ⟨sp, j, none⟩ = false := ⟨(cell4 (gr_h g h.h)).2.1, frz (gr_h g h.h)⟩
/-- The row is filled: the solver at the beginning. -/
theorem UpI.smem {V : List Int} (h : UpI w sp ib tb A0 c0 V.length V.length v U) (hV : V.Nodup) (hN : V.length ≤ 1000) (hA : RD 1 NC U A0 V) (ha : ∀ a, A0 = some a → a.block < w.heap.size) {B0 : Nat} (hw : B0 < w.heap.size) :
    ∃ b B, b.sp = sp ∧ B0 ≤ B ∧ b.A0 = A0 ∧ SMem b B V (SS0 V) (List.replicate V.length (.mk 0 0 none 0 [])) U := by
  have hsp := heap_lt h.h
  obtain ⟨s1, s2, s3⟩ := h.ge
  obtain ⟨n1, n2, n3⟩ := h.ne
  have h0 := h.o
  obtain ⟨A1, c1, e1, hr⟩ := h0.form NC_len
  rw [upl_len] at e1
  by_cases h9 : 0 < V.length
  · rcases h0.2 with ⟨-, hl⟩ | ⟨g, cap, cur, e2, hg, hh, hnc, hm, hs, hx⟩
    · rw [upl_len] at hl; omega
    · have e3 := e2
      rw [e1, upl_len] at e3
      obtain ⟨rfl, -, rfl⟩ := Value.slice.inj e3
      have hgl := heap_lt hh
      refine ⟨⟨sp, g, ib, tb, A0, some ⟨g, 0, none⟩, c0, c1⟩, w.heap.size, rfl, by omega, rfl, smem_new hV hN (fun _ => rfl) ?_ hA (fun _ => ⟨cur, hh, fun i hi => ?_⟩) h.i h.t (fun _ => ha) ⟨s1, by show w.heap.size ≤ g; omega, s2, s3⟩ ⟨by show sp ≠ g; omega, by show sp ≠ ib; omega, by show sp ≠ tb; omega, by show g ≠ ib; omega, by show g ≠ tb; omega, n3⟩ hgl⟩
      · rw [← e1]; exact h.h
      · obtain ⟨a, e4, h4⟩ := rd_num hr (upl_get hi)
        cases e4
        rw [add0, Lib.cell_of_heap hh] at h4
        exact h4
  · refine ⟨⟨sp, B0, ib, tb, A0, A1, c0, c1⟩, B0, rfl, Nat.le_refl _, rfl, smem_new hV hN (fun h => absurd h h9) ?_ hA (fun h => absurd h h9) h.i h.t (fun h => absurd h h9) ⟨by show B0 ≤ sp; omega, Nat.le_refl _, by show B0 ≤ ib; omega, by show B0 ≤ tb; omega⟩ ⟨by show sp ≠ B0; omega, by show sp ≠ ib; omega, by show sp ≠ tb; omega, by show B0 ≠ ib; omega, by show B0 ≠ tb; omega, n3⟩ (by show B0 < U.heap.size; omega)⟩
    rw [← e1]; exact h.h
end
/-- What the solver turned lies behind the call's world. -/
theorem sgr_gr {b : SB} {W U V : World} (g : Gr W U) (h : SGr b U V) (h1 : W.heap.size ≤ b.ub) (h2 : W.heap.size ≤ b.ib) (h3 : W.heap.size ≤ b.tb) : Gr W V :=
  ⟨h.os.trans g.os, h.tape.trans g.tape, h.output.trans g.output, Nat.le_trans g.size h.size, fun k hk hn => (h.block k (Nat.lt_of_lt_of_le hk g.size) (by omega) (by omega) (by omega)).trans (g.block k hk hn)⟩
/-- A row, or an empty one that stands in another block. -/
def OE (e : Nat) (u v : Value) : Prop := v = u ∨ (u = .slice none 0 0 ∧ v = .slice (some ⟨e, 0, none⟩) 0 0)
theorem run_appE (ty : TypeId) {e : Nat} {u v : Value} {w : World} {base : Nat} {L M : List As} {A : Option Addr} (hE : OE e u v) (hown : OR 43 4 As.cs w base u L) (c : Nat) (hr : RD 4 As.cs w A M) (hA : A ≠ none) (hM : 0 < M.length) (hsz : L.length + M.length ≤ 1000000) (hb : base ≤ w.heap.size) :
    ∃ v' w', (Builtin.append_ #[27, 27] ty #[v, .slice A M.length c]).run Try.prog w = .ok v' w' ∧ OR 43 4 As.cs w' base v' (L ++ M) ∧ w.grownBy w' u.ownBlock ∧ (v'.ownBlock = u.ownBlock ∨ v'.ownBlock = some w.heap.size) := by
  rcases hE with rfl | ⟨rfl, rfl⟩
  · exact run_appR (t := 27) (ty := ty) As.cs_len As.cell1 Try.underlying27 info43 rfl (by decide) (by decide) hown c hr hA hsz hb
  · obtain ⟨i0, hi, hz0, hz1, hz2⟩ := info_parts info43
    obtain rfl : L = [] := by
      rcases hown.2 with ⟨-, hl⟩ | ⟨g, cap, cur, e1, -⟩
      · exact List.eq_nil_of_length_eq_zero hl
      · cases e1
    obtain ⟨a, rfl⟩ : ∃ a, A = some a := by
      cases A with
      | none => exact absurd rfl hA
      | some a => exact ⟨a, rfl⟩
    have hc : ∀ j x, (M.flatMap As.cs)[j]? = some x → w.cell? (a.add j) = some x := by
      intro j x hx
      have hj : j < M.length * 4 := by
        rw [← flat_len As.cs 4 As.cs_len M]
        exact (List.getElem?_eq_some_iff.1 hx).1
      have e0 : j / 4 < M.length := by omega
      have e1 : j % 4 < 4 := Nat.mod_lt _ (by decide)
      have e2 : j = j / 4 * 4 + j % 4 := by omega
      rcases hr with rfl | ⟨a', e', _, hc⟩
      · simp at hx
      · cases e'
        have e3 := List.getElem?_eq_getElem e0
        have e4 := flat_at As.cs 4 As.cs_len e1 M _ e3
        rw [← e2, hx] at e4
        rw [e2]
        exact hc _ _ e3 _ _ e4.symm
    have hfl := flat_len As.cs 4 As.cs_len M
    simp only [List.length_nil, Nat.zero_add] at hsz
    have hby : (0 + M.length) * i0.bytes ≤ 140737488355328 := by
      rw [hz2, Nat.zero_add]
      have := Nat.mul_le_mul_right 48 hsz
      omega
    have hg := run_append_grow (P := Try.prog) w 27 ty 43 i0 _ Try.underlying27 hi hz0 ⟨e, 0, none⟩ 0 0 [] (by simp) (by simp) a M.length c (M.flatMap As.cs) (by rw [hz1]; exact hfl) hc (by omega) (by omega) (growslice_fits (by omega) hby)
    have h63 : 0 + M.length ≤ maxLen := by unfold maxLen; omega
    have hge := grownCap_ge w (0 + M.length) 0 43
    have hcm : grownCap w (0 + M.length) 0 43 ≤ maxLen := grownCap_le_maxLen w (0 + M.length) 0 43 h63
    have h0 : 0 + M.length = M.length := Nat.zero_add _
    rw [h0] at hg hge hcm
    refine ⟨_, _, hg, ⟨by simpa using hfl, .inr ⟨w.heap.size, _, _, by simp, hb, World.alloc_heap_new w.drew _, hge, hcm, ?_, ?_⟩⟩, ⟨rfl, rfl, rfl, by simp, fun k hk _ => Below.heap_alloc w.drew _ _ (by simpa using hk)⟩, .inr rfl⟩
    · simp only [Array.size_append, List.size_toArray, size_zeroCells, hfl, List.length_nil]
      show 0 + M.length * 4 + (grownCap w M.length 0 43 - M.length) * 4 = grownCap w M.length 0 43 * 4
      omega
    · simp only [Array.toList_append, List.nil_append]
      simp [← hfl]
theorem step_appE {ops : Array Oper} {o : Oper} {a : Act} {w : World} {K : Act → World → Prop} {Q : Exit → Act → World → Prop} {E : Prop} (hgd : o.guard = none) (s x : Operand)
    (ho : o.op = .call { callee := .builtin .append, args := #[s, x], argTypes := #[27, 27] }) (base : Nat) {e : Nat} {u v : Value} {L : List As} (hs : a.eval s = v) (hE : OE e u v) (hown : OR 43 4 As.cs w base u L)
    {A : Option Addr} {M : List As} {m c : Nat} (hm : M.length = m) (hx : a.eval x = .slice A m c) (hr : RD 4 As.cs w A M) (hA : A ≠ none) (hM : 0 < m) (hsz : L.length + M.length ≤ 1000000) (hb : base ≤ w.heap.size)
    (h : ∀ v' w', OR 43 4 As.cs w' base v' (L ++ M) → w.grownBy w' u.ownBlock → (v'.ownBlock = u.ownBlock ∨ v'.ownBlock = some w.heap.size) → K (a.put o.dst v') w') : if Region.wanted o (yielded ops a.tmps) = true then Oper.wp Try.prog o a w K Q else E := by
  have hw : Region.wanted o (yielded ops a.tmps) = true := by simp [Region.wanted, hgd]
  rw [if_pos hw]
  subst hm
  obtain ⟨v', w', hrun, h2, h3, h4⟩ := run_appE o.type hE hown c hr hA hM hsz hb
  unfold Oper.wp
  simp [execOp, ho, resolve, invoke, builtin, hs, hx, hrun, Result.andThen]
  exact h v' w' h2 h3 h4
theorem asp_of {w : World} {R : List PA × Int} {e : Ending} {w' : World} (h : UnP w R e w') : AsP w R.1 R.2 e w' := by
  obtain ⟨⟨v, rfl, A, L, c, rfl, h1, h2, -⟩, g⟩ := h
  exact ⟨A, L, c, rfl, h1, h2, g⟩
theorem asp_oe {k : Nat} {u v : Value} {w U : World} {l : List PA} {n n' : Int} (hE : OE k u v) (h : AsP w l n (.returned (.tuple #[u, iv n'])) U) : AsP w l n (.returned (.tuple #[v, iv n'])) U := by
  rcases hE with rfl | ⟨rfl, rfl⟩
  · exact h
  · obtain ⟨A, L, c, e, h1, h2, g⟩ := h
    simp only [Ending.returned.injEq, Value.tuple.injEq] at e
    have e1 := congrArg (fun x : Array Value => x[0]?) e
    have e2 := congrArg (fun x : Array Value => x[1]?) e
    simp at e1 e2
    obtain rfl : L = [] := List.eq_nil_of_length_eq_zero e1.2.1.symm
    obtain rfl := e2
    exact ⟨some ⟨k, 0, none⟩, [], 0, rfl, ⟨RD.nil, by simp⟩, h2, g⟩
theorem L3.grow {W : World} {m : Int → PT} {Vs : List Int} {k : Nat} {v : Value} {V U : World} (h : L3 W m Vs k v V) (g : Gr V U) : L3 W m Vs k v U := by
  obtain ⟨L, h1, h2, h3⟩ := h.ex
  exact ⟨h.gr.trans g, h.sm, L, h1.gr g, h2, fun y hy => ⟨TRd.gr (h3 y hy).1 g, (h3 y hy).2⟩⟩
end Go.Proofs.Ytjlmhfdigoogfaa

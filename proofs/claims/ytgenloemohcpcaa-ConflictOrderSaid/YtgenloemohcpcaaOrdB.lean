/- Walk: the statement ConflictOrder, the main ways. -/
import Derived.Test.YtgenloemohcpcaaOrdA
import Derived.Test.YtgenloemohcpcaaOps
import Derived.Deep.DeepCutAuto
namespace Go.Proofs.Ytgenloemohcpcaa
open Go.RowKit

def slots : List Nat := [7, 8, 9, 10, 37, 38, 39, 40, 41, 42, 43, 44, 45, 46, 47, 48]
theorem slots_nodup : slots.Nodup := by decide
theorem put_none (a : Act) (v : Value) : a.put none v = a := rfl
theorem arr20 (b : Nat → Bool) (j : Nat) (hj : j < 20) : #[b 0, b 1, b 2, b 3, b 4, b 5, b 6, b 7, b 8, b 9, b 10, b 11, b 12, b 13, b 14, b 15, b 16, b 17, b 18, b 19][j]? = some (b j) := by
  have : j = 0 ∨ j = 1 ∨ j = 2 ∨ j = 3 ∨ j = 4 ∨ j = 5 ∨ j = 6 ∨ j = 7 ∨ j = 8 ∨ j = 9 ∨ j = 10 ∨ j = 11 ∨ j = 12 ∨ j = 13 ∨ j = 14 ∨ j = 15 ∨ j = 16 ∨ j = 17 ∨ j = 18 ∨ j = 19 := by omega
  rcases this with rfl | rfl | rfl | rfl | rfl | rfl | rfl | rfl | rfl | rfl | rfl | rfl | rfl | rfl | rfl | rfl | rfl | rfl | rfl | rfl <;> rfl
theorem lt20 {i : Nat} {b : Nat → Bool} (h : (#[b 0, b 1, b 2, b 3, b 4, b 5, b 6, b 7, b 8, b 9, b 10, b 11, b 12, b 13, b 14, b 15, b 16, b 17, b 18, b 19] : Array Bool).getD i true = false) : b i = false ∧ (i = 0 ∨ i = 1 ∨ i = 2 ∨ i = 3 ∨ i = 4 ∨ i = 5 ∨ i = 6 ∨ i = 7 ∨ i = 8 ∨ i = 9 ∨ i = 10 ∨ i = 11 ∨ i = 12 ∨ i = 13 ∨ i = 14 ∨ i = 15 ∨ i = 16 ∨ i = 17 ∨ i = 18 ∨ i = 19) := by
  have hi : i < 20 := by
    rcases Nat.lt_or_ge i 20 with h' | h'
    · exact h'
    · simp only [Array.getD] at h
      rw [dif_neg (by simp; omega)] at h
      cases h
  have h2 := arr20 b i hi
  refine ⟨?_, by omega⟩
  rw [Array.getD_eq_getD_getElem?, h2] at h
  exact h
theorem cnt_pos {b : Nat → Bool} {n : Nat} (h : n + 1 = (!b 0).toNat + (!b 1).toNat + (!b 2).toNat + (!b 3).toNat + (!b 4).toNat + (!b 5).toNat + (!b 6).toNat + (!b 7).toNat + (!b 8).toNat + (!b 9).toNat + (!b 10).toNat + (!b 11).toNat + (!b 12).toNat + (!b 13).toNat + (!b 14).toNat + (!b 15).toNat + (!b 16).toNat + (!b 17).toNat + (!b 18).toNat + (!b 19).toNat) : ∃ j, j < 20 ∧ b j = false := by
  apply Classical.byContradiction
  intro hn
  have ht : ∀ j, j < 20 → b j = true := by
    intro j hj
    cases e : b j with
    | true => rfl
    | false => exact absurd ⟨j, hj, e⟩ hn
  simp [ht 0 (by omega), ht 1 (by omega), ht 2 (by omega), ht 3 (by omega), ht 4 (by omega), ht 5 (by omega), ht 6 (by omega), ht 7 (by omega), ht 8 (by omega), ht 9 (by omega), ht 10 (by omega), ht 11 (by omega), ht 12 (by omega), ht 13 (by omega), ht 14 (by omega), ht 15 (by omega), ht 16 (by omega), ht 17 (by omega), ht 18 (by omega), ht 19 (by omega)] at h
theorem cnt_step {b : Nat → Bool} {n i : Nat} (h : n + 1 = (!b 0).toNat + (!b 1).toNat + (!b 2).toNat + (!b 3).toNat + (!b 4).toNat + (!b 5).toNat + (!b 6).toNat + (!b 7).toNat + (!b 8).toNat + (!b 9).toNat + (!b 10).toNat + (!b 11).toNat + (!b 12).toNat + (!b 13).toNat + (!b 14).toNat + (!b 15).toNat + (!b 16).toNat + (!b 17).toNat + (!b 18).toNat + (!b 19).toNat) (hb : b i = false) (hi : i < 20) : n = (!upd b i true 0).toNat + (!upd b i true 1).toNat + (!upd b i true 2).toNat + (!upd b i true 3).toNat + (!upd b i true 4).toNat + (!upd b i true 5).toNat + (!upd b i true 6).toNat + (!upd b i true 7).toNat + (!upd b i true 8).toNat + (!upd b i true 9).toNat + (!upd b i true 10).toNat + (!upd b i true 11).toNat + (!upd b i true 12).toNat + (!upd b i true 13).toNat + (!upd b i true 14).toNat + (!upd b i true 15).toNat + (!upd b i true 16).toNat + (!upd b i true 17).toNat + (!upd b i true 18).toNat + (!upd b i true 19).toNat := by
  have : i = 0 ∨ i = 1 ∨ i = 2 ∨ i = 3 ∨ i = 4 ∨ i = 5 ∨ i = 6 ∨ i = 7 ∨ i = 8 ∨ i = 9 ∨ i = 10 ∨ i = 11 ∨ i = 12 ∨ i = 13 ∨ i = 14 ∨ i = 15 ∨ i = 16 ∨ i = 17 ∨ i = 18 ∨ i = 19 := by omega
  rcases this with rfl | rfl | rfl | rfl | rfl | rfl | rfl | rfl | rfl | rfl | rfl | rfl | rfl | rfl | rfl | rfl | rfl | rfl | rfl | rfl <;> (simp only [hb, upd, Bool.not_false, Bool.toNat_true] at h ⊢; simp; omega)
theorem cnt_zero {b : Nat → Bool} (h : 0 = (!b 0).toNat + (!b 1).toNat + (!b 2).toNat + (!b 3).toNat + (!b 4).toNat + (!b 5).toNat + (!b 6).toNat + (!b 7).toNat + (!b 8).toNat + (!b 9).toNat + (!b 10).toNat + (!b 11).toNat + (!b 12).toNat + (!b 13).toNat + (!b 14).toNat + (!b 15).toNat + (!b 16).toNat + (!b 17).toNat + (!b 18).toNat + (!b 19).toNat) : b 0 = true ∧ b 1 = true ∧ b 2 = true ∧ b 3 = true ∧ b 4 = true ∧ b 5 = true ∧ b 6 = true ∧ b 7 = true ∧ b 8 = true ∧ b 9 = true ∧ b 10 = true ∧ b 11 = true ∧ b 12 = true ∧ b 13 = true ∧ b 14 = true ∧ b 15 = true ∧ b 16 = true ∧ b 17 = true ∧ b 18 = true ∧ b 19 = true := by
  have q : ∀ c : Bool, (!c).toNat = 0 → c = true := by decide
  refine ⟨q _ (by omega), q _ (by omega), q _ (by omega), q _ (by omega), q _ (by omega), q _ (by omega), q _ (by omega), q _ (by omega), q _ (by omega), q _ (by omega), q _ (by omega), q _ (by omega), q _ (by omega), q _ (by omega), q _ (by omega), q _ (by omega), q _ (by omega), q _ (by omega), q _ (by omega), q _ (by omega)⟩

set_option maxRecDepth 100000 in
set_option maxHeartbeats 4000000 in
theorem ord_main (s : SR) (x : Nat → T) (w : World) (h0 : ¬ 100 < (x 0).length) (h1 : ¬ 100 < (x 1).length) (h2 : ¬ 100 < (x 2).length) (h3 : ¬ 100 < (x 3).length) (hs : s.Rd w) (hg : grs [s] = false) (hc : chk s.L s.M = 0) :
    Calls Try.prog 5 #[s.val, v4 x] w fun e w' => e = .returned (.bool true) ∧ Below w.heap.size w w' := by
  have q0 : (chk s.L s.M != 0) = false := by simpa using hc
  have HC := Lib.hid hc
  have HGG := Lib.hid hg
  clear hc
  have ss := s1_new' ((w.alloc (Obj.cells #[Value.slice s.A s.L.length s.c, Value.slice s.B s.M.length s.d] 24)).alloc (Obj.cells #[tv (x 0), tv (x 1), tv (x 2), tv (x 3)] 33)) s
  have hz : ((w.alloc (Obj.cells #[Value.slice s.A s.L.length s.c, Value.slice s.B s.M.length s.d] 24)).alloc (Obj.cells #[tv (x 0), tv (x 1), tv (x 2), tv (x 3)] 33)).heap.size = w.heap.size + 1 + 1 := by simp
  rw [hz] at ss
  have k : Below w.heap.size w (((w.alloc (Obj.cells #[Value.slice s.A s.L.length s.c, Value.slice s.B s.M.length s.d] 24)).alloc (Obj.cells #[tv (x 0), tv (x 1), tv (x 2), tv (x 3)] 33)).alloc (Obj.cells #[Value.slice s.A s.L.length s.c, Value.slice s.B s.M.length s.d] 24)) := (((Below.refl _ _).alloc (Nat.le_refl _) _).alloc (by simp) _).alloc (by simp; omega) _
  have g1 : w.heap.size + 1 + 1 < (((w.alloc (Obj.cells #[Value.slice s.A s.L.length s.c, Value.slice s.B s.M.length s.d] 24)).alloc (Obj.cells #[tv (x 0), tv (x 1), tv (x 2), tv (x 3)] 33)).alloc (Obj.cells #[Value.slice s.A s.L.length s.c, Value.slice s.B s.M.length s.d] 24)).heap.size := by simp
  have bk : BK (((w.alloc (Obj.cells #[Value.slice s.A s.L.length s.c, Value.slice s.B s.M.length s.d] 24)).alloc (Obj.cells #[tv (x 0), tv (x 1), tv (x 2), tv (x 3)] 33)).alloc (Obj.cells #[Value.slice s.A s.L.length s.c, Value.slice s.B s.M.length s.d] 24)) w.heap.size (.slice s.A s.L.length s.c) (.slice s.B s.M.length s.d) := ((BK.new w _ _).alloc _).alloc _
  have hx : (((w.alloc (Obj.cells #[Value.slice s.A s.L.length s.c, Value.slice s.B s.M.length s.d] 24)).alloc (Obj.cells #[tv (x 0), tv (x 1), tv (x 2), tv (x 3)] 33)).alloc (Obj.cells #[Value.slice s.A s.L.length s.c, Value.slice s.B s.M.length s.d] 24)).heap[w.heap.size + 1]? = some (Obj.cells #[tv (x 0), tv (x 1), tv (x 2), tv (x 3)] 33) := arr_new w (Obj.cells #[Value.slice s.A s.L.length s.c, Value.slice s.B s.M.length s.d] 24) (Obj.cells #[tv (x 0), tv (x 1), tv (x 2), tv (x 3)] 33) (Obj.cells #[Value.slice s.A s.L.length s.c, Value.slice s.B s.M.length s.d] 24)
  have SSN := Lib.hid ss
  have K := Lib.hid k
  have HG := Lib.hid hg
  have KK := Lib.hid bk
  have HX := Lib.hid hx
  clear ss hz k hg bk hx
  obtain ⟨i0, i1, i2, i3⟩ := idx4 x
  unfold SR.val v4
  go_enter Try.func5, Try.ntmps5
  go_wp2_with fail
  refine wp_loop_rounds 5 ?_
  rw [rounds_succ]
  go_wp2_with fail
  rw [rounds_succ]
  go_wp2_with fail
  rw [rounds_succ]
  go_wp2_with fail
  rw [rounds_succ]
  go_wp2_with fail
  rw [rounds_succ]
  go_wp2_with fail
  generalize ((w.alloc (Obj.cells #[Value.slice s.A s.L.length s.c, Value.slice s.B s.M.length s.d] 24)).alloc (Obj.cells #[tv (x 0), tv (x 1), tv (x 2), tv (x 3)] 33)).alloc (Obj.cells #[Value.slice s.A s.L.length s.c, Value.slice s.B s.M.length s.d] 24) = W at *
  refine (great_any [s] (w.heap.size + 1 + 1) 1 W g1 (fun t ht => by simp only [List.mem_cons, List.not_mem_nil, or_false] at ht; subst ht; exact hs.below K.out) (by simp) (fun j hj => (SSN.out j hj).1) (fun j hj => (SSN.out j hj).2)).mono ?_
  rintro e w1 ⟨rfl, k1⟩
  rw [HG.out]
  have m0 := Lib.hid (show Mem w w1 [(w.heap.size, s)] from ⟨K.out.trans (k1.mono K.out.size), fun p hp => by simp only [List.mem_cons, List.not_mem_nil, or_false] at hp; subst hp; exact ⟨KK.out.below k1 KK.out.lt, (hs.below K.out).below k1⟩⟩)
  have X1 := Lib.hid ((k1.block (w.heap.size + 1) (by omega)).trans HX.out)
  clear k1 K SSN g1 KK HX HG hs
  have fa1 := (m0.out.bk (g := w.heap.size) (s := s) (by simp)).c0
  have fb1 := (m0.out.bk (g := w.heap.size) (s := s) (by simp)).c1
  have fl2 := (m0.out.bk (g := w.heap.size) (s := s) (by simp)).lt
  go_wp2_with fail
  refine (check_any s.A s.B s.c s.d s.L s.M w1 (m0.out.rd (g := w.heap.size) (s := s) (by simp)).a (m0.out.rd (g := w.heap.size) (s := s) (by simp)).b (by have := (m0.out.rd (g := w.heap.size) (s := s) (by simp)).la; omega) (m0.out.rd (g := w.heap.size) (s := s) (by simp)).lb).mono ?_
  rintro e w3 ⟨rfl, k3⟩
  have X2 := Lib.hid ((k3.block (w.heap.size + 1) (blk_lt X1.out)).trans X1.out)
  clear X1
  have m3 := Lib.hid (m0.out.below k3)
  clear fa1 fb1 fl2 k3 m0
  go_upto_region 9 with (fail)
  clear i0 i1 i2 i3 q0
  go_cut [7, 8, 9, 10] (fun a0 a1 a2 a3 wx => ∃ v : Nat → Value, a0 = v 7 ∧ a1 = v 8 ∧ a2 = v 9 ∧ a3 = v 10 ∧ Four w x [(w.heap.size, s)] v wx)
  case first =>
    have hbl := blk_lt X2.out
    obtain ⟨c0, c1, c2, c3⟩ := arr_cells X2.out
    refine wp_region_any (by kernel_rfl) ?_
    refine wpAny_act (fun a0 ha0 => ?_)
    have HA := Lib.hid ha0
    clear ha0
    generalize hW9 : ({ w3 with drawn := w3.drawn + 1 } : World) = W9
    have m9 : Mem w W9 [(w.heap.size, s)] := by subst hW9; exact ⟨below_drewN m3.out.be 1, fun p hp => ⟨(m3.out.all p hp).1.drewN 1, (m3.out.all p hp).2.a, (m3.out.all p hp).2.b, (m3.out.all p hp).2.ca, (m3.out.all p hp).2.cb, (m3.out.all p hp).2.la, (m3.out.all p hp).2.lb⟩⟩
    replace c0 : W9.cell? ⟨w.heap.size + 1, 0, none⟩ = some (tv (x 0)) := by subst hW9; exact c0
    replace c1 : W9.cell? ⟨w.heap.size + 1, 1, none⟩ = some (tv (x 1)) := by subst hW9; exact c1
    replace c2 : W9.cell? ⟨w.heap.size + 1, 2, none⟩ = some (tv (x 2)) := by subst hW9; exact c2
    replace c3 : W9.cell? ⟨w.heap.size + 1, 3, none⟩ = some (tv (x 3)) := by subst hW9; exact c3
    replace hbl : w.heap.size + 1 < W9.heap.size := by subst hW9; exact hbl
    clear hW9
    refine wpAny_inv (I := fun n l a wr => ∃ (b : Nat → Bool) (v : Nat → Value), l = #[b 0, b 1, b 2, b 3, b 4, b 5, b 6, b 7, b 8, b 9, b 10, b 11, b 12, b 13, b 14, b 15, b 16, b 17, b 18, b 19] ∧ a = putAll a0 v slots ∧ n = (!b 0).toNat + (!b 1).toNat + (!b 2).toNat + (!b 3).toNat + (!b 4).toNat + (!b 5).toNat + (!b 6).toNat + (!b 7).toNat + (!b 8).toNat + (!b 9).toNat + (!b 10).toNat + (!b 11).toNat + (!b 12).toNat + (!b 13).toNat + (!b 14).toNat + (!b 15).toNat + (!b 16).toNat + (!b 17).toNat + (!b 18).toNat + (!b 19).toNat ∧ Mem4 W9 x (w.heap.size + 1) b v wr) 0 ?_ ?_ ?_ 20 _ _ _ ?_
    · rintro n l a wr ⟨b, v, rfl, -, hn, -⟩
      obtain ⟨j, hj, e⟩ := cnt_pos hn
      exact ready_ne rfl (by kernel_rfl) j (by rw [arr20 b j hj, e])
    · have E3 := Lib.hid (show ∀ v, (putAll a0 v slots).eval (.tmp 3) = .pointer (some ⟨w.heap.size + 1, 0, none⟩) from fun v => by rw [eval_out _ _ _ _ (by decide), HA.out]; rfl)
      have EV := Lib.hid (show ∀ v t, t ∈ slots → (putAll a0 v slots).eval (.tmp t) = v t from fun v t ht => eval_in a0 v t slots ht (by rw [HA.out]; revert ht; simp only [slots, List.mem_cons, List.not_mem_nil, or_false]; intro ht; simp; omega))
      clear HA
      rintro n l a wr i ⟨b, v, rfl, rfl, hn, hm⟩ hi
      obtain ⟨hb, o, ho, dep⟩ := mem_ready.1 hi
      obtain ⟨hbi, hcase⟩ := lt20 hb
      clear hi hb
      refine wpOp_K (fun K hK => ?_)
      rcases hcase with rfl | rfl | rfl | rfl | rfl | rfl | rfl | rfl | rfl | rfl | rfl | rfl | rfl | rfl | rfl | rfl | rfl | rfl | rfl | rfl
      · have hq := ho
        simp only [List.getElem?_toArray, List.getElem?_cons_zero, Option.some.injEq] at hq
        have hgu : o.guard = none := by rw [← hq]
        have hop : o.op = .indexAddr 33 (.tmp 3) (.const (.int .i64 (0 : Nat))) := by rw [← hq]; rfl
        refine wpOp_of ho hgu ?_
        have hd : o.dst = some 37 := by rw [← hq]
        refine wp_of_value (op_index (w.heap.size + 1) (E3.out v) 0 (by omega) hop) ?_
        rw [hd]
        exact hK.out _ _ ⟨upd b 0 true, upd v 37 _, rfl, putAll_put _ _ _ _ _ (by decide) slots_nodup, cnt_step hn hbi (by omega), hm.index (k := 0) (by omega)⟩
      · have hq := ho
        simp only [List.getElem?_toArray, List.getElem?_cons_zero, List.getElem?_cons_succ, Option.some.injEq] at hq
        have hgu : o.guard = none := by rw [← hq]
        have hop : o.op = .load 9 (.tmp 37) := by rw [← hq]
        refine wpOp_of ho hgu ?_
        have hd : o.dst = some 38 := by rw [← hq]
        have d := hm.ia 0 (by omega) (dep ⟨0, .data⟩ (by rw [← hq]; simp) rfl)
        have cc := (hm.be.cell (p := ⟨w.heap.size + 1, 0, none⟩) hbl).trans c0
        refine wp_of_value (op_load 37 _ _ ((EV.out v 37 (by decide)).trans d) cc hop) ?_
        rw [hd]
        exact hK.out _ _ ⟨upd b 1 true, upd v 38 _, rfl, putAll_put _ _ _ _ _ (by decide) slots_nodup, cnt_step hn hbi (by omega), hm.load (k := 0) (by omega)⟩
      · have hq := ho
        simp only [List.getElem?_toArray, List.getElem?_cons_zero, List.getElem?_cons_succ, Option.some.injEq] at hq
        have hgu : o.guard = none := by rw [← hq]
        have hop : ∃ ts, o.op = .call { callee := .value (.func 16), args := #[.tmp 38], argTypes := ts } := by rw [← hq]; exact ⟨_, rfl⟩
        refine wpOp_of ho hgu ?_
        have hd : o.dst = some 39 := by rw [← hq]
        have d := hm.ld 0 (by omega) (dep ⟨1, .data⟩ (by rw [← hq]; simp) rfl)
        refine wp_of_enter (op_of 38 _ ((EV.out v 38 (by decide)).trans d) hop) ?_
        rw [hd]
        refine (of_any (x 0) _).mono ?_
        rintro e wa ⟨sa, rfl, ra, e1, e1', ka⟩
        refine ⟨_, rfl, ?_⟩
        exact hK.out _ _ ⟨upd b 2 true, upd v 39 _, rfl, putAll_put _ _ _ _ _ (by decide) slots_nodup, cnt_step hn hbi (by omega), hm.call ka (k := 0) (by omega) ra (one_p e1 e1')⟩
      · have hq := ho
        simp only [List.getElem?_toArray, List.getElem?_cons_zero, List.getElem?_cons_succ, Option.some.injEq] at hq
        have hgu : o.guard = none := by rw [← hq]
        have hop : o.op = .indexAddr 33 (.tmp 3) (.const (.int .i64 (1 : Nat))) := by rw [← hq]; rfl
        refine wpOp_of ho hgu ?_
        have hd : o.dst = some 40 := by rw [← hq]
        refine wp_of_value (op_index (w.heap.size + 1) (E3.out v) 1 (by omega) hop) ?_
        rw [hd]
        exact hK.out _ _ ⟨upd b 3 true, upd v 40 _, rfl, putAll_put _ _ _ _ _ (by decide) slots_nodup, cnt_step hn hbi (by omega), hm.index (k := 1) (by omega)⟩
      · have hq := ho
        simp only [List.getElem?_toArray, List.getElem?_cons_zero, List.getElem?_cons_succ, Option.some.injEq] at hq
        have hgu : o.guard = none := by rw [← hq]
        have hop : o.op = .load 9 (.tmp 40) := by rw [← hq]
        refine wpOp_of ho hgu ?_
        have hd : o.dst = some 41 := by rw [← hq]
        have d := hm.ia 1 (by omega) (dep ⟨3, .data⟩ (by rw [← hq]; simp) rfl)
        have cc := (hm.be.cell (p := ⟨w.heap.size + 1, 1, none⟩) hbl).trans c1
        refine wp_of_value (op_load 40 _ _ ((EV.out v 40 (by decide)).trans d) cc hop) ?_
        rw [hd]
        exact hK.out _ _ ⟨upd b 4 true, upd v 41 _, rfl, putAll_put _ _ _ _ _ (by decide) slots_nodup, cnt_step hn hbi (by omega), hm.load (k := 1) (by omega)⟩
      · have hq := ho
        simp only [List.getElem?_toArray, List.getElem?_cons_zero, List.getElem?_cons_succ, Option.some.injEq] at hq
        have hgu : o.guard = none := by rw [← hq]
        have hop : ∃ ts, o.op = .call { callee := .value (.func 16), args := #[.tmp 41], argTypes := ts } := by rw [← hq]; exact ⟨_, rfl⟩
        refine wpOp_of ho hgu ?_
        have hd : o.dst = some 42 := by rw [← hq]
        have d := hm.ld 1 (by omega) (dep ⟨4, .data⟩ (by rw [← hq]; simp) rfl)
        refine wp_of_enter (op_of 41 _ ((EV.out v 41 (by decide)).trans d) hop) ?_
        rw [hd]
        refine (of_any (x 1) _).mono ?_
        rintro e wa ⟨sa, rfl, ra, e1, e1', ka⟩
        refine ⟨_, rfl, ?_⟩
        exact hK.out _ _ ⟨upd b 5 true, upd v 42 _, rfl, putAll_put _ _ _ _ _ (by decide) slots_nodup, cnt_step hn hbi (by omega), hm.call ka (k := 1) (by omega) ra (one_p e1 e1')⟩
      · have hq := ho
        simp only [List.getElem?_toArray, List.getElem?_cons_zero, List.getElem?_cons_succ, Option.some.injEq] at hq
        have hgu : o.guard = none := by rw [← hq]
        have hop : o.op = .indexAddr 33 (.tmp 3) (.const (.int .i64 (2 : Nat))) := by rw [← hq]; rfl
        refine wpOp_of ho hgu ?_
        have hd : o.dst = some 43 := by rw [← hq]
        refine wp_of_value (op_index (w.heap.size + 1) (E3.out v) 2 (by omega) hop) ?_
        rw [hd]
        exact hK.out _ _ ⟨upd b 6 true, upd v 43 _, rfl, putAll_put _ _ _ _ _ (by decide) slots_nodup, cnt_step hn hbi (by omega), hm.index (k := 2) (by omega)⟩
      · have hq := ho
        simp only [List.getElem?_toArray, List.getElem?_cons_zero, List.getElem?_cons_succ, Option.some.injEq] at hq
        have hgu : o.guard = none := by rw [← hq]
        have hop : o.op = .load 9 (.tmp 43) := by rw [← hq]
        refine wpOp_of ho hgu ?_
        have hd : o.dst = some 44 := by rw [← hq]
        have d := hm.ia 2 (by omega) (dep ⟨6, .data⟩ (by rw [← hq]; simp) rfl)
        have cc := (hm.be.cell (p := ⟨w.heap.size + 1, 2, none⟩) hbl).trans c2
        refine wp_of_value (op_load 43 _ _ ((EV.out v 43 (by decide)).trans d) cc hop) ?_
        rw [hd]
        exact hK.out _ _ ⟨upd b 7 true, upd v 44 _, rfl, putAll_put _ _ _ _ _ (by decide) slots_nodup, cnt_step hn hbi (by omega), hm.load (k := 2) (by omega)⟩
      · have hq := ho
        simp only [List.getElem?_toArray, List.getElem?_cons_zero, List.getElem?_cons_succ, Option.some.injEq] at hq
        have hgu : o.guard = none := by rw [← hq]
        have hop : ∃ ts, o.op = .call { callee := .value (.func 16), args := #[.tmp 44], argTypes := ts } := by rw [← hq]; exact ⟨_, rfl⟩
        refine wpOp_of ho hgu ?_
        have hd : o.dst = some 45 := by rw [← hq]
        have d := hm.ld 2 (by omega) (dep ⟨7, .data⟩ (by rw [← hq]; simp) rfl)
        refine wp_of_enter (op_of 44 _ ((EV.out v 44 (by decide)).trans d) hop) ?_
        rw [hd]
        refine (of_any (x 2) _).mono ?_
        rintro e wa ⟨sa, rfl, ra, e1, e1', ka⟩
        refine ⟨_, rfl, ?_⟩
        exact hK.out _ _ ⟨upd b 8 true, upd v 45 _, rfl, putAll_put _ _ _ _ _ (by decide) slots_nodup, cnt_step hn hbi (by omega), hm.call ka (k := 2) (by omega) ra (one_p e1 e1')⟩
      · have hq := ho
        simp only [List.getElem?_toArray, List.getElem?_cons_zero, List.getElem?_cons_succ, Option.some.injEq] at hq
        have hgu : o.guard = none := by rw [← hq]
        have hop : o.op = .indexAddr 33 (.tmp 3) (.const (.int .i64 (3 : Nat))) := by rw [← hq]; rfl
        refine wpOp_of ho hgu ?_
        have hd : o.dst = some 46 := by rw [← hq]
        refine wp_of_value (op_index (w.heap.size + 1) (E3.out v) 3 (by omega) hop) ?_
        rw [hd]
        exact hK.out _ _ ⟨upd b 9 true, upd v 46 _, rfl, putAll_put _ _ _ _ _ (by decide) slots_nodup, cnt_step hn hbi (by omega), hm.index (k := 3) (by omega)⟩
      · have hq := ho
        simp only [List.getElem?_toArray, List.getElem?_cons_zero, List.getElem?_cons_succ, Option.some.injEq] at hq
        have hgu : o.guard = none := by rw [← hq]
        have hop : o.op = .load 9 (.tmp 46) := by rw [← hq]
        refine wpOp_of ho hgu ?_
        have hd : o.dst = some 47 := by rw [← hq]
        have d := hm.ia 3 (by omega) (dep ⟨9, .data⟩ (by rw [← hq]; simp) rfl)
        have cc := (hm.be.cell (p := ⟨w.heap.size + 1, 3, none⟩) hbl).trans c3
        refine wp_of_value (op_load 46 _ _ ((EV.out v 46 (by decide)).trans d) cc hop) ?_
        rw [hd]
        exact hK.out _ _ ⟨upd b 10 true, upd v 47 _, rfl, putAll_put _ _ _ _ _ (by decide) slots_nodup, cnt_step hn hbi (by omega), hm.load (k := 3) (by omega)⟩
      · have hq := ho
        simp only [List.getElem?_toArray, List.getElem?_cons_zero, List.getElem?_cons_succ, Option.some.injEq] at hq
        have hgu : o.guard = none := by rw [← hq]
        have hop : ∃ ts, o.op = .call { callee := .value (.func 16), args := #[.tmp 47], argTypes := ts } := by rw [← hq]; exact ⟨_, rfl⟩
        refine wpOp_of ho hgu ?_
        have hd : o.dst = some 48 := by rw [← hq]
        have d := hm.ld 3 (by omega) (dep ⟨10, .data⟩ (by rw [← hq]; simp) rfl)
        refine wp_of_enter (op_of 47 _ ((EV.out v 47 (by decide)).trans d) hop) ?_
        rw [hd]
        refine (of_any (x 3) _).mono ?_
        rintro e wa ⟨sa, rfl, ra, e1, e1', ka⟩
        refine ⟨_, rfl, ?_⟩
        exact hK.out _ _ ⟨upd b 11 true, upd v 48 _, rfl, putAll_put _ _ _ _ _ (by decide) slots_nodup, cnt_step hn hbi (by omega), hm.call ka (k := 3) (by omega) ra (one_p e1 e1')⟩
      · have hq := ho
        simp only [List.getElem?_toArray, List.getElem?_cons_zero, List.getElem?_cons_succ, Option.some.injEq] at hq
        have hgu : o.guard = none := by rw [← hq]
        have hop : o.op = .alloc 24 := by rw [← hq]
        refine wpOp_of ho hgu ?_
        have hd : o.dst = some 7 := by rw [← hq]
        refine wp_of_value (op_alloc hop) ?_
        rw [hd]
        exact hK.out _ _ ⟨upd b 12 true, upd v 7 _, rfl, putAll_put _ _ _ _ _ (by decide) slots_nodup, cnt_step hn hbi (by omega), hm.alloc (k := 0) (by omega) hbi⟩
      · have hq := ho
        simp only [List.getElem?_toArray, List.getElem?_cons_zero, List.getElem?_cons_succ, Option.some.injEq] at hq
        have hgu : o.guard = none := by rw [← hq]
        have hop : o.op = .alloc 24 := by rw [← hq]
        refine wpOp_of ho hgu ?_
        have hd : o.dst = some 8 := by rw [← hq]
        refine wp_of_value (op_alloc hop) ?_
        rw [hd]
        exact hK.out _ _ ⟨upd b 13 true, upd v 8 _, rfl, putAll_put _ _ _ _ _ (by decide) slots_nodup, cnt_step hn hbi (by omega), hm.alloc (k := 1) (by omega) hbi⟩
      · have hq := ho
        simp only [List.getElem?_toArray, List.getElem?_cons_zero, List.getElem?_cons_succ, Option.some.injEq] at hq
        have hgu : o.guard = none := by rw [← hq]
        have hop : o.op = .alloc 24 := by rw [← hq]
        refine wpOp_of ho hgu ?_
        have hd : o.dst = some 9 := by rw [← hq]
        refine wp_of_value (op_alloc hop) ?_
        rw [hd]
        exact hK.out _ _ ⟨upd b 14 true, upd v 9 _, rfl, putAll_put _ _ _ _ _ (by decide) slots_nodup, cnt_step hn hbi (by omega), hm.alloc (k := 2) (by omega) hbi⟩
      · have hq := ho
        simp only [List.getElem?_toArray, List.getElem?_cons_zero, List.getElem?_cons_succ, Option.some.injEq] at hq
        have hgu : o.guard = none := by rw [← hq]
        have hop : o.op = .alloc 24 := by rw [← hq]
        refine wpOp_of ho hgu ?_
        have hd : o.dst = some 10 := by rw [← hq]
        refine wp_of_value (op_alloc hop) ?_
        rw [hd]
        exact hK.out _ _ ⟨upd b 15 true, upd v 10 _, rfl, putAll_put _ _ _ _ _ (by decide) slots_nodup, cnt_step hn hbi (by omega), hm.alloc (k := 3) (by omega) hbi⟩
      · have hq := ho
        simp only [List.getElem?_toArray, List.getElem?_cons_zero, List.getElem?_cons_succ, Option.some.injEq] at hq
        have hgu : o.guard = none := by rw [← hq]
        have hop : o.op = .store 24 (.tmp 7) (.tmp 39) := by rw [← hq]
        refine wpOp_of ho hgu ?_
        have hd : o.dst = none := by rw [← hq]
        have da := dep ⟨12, .data⟩ (by rw [← hq]; simp) rfl
        obtain ⟨sa, va, ra, pa⟩ := hm.ca 0 (by omega) (dep ⟨2, .data⟩ (by rw [← hq]; simp) rfl)
        obtain ⟨g, vg, hg, hnil, -⟩ := hm.al 0 (by omega) da
        refine wp_of_skip (op_store 7 39 g sa ((EV.out v 7 (by decide)).trans vg) ((EV.out v 39 (by decide)).trans va) (hnil hbi) hop) ?_
        rw [hd]
        exact hK.out _ _ ⟨upd b 16 true, v, rfl, put_none _ _, cnt_step hn hbi (by omega), hm.store (k := 0) (by omega) hbi da vg ra pa⟩
      · have hq := ho
        simp only [List.getElem?_toArray, List.getElem?_cons_zero, List.getElem?_cons_succ, Option.some.injEq] at hq
        have hgu : o.guard = none := by rw [← hq]
        have hop : o.op = .store 24 (.tmp 8) (.tmp 42) := by rw [← hq]
        refine wpOp_of ho hgu ?_
        have hd : o.dst = none := by rw [← hq]
        have da := dep ⟨13, .data⟩ (by rw [← hq]; simp) rfl
        obtain ⟨sa, va, ra, pa⟩ := hm.ca 1 (by omega) (dep ⟨5, .data⟩ (by rw [← hq]; simp) rfl)
        obtain ⟨g, vg, hg, hnil, -⟩ := hm.al 1 (by omega) da
        refine wp_of_skip (op_store 8 42 g sa ((EV.out v 8 (by decide)).trans vg) ((EV.out v 42 (by decide)).trans va) (hnil hbi) hop) ?_
        rw [hd]
        exact hK.out _ _ ⟨upd b 17 true, v, rfl, put_none _ _, cnt_step hn hbi (by omega), hm.store (k := 1) (by omega) hbi da vg ra pa⟩
      · have hq := ho
        simp only [List.getElem?_toArray, List.getElem?_cons_zero, List.getElem?_cons_succ, Option.some.injEq] at hq
        have hgu : o.guard = none := by rw [← hq]
        have hop : o.op = .store 24 (.tmp 9) (.tmp 45) := by rw [← hq]
        refine wpOp_of ho hgu ?_
        have hd : o.dst = none := by rw [← hq]
        have da := dep ⟨14, .data⟩ (by rw [← hq]; simp) rfl
        obtain ⟨sa, va, ra, pa⟩ := hm.ca 2 (by omega) (dep ⟨8, .data⟩ (by rw [← hq]; simp) rfl)
        obtain ⟨g, vg, hg, hnil, -⟩ := hm.al 2 (by omega) da
        refine wp_of_skip (op_store 9 45 g sa ((EV.out v 9 (by decide)).trans vg) ((EV.out v 45 (by decide)).trans va) (hnil hbi) hop) ?_
        rw [hd]
        exact hK.out _ _ ⟨upd b 18 true, v, rfl, put_none _ _, cnt_step hn hbi (by omega), hm.store (k := 2) (by omega) hbi da vg ra pa⟩
      · have hq := ho
        simp only [List.getElem?_toArray, List.getElem?_cons_zero, List.getElem?_cons_succ, Option.some.injEq] at hq
        have hgu : o.guard = none := by rw [← hq]
        have hop : o.op = .store 24 (.tmp 10) (.tmp 48) := by rw [← hq]
        refine wpOp_of ho hgu ?_
        have hd : o.dst = none := by rw [← hq]
        have da := dep ⟨15, .data⟩ (by rw [← hq]; simp) rfl
        obtain ⟨sa, va, ra, pa⟩ := hm.ca 3 (by omega) (dep ⟨11, .data⟩ (by rw [← hq]; simp) rfl)
        obtain ⟨g, vg, hg, hnil, -⟩ := hm.al 3 (by omega) da
        refine wp_of_skip (op_store 10 48 g sa ((EV.out v 10 (by decide)).trans vg) ((EV.out v 48 (by decide)).trans va) (hnil hbi) hop) ?_
        rw [hd]
        exact hK.out _ _ ⟨upd b 19 true, v, rfl, put_none _ _, cnt_step hn hbi (by omega), hm.store (k := 3) (by omega) hbi da vg ra pa⟩
    · rintro l a wr ⟨b, v, rfl, rfl, hn, hm⟩
      obtain ⟨t0, t1, t2, t3, t4, t5, t6, t7, t8, t9, t10, t11, t12, t13, t14, t15, t16, t17, t18, t19⟩ := cnt_zero hn
      have hall : ∀ j, j < 20 → b j = true := by intro j hj; have : j = 0 ∨ j = 1 ∨ j = 2 ∨ j = 3 ∨ j = 4 ∨ j = 5 ∨ j = 6 ∨ j = 7 ∨ j = 8 ∨ j = 9 ∨ j = 10 ∨ j = 11 ∨ j = 12 ∨ j = 13 ∨ j = 14 ∨ j = 15 ∨ j = 16 ∨ j = 17 ∨ j = 18 ∨ j = 19 := by omega
                                                 rcases this with rfl | rfl | rfl | rfl | rfl | rfl | rfl | rfl | rfl | rfl | rfl | rfl | rfl | rfl | rfl | rfl | rfl | rfl | rfl | rfl <;> assumption
      have F := Lib.hid (hm.done hall m9)
      rw [t0, t1, t2, t3, t4, t5, t6, t7, t8, t9, t10, t11, t12, t13, t14, t15, t16, t17, t18, t19]
      refine ⟨by kernel_rfl, ?_⟩
      clear t0 t1 t2 t3 t4 t5 t6 t7 t8 t9 t10 t11 t12 t13 t14 t15 t16 t17 t18 t19 hall hm hn m9
      rw [HA.out]
      simp only [slots, putAll, Act.put, List.setIfInBounds_toArray, List.set_cons_zero, List.set_cons_succ]
      go_wp2_with fail
      go_meet
      exact ⟨v, rfl, rfl, rfl, rfl, F.out⟩
    · exact ⟨fun _ => false, fun t => a0.tmps.getD t undef, rfl, (putAll_self a0 slots).symm, rfl, Mem4.start _ _ _ _⟩
  case rest =>
    obtain ⟨v, rfl, rfl, rfl, rfl, g, t, hv, ht, mm⟩ := hcut
    have e0 : v 7 = .pointer (some ⟨g 0, 0, none⟩) := hv 0 (by omega)
    have P0 := Lib.hid (ht 0 (by omega))
    have e1 : v 8 = .pointer (some ⟨g 1, 0, none⟩) := hv 1 (by omega)
    have P1 := Lib.hid (ht 1 (by omega))
    have e2 : v 9 = .pointer (some ⟨g 2, 0, none⟩) := hv 2 (by omega)
    have P2 := Lib.hid (ht 2 (by omega))
    have e3 : v 10 = .pointer (some ⟨g 3, 0, none⟩) := hv 3 (by omega)
    have P3 := Lib.hid (ht 3 (by omega))
    rw [e0, e1, e2, e3]
    clear e0 e1 e2 e3 hv ht X2 m3
    generalize g 0 = g0 at *
    generalize t 0 = t0 at *
    generalize g 1 = g1 at *
    generalize t 1 = t1 at *
    generalize g 2 = g2 at *
    generalize t 2 = t2 at *
    generalize g 3 = g3 at *
    generalize t 3 = t3 at *
    have m8 := Lib.hid mm
    clear mm
    have O0 := Lib.hid (one_ok (v := x 0) (by omega))
    have O1 := Lib.hid (one_ok (v := x 1) (by omega))
    have O2 := Lib.hid (one_ok (v := x 2) (by omega))
    have O3 := Lib.hid (one_ok (v := x 3) (by omega))
    have OS : Hid (Okp s.p) := Lib.hid (chk_zero.1 HC.out)
    have zs := gr_false.1 (show gr s.L s.M = false by simpa [grs] using HGG.out)
    have zl : s.L.length + s.M.length ≤ 24 := by omega
    have z1 : s.p.1.length ≤ 12 := by simp only [SR.p]; omega
    have z2 : s.p.2.length ≤ 12 := by simp only [SR.p]; omega
    clear zs HGG
    have OA := Lib.hid (mrg_ok O0.out OS.out O1.out (by simp [one]; omega))
    have OB := Lib.hid (mrg_ok O2.out OS.out O3.out (by simp [one]; omega))
    have LA := Lib.hid (mrg_len O0.out OS.out O1.out)
    have LB := Lib.hid (mrg_len O2.out OS.out O3.out)
    have fa21 := (m8.out.bk (g := g0) (s := t0) (by simp)).c0
    have fb21 := (m8.out.bk (g := g0) (s := t0) (by simp)).c1
    have fa22 := (m8.out.bk (g := g1) (s := t1) (by simp)).c0
    have fb22 := (m8.out.bk (g := g1) (s := t1) (by simp)).c1
    have fa23 := (m8.out.bk (g := w.heap.size) (s := s) (by simp)).c0
    have fb23 := (m8.out.bk (g := w.heap.size) (s := s) (by simp)).c1
    have fl24 := (m8.out.bk (g := g0) (s := t0) (by simp)).lt
    have fl25 := (m8.out.bk (g := g1) (s := t1) (by simp)).lt
    have fl26 := (m8.out.bk (g := w.heap.size) (s := s) (by simp)).lt
    go_wp2_with fail
    refine (merge_any t0 s t1 wc (m8.out.rd (g := g0) (s := t0) (by simp)) (m8.out.rd (g := w.heap.size) (s := s) (by simp)) (m8.out.rd (g := g1) (s := t1) (by simp)) (by have a0 := SR.len P0.out; have a1 := SR.len P1.out; simp only [one, List.length_cons, List.length_nil] at *; omega)).mono ?_
    rintro e w27 ⟨sa, rfl, Rsa, E, k27⟩
    rw [P0.out, P1.out] at E
    rw [P0.out, P1.out]
    have v0 := merge_valid O0.out OS.out O1.out
    rw [v0.1]
    rw [v0.2] at E
    have Psa := Lib.hid E
    clear E v0
    unfold SR.val
    have m27 := Lib.hid (m8.out.below k27)
    clear fa21 fb21 fa22 fb22 fa23 fb23 fl24 fl25 fl26 k27 m8
    have fa28 := (m27.out.bk (g := g2) (s := t2) (by simp)).c0
    have fb28 := (m27.out.bk (g := g2) (s := t2) (by simp)).c1
    have fa29 := (m27.out.bk (g := g3) (s := t3) (by simp)).c0
    have fb29 := (m27.out.bk (g := g3) (s := t3) (by simp)).c1
    have fa30 := (m27.out.bk (g := w.heap.size) (s := s) (by simp)).c0
    have fb30 := (m27.out.bk (g := w.heap.size) (s := s) (by simp)).c1
    have fl31 := (m27.out.bk (g := g2) (s := t2) (by simp)).lt
    have fl32 := (m27.out.bk (g := g3) (s := t3) (by simp)).lt
    have fl33 := (m27.out.bk (g := w.heap.size) (s := s) (by simp)).lt
    go_wp2_with fail
    have m34 := Lib.hid (m27.out.box sa Rsa)
    generalize hW34 : w27.alloc (Obj.cells #[Value.slice sa.A sa.L.length sa.c, Value.slice sa.B sa.M.length sa.d] 24) = W34 at *
    clear hW34
    clear fa28 fb28 fa29 fb29 fa30 fb30 fl31 fl32 fl33 m27
    clear Rsa
    refine (merge_any t2 s t3 W34 (m34.out.rd (g := g2) (s := t2) (by simp)) (m34.out.rd (g := w.heap.size) (s := s) (by simp)) (m34.out.rd (g := g3) (s := t3) (by simp)) (by have a2 := SR.len P2.out; have a3 := SR.len P3.out; simp only [one, List.length_cons, List.length_nil] at *; omega)).mono ?_
    rintro e w35 ⟨sb, rfl, Rsb, E, k35⟩
    rw [P2.out, P3.out] at E
    rw [P2.out, P3.out]
    have v0 := merge_valid O2.out OS.out O3.out
    rw [v0.1]
    rw [v0.2] at E
    have Psb := Lib.hid E
    clear E v0
    unfold SR.val
    have m35 := Lib.hid (m34.out.below k35)
    clear  k35 m34
    have fa36 := (m35.out.bk (g := w27.heap.size) (s := sa) (by simp)).c0
    have fb36 := (m35.out.bk (g := w27.heap.size) (s := sa) (by simp)).c1
    have fa37 := (m35.out.bk (g := g0) (s := t0) (by simp)).c0
    have fb37 := (m35.out.bk (g := g0) (s := t0) (by simp)).c1
    have fa38 := (m35.out.bk (g := g1) (s := t1) (by simp)).c0
    have fb38 := (m35.out.bk (g := g1) (s := t1) (by simp)).c1
    have fa39 := (m35.out.bk (g := g2) (s := t2) (by simp)).c0
    have fb39 := (m35.out.bk (g := g2) (s := t2) (by simp)).c1
    have fa40 := (m35.out.bk (g := g3) (s := t3) (by simp)).c0
    have fb40 := (m35.out.bk (g := g3) (s := t3) (by simp)).c1
    have fa41 := (m35.out.bk (g := w.heap.size) (s := s) (by simp)).c0
    have fb41 := (m35.out.bk (g := w.heap.size) (s := s) (by simp)).c1
    have fl42 := (m35.out.bk (g := w27.heap.size) (s := sa) (by simp)).lt
    have fl43 := (m35.out.bk (g := g0) (s := t0) (by simp)).lt
    have fl44 := (m35.out.bk (g := g1) (s := t1) (by simp)).lt
    have fl45 := (m35.out.bk (g := g2) (s := t2) (by simp)).lt
    have fl46 := (m35.out.bk (g := g3) (s := t3) (by simp)).lt
    have fl47 := (m35.out.bk (g := w.heap.size) (s := s) (by simp)).lt
    go_wp2_with fail
    have m48 := Lib.hid (m35.out.box sb Rsb)
    generalize hW48 : w35.alloc (Obj.cells #[Value.slice sb.A sb.L.length sb.c, Value.slice sb.B sb.M.length sb.d] 24) = W48 at *
    clear hW48
    clear fa36 fb36 fa37 fb37 fa38 fb38 fa39 fb39 fa40 fb40 fa41 fb41 fl42 fl43 fl44 fl45 fl46 fl47 m35
    clear Rsb
    by_cases hp1 : s.p = one (x 1)
    · have hq1 := Lib.hid hp1
      clear hp1
      have hsst1 := Lib.hid (same_of_p (s := s) (t := t1) (by rw [P1.out]; exact hq1.out))
      refine (same2_any s.A s.B t1.A t1.B s.c s.d t1.c t1.d s.L s.M t1.L t1.M W48 (m48.out.rd (g := w.heap.size) (s := s) (by simp)).a (m48.out.rd (g := w.heap.size) (s := s) (by simp)).b (m48.out.rd (g := g1) (s := t1) (by simp)).a (m48.out.rd (g := g1) (s := t1) (by simp)).b (by have := (m48.out.rd (g := w.heap.size) (s := s) (by simp)).la; omega) (by have := (m48.out.rd (g := w.heap.size) (s := s) (by simp)).lb; omega)).mono ?_
      rintro e w49 ⟨rfl, k49⟩
      rw [hsst1.out]
      have m49 := Lib.hid (m48.out.below k49)
      clear  k49 m48
      go_wp2_with fail
      refine (awake_any _).mono ?_
      rintro e w50 ⟨rfl, k50⟩
      have m50 := Lib.hid (m49.out.below k50)
      clear  k50 m49
      go_wp2_with fail
      go_ret
      exact ⟨rfl, m50.out.be⟩
    have hq1 := Lib.hid hp1
    clear hp1
    have hsst1 := Lib.hid (same_of_ne (s := s) (t := t1) (by rw [P1.out]; exact hq1.out))
    refine (same2_any s.A s.B t1.A t1.B s.c s.d t1.c t1.d s.L s.M t1.L t1.M W48 (m48.out.rd (g := w.heap.size) (s := s) (by simp)).a (m48.out.rd (g := w.heap.size) (s := s) (by simp)).b (m48.out.rd (g := g1) (s := t1) (by simp)).a (m48.out.rd (g := g1) (s := t1) (by simp)).b (by have := (m48.out.rd (g := w.heap.size) (s := s) (by simp)).la; omega) (by have := (m48.out.rd (g := w.heap.size) (s := s) (by simp)).lb; omega)).mono ?_
    rintro e w99 ⟨rfl, k99⟩
    rw [hsst1.out]
    have m99 := Lib.hid (m48.out.below k99)
    clear  k99 m48
    have fa100 := (m99.out.bk (g := w.heap.size) (s := s) (by simp)).c0
    have fb100 := (m99.out.bk (g := w.heap.size) (s := s) (by simp)).c1
    have fa101 := (m99.out.bk (g := g3) (s := t3) (by simp)).c0
    have fb101 := (m99.out.bk (g := g3) (s := t3) (by simp)).c1
    go_wp2_with fail
    by_cases hp2 : s.p = one (x 3)
    · have hq2 := Lib.hid hp2
      clear hp2
      have hsst3 := Lib.hid (same_of_p (s := s) (t := t3) (by rw [P3.out]; exact hq2.out))
      refine (same2_any s.A s.B t3.A t3.B s.c s.d t3.c t3.d s.L s.M t3.L t3.M w99 (m99.out.rd (g := w.heap.size) (s := s) (by simp)).a (m99.out.rd (g := w.heap.size) (s := s) (by simp)).b (m99.out.rd (g := g3) (s := t3) (by simp)).a (m99.out.rd (g := g3) (s := t3) (by simp)).b (by have := (m99.out.rd (g := w.heap.size) (s := s) (by simp)).la; omega) (by have := (m99.out.rd (g := w.heap.size) (s := s) (by simp)).lb; omega)).mono ?_
      rintro e w102 ⟨rfl, k102⟩
      rw [hsst3.out]
      have m102 := Lib.hid (m99.out.below k102)
      clear fa100 fb100 fa101 fb101 k102 m99
      go_wp2_with fail
      refine (awake_any _).mono ?_
      rintro e w103 ⟨rfl, k103⟩
      have m103 := Lib.hid (m102.out.below k103)
      clear  k103 m102
      go_wp2_with fail
      go_ret
      exact ⟨rfl, m103.out.be⟩
    have hq2 := Lib.hid hp2
    clear hp2
    have hsst3 := Lib.hid (same_of_ne (s := s) (t := t3) (by rw [P3.out]; exact hq2.out))
    refine (same2_any s.A s.B t3.A t3.B s.c s.d t3.c t3.d s.L s.M t3.L t3.M w99 (m99.out.rd (g := w.heap.size) (s := s) (by simp)).a (m99.out.rd (g := w.heap.size) (s := s) (by simp)).b (m99.out.rd (g := g3) (s := t3) (by simp)).a (m99.out.rd (g := g3) (s := t3) (by simp)).b (by have := (m99.out.rd (g := w.heap.size) (s := s) (by simp)).la; omega) (by have := (m99.out.rd (g := w.heap.size) (s := s) (by simp)).lb; omega)).mono ?_
    rintro e w152 ⟨rfl, k152⟩
    rw [hsst3.out]
    have m152 := Lib.hid (m99.out.below k152)
    clear fa100 fb100 fa101 fb101 k152 m99
    have fa153 := (m152.out.bk (g := w27.heap.size) (s := sa) (by simp)).c0
    have fb153 := (m152.out.bk (g := w27.heap.size) (s := sa) (by simp)).c1
    have fa154 := (m152.out.bk (g := g3) (s := t3) (by simp)).c0
    have fb154 := (m152.out.bk (g := g3) (s := t3) (by simp)).c1
    go_wp2_with fail
    by_cases hp3 : mrg (one (x 0)) s.p (one (x 1)) = one (x 3)
    · have hq3 := Lib.hid hp3
      clear hp3
      have hssat3 := Lib.hid (same_of_p (s := sa) (t := t3) (by rw [Psa.out, P3.out]; exact hq3.out))
      refine (same2_any sa.A sa.B t3.A t3.B sa.c sa.d t3.c t3.d sa.L sa.M t3.L t3.M w152 (m152.out.rd (g := w27.heap.size) (s := sa) (by simp)).a (m152.out.rd (g := w27.heap.size) (s := sa) (by simp)).b (m152.out.rd (g := g3) (s := t3) (by simp)).a (m152.out.rd (g := g3) (s := t3) (by simp)).b (by have := (m152.out.rd (g := w27.heap.size) (s := sa) (by simp)).la; omega) (by have := (m152.out.rd (g := w27.heap.size) (s := sa) (by simp)).lb; omega)).mono ?_
      rintro e w155 ⟨rfl, k155⟩
      rw [hssat3.out]
      have m155 := Lib.hid (m152.out.below k155)
      clear fa153 fb153 fa154 fb154 k155 m152
      go_wp2_with fail
      refine (awake_any _).mono ?_
      rintro e w156 ⟨rfl, k156⟩
      have m156 := Lib.hid (m155.out.below k156)
      clear  k156 m155
      go_wp2_with fail
      go_ret
      exact ⟨rfl, m156.out.be⟩
    have hq3 := Lib.hid hp3
    clear hp3
    have hssat3 := Lib.hid (same_of_ne (s := sa) (t := t3) (by rw [Psa.out, P3.out]; exact hq3.out))
    refine (same2_any sa.A sa.B t3.A t3.B sa.c sa.d t3.c t3.d sa.L sa.M t3.L t3.M w152 (m152.out.rd (g := w27.heap.size) (s := sa) (by simp)).a (m152.out.rd (g := w27.heap.size) (s := sa) (by simp)).b (m152.out.rd (g := g3) (s := t3) (by simp)).a (m152.out.rd (g := g3) (s := t3) (by simp)).b (by have := (m152.out.rd (g := w27.heap.size) (s := sa) (by simp)).la; omega) (by have := (m152.out.rd (g := w27.heap.size) (s := sa) (by simp)).lb; omega)).mono ?_
    rintro e w205 ⟨rfl, k205⟩
    rw [hssat3.out]
    have m205 := Lib.hid (m152.out.below k205)
    clear fa153 fb153 fa154 fb154 k205 m152
    have fa206 := (m205.out.bk (g := w35.heap.size) (s := sb) (by simp)).c0
    have fb206 := (m205.out.bk (g := w35.heap.size) (s := sb) (by simp)).c1
    have fa207 := (m205.out.bk (g := g1) (s := t1) (by simp)).c0
    have fb207 := (m205.out.bk (g := g1) (s := t1) (by simp)).c1
    go_wp2_with fail
    by_cases hp4 : mrg (one (x 2)) s.p (one (x 3)) = one (x 1)
    · have hq4 := Lib.hid hp4
      clear hp4
      have hssbt1 := Lib.hid (same_of_p (s := sb) (t := t1) (by rw [Psb.out, P1.out]; exact hq4.out))
      refine (same2_any sb.A sb.B t1.A t1.B sb.c sb.d t1.c t1.d sb.L sb.M t1.L t1.M w205 (m205.out.rd (g := w35.heap.size) (s := sb) (by simp)).a (m205.out.rd (g := w35.heap.size) (s := sb) (by simp)).b (m205.out.rd (g := g1) (s := t1) (by simp)).a (m205.out.rd (g := g1) (s := t1) (by simp)).b (by have := (m205.out.rd (g := w35.heap.size) (s := sb) (by simp)).la; omega) (by have := (m205.out.rd (g := w35.heap.size) (s := sb) (by simp)).lb; omega)).mono ?_
      rintro e w208 ⟨rfl, k208⟩
      rw [hssbt1.out]
      have m208 := Lib.hid (m205.out.below k208)
      clear fa206 fb206 fa207 fb207 k208 m205
      go_wp2_with fail
      refine (awake_any _).mono ?_
      rintro e w209 ⟨rfl, k209⟩
      have m209 := Lib.hid (m208.out.below k209)
      clear  k209 m208
      go_wp2_with fail
      go_ret
      exact ⟨rfl, m209.out.be⟩
    have hq4 := Lib.hid hp4
    clear hp4
    have hssbt1 := Lib.hid (same_of_ne (s := sb) (t := t1) (by rw [Psb.out, P1.out]; exact hq4.out))
    refine (same2_any sb.A sb.B t1.A t1.B sb.c sb.d t1.c t1.d sb.L sb.M t1.L t1.M w205 (m205.out.rd (g := w35.heap.size) (s := sb) (by simp)).a (m205.out.rd (g := w35.heap.size) (s := sb) (by simp)).b (m205.out.rd (g := g1) (s := t1) (by simp)).a (m205.out.rd (g := g1) (s := t1) (by simp)).b (by have := (m205.out.rd (g := w35.heap.size) (s := sb) (by simp)).la; omega) (by have := (m205.out.rd (g := w35.heap.size) (s := sb) (by simp)).lb; omega)).mono ?_
    rintro e w258 ⟨rfl, k258⟩
    rw [hssbt1.out]
    have m258 := Lib.hid (m205.out.below k258)
    clear fa206 fb206 fa207 fb207 k258 m205
    have fa259 := (m258.out.bk (g := g2) (s := t2) (by simp)).c0
    have fb259 := (m258.out.bk (g := g2) (s := t2) (by simp)).c1
    have fa260 := (m258.out.bk (g := g3) (s := t3) (by simp)).c0
    have fb260 := (m258.out.bk (g := g3) (s := t3) (by simp)).c1
    have fa261 := (m258.out.bk (g := w27.heap.size) (s := sa) (by simp)).c0
    have fb261 := (m258.out.bk (g := w27.heap.size) (s := sa) (by simp)).c1
    have fl262 := (m258.out.bk (g := g2) (s := t2) (by simp)).lt
    have fl263 := (m258.out.bk (g := g3) (s := t3) (by simp)).lt
    have fl264 := (m258.out.bk (g := w27.heap.size) (s := sa) (by simp)).lt
    go_wp2_with fail
    refine (merge_any t2 sa t3 w258 (m258.out.rd (g := g2) (s := t2) (by simp)) (m258.out.rd (g := w27.heap.size) (s := sa) (by simp)) (m258.out.rd (g := g3) (s := t3) (by simp)) (by have a2 := SR.len P2.out; have a3 := SR.len P3.out; have am := SR.len Psa.out; have ll := LA.out; simp only [one, List.length_cons, List.length_nil] at *; omega)).mono ?_
    rintro e w265 ⟨sx, rfl, Rsx, E, k265⟩
    rw [P2.out, P3.out, Psa.out] at E
    rw [P2.out, P3.out, Psa.out]
    have v0 := merge_valid O2.out OA.out O3.out
    rw [v0.1]
    rw [v0.2] at E
    have Psx := Lib.hid E
    clear E v0
    unfold SR.val
    have m265 := Lib.hid (m258.out.below k265)
    clear fa259 fb259 fa260 fb260 fa261 fb261 fl262 fl263 fl264 k265 m258
    have fa266 := (m265.out.bk (g := g0) (s := t0) (by simp)).c0
    have fb266 := (m265.out.bk (g := g0) (s := t0) (by simp)).c1
    have fa267 := (m265.out.bk (g := g1) (s := t1) (by simp)).c0
    have fb267 := (m265.out.bk (g := g1) (s := t1) (by simp)).c1
    have fa268 := (m265.out.bk (g := w35.heap.size) (s := sb) (by simp)).c0
    have fb268 := (m265.out.bk (g := w35.heap.size) (s := sb) (by simp)).c1
    have fl269 := (m265.out.bk (g := g0) (s := t0) (by simp)).lt
    have fl270 := (m265.out.bk (g := g1) (s := t1) (by simp)).lt
    have fl271 := (m265.out.bk (g := w35.heap.size) (s := sb) (by simp)).lt
    go_wp2_with fail
    have m272 := Lib.hid (m265.out.box sx Rsx)
    generalize hW272 : w265.alloc (Obj.cells #[Value.slice sx.A sx.L.length sx.c, Value.slice sx.B sx.M.length sx.d] 24) = W272 at *
    clear hW272
    clear fa266 fb266 fa267 fb267 fa268 fb268 fl269 fl270 fl271 m265
    clear Rsx
    refine (merge_any t0 sb t1 W272 (m272.out.rd (g := g0) (s := t0) (by simp)) (m272.out.rd (g := w35.heap.size) (s := sb) (by simp)) (m272.out.rd (g := g1) (s := t1) (by simp)) (by have a0 := SR.len P0.out; have a1 := SR.len P1.out; have am := SR.len Psb.out; have ll := LB.out; simp only [one, List.length_cons, List.length_nil] at *; omega)).mono ?_
    rintro e w273 ⟨sy, rfl, Rsy, E, k273⟩
    rw [P0.out, P1.out, Psb.out] at E
    rw [P0.out, P1.out, Psb.out]
    have v0 := merge_valid O0.out OB.out O1.out
    rw [v0.1]
    rw [v0.2] at E
    have Psy := Lib.hid E
    clear E v0
    unfold SR.val
    have m273 := Lib.hid (m272.out.below k273)
    clear  k273 m272
    have fa274 := (m273.out.bk (g := w265.heap.size) (s := sx) (by simp)).c0
    have fb274 := (m273.out.bk (g := w265.heap.size) (s := sx) (by simp)).c1
    have fl275 := (m273.out.bk (g := w265.heap.size) (s := sx) (by simp)).lt
    go_wp2_with fail
    have m276 := Lib.hid (m273.out.box sy Rsy)
    generalize hW276 : w273.alloc (Obj.cells #[Value.slice sy.A sy.L.length sy.c, Value.slice sy.B sy.M.length sy.d] 24) = W276 at *
    clear hW276
    clear fa274 fb274 fl275 m273
    clear Rsy
    have hssxsy := Lib.hid (same_of_p (s := sx) (t := sy) (by rw [Psx.out, Psy.out]; exact mrg_order OS.out hq1.out hq2.out hq3.out hq4.out))
    refine (same2_any sx.A sx.B sy.A sy.B sx.c sx.d sy.c sy.d sx.L sx.M sy.L sy.M W276 (m276.out.rd (g := w265.heap.size) (s := sx) (by simp)).a (m276.out.rd (g := w265.heap.size) (s := sx) (by simp)).b (m276.out.rd (g := w273.heap.size) (s := sy) (by simp)).a (m276.out.rd (g := w273.heap.size) (s := sy) (by simp)).b (by have := (m276.out.rd (g := w265.heap.size) (s := sx) (by simp)).la; omega) (by have := (m276.out.rd (g := w265.heap.size) (s := sx) (by simp)).lb; omega)).mono ?_
    rintro e w277 ⟨rfl, k277⟩
    rw [hssxsy.out]
    have m277 := Lib.hid (m276.out.below k277)
    clear  k277 m276
    go_wp2_with fail
    refine (awake_any _).mono ?_
    rintro e w278 ⟨rfl, k278⟩
    have m278 := Lib.hid (m277.out.below k278)
    clear  k278 m277
    go_wp2_with fail
    go_ret
    exact ⟨rfl, m278.out.be⟩

theorem law_order_any (s : SR) (x : Nat → T) (w : World) (hs : s.Rd0 w) :
    Calls Try.prog 5 #[s.val, v4 x] w fun e w' => e = .returned (.bool true) ∧ Below w.heap.size w w' := by
  by_cases h0 : 100 < (x 0).length
  · exact ord_long0 s x w h0
  by_cases h1 : 100 < (x 1).length
  · exact ord_long1 s x w h0 h1
  by_cases h2 : 100 < (x 2).length
  · exact ord_long2 s x w h0 h1 h2
  by_cases h3 : 100 < (x 3).length
  · exact ord_long3 s x w h0 h1 h2 h3
  cases hg : grs [s] with
  | true => exact ord_great s x w h0 h1 h2 h3 hs hg
  | false =>
    have q : gr s.L s.M = false := by simpa [grs] using hg
    by_cases hc : chk s.L s.M = 0
    · exact ord_main s x w h0 h1 h2 h3 (hs.small q) hg hc
    · exact ord_bad s x w h0 h1 h2 h3 (hs.small q) hg hc
end Go.Proofs.Ytgenloemohcpcaa

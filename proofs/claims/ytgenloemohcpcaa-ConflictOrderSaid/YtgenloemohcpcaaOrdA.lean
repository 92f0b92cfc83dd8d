/- Walk: the statement ConflictOrder. -/
import Derived.Test.YtgenloemohcpcaaOrdM
import Derived.Test.YtgenloemohcpcaaGr0
namespace Go.Proofs.Ytgenloemohcpcaa
open Go.RowKit

/-- Four texts. -/
def v4 (x : Nat → T) : Value := .agg #[tv (x 0), tv (x 1), tv (x 2), tv (x 3)]

theorem idx4 (x : Nat → T) : (∀ w, (Instr.index 33 (.agg #[tv (x 0), tv (x 1), tv (x 2), tv (x 3)]) (.int .i64 0)).run Try.prog w = .ok (tv (x 0)) w) ∧ (∀ w, (Instr.index 33 (.agg #[tv (x 0), tv (x 1), tv (x 2), tv (x 3)]) (.int .i64 1)).run Try.prog w = .ok (tv (x 1)) w) ∧
    (∀ w, (Instr.index 33 (.agg #[tv (x 0), tv (x 1), tv (x 2), tv (x 3)]) (.int .i64 2)).run Try.prog w = .ok (tv (x 2)) w) ∧ (∀ w, (Instr.index 33 (.agg #[tv (x 0), tv (x 1), tv (x 2), tv (x 3)]) (.int .i64 3)).run Try.prog w = .ok (tv (x 3)) w) :=
  ⟨fun _ => by kernel_rfl, fun _ => by kernel_rfl, fun _ => by kernel_rfl, fun _ => by kernel_rfl⟩

theorem s1_new' (W : World) (s : SR) : ∀ j (h : j < [s].length), (W.alloc (.cells #[.slice s.A s.L.length s.c, .slice s.B s.M.length s.d] 24)).cell? ⟨W.heap.size, j * 2, none⟩ = some (.slice [s][j].A [s][j].L.length [s][j].c) ∧ (W.alloc (.cells #[.slice s.A s.L.length s.c, .slice s.B s.M.length s.d] 24)).cell? ⟨W.heap.size, j * 2 + 1, none⟩ = some (.slice [s][j].B [s][j].M.length [s][j].d) := by
  intro j h
  have : j = 0 := by simpa using h
  subst this
  exact two_cells W (Value.slice s.A s.L.length s.c) (Value.slice s.B s.M.length s.d) 24

set_option maxRecDepth 100000 in
set_option maxHeartbeats 4000000 in
theorem ord_long0 (s : SR) (x : Nat → T) (w : World)  (h0 : 100 < (x 0).length) :
    Calls Try.prog 5 #[s.val, v4 x] w fun e w' => e = .returned (.bool true) ∧ Below w.heap.size w w' := by
  obtain ⟨i0, i1, i2, i3⟩ := idx4 x
  unfold SR.val v4
  go_enter Try.func5, Try.ntmps5
  go_wp2_with fail
  refine wp_loop_rounds 5 ?_
  rw [rounds_succ]
  go_wp2_with fail
  refine (awake_any _).mono ?_
  rintro e w1 ⟨rfl, k1⟩
  have K1 := Lib.hid k1
  clear k1
  go_wp2_with fail
  go_ret
  exact ⟨rfl, ((((Below.refl _ _).alloc (Nat.le_refl _) _).alloc (by simp) _).trans (K1.out.mono (by simp; omega)))⟩

set_option maxRecDepth 100000 in
set_option maxHeartbeats 4000000 in
theorem ord_long1 (s : SR) (x : Nat → T) (w : World) (h0 : ¬ 100 < (x 0).length) (h1 : 100 < (x 1).length) :
    Calls Try.prog 5 #[s.val, v4 x] w fun e w' => e = .returned (.bool true) ∧ Below w.heap.size w w' := by
  obtain ⟨i0, i1, i2, i3⟩ := idx4 x
  unfold SR.val v4
  go_enter Try.func5, Try.ntmps5
  go_wp2_with fail
  refine wp_loop_rounds 5 ?_
  rw [rounds_succ]
  go_wp2_with fail
  rw [rounds_succ]
  go_wp2_with fail
  refine (awake_any _).mono ?_
  rintro e w1 ⟨rfl, k1⟩
  have K1 := Lib.hid k1
  clear k1
  go_wp2_with fail
  go_ret
  exact ⟨rfl, ((((Below.refl _ _).alloc (Nat.le_refl _) _).alloc (by simp) _).trans (K1.out.mono (by simp; omega)))⟩

set_option maxRecDepth 100000 in
set_option maxHeartbeats 4000000 in
theorem ord_long2 (s : SR) (x : Nat → T) (w : World) (h0 : ¬ 100 < (x 0).length) (h1 : ¬ 100 < (x 1).length) (h2 : 100 < (x 2).length) :
    Calls Try.prog 5 #[s.val, v4 x] w fun e w' => e = .returned (.bool true) ∧ Below w.heap.size w w' := by
  obtain ⟨i0, i1, i2, i3⟩ := idx4 x
  unfold SR.val v4
  go_enter Try.func5, Try.ntmps5
  go_wp2_with fail
  refine wp_loop_rounds 5 ?_
  rw [rounds_succ]
  go_wp2_with fail
  rw [rounds_succ]
  go_wp2_with fail
  rw [rounds_succ]
  go_wp2_with fail
  refine (awake_any _).mono ?_
  rintro e w1 ⟨rfl, k1⟩
  have K1 := Lib.hid k1
  clear k1
  go_wp2_with fail
  go_ret
  exact ⟨rfl, ((((Below.refl _ _).alloc (Nat.le_refl _) _).alloc (by simp) _).trans (K1.out.mono (by simp; omega)))⟩

set_option maxRecDepth 100000 in
set_option maxHeartbeats 4000000 in
theorem ord_long3 (s : SR) (x : Nat → T) (w : World) (h0 : ¬ 100 < (x 0).length) (h1 : ¬ 100 < (x 1).length) (h2 : ¬ 100 < (x 2).length) (h3 : 100 < (x 3).length) :
    Calls Try.prog 5 #[s.val, v4 x] w fun e w' => e = .returned (.bool true) ∧ Below w.heap.size w w' := by
  obtain ⟨i0, i1, i2, i3⟩ := idx4 x
  unfold SR.val v4
  go_enter Try.func5, Try.ntmps5
  go_wp2_with fail
  refine wp_loop_rounds 5 ?_
  rw [rounds_succ]
  go_wp2_with fail
  rw [rounds_succ]
  go_wp2_with fail
  rw [rounds_succ]
  go_wp2_with fail
  rw [rounds_succ]
  go_wp2_with fail
  refine (awake_any _).mono ?_
  rintro e w1 ⟨rfl, k1⟩
  have K1 := Lib.hid k1
  clear k1
  go_wp2_with fail
  go_ret
  exact ⟨rfl, ((((Below.refl _ _).alloc (Nat.le_refl _) _).alloc (by simp) _).trans (K1.out.mono (by simp; omega)))⟩

theorem arr_new (w : World) (a b c : Obj) : (((w.alloc a).alloc b).alloc c).heap[w.heap.size + 1]? = some b := by
  have h1 : ((w.alloc a).alloc b).heap[(w.alloc a).heap.size]? = some b := heap_alloc_new (w.alloc a) b
  have h2 := Below.heap_alloc ((w.alloc a).alloc b) c (w.alloc a).heap.size (by simp)
  rw [h1] at h2
  simpa using h2
theorem arr_cells {w : World} {g : Nat} {x : Nat → T} (h : w.heap[g]? = some (.cells #[tv (x 0), tv (x 1), tv (x 2), tv (x 3)] 33)) : w.cell? ⟨g, 0, none⟩ = some (tv (x 0)) ∧ w.cell? ⟨g, 1, none⟩ = some (tv (x 1)) ∧ w.cell? ⟨g, 2, none⟩ = some (tv (x 2)) ∧ w.cell? ⟨g, 3, none⟩ = some (tv (x 3)) := by
  refine ⟨?_, ?_, ?_, ?_⟩ <;> simp [World.cell?, h]

set_option maxRecDepth 100000 in
set_option maxHeartbeats 4000000 in
theorem ord_great (s : SR) (x : Nat → T) (w : World) (h0 : ¬ 100 < (x 0).length) (h1 : ¬ 100 < (x 1).length) (h2 : ¬ 100 < (x 2).length) (h3 : ¬ 100 < (x 3).length) (hs : s.Rd0 w) (hg : grs [s] = true) :
    Calls Try.prog 5 #[s.val, v4 x] w fun e w' => e = .returned (.bool true) ∧ Below w.heap.size w w' := by
  have ss := s1_new' ((w.alloc (Obj.cells #[Value.slice s.A s.L.length s.c, Value.slice s.B s.M.length s.d] 24)).alloc (Obj.cells #[tv (x 0), tv (x 1), tv (x 2), tv (x 3)] 33)) s
  have hz : ((w.alloc (Obj.cells #[Value.slice s.A s.L.length s.c, Value.slice s.B s.M.length s.d] 24)).alloc (Obj.cells #[tv (x 0), tv (x 1), tv (x 2), tv (x 3)] 33)).heap.size = w.heap.size + 1 + 1 := by simp
  rw [hz] at ss
  have k : Below w.heap.size w (((w.alloc (Obj.cells #[Value.slice s.A s.L.length s.c, Value.slice s.B s.M.length s.d] 24)).alloc (Obj.cells #[tv (x 0), tv (x 1), tv (x 2), tv (x 3)] 33)).alloc (Obj.cells #[Value.slice s.A s.L.length s.c, Value.slice s.B s.M.length s.d] 24)) := (((Below.refl _ _).alloc (Nat.le_refl _) _).alloc (by simp) _).alloc (by simp; omega) _
  have g1 : w.heap.size + 1 + 1 < (((w.alloc (Obj.cells #[Value.slice s.A s.L.length s.c, Value.slice s.B s.M.length s.d] 24)).alloc (Obj.cells #[tv (x 0), tv (x 1), tv (x 2), tv (x 3)] 33)).alloc (Obj.cells #[Value.slice s.A s.L.length s.c, Value.slice s.B s.M.length s.d] 24)).heap.size := by simp
  have bk : BK (((w.alloc (Obj.cells #[Value.slice s.A s.L.length s.c, Value.slice s.B s.M.length s.d] 24)).alloc (Obj.cells #[tv (x 0), tv (x 1), tv (x 2), tv (x 3)] 33)).alloc (Obj.cells #[Value.slice s.A s.L.length s.c, Value.slice s.B s.M.length s.d] 24)) w.heap.size (.slice s.A s.L.length s.c) (.slice s.B s.M.length s.d) := ((BK.new w _ _).alloc _).alloc _
  have hx : (((w.alloc (Obj.cells #[Value.slice s.A s.L.length s.c, Value.slice s.B s.M.length s.d] 24)).alloc (Obj.cells #[tv (x 0), tv (x 1), tv (x 2), tv (x 3)] 33)).alloc (Obj.cells #[Value.slice s.A s.L.length s.c, Value.slice s.B s.M.length s.d] 24)).heap[w.heap.size + 1]? = some (Obj.cells #[tv (x 0), tv (x 1), tv (x 2), tv (x 3)] 33) := arr_new w (Obj.cells #[Value.slice s.A s.L.length s.c, Value.slice s.B s.M.length s.d] 24) (Obj.cells #[tv (x 0), tv (x 1), tv (x 2), tv (x 3)] 33) (Obj.cells #[Value.slice s.A s.L.length s.c, Value.slice s.B s.M.length s.d] 24)
  have SSN := Lib.hid ss
  have K := Lib.hid k
  have HG := Lib.hid hg
  have KK := Lib.hid bk
  have HX := Lib.hid hx
  clear ss hz k hg bk hx
  obtain ⟨i0, i1, i2, i3⟩ := idx4 x
  unfold SR.val v4
  go_enter Try.func5, Try.ntmps5
  go_wp2_with fail
  refine wp_loop_rounds 5 ?_
  rw [rounds_succ]
  go_wp2_with fail
  rw [rounds_succ]
  go_wp2_with fail
  rw [rounds_succ]
  go_wp2_with fail
  rw [rounds_succ]
  go_wp2_with fail
  rw [rounds_succ]
  go_wp2_with fail
  generalize ((w.alloc (Obj.cells #[Value.slice s.A s.L.length s.c, Value.slice s.B s.M.length s.d] 24)).alloc (Obj.cells #[tv (x 0), tv (x 1), tv (x 2), tv (x 3)] 33)).alloc (Obj.cells #[Value.slice s.A s.L.length s.c, Value.slice s.B s.M.length s.d] 24) = W at *
  refine (great0_any [s] (w.heap.size + 1 + 1) 1 W g1 (fun t ht => by simp only [List.mem_cons, List.not_mem_nil, or_false] at ht; subst ht; exact hs.below K.out) (by simp) (fun j hj => (SSN.out j hj).1) (fun j hj => (SSN.out j hj).2)).mono ?_
  rintro e w1 ⟨rfl, k1⟩
  rw [HG.out]
  have K1 := Lib.hid (K.out.trans (k1.mono K.out.size))
  clear k1 K SSN g1 KK HX
  go_wp2_with fail
  refine (awake_any _).mono ?_
  rintro e w2 ⟨rfl, k2⟩
  have K2 := Lib.hid (K1.out.trans (k2.mono K1.out.size))
  clear k2
  go_wp2_with fail
  go_ret
  exact ⟨rfl, K2.out⟩

theorem blk_lt {w : World} {g : Nat} {o : Obj} (h : w.heap[g]? = some o) : g < w.heap.size := by
  rcases Nat.lt_or_ge g w.heap.size with h' | h'
  · exact h'
  · rw [Array.getElem?_eq_none h'] at h; cases h

set_option maxRecDepth 100000 in
set_option maxHeartbeats 4000000 in
theorem ord_bad (s : SR) (x : Nat → T) (w : World) (h0 : ¬ 100 < (x 0).length) (h1 : ¬ 100 < (x 1).length) (h2 : ¬ 100 < (x 2).length) (h3 : ¬ 100 < (x 3).length) (hs : s.Rd w) (hg : grs [s] = false) (hc : chk s.L s.M ≠ 0) :
    Calls Try.prog 5 #[s.val, v4 x] w fun e w' => e = .returned (.bool true) ∧ Below w.heap.size w w' := by
  have q0 : (chk s.L s.M != 0) = true := by simpa using hc
  clear hc
  have ss := s1_new' ((w.alloc (Obj.cells #[Value.slice s.A s.L.length s.c, Value.slice s.B s.M.length s.d] 24)).alloc (Obj.cells #[tv (x 0), tv (x 1), tv (x 2), tv (x 3)] 33)) s
  have hz : ((w.alloc (Obj.cells #[Value.slice s.A s.L.length s.c, Value.slice s.B s.M.length s.d] 24)).alloc (Obj.cells #[tv (x 0), tv (x 1), tv (x 2), tv (x 3)] 33)).heap.size = w.heap.size + 1 + 1 := by simp
  rw [hz] at ss
  have k : Below w.heap.size w (((w.alloc (Obj.cells #[Value.slice s.A s.L.length s.c, Value.slice s.B s.M.length s.d] 24)).alloc (Obj.cells #[tv (x 0), tv (x 1), tv (x 2), tv (x 3)] 33)).alloc (Obj.cells #[Value.slice s.A s.L.length s.c, Value.slice s.B s.M.length s.d] 24)) := (((Below.refl _ _).alloc (Nat.le_refl _) _).alloc (by simp) _).alloc (by simp; omega) _
  have g1 : w.heap.size + 1 + 1 < (((w.alloc (Obj.cells #[Value.slice s.A s.L.length s.c, Value.slice s.B s.M.length s.d] 24)).alloc (Obj.cells #[tv (x 0), tv (x 1), tv (x 2), tv (x 3)] 33)).alloc (Obj.cells #[Value.slice s.A s.L.length s.c, Value.slice s.B s.M.length s.d] 24)).heap.size := by simp
  have bk : BK (((w.alloc (Obj.cells #[Value.slice s.A s.L.length s.c, Value.slice s.B s.M.length s.d] 24)).alloc (Obj.cells #[tv (x 0), tv (x 1), tv (x 2), tv (x 3)] 33)).alloc (Obj.cells #[Value.slice s.A s.L.length s.c, Value.slice s.B s.M.length s.d] 24)) w.heap.size (.slice s.A s.L.length s.c) (.slice s.B s.M.length s.d) := ((BK.new w _ _).alloc _).alloc _
  have hx : (((w.alloc (Obj.cells #[Value.slice s.A s.L.length s.c, Value.slice s.B s.M.length s.d] 24)).alloc (Obj.cells #[tv (x 0), tv (x 1), tv (x 2), tv (x 3)] 33)).alloc (Obj.cells #[Value.slice s.A s.L.length s.c, Value.slice s.B s.M.length s.d] 24)).heap[w.heap.size + 1]? = some (Obj.cells #[tv (x 0), tv (x 1), tv (x 2), tv (x 3)] 33) := arr_new w (Obj.cells #[Value.slice s.A s.L.length s.c, Value.slice s.B s.M.length s.d] 24) (Obj.cells #[tv (x 0), tv (x 1), tv (x 2), tv (x 3)] 33) (Obj.cells #[Value.slice s.A s.L.length s.c, Value.slice s.B s.M.length s.d] 24)
  have SSN := Lib.hid ss
  have K := Lib.hid k
  have HG := Lib.hid hg
  have KK := Lib.hid bk
  have HX := Lib.hid hx
  clear ss hz k hg bk hx
  obtain ⟨i0, i1, i2, i3⟩ := idx4 x
  unfold SR.val v4
  go_enter Try.func5, Try.ntmps5
  go_wp2_with fail
  refine wp_loop_rounds 5 ?_
  rw [rounds_succ]
  go_wp2_with fail
  rw [rounds_succ]
  go_wp2_with fail
  rw [rounds_succ]
  go_wp2_with fail
  rw [rounds_succ]
  go_wp2_with fail
  rw [rounds_succ]
  go_wp2_with fail
  generalize ((w.alloc (Obj.cells #[Value.slice s.A s.L.length s.c, Value.slice s.B s.M.length s.d] 24)).alloc (Obj.cells #[tv (x 0), tv (x 1), tv (x 2), tv (x 3)] 33)).alloc (Obj.cells #[Value.slice s.A s.L.length s.c, Value.slice s.B s.M.length s.d] 24) = W at *
  refine (great_any [s] (w.heap.size + 1 + 1) 1 W g1 (fun t ht => by simp only [List.mem_cons, List.not_mem_nil, or_false] at ht; subst ht; exact hs.below K.out) (by simp) (fun j hj => (SSN.out j hj).1) (fun j hj => (SSN.out j hj).2)).mono ?_
  rintro e w1 ⟨rfl, k1⟩
  rw [HG.out]
  have m0 := Lib.hid (show Mem w w1 [(w.heap.size, s)] from ⟨K.out.trans (k1.mono K.out.size), fun p hp => by simp only [List.mem_cons, List.not_mem_nil, or_false] at hp; subst hp; exact ⟨KK.out.below k1 KK.out.lt, (hs.below K.out).below k1⟩⟩)
  have X1 := Lib.hid ((k1.block (w.heap.size + 1) (by omega)).trans HX.out)
  clear k1 K SSN g1 KK HX HG hs
  have fa1 := (m0.out.bk (g := w.heap.size) (s := s) (by simp)).c0
  have fb1 := (m0.out.bk (g := w.heap.size) (s := s) (by simp)).c1
  have fl2 := (m0.out.bk (g := w.heap.size) (s := s) (by simp)).lt
  go_wp2_with fail
  refine (check_any s.A s.B s.c s.d s.L s.M w1 (m0.out.rd (g := w.heap.size) (s := s) (by simp)).a (m0.out.rd (g := w.heap.size) (s := s) (by simp)).b (by have := (m0.out.rd (g := w.heap.size) (s := s) (by simp)).la; omega) (m0.out.rd (g := w.heap.size) (s := s) (by simp)).lb).mono ?_
  rintro e w3 ⟨rfl, k3⟩
  have X2 := Lib.hid ((k3.block (w.heap.size + 1) (blk_lt X1.out)).trans X1.out)
  clear X1
  have m3 := Lib.hid (m0.out.below k3)
  clear fa1 fb1 fl2 k3 m0
  go_wp2_with fail
  refine (awake_any _).mono ?_
  rintro e w4 ⟨rfl, k4⟩
  have m4 := Lib.hid (m3.out.below k4)
  clear  k4 m3
  go_wp2_with fail
  go_ret
  exact ⟨rfl, m4.out.be⟩

end Go.Proofs.Ytgenloemohcpcaa

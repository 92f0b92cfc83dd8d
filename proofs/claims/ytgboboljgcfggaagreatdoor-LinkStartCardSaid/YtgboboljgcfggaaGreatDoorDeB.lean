/- Walk: a block is read. -/
import Derived.Test.YtgboboljgcfggaaGreatDoorDeP
import Derived.Test.YtgboboljgcfggaaGreatDoorM7
namespace Go.Proofs.YtgboboljgcfggaaGreatDoor
open Go.RowKit

theorem results_blk {fn : Func} {p : Tmp} (h : fn.results = #[.cell p 69]) (tmps : Array Value) (w : World) (a : Addr) (x y z : Value) (hp : tmps.getD p undef = .pointer (some a)) (h0 : w.cell? a = some x) (h1 : w.cell? ⟨a.block, a.off + 1, none⟩ = some y) (h2 : w.cell? ⟨a.block, a.off + 2, none⟩ = some z) : (results fn tmps).run Tryz.prog w = .ok (.agg #[x, y, z]) w := by
  have ha := Tryz.isAgg69
  have hz := Tryz.sizeOf69
  rw [results_cell1 h, hp]
  simp [go_sem, ha, hz, loadVar, h0, h1, h2]
/-- How much the reader in a box may still read. -/
def msrAt (rb : Nat) (V : World) : Nat := match V.cell? ⟨rb, 0, none⟩, V.cell? ⟨rb, 1, none⟩ with
  | some (.string t), some (.bool b) => if b then 0 else t.size + 1
  | _, _ => 0
theorem msrAt_eq {rb : Nat} {s : RS} {V : World} (h : RdS rb s V) : msrAt rb V = msr s := by
  obtain ⟨c0, c1, -⟩ := h.c
  unfold msrAt msr
  rw [c0, c1]
  rfl
theorem dcel3 {V : World} {k : Nat} {x y z : Value} {t : TypeId} (h : V.heap[k]? = some (.cells #[x, y, z] t (0, 0))) : V.cell? ⟨k, 0, none⟩ = some x ∧ V.cell? ⟨k, 1, none⟩ = some y ∧ V.cell? ⟨k, 2, none⟩ = some z ∧ ∀ j, V.frozen? ⟨k, j, none⟩ = false :=
  ⟨by rw [Lib.cell_of_heap h]; rfl, by rw [Lib.cell_of_heap h]; rfl, by rw [Lib.cell_of_heap h]; rfl, frz h⟩
theorem set3 {V : World} {k : Nat} {x y z : Value} {t : TypeId} (h : V.heap[k]? = some (.cells #[x, y, z] t (0, 0))) (u : Value) : (V.setCell ⟨k, 0, none⟩ u).heap[k]? = some (.cells #[u, y, z] t (0, 0)) ∧ (V.setCell ⟨k, 1, none⟩ u).heap[k]? = some (.cells #[x, u, z] t (0, 0)) ∧ (V.setCell ⟨k, 2, none⟩ u).heap[k]? = some (.cells #[x, y, u] t (0, 0)) := by
  refine ⟨?_, ?_, ?_⟩ <;> simp [World.setCell, Array.getElem?_modify, h]
theorem set_oth {V : World} {k j i : Nat} (u : Value) (h : k ≠ j) : (V.setCell ⟨j, i, none⟩ u).heap[k]? = V.heap[k]? := Below.heap_setCell _ _ _ _ (by show k ≠ j; exact h)
/-- A block that is being read. -/
structure DL (w0 : World) (rb k2 kb base : Nat) (cap : Int) (pm : Bool) (s : RS) (v : Value) (L : List Ins) (V : World) : Prop where
  r : RdS rb s V
  z : V.heap[k2]? = some (.cells #[.int .i64 0, .bool false, .slice none 0 0] 69 (0, 0))
  b : V.heap[kb]? = some (.cells #[.int .i64 cap, .bool pm, v] 69 (0, 0))
  o : OR 71 4 Ins.cs V base v L
  g : w0.grownBy V (some rb)
  lt : rb < w0.heap.size ∧ w0.heap.size ≤ k2 ∧ k2 < kb ∧ kb < base ∧ base ≤ V.heap.size
section
variable {w0 V V' : World} {rb k2 kb base : Nat} {cap : Int} {pm : Bool} {s s' : RS} {v v' : Value} {L : List Ins}
theorem ne_own {e : TypeId} {n : Nat} {cs : Ins → List Value} (h : OR e n cs V base v L) (hr : rb < base) : v.ownBlock = none ∨ v.ownBlock ≠ some rb := by
  cases hq : v.ownBlock with
  | none => exact .inl rfl
  | some j => right; intro e; have := (h.lt j hq).1; have := Option.some.inj e; omega
/-- The reader has gone on. -/
theorem DL.rd (h : DL w0 rb k2 kb base cap pm s v L V) (r : RdS rb s' V') (g : V.grownBy V' (some rb)) : DL w0 rb k2 kb base cap pm s' v L V' := by
  obtain ⟨l1, l2, l3, l4, l5⟩ := h.lt
  exact ⟨r, (g.block k2 (heap_lt h.z) (fun e => by have := Option.some.inj e; omega)).trans h.z, (g.block kb (heap_lt h.b) (fun e => by have := Option.some.inj e; omega)).trans h.b, h.o.kept g (ne_own h.o (by omega)), h.g.trans g, l1, l2, l3, l4, Nat.le_trans l5 g.size⟩
theorem DL.gr (h : DL w0 rb k2 kb base cap pm s v L V) (g : Gr V V') : DL w0 rb k2 kb base cap pm s v L V' := by
  obtain ⟨l1, l2, l3, l4, l5⟩ := h.lt
  exact ⟨gr_h g h.r, gr_h g h.z, gr_h g h.b, h.o.gr g, h.g.trans (World.grownBy.but g _), l1, l2, l3, l4, Nat.le_trans l5 g.size⟩
theorem DL.c (h : DL w0 rb k2 kb base cap pm s v L V) : V.cell? ⟨kb, 2, none⟩ = some v ∧ V.frozen? ⟨kb, 2, none⟩ = false := by
  obtain ⟨-, -, c, f⟩ := dcel3 h.b
  exact ⟨c, f 2⟩
/-- An instruction has been put to the others; the box gets the new slice. -/
theorem DL.mid (h : DL w0 rb k2 kb base cap pm s v L V) (g : V.grownBy V' v.ownBlock) : RdS rb s V' ∧ V'.heap[kb]? = some (.cells #[.int .i64 cap, .bool pm, v] 69 (0, 0)) ∧ V'.cell? ⟨kb, 2, none⟩ = some v ∧ V'.frozen? ⟨kb, 2, none⟩ = false := by
  obtain ⟨l1, l2, l3, l4, l5⟩ := h.lt
  have q : ∀ k, k < base → some k ≠ v.ownBlock := fun k hk e => by have := (h.o.lt k e.symm).1; omega
  have hb := (g.block kb (heap_lt h.b) (q kb (by omega))).trans h.b
  obtain ⟨-, -, c, f⟩ := dcel3 hb
  exact ⟨(g.block rb (heap_lt h.r) (q rb (by omega))).trans h.r, hb, c, f 2⟩
theorem DL.put (h : DL w0 rb k2 kb base cap pm s v L V) {M : List Ins} (g : V.grownBy V' v.ownBlock) (o : OR 71 4 Ins.cs V' base v' M) : DL w0 rb k2 kb base cap pm s v' M (V'.setCell ⟨kb, 2, none⟩ v') := by
  obtain ⟨l1, l2, l3, l4, l5⟩ := h.lt
  obtain ⟨q1, q2, -, -⟩ := h.mid g
  have q : ∀ k, k < base → some k ≠ v.ownBlock := fun k hk e => by have := (h.o.lt k e.symm).1; omega
  have gs : V'.grownBy (V'.setCell ⟨kb, 2, none⟩ v') (some kb) := grown_set kb 2 v'
  refine ⟨(set_oth _ (by omega)).trans q1, (set_oth _ (by omega)).trans ((g.block k2 (heap_lt h.z) (q k2 (by omega))).trans h.z), (set3 q2 v').2.2, ?_, ?_, l1, l2, l3, l4, ?_⟩
  · refine o.kept gs ?_
    cases hq : v'.ownBlock with
    | none => exact .inl rfl
    | some j => right; intro e; have := (o.lt j hq).1; have := Option.some.inj e; omega
  · refine ⟨gs.os.trans (g.os.trans h.g.os), gs.tape.trans (g.tape.trans h.g.tape), gs.output.trans (g.output.trans h.g.output), Nat.le_trans h.g.size (Nat.le_trans g.size gs.size), fun k hk hn => ?_⟩
    rw [set_oth _ (by omega), g.block k (Nat.lt_of_lt_of_le hk h.g.size) (q k (by omega))]
    exact h.g.block k hk hn
  · exact Nat.le_trans l5 (Nat.le_trans g.size gs.size)
end
theorem or_low {e : TypeId} {n : Nat} {cs : Ins → List Value} {V : World} {b b' : Nat} {v : Value} {L : List Ins} (h : OR e n cs V b v L) (hb : b' ≤ b) : OR e n cs V b' v L := by
  refine ⟨h.1, ?_⟩
  rcases h.2 with h1 | ⟨g, cap, cur, e1, h2, r⟩
  · exact .inl h1
  · exact .inr ⟨g, cap, cur, e1, Nat.le_trans hb h2, r⟩
/-- The end: the box's cells go into the result's. -/
theorem DL.fin {w0 V : World} {rb k2 kb base : Nat} {cap : Int} {pm : Bool} {s : RS} {v : Value} {L : List Ins} (h : DL w0 rb k2 kb base cap pm s v L V) : (((V.setCell ⟨k2, 0, none⟩ (.int .i64 cap)).setCell ⟨k2, 1, none⟩ (.bool pm)).setCell ⟨k2, 2, none⟩ v).heap[k2]? = some (.cells #[.int .i64 cap, .bool pm, v] 69 (0, 0)) ∧ RdS rb s (((V.setCell ⟨k2, 0, none⟩ (.int .i64 cap)).setCell ⟨k2, 1, none⟩ (.bool pm)).setCell ⟨k2, 2, none⟩ v) ∧ OR 71 4 Ins.cs (((V.setCell ⟨k2, 0, none⟩ (.int .i64 cap)).setCell ⟨k2, 1, none⟩ (.bool pm)).setCell ⟨k2, 2, none⟩ v) w0.heap.size v L ∧ w0.grownBy (((V.setCell ⟨k2, 0, none⟩ (.int .i64 cap)).setCell ⟨k2, 1, none⟩ (.bool pm)).setCell ⟨k2, 2, none⟩ v) (some rb) := by
  obtain ⟨l1, l2, l3, l4, l5⟩ := h.lt
  have g : V.grownBy (((V.setCell ⟨k2, 0, none⟩ (.int .i64 cap)).setCell ⟨k2, 1, none⟩ (.bool pm)).setCell ⟨k2, 2, none⟩ v) (some k2) := ((grown_set k2 0 _).trans (grown_set k2 1 _)).trans (grown_set k2 2 _)
  refine ⟨(set3 (set3 (set3 h.z _).1 _).2.1 _).2.2, (g.block rb (heap_lt h.r) (fun e => by have := Option.some.inj e; omega)).trans h.r, or_low (h.o.kept g (ne_own h.o (by omega))) (by omega), g.os.trans h.g.os, g.tape.trans h.g.tape, g.output.trans h.g.output, Nat.le_trans h.g.size g.size, fun k hk hn => (g.block k (Nat.lt_of_lt_of_le hk h.g.size) (fun e => by have := Option.some.inj e; omega)).trans (h.g.block k hk hn)⟩
theorem app_ins {L : List Ins} {x : Ins} {m b : Nat} {v7 : Value} {U : World} (hn : L.length = m) (o : OR 71 4 Ins.cs U b v7 (L ++ [x])) : ∃ A c, v7 = .slice A (m + 1) c := by
  obtain ⟨A, c, e, -⟩ := o.form elI.hn
  exact ⟨A, c, by rw [e, List.length_append, hn]; rfl⟩
/-- What the reader's block leaves. -/
def DbP (rb : Nat) (s : RS) (V : World) (e : Ending) (V' : World) : Prop := ∃ v : Value, e = .returned (.agg #[.int .i64 (rdB true s).1.cap, .bool (rdB true s).1.param, v]) ∧ OR 71 4 Ins.cs V' V.heap.size v (rdB true s).1.ins ∧ RdS rb (rdB true s).2 V' ∧ V.grownBy V' (some rb)
theorem dbp_of {rb : Nat} {s s' : RS} {V W : World} {cap : Int} {pm : Bool} {v : Value} {L : List Ins} (E : rdB true s = (⟨cap, pm, L⟩, s')) (o : OR 71 4 Ins.cs W V.heap.size v L) (r : RdS rb s' W) (g : V.grownBy W (some rb)) : DbP rb s V (.returned (.agg #[.int .i64 cap, .bool pm, v])) W :=
  ⟨v, by rw [E], by rw [E]; exact o, by rw [E]; exact r, g⟩
attribute [local irreducible] Calls in
set_option maxRecDepth 100000 in
set_option maxHeartbeats 8000000 in
theorem dblock_any (rb : Nat) (s : RS) (V : World) (h : RdS rb s V) (hl : s.rest.length ≤ 100000) : Calls Tryz.prog 24 #[.pointer (some ⟨rb, 0, none⟩)] V (DbP rb s V) := by
  obtain ⟨cap, s1, e1⟩ : ∃ n s', rdN s = (n, s') := ⟨_, _, rfl⟩
  obtain ⟨pn, s2, e2⟩ : ∃ n s', rdN s1 = (n, s') := ⟨_, _, rfl⟩
  obtain ⟨s3, e3⟩ : ∃ s', flag (true && decide (1 < pn)) s2 = s' := ⟨_, rfl⟩
  obtain ⟨n, s4, e4⟩ : ∃ n s', rdN s3 = (n, s') := ⟨_, _, rfl⟩
  have E := Lib.hid (show rdB true s = (⟨cap, pn == 1, (rdL (rdI true) n.toNat s4 []).1⟩, (rdL (rdI true) n.toNat s4 []).2) from by unfold rdB; simp only [e1, e2, e3, e4])
  have nn := rdN_nn s3
  have n4 := rdN_le s3
  rw [e4] at nn n4
  simp only at nn n4
  have q1 := (rdN_con s).1
  have q2 := (rdN_con s1).1
  have q3 := (rdN_con s3).1
  rw [e1] at q1
  rw [e2] at q2
  rw [e4] at q3
  have q4 : s3.rest = s2.rest := by rw [← e3]; rfl
  have q5 := congrArg List.length q4
  simp only at q1 q2 q3
  have R1 := Lib.hid (fun W (h : RdS rb s W) => show Calls Tryz.prog 23 #[.pointer (some ⟨rb, 0, none⟩)] W (RdP rb (iv cap) s1 W) from by have := rnum_any rb s W h (by omega); rwa [e1] at this)
  have R2 := Lib.hid (fun W (h : RdS rb s1 W) => show Calls Tryz.prog 23 #[.pointer (some ⟨rb, 0, none⟩)] W (RdP rb (iv pn) s2 W) from by have := rnum_any rb s1 W h (by omega); rwa [e2] at this)
  have R3 := Lib.hid (fun W (h : RdS rb s3 W) => show Calls Tryz.prog 23 #[.pointer (some ⟨rb, 0, none⟩)] W (RdP rb (iv n) s4 W) from by have := rnum_any rb s3 W h (by omega); rwa [e4] at this)
  have E3 := Lib.hid e3
  have HL4 := Lib.hid (show s4.rest.length ≤ 100000 from by omega)
  have HLB := Lib.hid (heap_lt h)
  have GA := Lib.hid (gr_al V (.cells #[.int .i64 0, .bool false, .slice none 0 0] 69))
  have HR := Lib.hid (show RdS rb s (V.alloc (.cells #[.int .i64 0, .bool false, .slice none 0 0] 69)) from gr_h (gr_al _ _) h)
  have HZ := Lib.hid (al_new V (.cells #[.int .i64 0, .bool false, .slice none 0 0] 69))
  obtain ⟨k2, hk2⟩ : ∃ k, V.heap.size = k := ⟨_, rfl⟩
  have HK2 := Lib.hid hk2
  clear h q1 q2 q3 q4 q5 e1 e2 e3 e4 hl
  go_enter Tryz.func24, Tryz.ntmps24
  go_upto_region 1 with fail
  rw [hk2] at HZ HLB
  clear hk2
  have HS0 := Lib.hid (show (V.alloc (.cells #[.int .i64 0, .bool false, .slice none 0 0] 69)).heap.size = k2 + 1 from by rw [← HK2.out]; simp)
  generalize V.alloc (.cells #[.int .i64 0, .bool false, .slice none 0 0] 69) = V0 at *
  go_upto_region 2 with (go_at_call 23; refine (R1.out _ HR.out).mono ?_; rintro e V1 ⟨rfl, r1, g1⟩; have S1 := Lib.hid r1; have G1 := Lib.hid g1; clear r1 g1)
  have GB := Lib.hid (gr_al V1 (.cells #[.int .i64 cap, .bool false, .slice none 0 0] 69))
  have HB := Lib.hid (al_new V1 (.cells #[.int .i64 cap, .bool false, .slice none 0 0] 69))
  have HZ1 := Lib.hid (show V1.heap[k2]? = some (.cells #[.int .i64 0, .bool false, .slice none 0 0] 69 (0, 0)) from (G1.out.block k2 (heap_lt HZ.out) (fun e => by have := Option.some.inj e; have := HLB.out; omega)).trans HZ.out)
  have HS1 := Lib.hid (show k2 + 1 ≤ V1.heap.size from by have := G1.out.size; have := HS0.out; omega)
  obtain ⟨kb, hkb⟩ : ∃ k, V1.heap.size = k := ⟨_, rfl⟩
  have HSZ := Lib.hid (show (V1.alloc (.cells #[.int .i64 cap, .bool false, .slice none 0 0] 69)).heap.size = kb + 1 from by rw [← hkb]; simp)
  rw [hkb] at HB HS1 ⊢
  clear hkb
  have D0 := Lib.hid (show DL V rb k2 kb (kb + 1) cap false s1 (.slice none 0 0) [] (V1.alloc (.cells #[.int .i64 cap, .bool false, .slice none 0 0] 69)) from
    ⟨gr_h GB.out S1.out, gr_h GB.out HZ1.out, HB.out, OR.nil, ((World.grownBy.but GA.out _).trans G1.out).trans (World.grownBy.but GB.out _), by rw [HK2.out]; exact HLB.out, by rw [HK2.out]; exact Nat.le_refl _, by have := HS1.out; omega, by omega, by rw [HSZ.out]; exact Nat.le_refl _⟩)
  generalize V1.alloc (.cells #[.int .i64 cap, .bool false, .slice none 0 0] 69) = V2 at *
  clear GB HB HZ1 HSZ S1 G1 HZ HR R1
  go_upto_region 3 with (go_at_call 23; refine (R2.out _ D0.out.r).mono ?_; rintro e V3 ⟨rfl, r1, g1⟩; have D1 := Lib.hid (D0.out.rd r1 g1); clear r1 g1)
  have D2 : ∃ V4, Hid (DL V rb k2 kb (kb + 1) cap (pn == 1) s3 (.slice none 0 0) [] V4) ∧ V4 = (if 1 < pn then V3.setCell ⟨rb, 1, none⟩ (.bool true) else V3).setCell ⟨kb, 1, none⟩ (.bool (pn == 1)) := by
    refine ⟨_, ?_, rfl⟩
    have key : ∀ W, DL V rb k2 kb (kb + 1) cap false s3 (.slice none 0 0) [] W → DL V rb k2 kb (kb + 1) cap (pn == 1) s3 (.slice none 0 0) [] (W.setCell ⟨kb, 1, none⟩ (.bool (pn == 1))) := fun W h => by
      obtain ⟨l1, l2, l3, l4, l5⟩ := h.lt
      have gs : W.grownBy (W.setCell ⟨kb, 1, none⟩ (.bool (pn == 1))) (some kb) := grown_set kb 1 _
      refine ⟨(set_oth _ (by omega)).trans h.r, (set_oth _ (by omega)).trans h.z, (set3 h.b _).2.1, OR.nil, ⟨gs.os.trans h.g.os, gs.tape.trans h.g.tape, gs.output.trans h.g.output, Nat.le_trans h.g.size gs.size, fun k hk hn => (set_oth _ (by omega)).trans (h.g.block k hk hn)⟩, l1, l2, l3, l4, Nat.le_trans l5 gs.size⟩
    apply Lib.hid
    apply key
    have h3 := E3.out
    by_cases hp : 1 < pn
    · rw [if_pos hp]
      have e : s3 = ⟨s2.rest, true⟩ := by rw [← h3]; unfold flag; simp [hp]
      rw [e]
      exact D1.out.rd (D1.out.r.set1 true) (grown_set rb 1 _)
    · rw [if_neg hp]
      have e : s3 = s2 := by rw [← h3]; unfold flag; simp [hp]
      rw [e]
      exact D1.out
  obtain ⟨c0, c1, f0, f1⟩ := D1.out.r.c
  obtain ⟨b0, b1, b2, bf⟩ := dcel3 D1.out.b
  have bf1 := bf 1
  have hne : ∀ W : World, W.cell? ⟨kb, 1, none⟩ = W.cell? ⟨kb, 1, none⟩ := fun _ => rfl
  clear hne bf
  obtain ⟨V4, D3, hV4⟩ := D2
  by_cases hp : 1 < pn
  all_goals
    first | rw [if_pos hp] at hV4 | rw [if_neg hp] at hV4
    try (have b1' : (V3.setCell ⟨rb, 1, none⟩ (.bool true)).cell? ⟨kb, 1, none⟩ = some (.bool false) := by
          have h := (D1.out.rd (D1.out.r.set1 true) (grown_set rb 1 (.bool true))).b
          exact (dcel3 h).2.1)
    try (have bf1' : (V3.setCell ⟨rb, 1, none⟩ (.bool true)).frozen? ⟨kb, 1, none⟩ = false := by
          have h := (D1.out.rd (D1.out.r.set1 true) (grown_set rb 1 (.bool true))).b
          exact (dcel3 h).2.2.2 1)
    have HV4 := Lib.hid hV4
    clear hV4
    go_upto_region 6 with fail
    rw [← HV4.out]
    clear HV4 c0 c1 f0 f1 b0 b1 b2 bf1
    try clear b1'
    try clear bf1'
    go_upto_region 7 with (go_at_call 23; refine (R3.out _ D3.out.r).mono ?_; rintro e V5 ⟨rfl, r1, g1⟩; have D5 := Lib.hid (D3.out.rd r1 g1); clear r1 g1)
    go_wp2
    go_loopw [6] (fun u W => ∃ (j : Nat) (A1 : Option Addr) (m1 c1 : Nat) (L : List Ins) (s' : RS), (j : Int) ≤ 1099511627776 ∧ u = .int .i64 j ∧ L.length = m1 ∧ Hid (DL V rb k2 kb (kb + 1) cap (pn == 1) s' (.slice A1 m1 c1) L W ∧ LRS (rdI true) n s4 j L s')) (fun _ W => msrAt rb W)
    case atStart => exact ⟨0, none, 0, 0, [], s4, by omega, rfl, rfl, Lib.hid ⟨D5.out, LRS.start nn⟩⟩
    case round =>
      obtain ⟨j, A1, m1, c1, L, s', hj, rfl, hm, HX⟩ := hrel
      have HM := Lib.hid hm
      clear hm
      obtain ⟨x0, x1, g0, g1⟩ := HX.out.1.r.c
      by_cases hlt : (j : Int) < n
      · obtain ⟨rest, bad⟩ := s'
        cases bad with
        | false =>
          have hls := HX.out.2.l
          simp only [Bool.false_eq_true, if_false] at hls
          obtain ⟨n1, u1, e1⟩ : ∃ n s', rdN ⟨rest, false⟩ = (n, s') := ⟨_, _, rfl⟩
          obtain ⟨n2, u2, e2⟩ : ∃ n s', rsG u1 = (n, s') := ⟨_, _, rfl⟩
          obtain ⟨n3, u3, e3⟩ : ∃ n s', rdN u2 = (n, s') := ⟨_, _, rfl⟩
          obtain ⟨t4, u4, e4⟩ : ∃ n s', rdT u3 = (n, s') := ⟨_, _, rfl⟩
          have EI := Lib.hid (show rdI true ⟨rest, false⟩ = (⟨n1, n2, n3, t4⟩, u4) from by
            unfold rdI
            unfold rsG at e2
            obtain ⟨e5, e6⟩ := Prod.mk.inj e2
            simp only [e1, e5, e6, e3, e4])
          have q1 := (rdN_con ⟨rest, false⟩).1
          have q2 := (rdN_con u1).1
          have q2' : u2.rest = (rdN u1).2.rest := by rw [← (Prod.mk.inj e2).2]; rfl
          have q3 := (rdN_con u2).1
          rw [e1] at q1
          rw [← q2'] at q2
          rw [e3] at q3
          simp only at q1 q2 q3
          have hl4 := HL4.out
          have C1 := Lib.hid (fun W (h : RdS rb ⟨rest, false⟩ W) => show Calls Tryz.prog 23 #[.pointer (some ⟨rb, 0, none⟩)] W (RdP rb (iv n1) u1 W) from by have := rnum_any rb _ W h (by show rest.length ≤ _; omega); rwa [e1] at this)
          have C2 := Lib.hid (fun W (h : RdS rb u1 W) => show Calls Tryz.prog 49 #[.pointer (some ⟨rb, 0, none⟩)] W (RdP rb (iv n2) u2 W) from by have := rsig_any rb _ W h (by omega); rwa [e2] at this)
          have C3 := Lib.hid (fun W (h : RdS rb u2 W) => show Calls Tryz.prog 23 #[.pointer (some ⟨rb, 0, none⟩)] W (RdP rb (iv n3) u3 W) from by have := rnum_any rb _ W h (by omega); rwa [e3] at this)
          have C4 := Lib.hid (fun W (h : RdS rb u3 W) => show Calls Tryz.prog 25 #[.pointer (some ⟨rb, 0, none⟩)] W (RdP rb (.string ⟨t4.toArray⟩) u4 W) from by have := rtext_any rb _ W h (by omega); rwa [e4] at this)
          have F0 := Lib.hid (HX.out.1.gr (gr_drew wr))
          have HLL := Lib.hid (show L.length + 1 ≤ 1000000 from by omega)
          have NX := Lib.hid (show LRS (rdI true) n s4 (j + 1) (L ++ [⟨n1, n2, n3, t4⟩]) u4 from by have h := HX.out.2.next (rdI_con true _) hlt rfl; rwa [EI.out] at h)
          have ML := Lib.hid (show msr u4 < msr ⟨rest, false⟩ from by have h := msr_lt (rdI_con true ⟨rest, false⟩) rfl; rwa [EI.out] at h)
          have MS := Lib.hid (msrAt_eq HX.out.1.r)
          obtain ⟨y0, z0⟩ := HX.out.1.c
          clear e1 e2 e3 e4 q1 q2 q2' q3 hl4 hls HX
          go_upto_region 10 with fail
          clear x0 x1 g0 g1
          go_region_law (first
            | (refine step_app elI rfl (.tmp 35) (.tmp 45) rfl (kb + 1) rfl HOA.out (A := some ⟨w4.heap.size, 0, none⟩) (M := [⟨n1, n2, n3, t4⟩]) (m := 1) (c := 1) rfl rfl (rd_cells (t := 71) elI.hn (al_new _ _)) (by have := HLL.out; simp; omega) HBA.out ?_
               intro v7 w7 o7 g7 b7
               obtain ⟨A7, c7, rfl⟩ := app_ins HM.out o7
               obtain ⟨-, -, y7, z7⟩ := F5.out.mid g7
               have P7 := Lib.hid (F5.out.put g7 o7)
               clear o7 g7 b7)
            | (go_simp; go_at_call 23; refine (C1.out _ F0.out.r).mono ?_; rintro e w1 ⟨rfl, r, g⟩; have F1 := Lib.hid (F0.out.rd r g); clear r g F0; obtain ⟨y1, z1⟩ := F1.out.c)
            | (go_simp; go_at_call 49; refine (C2.out _ F1.out.r).mono ?_; rintro e w2 ⟨rfl, r, g⟩; have F2 := Lib.hid (F1.out.rd r g); clear r g F1; obtain ⟨y2, z2⟩ := F2.out.c)
            | (go_simp; go_at_call 23; refine (C3.out _ F2.out.r).mono ?_; rintro e w3 ⟨rfl, r, g⟩; have F3 := Lib.hid (F2.out.rd r g); clear r g F2; obtain ⟨y3, z3⟩ := F3.out.c)
            | (go_simp; go_at_call 25; refine (C4.out _ F3.out.r).mono ?_; rintro e w4 ⟨rfl, r, g⟩; have F4 := Lib.hid (F3.out.rd r g); clear r g F3; obtain ⟨y4, z4⟩ := F4.out.c
               have F5 := Lib.hid (F4.out.gr (gr_al w4 (.cells #[.int .i64 n1, .int .i64 n2, .int .i64 n3, .string ⟨t4.toArray⟩] 71)))
               have HOA := Lib.hid F5.out.o
               have HBA := Lib.hid F5.out.lt.2.2.2.2
               obtain ⟨y5, z5⟩ := F5.out.c))
          all_goals go_wp2
          all_goals exact ⟨⟨j + 1, A7, m1 + 1, c7, L ++ [⟨n1, n2, n3, t4⟩], u4, by omega, by simp, by simp [HM.out], Lib.hid ⟨P7.out, NX.out⟩⟩, by rw [MS.out, msrAt_eq P7.out.r]; exact ML.out⟩
        | true =>
          have FN := Lib.hid (HX.out.2.fin (.inr rfl))
          obtain ⟨b0, b1, b2, bf⟩ := dcel3 HX.out.1.b
          obtain ⟨y0, y1, y2, yf⟩ := dcel3 HX.out.1.z
          have yf0 := yf 0
          have yf1 := yf 1
          have yf2 := yf 2
          clear yf bf
          go_wp2
          obtain ⟨p1, p2, p3, p4⟩ := HX.out.1.fin
          obtain ⟨r0, r1, r2, -⟩ := dcel3 p1
          (try simp only [Exit.inBlock, Exit.then])
          refine bodyPost_ret (results_blk rfl _ _ ⟨k2, 0, none⟩ (.int .i64 cap) (.bool (pn == 1)) (.slice A1 m1 c1) rfl r0 r1 r2) rfl ?_
          exact dbp_of (E.out.trans (by rw [FN.out])) p3 p2 p4
      · have FN := Lib.hid (HX.out.2.fin (.inl hlt))
        obtain ⟨b0, b1, b2, bf⟩ := dcel3 HX.out.1.b
        obtain ⟨y0, y1, y2, yf⟩ := dcel3 HX.out.1.z
        have yf0 := yf 0
        have yf1 := yf 1
        have yf2 := yf 2
        clear yf bf
        go_wp2
        obtain ⟨p1, p2, p3, p4⟩ := HX.out.1.fin
        obtain ⟨r0, r1, r2, -⟩ := dcel3 p1
        (try simp only [Exit.inBlock, Exit.then])
        refine bodyPost_ret (results_blk rfl _ _ ⟨k2, 0, none⟩ (.int .i64 cap) (.bool (pn == 1)) (.slice A1 m1 c1) rfl r0 r1 r2) rfl ?_
        exact dbp_of (E.out.trans (by rw [FN.out])) p3 p2 p4
end Go.Proofs.YtgboboljgcfggaaGreatDoor

/- The law MachineBegin. -/
import Derived.Test.YtdfllhmkgphcmaaDoorLawC
import Derived.Test.YtdfllhmkgphcmaaDoorSmi
import Derived.Test.YtdfllhmkgphcmaaDoorBegC
namespace Go.Proofs.YtdfllhmkgphcmaaDoor
open Go.RowKit

/-- What Begin answers, as numbers. -/
def bE (p : Prg) (pk : T) (id : Int) : Int := if errP p ≠ 0 then 1 else if begB p.ss pk id = none then 8 else 0
def bMM (p : Prg) (pk : T) (id seed : Int) : MM := if errP p ≠ 0 then zAM.er else match begB p.ss pk id with | none => zAM.er | some b => begM p.bs b seed
def bPP (p : Prg) (pk : T) (id : Int) : Prg := if errP p ≠ 0 then zAM.p else match begB p.ss pk id with | none => zAM.p | some _ => p
theorem zAM_len : LenP zAM.p := ⟨by simp [zAM], by simp [zAM], by simp [zAM], by simp [zAM], by simp [zAM]⟩
theorem BegP.det {p : Prg} {pk : T} {id seed : Int} {w : World} {e : Ending} {w' : World} (h : BegP p pk id seed w e w') (hp : p.Rd w) (hl : LenP p) : w.grownBy w' none ∧ ∃ M : AM, e = .returned (.tuple #[M.v, iv (bE p pk id)]) ∧ M.er = bMM p pk id seed ∧ M.p = bPP p pk id ∧ LenP M.p ∧ M.Rd w' ∧ M.F.length ≤ 1 := by
  obtain ⟨g, ⟨h2, rfl⟩ | ⟨h2, h3, rfl⟩ | ⟨b, B, h2, h3, rfl, h4, h5⟩⟩ := h
  · exact ⟨g, zAM, by rw [bE, if_pos h2], by rw [bMM, if_pos h2], by rw [bPP, if_pos h2], zAM_len, zAM_rd _, by simp [zAM]⟩
  · exact ⟨g, zAM, by rw [bE, if_neg (by simpa using h2), if_pos h3], by rw [bMM, if_neg (by simpa using h2), h3], by rw [bPP, if_neg (by simpa using h2), h3], zAM_len, zAM_rd _, by simp [zAM]⟩
  · exact ⟨g, bAM p b seed B, by rw [bE, if_neg (by simpa using h2), if_neg (by rw [h3]; simp)], by rw [bMM, if_neg (by simpa using h2), h3]; rfl, by rw [bPP, if_neg (by simpa using h2), h3]; rfl, hl, (bAM_rdX hp g h4 h5).rd, by simp [bAM]⟩
/-- Two boxes, the program and the name. -/
structure LN (p : Prg) (pk : T) (id : Int) (w V : World) : Prop where
  gr : w.grownBy V none
  o : V.heap[w.heap.size]? = some (.cells #[.slice p.bA p.bs.length p.bc, .slice p.sA p.ss.length p.sc] 25 (0, 0))
  n : V.heap[w.heap.size + 1]? = some (.cells #[tv pk, iv id] 31 (0, 0))
theorem LN.grow {p : Prg} {pk : T} {id : Int} {w V V' : World} (h : LN p pk id w V) (g : V.grownBy V' none) : LN p pk id w V' := ⟨h.gr.trans g, (g.block _ (heap_lt h.o) (by simp)).trans h.o, (g.block _ (heap_lt h.n) (by simp)).trans h.n⟩
theorem LN.of (p : Prg) (pk : T) (id : Int) (w : World) : LN p pk id w ((w.alloc (.cells #[.slice p.bA p.bs.length p.bc, .slice p.sA p.ss.length p.sc] 25)).alloc (.cells #[tv pk, iv id] 31)) :=
  ⟨(World.grownBy_alloc w _ none).trans (World.grownBy_alloc _ _ none), (Below.heap_alloc _ _ _ (by simp)).trans (al_new w _), al_at _ _ (by simp)⟩
theorem LN.c {p : Prg} {pk : T} {id : Int} {w V : World} (h : LN p pk id w V) : V.cell? ⟨w.heap.size, 0, none⟩ = some (.slice p.bA p.bs.length p.bc) ∧ V.cell? ⟨w.heap.size, 1, none⟩ = some (.slice p.sA p.ss.length p.sc) ∧ V.cell? ⟨w.heap.size + 1, 0, none⟩ = some (tv pk) ∧ V.cell? ⟨w.heap.size + 1, 1, none⟩ = some (iv id) := by
  refine ⟨?_, ?_, ?_, ?_⟩
  · rw [Lib.cell_of_heap h.o]; rfl
  · rw [Lib.cell_of_heap h.o]; rfl
  · rw [Lib.cell_of_heap h.n]; rfl
  · rw [Lib.cell_of_heap h.n]; rfl
set_option maxRecDepth 100000 in
set_option maxHeartbeats 4000000 in
theorem law_begin_out (p : Prg) (pk : T) (id seed : Int) (w : World) (hp : p.Rd w) (hl : LenP p) (hk : pk.length ≤ 9223372036854775807) (h : ¬ Small p ∨ (Small p ∧ 200 < pk.length)) : Calls Tryd.prog 4 #[p.v, .agg #[tv pk, iv id], .int .u64 seed] w fun e w' => e = .returned (.bool true) ∧ w.grownBy w' none := by
  have HP := Lib.hid (fun V (h : LN p pk id w V) => hp.below (below_of h.gr))
  have L0 := Lib.hid (LN.of p pk id w)
  have AW := Lib.hid awake_any
  rcases h with h | ⟨h, h2⟩
  · have GN := Lib.hid (fun V (h1 : LN p pk id w V) => great_yes p V (HP.out V h1) hl h)
    clear hp hl h
    unfold Prg.v at *
    go_enter Tryd.func4, Tryd.ntmps4
    go_wp2_with (first | (go_at_call 11; refine (GN.out _ L0.out).mono ?_; rintro e w1 ⟨rfl, g1⟩; have L1 := Lib.hid (L0.out.grow g1); clear g1) | (go_at_call 14; refine (AW.out _).mono ?_; rintro e w2 ⟨rfl, g2⟩; have G2 := Lib.hid (L1.out.gr.trans g2); clear g2))
    go_ret
    exact ⟨rfl, G2.out⟩
  · have GN := Lib.hid (fun V (h1 : LN p pk id w V) => great_not p V (HP.out V h1) hl h)
    have z : (200 : Int) < (pk.length : Int) := by omega
    clear hp hl h
    unfold Prg.v at *
    go_enter Tryd.func4, Tryd.ntmps4
    go_wp2_with (first | (go_at_call 11; refine (GN.out _ L0.out).mono ?_; rintro e w1 ⟨rfl, g1⟩; have L1 := Lib.hid (L0.out.grow g1); obtain ⟨c0, c1, c2, c3⟩ := L1.out.c; clear g1) | (go_at_call 14; refine (AW.out _).mono ?_; rintro e w2 ⟨rfl, g2⟩; have G2 := Lib.hid (L1.out.gr.trans g2); clear g2))
    go_ret
    exact ⟨rfl, G2.out⟩
set_option maxRecDepth 100000 in
set_option maxHeartbeats 8000000 in
theorem law_begin_in (p : Prg) (pk : T) (id seed : Int) (w : World) (hp : p.Rd w) (hl : LenP p) (hk : pk.length ≤ 9223372036854775807) (h : Small p) (h2 : ¬ 200 < pk.length) : Calls Tryd.prog 4 #[p.v, .agg #[tv pk, iv id], .int .u64 seed] w fun e w' => e = .returned (.bool true) ∧ w.grownBy w' none := by
  have HP := Lib.hid (fun V (h : LN p pk id w V) => hp.below (below_of h.gr))
  have L0 := Lib.hid (LN.of p pk id w)
  have AW := Lib.hid awake_any
  have GN := Lib.hid (fun V (h1 : LN p pk id w V) => great_not p V (HP.out V h1) hl h)
  have BG := Lib.hid (fun V (h1 : LN p pk id w V) => (begin_any p pk id seed V (HP.out V h1) hl.b hl.s hl.i hl.n hl.k).mono fun e V' (h2 : BegP p pk id seed V e V') => h2.det (HP.out V h1) hl)
  have RB := Lib.hid (fun V (h1 : LN p pk id w V) => (rbegin_any p pk id seed V (HP.out V h1) hl.b hl.s hl.i hl.k).mono fun e V' (h2 : BegP p pk id seed V e V') => h2.det (HP.out V h1) hl)
  have z : ¬ (200 : Int) < (pk.length : Int) := by omega
  clear hp hl h h2
  unfold Prg.v at *
  generalize bE p pk id = E at *
  generalize bMM p pk id seed = ER at *
  generalize bPP p pk id = PP at *
  go_enter Tryd.func4, Tryd.ntmps4
  go_wp2_with (first | (go_at_call 11; refine (GN.out _ L0.out).mono ?_; rintro e w1 ⟨rfl, g1⟩; have L1 := Lib.hid (L0.out.grow g1); obtain ⟨c0, c1, c2, c3⟩ := L1.out.c; clear g1) | (go_at_call 15; refine (BG.out _ L1.out).mono ?_; rintro e w3 ⟨g3, M, rfl, m1, m2, m3, m4, m5⟩; have L3 := Lib.hid ((L1.out.grow g3).grow (World.grownBy_alloc w3 (oM M) none)); have K3 := Lib.hid (al_new w3 (oM M)); have MA := Lib.hid (m4.grow (World.grownBy_alloc w3 (oM M) none)); have MF := Lib.hid (show M.er = ER ∧ M.p = PP ∧ LenP M.p ∧ M.F.length ≤ 1 from ⟨m1, m2, m3, m5⟩); clear c0 c1 c2 c3; have c0 := (fun o => ((L1.out.grow g3).grow (World.grownBy_alloc w3 o none)).c.1); have c1 := (fun o => ((L1.out.grow g3).grow (World.grownBy_alloc w3 o none)).c.2.1); have c2 := (fun o => ((L1.out.grow g3).grow (World.grownBy_alloc w3 o none)).c.2.2.1); have c3 := (fun o => ((L1.out.grow g3).grow (World.grownBy_alloc w3 o none)).c.2.2.2); clear g3 m1 m2 m3 m4 m5; unfold AM.v) | (go_at_call 16; refine (RB.out _ L3.out).mono ?_; rintro e w5 ⟨g5, N, rfl, m1, m2, m3, m4, m5⟩; have L5 := Lib.hid ((L3.out.gr.trans g5).trans (World.grownBy_alloc w5 (oM N) none)); have q0 := (fun o => (cells36 (((g5.trans (World.grownBy_alloc w5 o none)).block w3.heap.size (by simp) (by simp)).trans K3.out)).1.1); have q1 := (fun o => (cells36 (((g5.trans (World.grownBy_alloc w5 o none)).block w3.heap.size (by simp) (by simp)).trans K3.out)).1.2.1); have q2 := (fun o => (cells36 (((g5.trans (World.grownBy_alloc w5 o none)).block w3.heap.size (by simp) (by simp)).trans K3.out)).1.2.2.1); have q3 := (fun o => (cells36 (((g5.trans (World.grownBy_alloc w5 o none)).block w3.heap.size (by simp) (by simp)).trans K3.out)).1.2.2.2.1); have q4 := (fun o => (cells36 (((g5.trans (World.grownBy_alloc w5 o none)).block w3.heap.size (by simp) (by simp)).trans K3.out)).1.2.2.2.2.1); have q5 := (fun o => (cells36 (((g5.trans (World.grownBy_alloc w5 o none)).block w3.heap.size (by simp) (by simp)).trans K3.out)).1.2.2.2.2.2.1); have q6 := (fun o => (cells36 (((g5.trans (World.grownBy_alloc w5 o none)).block w3.heap.size (by simp) (by simp)).trans K3.out)).1.2.2.2.2.2.2.1); have q7 := (fun o => (cells36 (((g5.trans (World.grownBy_alloc w5 o none)).block w3.heap.size (by simp) (by simp)).trans K3.out)).1.2.2.2.2.2.2.2); have SM := Lib.hid (sameM_any M N (w5.alloc (oM N)) ((MA.out.grow g5).grow (World.grownBy_alloc w5 (oM N) none)) (m4.grow (World.grownBy_alloc w5 (oM N) none)) (m2.trans MF.out.2.1.symm) (MF.out.1.trans m1.symm) MF.out.2.2.1 (Nat.le_trans MF.out.2.2.2 (by decide))); clear g5 m1 m2 m3 m4 m5 c0 c1 c2 c3; unfold AM.v) | (go_at_call 17; refine SM.out.mono ?_; rintro e w6 ⟨rfl, g6⟩; have L6 := Lib.hid (L5.out.trans g6); clear g6) | (go_at_call 14; refine (AW.out _).mono ?_; rintro e w7 ⟨rfl, g7⟩; have L7 := Lib.hid (L6.out.trans g7); clear g7))
  go_ret
  exact ⟨rfl, L7.out⟩
theorem law_begin_any (p : Prg) (pk : T) (id seed : Int) (w : World) (hp : p.Rd w) (hl : LenP p) (hk : pk.length ≤ 9223372036854775807) : Calls Tryd.prog 4 #[p.v, .agg #[tv pk, iv id], .int .u64 seed] w fun e w' => e = .returned (.bool true) ∧ w.grownBy w' none := by
  by_cases h : Small p
  · by_cases h2 : 200 < pk.length
    · exact law_begin_out p pk id seed w hp hl hk (.inr ⟨h, h2⟩)
    · exact law_begin_in p pk id seed w hp hl hk h h2
  · exact law_begin_out p pk id seed w hp hl hk (.inl h)
end Go.Proofs.YtdfllhmkgphcmaaDoor

/- The law MachineCheck. -/
import Derived.Test.YtdfllhmkgphcmaaDoorM9
namespace Go.Proofs.YtdfllhmkgphcmaaDoor
open Go.RowKit

theorem great_yes (p : Prg) (w : World) (hp : p.Rd w) (hl : LenP p) (h : ¬ Small p) : Calls Tryd.prog 11 #[p.v] w fun e w' => e = .returned (.bool true) ∧ w.grownBy w' none :=
  (great_any p w hp hl.b hl.s hl.i).mono fun e w' ⟨⟨g, h1, h2⟩, h3⟩ => by
    cases g with
    | true => exact ⟨h1, grown_below h3 none⟩
    | false => exact absurd (h2.1 rfl) h
theorem great_not (p : Prg) (w : World) (hp : p.Rd w) (hl : LenP p) (h : Small p) : Calls Tryd.prog 11 #[p.v] w fun e w' => e = .returned (.bool false) ∧ w.grownBy w' none :=
  (great_any p w hp hl.b hl.s hl.i).mono fun e w' ⟨⟨g, h1, h2⟩, h3⟩ => by
    rw [h2.2 h] at h1
    exact ⟨h1, grown_below h3 none⟩
theorem box25 (w : World) (p : Prg) : w.grownBy (w.alloc (.cells #[.slice p.bA p.bs.length p.bc, .slice p.sA p.ss.length p.sc] 25)) none := World.grownBy_alloc w _ none
/-- What the law keeps. -/
structure LC (p : Prg) (w V : World) : Prop where
  gr : w.grownBy V none
  o : V.heap[w.heap.size]? = some (.cells #[.slice p.bA p.bs.length p.bc, .slice p.sA p.ss.length p.sc] 25 (0, 0))
theorem LC.grow {p : Prg} {w V V' : World} (h : LC p w V) (g : V.grownBy V' none) : LC p w V' := ⟨h.gr.trans g, (g.block _ (heap_lt h.o) (by simp)).trans h.o⟩
theorem LC.of (p : Prg) (w : World) : LC p w (w.alloc (.cells #[.slice p.bA p.bs.length p.bc, .slice p.sA p.ss.length p.sc] 25)) := ⟨World.grownBy_alloc w _ none, al_new w _⟩
theorem LC.c {p : Prg} {w V : World} (h : LC p w V) : V.cell? ⟨w.heap.size, 0, none⟩ = some (.slice p.bA p.bs.length p.bc) ∧ V.cell? ⟨w.heap.size, 1, none⟩ = some (.slice p.sA p.ss.length p.sc) := by
  constructor <;> rw [Lib.cell_of_heap h.o] <;> rfl

set_option maxRecDepth 100000 in
set_option maxHeartbeats 4000000 in
theorem law_check_any (p : Prg) (w : World) (hp : p.Rd w) (hl : LenP p) : Calls Tryd.prog 3 #[p.v] w fun e w' => e = .returned (.bool true) ∧ w.grownBy w' none := by
  have HP := Lib.hid (fun V (h : LC p w V) => hp.below (below_of h.gr))
  have KS := Lib.hid (fun V V' (h : V.cell? ⟨w.heap.size, 0, none⟩ = some (.slice p.bA p.bs.length p.bc) ∧ V.cell? ⟨w.heap.size, 1, none⟩ = some (.slice p.sA p.ss.length p.sc) ∧ Hid (LC p w V)) (g : V.grownBy V' none) => (⟨(h.2.2.out.grow g).c.1, (h.2.2.out.grow g).c.2, Lib.hid (h.2.2.out.grow g)⟩ : V'.cell? ⟨w.heap.size, 0, none⟩ = some (.slice p.bA p.bs.length p.bc) ∧ V'.cell? ⟨w.heap.size, 1, none⟩ = some (.slice p.sA p.ss.length p.sc) ∧ Hid (LC p w V')))
  have S0 : Hid ((w.alloc (.cells #[.slice p.bA p.bs.length p.bc, .slice p.sA p.ss.length p.sc] 25)).drew.cell? ⟨w.heap.size, 0, none⟩ = some (.slice p.bA p.bs.length p.bc) ∧ (w.alloc (.cells #[.slice p.bA p.bs.length p.bc, .slice p.sA p.ss.length p.sc] 25)).drew.cell? ⟨w.heap.size, 1, none⟩ = some (.slice p.sA p.ss.length p.sc) ∧ Hid (LC p w (w.alloc (.cells #[.slice p.bA p.bs.length p.bc, .slice p.sA p.ss.length p.sc] 25)).drew)) := Lib.hid ⟨(LC.of p w).c.1, (LC.of p w).c.2, Lib.hid ((LC.of p w).grow (grown_drew _))⟩
  by_cases hs : Small p
  · have GN := Lib.hid (fun V (h : V.cell? ⟨w.heap.size, 0, none⟩ = some (.slice p.bA p.bs.length p.bc) ∧ V.cell? ⟨w.heap.size, 1, none⟩ = some (.slice p.sA p.ss.length p.sc) ∧ Hid (LC p w V)) => (great_not p V (HP.out V h.2.2.out) hl hs).mono fun e V' (h2 : e = .returned (.bool false) ∧ V.grownBy V' none) => (⟨h2.1, KS.out V V' h h2.2⟩ : e = .returned (.bool false) ∧ V'.cell? ⟨w.heap.size, 0, none⟩ = some (.slice p.bA p.bs.length p.bc) ∧ V'.cell? ⟨w.heap.size, 1, none⟩ = some (.slice p.sA p.ss.length p.sc) ∧ Hid (LC p w V')))
    have CK := Lib.hid (fun V (h : V.cell? ⟨w.heap.size, 0, none⟩ = some (.slice p.bA p.bs.length p.bc) ∧ V.cell? ⟨w.heap.size, 1, none⟩ = some (.slice p.sA p.ss.length p.sc) ∧ Hid (LC p w V)) => (check_any p V (HP.out V h.2.2.out) hl.b hl.s hl.i hl.n hl.k).mono fun e V' (h2 : e = .returned (.int .i64 (errP p)) ∧ Below V.heap.size V V') => (⟨h2.1, KS.out V V' h (grown_below h2.2 none)⟩ : e = .returned (.int .i64 (errP p)) ∧ V'.cell? ⟨w.heap.size, 0, none⟩ = some (.slice p.bA p.bs.length p.bc) ∧ V'.cell? ⟨w.heap.size, 1, none⟩ = some (.slice p.sA p.ss.length p.sc) ∧ Hid (LC p w V')))
    have RK := Lib.hid (fun V (h : V.cell? ⟨w.heap.size, 0, none⟩ = some (.slice p.bA p.bs.length p.bc) ∧ V.cell? ⟨w.heap.size, 1, none⟩ = some (.slice p.sA p.ss.length p.sc) ∧ Hid (LC p w V)) => (rcheck_any p V (HP.out V h.2.2.out) hl.b hl.s hl.i hl.k).mono fun e V' (h2 : e = .returned (.int .i64 (errP p)) ∧ Below V.heap.size V V') => (⟨h2.1, KS.out V V' h (grown_below h2.2 none)⟩ : e = .returned (.int .i64 (errP p)) ∧ V'.cell? ⟨w.heap.size, 0, none⟩ = some (.slice p.bA p.bs.length p.bc) ∧ V'.cell? ⟨w.heap.size, 1, none⟩ = some (.slice p.sA p.ss.length p.sc) ∧ Hid (LC p w V')))
    have AW := Lib.hid (fun V (h : V.cell? ⟨w.heap.size, 0, none⟩ = some (.slice p.bA p.bs.length p.bc) ∧ V.cell? ⟨w.heap.size, 1, none⟩ = some (.slice p.sA p.ss.length p.sc) ∧ Hid (LC p w V)) => (awake_any V).mono fun e V' (h2 : e = .returned (.bool true) ∧ V.grownBy V' none) => (⟨h2.1, KS.out V V' h h2.2⟩ : e = .returned (.bool true) ∧ V'.cell? ⟨w.heap.size, 0, none⟩ = some (.slice p.bA p.bs.length p.bc) ∧ V'.cell? ⟨w.heap.size, 1, none⟩ = some (.slice p.sA p.ss.length p.sc) ∧ Hid (LC p w V')))
    clear hp hl hs KS HP
    unfold Prg.v at *
    generalize errP p = E at *
    go_enter Tryd.func3, Tryd.ntmps3
    go_wp2
    go_region_held3 (fun W => W.cell? ⟨w.heap.size, 0, none⟩ = some (.slice p.bA p.bs.length p.bc) ∧ W.cell? ⟨w.heap.size, 1, none⟩ = some (.slice p.sA p.ss.length p.sc) ∧ Hid (LC p w W)) (first | assumption | exact S0.out) (first | (go_at_call 11; refine (GN.out _ (by assumption)).mono ?_; rintro e w1 ⟨rfl, h1⟩) | (go_at_call 14; refine (AW.out _ (by assumption)).mono ?_; rintro e w4 ⟨rfl, h4⟩) | (go_at_call 12; refine (CK.out _ (by assumption)).mono ?_; rintro e w2 ⟨rfl, h2⟩) | (go_at_call 13; refine (RK.out _ (by assumption)).mono ?_; rintro e w3 ⟨rfl, h3⟩))
    all_goals go_wp2
    all_goals go_ret
    all_goals exact ⟨rfl, h4.2.2.out.gr⟩
  · have GN := Lib.hid (fun V (h : V.cell? ⟨w.heap.size, 0, none⟩ = some (.slice p.bA p.bs.length p.bc) ∧ V.cell? ⟨w.heap.size, 1, none⟩ = some (.slice p.sA p.ss.length p.sc) ∧ Hid (LC p w V)) => (great_yes p V (HP.out V h.2.2.out) hl hs).mono fun e V' (h2 : e = .returned (.bool true) ∧ V.grownBy V' none) => (⟨h2.1, KS.out V V' h h2.2⟩ : e = .returned (.bool true) ∧ V'.cell? ⟨w.heap.size, 0, none⟩ = some (.slice p.bA p.bs.length p.bc) ∧ V'.cell? ⟨w.heap.size, 1, none⟩ = some (.slice p.sA p.ss.length p.sc) ∧ Hid (LC p w V')))
    have AW := Lib.hid (fun V (h : V.cell? ⟨w.heap.size, 0, none⟩ = some (.slice p.bA p.bs.length p.bc) ∧ V.cell? ⟨w.heap.size, 1, none⟩ = some (.slice p.sA p.ss.length p.sc) ∧ Hid (LC p w V)) => (awake_any V).mono fun e V' (h2 : e = .returned (.bool true) ∧ V.grownBy V' none) => (⟨h2.1, KS.out V V' h h2.2⟩ : e = .returned (.bool true) ∧ V'.cell? ⟨w.heap.size, 0, none⟩ = some (.slice p.bA p.bs.length p.bc) ∧ V'.cell? ⟨w.heap.size, 1, none⟩ = some (.slice p.sA p.ss.length p.sc) ∧ Hid (LC p w V')))
    clear hp hl hs KS HP
    unfold Prg.v at *
    go_enter Tryd.func3, Tryd.ntmps3
    go_wp2
    have h0 := S0.out
    go_region_with ((first | (go_at_call 11; refine (GN.out _ (by assumption)).mono ?_; rintro e w1 ⟨rfl, h1⟩) | (go_at_call 14; refine (AW.out _ (by assumption)).mono ?_; rintro e w4 ⟨rfl, h4⟩)))
    all_goals go_wp2
    all_goals go_ret
    all_goals exact ⟨rfl, h4.2.2.out.gr⟩
end Go.Proofs.YtdfllhmkgphcmaaDoor

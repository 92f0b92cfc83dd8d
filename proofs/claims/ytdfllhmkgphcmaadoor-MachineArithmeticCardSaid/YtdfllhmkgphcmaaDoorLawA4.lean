/- The law MachineArithmetic: the walks, operations [61], [60]. -/
import Derived.Test.YtdfllhmkgphcmaaDoorLawA0
import Derived.StillTailTactics
namespace Go.Proofs.YtdfllhmkgphcmaaDoor
open Go.RowKit

set_option maxRecDepth 100000 in
set_option maxHeartbeats 8000000 in
theorem ar_3_eq_ok (a b op C : Int) (w : World) (ha : -999999999 ≤ a ∧ a ≤ 999999999) (hb : -999999999 ≤ b ∧ b ≤ 999999999) (h0 : 0 ≤ op) (h255 : op ≤ 255) (hk : op.tmod 5 = 3) (hcmp : a = b) (hC : a * b = C) (hC1 : -9000000000000000000 ≤ C) (hC2 : C ≤ 9000000000000000000)  :
    Calls Tryd.prog 6 #[iv a, iv b, .int .u8 op] w fun e w' => e = .returned (.bool true) ∧ w.grownBy w' none := by
  subst hcmp
  have he : ∀ bs : List Blk, exec bs ⟨10, 0, 0, [61]⟩ ([] ++ [vInt a] ++ [vInt a]) [] ⟨0, 3, []⟩ 0 = .ok ⟨[] ++ [vBit 1], [] ++ [⟨0, 3, []⟩], 0, false⟩ := fun bs => by
    have e1 : (a == a) = true := by simp
    rw [exec_op, if_pos rfl, e1]
    rfl
  have RS := Lib.hid (fun W A => ar_ok W A a a [61] 2 (1) (vBit 1) rfl ha ha rfl (by decide) he)
  have PL := Lib.hid (fun W A (t : TypeId) h => ar_plain W A a a [61] (t := t) h)
  have AW := Lib.hid awake_any
  have r1 : ¬ a < -999999999 := by omega
  have r2 : ¬ 999999999 < a := by omega
  have ww1 : IntKind.i64.wrap (a + a) = a + a := IntWalk.i64_in _ ⟨by omega, by omega⟩
  have ww2 : IntKind.i64.wrap (a - a) = a - a := IntWalk.i64_in _ ⟨by omega, by omega⟩
  have ww3 : IntKind.i64.wrap (a * a) = C := by rw [hC]; exact IntWalk.i64_in _ ⟨by omega, by omega⟩
  have ww4 : IntKind.i64.wrap op = op := IntWalk.i64_in _ ⟨by omega, by omega⟩
  clear he 
  clear hC hC1 hC2 ha hb
  go_enter Tryd.func6, Tryd.ntmps6
  go_wp2_with (first | (go_at_call 21; refine (PL.out _ _ _ (by exact al_at _ _ (by simp))).mono ?_; rintro e w1 ⟨g1, B1, B2, rfl, hp⟩; have G1 := Lib.hid ((((World.grownBy_alloc w _ none).trans (World.grownBy_alloc _ _ none)).trans (World.grownBy_alloc _ _ none)).trans g1); have KD := Lib.hid ((g1.block w.heap.size (by simp; omega) (by simp)).trans ((Below.heap_alloc _ _ _ (by simp; omega)).trans ((Below.heap_alloc _ _ _ (by simp)).trans (al_new w _)))); have R1 := Lib.hid (RS.out w1 _ B1 B2 hp); clear PL RS hp g1) | (go_at_call 20; refine R1.out.mono ?_; rintro e w2 ⟨g2, M, x, rfl, s4, k1, k2⟩; have G2 := Lib.hid (G1.out.trans g2); have G4 := Lib.hid (fun o o' => (G1.out.trans g2).trans ((World.grownBy_alloc w2 o none).trans (World.grownBy_alloc _ o' none))); have KE := Lib.hid ((g2.block _ (heap_lt KD.out) (by simp)).trans KD.out); have dk := fun o o' => cell_al (cell_al (show w2.cell? ⟨w.heap.size, 3, none⟩ = some (iv (1)) by rw [Lib.cell_of_heap KE.out]; rfl) (heap_lt KE.out) o) (show w.heap.size < _ by have := heap_lt KE.out; simp; omega) o'; unfold AM.v AV.v; rw [s4, k1, k2]; clear R1 G1 g2 s4 k1 k2 KD) | (go_at_call 14; refine (AW.out _).mono ?_; rintro e w5 ⟨rfl, g5⟩; have G5 := Lib.hid ((G4.out _ _).trans g5); clear g5))
  generalize hV : World.alloc (World.alloc w2 _) _ = V
  have m4 : V.cell? ⟨w2.heap.size, 4, none⟩ = some (iv 4) := by subst hV; simp
  have x0 : V.cell? ⟨w2.heap.size + 1, 0, none⟩ = some (iv 2) := by subst hV; simp
  have x1 : V.cell? ⟨w2.heap.size + 1, 1, none⟩ = some (iv (1)) := by subst hV; simp
  have d0 : V.cell? ⟨w.heap.size, 3, none⟩ = some (iv (1)) := by subst hV; exact dk _ _
  have GV : Hid (w.grownBy V.drew none) := Lib.hid (by subst hV; exact (G4.out _ _).trans (grown_drew _))
  clear hV dk G4 KE
  go_still_tail 22, (by kernel_rfl)
  change wpList _ _ _ _ _ V.drew
  generalize V.drew = V' at *
  go_wp2_with (first | (go_at_call 14; refine (AW.out _).mono ?_; rintro e w5 ⟨rfl, g5⟩; have G5 := Lib.hid (GV.out.trans g5); clear g5))
  go_ret
  exact ⟨rfl, G5.out⟩
set_option maxRecDepth 100000 in
set_option maxHeartbeats 8000000 in
theorem ar_3_lt_ok (a b op C : Int) (w : World) (ha : -999999999 ≤ a ∧ a ≤ 999999999) (hb : -999999999 ≤ b ∧ b ≤ 999999999) (h0 : 0 ≤ op) (h255 : op ≤ 255) (hk : op.tmod 5 = 3) (hcmp : a < b) (hC : a * b = C) (hC1 : -9000000000000000000 ≤ C) (hC2 : C ≤ 9000000000000000000)  :
    Calls Tryd.prog 6 #[iv a, iv b, .int .u8 op] w fun e w' => e = .returned (.bool true) ∧ w.grownBy w' none := by
  have he : ∀ bs : List Blk, exec bs ⟨10, 0, 0, [61]⟩ ([] ++ [vInt a] ++ [vInt b]) [] ⟨0, 3, []⟩ 0 = .ok ⟨[] ++ [vBit 0], [] ++ [⟨0, 3, []⟩], 0, false⟩ := fun bs => by
    have e1 : (a == b) = false := by simp; omega
    rw [exec_op, if_pos rfl, e1]
    rfl
  have RS := Lib.hid (fun W A => ar_ok W A a b [61] 2 (0) (vBit 0) rfl ha hb rfl (by decide) he)
  have PL := Lib.hid (fun W A (t : TypeId) h => ar_plain W A a b [61] (t := t) h)
  have AW := Lib.hid awake_any
  have r1 : ¬ a < -999999999 := by omega
  have r2 : ¬ 999999999 < a := by omega
  have r3 : ¬ b < -999999999 := by omega
  have r4 : ¬ 999999999 < b := by omega
  have c1 : (a == b) = false := by simp; omega
  have c2 : ¬ a = b := by omega
  have c3 : decide (a < b) = true := by simpa using hcmp
  have ww1 : IntKind.i64.wrap (a + b) = a + b := IntWalk.i64_in _ ⟨by omega, by omega⟩
  have ww2 : IntKind.i64.wrap (a - b) = a - b := IntWalk.i64_in _ ⟨by omega, by omega⟩
  have ww3 : IntKind.i64.wrap (a * b) = C := by rw [hC]; exact IntWalk.i64_in _ ⟨by omega, by omega⟩
  have ww4 : IntKind.i64.wrap op = op := IntWalk.i64_in _ ⟨by omega, by omega⟩
  clear he 
  clear hC hC1 hC2 ha hb
  go_enter Tryd.func6, Tryd.ntmps6
  go_wp2_with (first | (go_at_call 21; refine (PL.out _ _ _ (by exact al_at _ _ (by simp))).mono ?_; rintro e w1 ⟨g1, B1, B2, rfl, hp⟩; have G1 := Lib.hid ((((World.grownBy_alloc w _ none).trans (World.grownBy_alloc _ _ none)).trans (World.grownBy_alloc _ _ none)).trans g1); have KD := Lib.hid ((g1.block w.heap.size (by simp; omega) (by simp)).trans ((Below.heap_alloc _ _ _ (by simp; omega)).trans ((Below.heap_alloc _ _ _ (by simp)).trans (al_new w _)))); have R1 := Lib.hid (RS.out w1 _ B1 B2 hp); clear PL RS hp g1) | (go_at_call 20; refine R1.out.mono ?_; rintro e w2 ⟨g2, M, x, rfl, s4, k1, k2⟩; have G2 := Lib.hid (G1.out.trans g2); have G4 := Lib.hid (fun o o' => (G1.out.trans g2).trans ((World.grownBy_alloc w2 o none).trans (World.grownBy_alloc _ o' none))); have KE := Lib.hid ((g2.block _ (heap_lt KD.out) (by simp)).trans KD.out); have dk := fun o o' => cell_al (cell_al (show w2.cell? ⟨w.heap.size, 3, none⟩ = some (iv (0)) by rw [Lib.cell_of_heap KE.out]; rfl) (heap_lt KE.out) o) (show w.heap.size < _ by have := heap_lt KE.out; simp; omega) o'; unfold AM.v AV.v; rw [s4, k1, k2]; clear R1 G1 g2 s4 k1 k2 KD) | (go_at_call 14; refine (AW.out _).mono ?_; rintro e w5 ⟨rfl, g5⟩; have G5 := Lib.hid ((G4.out _ _).trans g5); clear g5))
  generalize hV : World.alloc (World.alloc w2 _) _ = V
  have m4 : V.cell? ⟨w2.heap.size, 4, none⟩ = some (iv 4) := by subst hV; simp
  have x0 : V.cell? ⟨w2.heap.size + 1, 0, none⟩ = some (iv 2) := by subst hV; simp
  have x1 : V.cell? ⟨w2.heap.size + 1, 1, none⟩ = some (iv (0)) := by subst hV; simp
  have d0 : V.cell? ⟨w.heap.size, 3, none⟩ = some (iv (0)) := by subst hV; exact dk _ _
  have GV : Hid (w.grownBy V.drew none) := Lib.hid (by subst hV; exact (G4.out _ _).trans (grown_drew _))
  clear hV dk G4 KE
  go_still_tail 22, (by kernel_rfl)
  change wpList _ _ _ _ _ V.drew
  generalize V.drew = V' at *
  go_wp2_with (first | (go_at_call 14; refine (AW.out _).mono ?_; rintro e w5 ⟨rfl, g5⟩; have G5 := Lib.hid (GV.out.trans g5); clear g5))
  go_ret
  exact ⟨rfl, G5.out⟩
set_option maxRecDepth 100000 in
set_option maxHeartbeats 8000000 in
theorem ar_3_gt_ok (a b op C : Int) (w : World) (ha : -999999999 ≤ a ∧ a ≤ 999999999) (hb : -999999999 ≤ b ∧ b ≤ 999999999) (h0 : 0 ≤ op) (h255 : op ≤ 255) (hk : op.tmod 5 = 3) (hcmp : b < a) (hC : a * b = C) (hC1 : -9000000000000000000 ≤ C) (hC2 : C ≤ 9000000000000000000)  :
    Calls Tryd.prog 6 #[iv a, iv b, .int .u8 op] w fun e w' => e = .returned (.bool true) ∧ w.grownBy w' none := by
  have he : ∀ bs : List Blk, exec bs ⟨10, 0, 0, [61]⟩ ([] ++ [vInt a] ++ [vInt b]) [] ⟨0, 3, []⟩ 0 = .ok ⟨[] ++ [vBit 0], [] ++ [⟨0, 3, []⟩], 0, false⟩ := fun bs => by
    have e1 : (a == b) = false := by simp; omega
    rw [exec_op, if_pos rfl, e1]
    rfl
  have RS := Lib.hid (fun W A => ar_ok W A a b [61] 2 (0) (vBit 0) rfl ha hb rfl (by decide) he)
  have PL := Lib.hid (fun W A (t : TypeId) h => ar_plain W A a b [61] (t := t) h)
  have AW := Lib.hid awake_any
  have r1 : ¬ a < -999999999 := by omega
  have r2 : ¬ 999999999 < a := by omega
  have r3 : ¬ b < -999999999 := by omega
  have r4 : ¬ 999999999 < b := by omega
  have c1 : (a == b) = false := by simp; omega
  have c2 : ¬ a = b := by omega
  have c3 : ¬ a < b := by omega
  have ww1 : IntKind.i64.wrap (a + b) = a + b := IntWalk.i64_in _ ⟨by omega, by omega⟩
  have ww2 : IntKind.i64.wrap (a - b) = a - b := IntWalk.i64_in _ ⟨by omega, by omega⟩
  have ww3 : IntKind.i64.wrap (a * b) = C := by rw [hC]; exact IntWalk.i64_in _ ⟨by omega, by omega⟩
  have ww4 : IntKind.i64.wrap op = op := IntWalk.i64_in _ ⟨by omega, by omega⟩
  clear he 
  clear hC hC1 hC2 ha hb
  go_enter Tryd.func6, Tryd.ntmps6
  go_wp2_with (first | (go_at_call 21; refine (PL.out _ _ _ (by exact al_at _ _ (by simp))).mono ?_; rintro e w1 ⟨g1, B1, B2, rfl, hp⟩; have G1 := Lib.hid ((((World.grownBy_alloc w _ none).trans (World.grownBy_alloc _ _ none)).trans (World.grownBy_alloc _ _ none)).trans g1); have KD := Lib.hid ((g1.block w.heap.size (by simp; omega) (by simp)).trans ((Below.heap_alloc _ _ _ (by simp; omega)).trans ((Below.heap_alloc _ _ _ (by simp)).trans (al_new w _)))); have R1 := Lib.hid (RS.out w1 _ B1 B2 hp); clear PL RS hp g1) | (go_at_call 20; refine R1.out.mono ?_; rintro e w2 ⟨g2, M, x, rfl, s4, k1, k2⟩; have G2 := Lib.hid (G1.out.trans g2); have G4 := Lib.hid (fun o o' => (G1.out.trans g2).trans ((World.grownBy_alloc w2 o none).trans (World.grownBy_alloc _ o' none))); have KE := Lib.hid ((g2.block _ (heap_lt KD.out) (by simp)).trans KD.out); have dk := fun o o' => cell_al (cell_al (show w2.cell? ⟨w.heap.size, 3, none⟩ = some (iv (0)) by rw [Lib.cell_of_heap KE.out]; rfl) (heap_lt KE.out) o) (show w.heap.size < _ by have := heap_lt KE.out; simp; omega) o'; unfold AM.v AV.v; rw [s4, k1, k2]; clear R1 G1 g2 s4 k1 k2 KD) | (go_at_call 14; refine (AW.out _).mono ?_; rintro e w5 ⟨rfl, g5⟩; have G5 := Lib.hid ((G4.out _ _).trans g5); clear g5))
  generalize hV : World.alloc (World.alloc w2 _) _ = V
  have m4 : V.cell? ⟨w2.heap.size, 4, none⟩ = some (iv 4) := by subst hV; simp
  have x0 : V.cell? ⟨w2.heap.size + 1, 0, none⟩ = some (iv 2) := by subst hV; simp
  have x1 : V.cell? ⟨w2.heap.size + 1, 1, none⟩ = some (iv (0)) := by subst hV; simp
  have d0 : V.cell? ⟨w.heap.size, 3, none⟩ = some (iv (0)) := by subst hV; exact dk _ _
  have GV : Hid (w.grownBy V.drew none) := Lib.hid (by subst hV; exact (G4.out _ _).trans (grown_drew _))
  clear hV dk G4 KE
  go_still_tail 22, (by kernel_rfl)
  change wpList _ _ _ _ _ V.drew
  generalize V.drew = V' at *
  go_wp2_with (first | (go_at_call 14; refine (AW.out _).mono ?_; rintro e w5 ⟨rfl, g5⟩; have G5 := Lib.hid (GV.out.trans g5); clear g5))
  go_ret
  exact ⟨rfl, G5.out⟩
set_option maxRecDepth 100000 in
set_option maxHeartbeats 8000000 in
theorem ar_4_eq_ok (a b op C : Int) (w : World) (ha : -999999999 ≤ a ∧ a ≤ 999999999) (hb : -999999999 ≤ b ∧ b ≤ 999999999) (h0 : 0 ≤ op) (h255 : op ≤ 255) (hk : op.tmod 5 = 4) (hcmp : a = b) (hC : a * b = C) (hC1 : -9000000000000000000 ≤ C) (hC2 : C ≤ 9000000000000000000)  :
    Calls Tryd.prog 6 #[iv a, iv b, .int .u8 op] w fun e w' => e = .returned (.bool true) ∧ w.grownBy w' none := by
  subst hcmp
  have he : ∀ bs : List Blk, exec bs ⟨10, 0, 0, [60]⟩ ([] ++ [vInt a] ++ [vInt a]) [] ⟨0, 3, []⟩ 0 = .ok ⟨[] ++ [vBit 0], [] ++ [⟨0, 3, []⟩], 0, false⟩ := fun bs => by
    have e1 : decide (a < a) = false := by simp
    rw [exec_op, if_neg (by decide), if_pos rfl, e1]
    rfl
  have RS := Lib.hid (fun W A => ar_ok W A a a [60] 2 (0) (vBit 0) rfl ha ha rfl (by decide) he)
  have PL := Lib.hid (fun W A (t : TypeId) h => ar_plain W A a a [60] (t := t) h)
  have AW := Lib.hid awake_any
  have r1 : ¬ a < -999999999 := by omega
  have r2 : ¬ 999999999 < a := by omega
  have ww1 : IntKind.i64.wrap (a + a) = a + a := IntWalk.i64_in _ ⟨by omega, by omega⟩
  have ww2 : IntKind.i64.wrap (a - a) = a - a := IntWalk.i64_in _ ⟨by omega, by omega⟩
  have ww3 : IntKind.i64.wrap (a * a) = C := by rw [hC]; exact IntWalk.i64_in _ ⟨by omega, by omega⟩
  have ww4 : IntKind.i64.wrap op = op := IntWalk.i64_in _ ⟨by omega, by omega⟩
  clear he 
  clear hC hC1 hC2 ha hb
  go_enter Tryd.func6, Tryd.ntmps6
  go_wp2_with (first | (go_at_call 21; refine (PL.out _ _ _ (by exact al_at _ _ (by simp))).mono ?_; rintro e w1 ⟨g1, B1, B2, rfl, hp⟩; have G1 := Lib.hid ((((World.grownBy_alloc w _ none).trans (World.grownBy_alloc _ _ none)).trans (World.grownBy_alloc _ _ none)).trans g1); have KD := Lib.hid ((g1.block w.heap.size (by simp; omega) (by simp)).trans ((Below.heap_alloc _ _ _ (by simp; omega)).trans ((Below.heap_alloc _ _ _ (by simp)).trans (al_new w _)))); have R1 := Lib.hid (RS.out w1 _ B1 B2 hp); clear PL RS hp g1) | (go_at_call 20; refine R1.out.mono ?_; rintro e w2 ⟨g2, M, x, rfl, s4, k1, k2⟩; have G2 := Lib.hid (G1.out.trans g2); have G4 := Lib.hid (fun o o' => (G1.out.trans g2).trans ((World.grownBy_alloc w2 o none).trans (World.grownBy_alloc _ o' none))); have KE := Lib.hid ((g2.block _ (heap_lt KD.out) (by simp)).trans KD.out); have dk := fun o o' => cell_al (cell_al (show w2.cell? ⟨w.heap.size, 4, none⟩ = some (iv (0)) by rw [Lib.cell_of_heap KE.out]; rfl) (heap_lt KE.out) o) (show w.heap.size < _ by have := heap_lt KE.out; simp; omega) o'; unfold AM.v AV.v; rw [s4, k1, k2]; clear R1 G1 g2 s4 k1 k2 KD) | (go_at_call 14; refine (AW.out _).mono ?_; rintro e w5 ⟨rfl, g5⟩; have G5 := Lib.hid ((G4.out _ _).trans g5); clear g5))
  generalize hV : World.alloc (World.alloc w2 _) _ = V
  have m4 : V.cell? ⟨w2.heap.size, 4, none⟩ = some (iv 4) := by subst hV; simp
  have x0 : V.cell? ⟨w2.heap.size + 1, 0, none⟩ = some (iv 2) := by subst hV; simp
  have x1 : V.cell? ⟨w2.heap.size + 1, 1, none⟩ = some (iv (0)) := by subst hV; simp
  have d0 : V.cell? ⟨w.heap.size, 4, none⟩ = some (iv (0)) := by subst hV; exact dk _ _
  have GV : Hid (w.grownBy V.drew none) := Lib.hid (by subst hV; exact (G4.out _ _).trans (grown_drew _))
  clear hV dk G4 KE
  go_still_tail 22, (by kernel_rfl)
  change wpList _ _ _ _ _ V.drew
  generalize V.drew = V' at *
  go_wp2_with (first | (go_at_call 14; refine (AW.out _).mono ?_; rintro e w5 ⟨rfl, g5⟩; have G5 := Lib.hid (GV.out.trans g5); clear g5))
  go_ret
  exact ⟨rfl, G5.out⟩
set_option maxRecDepth 100000 in
set_option maxHeartbeats 8000000 in
theorem ar_4_lt_ok (a b op C : Int) (w : World) (ha : -999999999 ≤ a ∧ a ≤ 999999999) (hb : -999999999 ≤ b ∧ b ≤ 999999999) (h0 : 0 ≤ op) (h255 : op ≤ 255) (hk : op.tmod 5 = 4) (hcmp : a < b) (hC : a * b = C) (hC1 : -9000000000000000000 ≤ C) (hC2 : C ≤ 9000000000000000000)  :
    Calls Tryd.prog 6 #[iv a, iv b, .int .u8 op] w fun e w' => e = .returned (.bool true) ∧ w.grownBy w' none := by
  have he : ∀ bs : List Blk, exec bs ⟨10, 0, 0, [60]⟩ ([] ++ [vInt a] ++ [vInt b]) [] ⟨0, 3, []⟩ 0 = .ok ⟨[] ++ [vBit 1], [] ++ [⟨0, 3, []⟩], 0, false⟩ := fun bs => by
    have e1 : decide (a < b) = true := by simpa using hcmp
    rw [exec_op, if_neg (by decide), if_pos rfl, e1]
    rfl
  have RS := Lib.hid (fun W A => ar_ok W A a b [60] 2 (1) (vBit 1) rfl ha hb rfl (by decide) he)
  have PL := Lib.hid (fun W A (t : TypeId) h => ar_plain W A a b [60] (t := t) h)
  have AW := Lib.hid awake_any
  have r1 : ¬ a < -999999999 := by omega
  have r2 : ¬ 999999999 < a := by omega
  have r3 : ¬ b < -999999999 := by omega
  have r4 : ¬ 999999999 < b := by omega
  have c1 : (a == b) = false := by simp; omega
  have c2 : ¬ a = b := by omega
  have c3 : decide (a < b) = true := by simpa using hcmp
  have ww1 : IntKind.i64.wrap (a + b) = a + b := IntWalk.i64_in _ ⟨by omega, by omega⟩
  have ww2 : IntKind.i64.wrap (a - b) = a - b := IntWalk.i64_in _ ⟨by omega, by omega⟩
  have ww3 : IntKind.i64.wrap (a * b) = C := by rw [hC]; exact IntWalk.i64_in _ ⟨by omega, by omega⟩
  have ww4 : IntKind.i64.wrap op = op := IntWalk.i64_in _ ⟨by omega, by omega⟩
  clear he 
  clear hC hC1 hC2 ha hb
  go_enter Tryd.func6, Tryd.ntmps6
  go_wp2_with (first | (go_at_call 21; refine (PL.out _ _ _ (by exact al_at _ _ (by simp))).mono ?_; rintro e w1 ⟨g1, B1, B2, rfl, hp⟩; have G1 := Lib.hid ((((World.grownBy_alloc w _ none).trans (World.grownBy_alloc _ _ none)).trans (World.grownBy_alloc _ _ none)).trans g1); have KD := Lib.hid ((g1.block w.heap.size (by simp; omega) (by simp)).trans ((Below.heap_alloc _ _ _ (by simp; omega)).trans ((Below.heap_alloc _ _ _ (by simp)).trans (al_new w _)))); have R1 := Lib.hid (RS.out w1 _ B1 B2 hp); clear PL RS hp g1) | (go_at_call 20; refine R1.out.mono ?_; rintro e w2 ⟨g2, M, x, rfl, s4, k1, k2⟩; have G2 := Lib.hid (G1.out.trans g2); have G4 := Lib.hid (fun o o' => (G1.out.trans g2).trans ((World.grownBy_alloc w2 o none).trans (World.grownBy_alloc _ o' none))); have KE := Lib.hid ((g2.block _ (heap_lt KD.out) (by simp)).trans KD.out); have dk := fun o o' => cell_al (cell_al (show w2.cell? ⟨w.heap.size, 4, none⟩ = some (iv (1)) by rw [Lib.cell_of_heap KE.out]; rfl) (heap_lt KE.out) o) (show w.heap.size < _ by have := heap_lt KE.out; simp; omega) o'; unfold AM.v AV.v; rw [s4, k1, k2]; clear R1 G1 g2 s4 k1 k2 KD) | (go_at_call 14; refine (AW.out _).mono ?_; rintro e w5 ⟨rfl, g5⟩; have G5 := Lib.hid ((G4.out _ _).trans g5); clear g5))
  generalize hV : World.alloc (World.alloc w2 _) _ = V
  have m4 : V.cell? ⟨w2.heap.size, 4, none⟩ = some (iv 4) := by subst hV; simp
  have x0 : V.cell? ⟨w2.heap.size + 1, 0, none⟩ = some (iv 2) := by subst hV; simp
  have x1 : V.cell? ⟨w2.heap.size + 1, 1, none⟩ = some (iv (1)) := by subst hV; simp
  have d0 : V.cell? ⟨w.heap.size, 4, none⟩ = some (iv (1)) := by subst hV; exact dk _ _
  have GV : Hid (w.grownBy V.drew none) := Lib.hid (by subst hV; exact (G4.out _ _).trans (grown_drew _))
  clear hV dk G4 KE
  go_still_tail 22, (by kernel_rfl)
  change wpList _ _ _ _ _ V.drew
  generalize V.drew = V' at *
  go_wp2_with (first | (go_at_call 14; refine (AW.out _).mono ?_; rintro e w5 ⟨rfl, g5⟩; have G5 := Lib.hid (GV.out.trans g5); clear g5))
  go_ret
  exact ⟨rfl, G5.out⟩
set_option maxRecDepth 100000 in
set_option maxHeartbeats 8000000 in
theorem ar_4_gt_ok (a b op C : Int) (w : World) (ha : -999999999 ≤ a ∧ a ≤ 999999999) (hb : -999999999 ≤ b ∧ b ≤ 999999999) (h0 : 0 ≤ op) (h255 : op ≤ 255) (hk : op.tmod 5 = 4) (hcmp : b < a) (hC : a * b = C) (hC1 : -9000000000000000000 ≤ C) (hC2 : C ≤ 9000000000000000000)  :
    Calls Tryd.prog 6 #[iv a, iv b, .int .u8 op] w fun e w' => e = .returned (.bool true) ∧ w.grownBy w' none := by
  have he : ∀ bs : List Blk, exec bs ⟨10, 0, 0, [60]⟩ ([] ++ [vInt a] ++ [vInt b]) [] ⟨0, 3, []⟩ 0 = .ok ⟨[] ++ [vBit 0], [] ++ [⟨0, 3, []⟩], 0, false⟩ := fun bs => by
    have e1 : decide (a < b) = false := by simp; omega
    rw [exec_op, if_neg (by decide), if_pos rfl, e1]
    rfl
  have RS := Lib.hid (fun W A => ar_ok W A a b [60] 2 (0) (vBit 0) rfl ha hb rfl (by decide) he)
  have PL := Lib.hid (fun W A (t : TypeId) h => ar_plain W A a b [60] (t := t) h)
  have AW := Lib.hid awake_any
  have r1 : ¬ a < -999999999 := by omega
  have r2 : ¬ 999999999 < a := by omega
  have r3 : ¬ b < -999999999 := by omega
  have r4 : ¬ 999999999 < b := by omega
  have c1 : (a == b) = false := by simp; omega
  have c2 : ¬ a = b := by omega
  have c3 : ¬ a < b := by omega
  have ww1 : IntKind.i64.wrap (a + b) = a + b := IntWalk.i64_in _ ⟨by omega, by omega⟩
  have ww2 : IntKind.i64.wrap (a - b) = a - b := IntWalk.i64_in _ ⟨by omega, by omega⟩
  have ww3 : IntKind.i64.wrap (a * b) = C := by rw [hC]; exact IntWalk.i64_in _ ⟨by omega, by omega⟩
  have ww4 : IntKind.i64.wrap op = op := IntWalk.i64_in _ ⟨by omega, by omega⟩
  clear he 
  clear hC hC1 hC2 ha hb
  go_enter Tryd.func6, Tryd.ntmps6
  go_wp2_with (first | (go_at_call 21; refine (PL.out _ _ _ (by exact al_at _ _ (by simp))).mono ?_; rintro e w1 ⟨g1, B1, B2, rfl, hp⟩; have G1 := Lib.hid ((((World.grownBy_alloc w _ none).trans (World.grownBy_alloc _ _ none)).trans (World.grownBy_alloc _ _ none)).trans g1); have KD := Lib.hid ((g1.block w.heap.size (by simp; omega) (by simp)).trans ((Below.heap_alloc _ _ _ (by simp; omega)).trans ((Below.heap_alloc _ _ _ (by simp)).trans (al_new w _)))); have R1 := Lib.hid (RS.out w1 _ B1 B2 hp); clear PL RS hp g1) | (go_at_call 20; refine R1.out.mono ?_; rintro e w2 ⟨g2, M, x, rfl, s4, k1, k2⟩; have G2 := Lib.hid (G1.out.trans g2); have G4 := Lib.hid (fun o o' => (G1.out.trans g2).trans ((World.grownBy_alloc w2 o none).trans (World.grownBy_alloc _ o' none))); have KE := Lib.hid ((g2.block _ (heap_lt KD.out) (by simp)).trans KD.out); have dk := fun o o' => cell_al (cell_al (show w2.cell? ⟨w.heap.size, 4, none⟩ = some (iv (0)) by rw [Lib.cell_of_heap KE.out]; rfl) (heap_lt KE.out) o) (show w.heap.size < _ by have := heap_lt KE.out; simp; omega) o'; unfold AM.v AV.v; rw [s4, k1, k2]; clear R1 G1 g2 s4 k1 k2 KD) | (go_at_call 14; refine (AW.out _).mono ?_; rintro e w5 ⟨rfl, g5⟩; have G5 := Lib.hid ((G4.out _ _).trans g5); clear g5))
  generalize hV : World.alloc (World.alloc w2 _) _ = V
  have m4 : V.cell? ⟨w2.heap.size, 4, none⟩ = some (iv 4) := by subst hV; simp
  have x0 : V.cell? ⟨w2.heap.size + 1, 0, none⟩ = some (iv 2) := by subst hV; simp
  have x1 : V.cell? ⟨w2.heap.size + 1, 1, none⟩ = some (iv (0)) := by subst hV; simp
  have d0 : V.cell? ⟨w.heap.size, 4, none⟩ = some (iv (0)) := by subst hV; exact dk _ _
  have GV : Hid (w.grownBy V.drew none) := Lib.hid (by subst hV; exact (G4.out _ _).trans (grown_drew _))
  clear hV dk G4 KE
  go_still_tail 22, (by kernel_rfl)
  change wpList _ _ _ _ _ V.drew
  generalize V.drew = V' at *
  go_wp2_with (first | (go_at_call 14; refine (AW.out _).mono ?_; rintro e w5 ⟨rfl, g5⟩; have G5 := Lib.hid (GV.out.trans g5); clear g5))
  go_ret
  exact ⟨rfl, G5.out⟩
end Go.Proofs.YtdfllhmkgphcmaaDoor

/- The law MachineArithmetic: the walks, operations [42]. -/
import Derived.Test.YtdfllhmkgphcmaaDoorLawA0
import Derived.StillTailTactics
namespace Go.Proofs.YtdfllhmkgphcmaaDoor
open Go.RowKit

set_option maxRecDepth 100000 in
set_option maxHeartbeats 8000000 in
theorem ar_2_eq_ok (a b op C : Int) (w : World) (ha : -999999999 ≤ a ∧ a ≤ 999999999) (hb : -999999999 ≤ b ∧ b ≤ 999999999) (h0 : 0 ≤ op) (h255 : op ≤ 255) (hk : op.tmod 5 = 2) (hcmp : a = b) (hC : a * b = C) (hC1 : -9000000000000000000 ≤ C) (hC2 : C ≤ 9000000000000000000) (hr : ¬ (C < -999999999) ∧ ¬ (999999999 < C)) :
    Calls Tryd.prog 6 #[iv a, iv b, .int .u8 op] w fun e w' => e = .returned (.bool true) ∧ w.grownBy w' none := by
  subst hcmp
  have hw : Go.RowKit.wrap64 (a * a) = C := by rw [hC]; exact IntWalk.wrap64_in _ ⟨by omega, by omega⟩
  have he : ∀ bs : List Blk, exec bs ⟨10, 0, 0, [42]⟩ ([] ++ [vInt a] ++ [vInt a]) [] ⟨0, 3, []⟩ 0 = .ok ⟨[] ++ [vInt (C)], [] ++ [⟨0, 3, []⟩], 0, false⟩ := fun bs => by
    have e1 : opInt [42] a a = C := by simp [opInt, w64, hw]
    rw [exec_op, if_neg (by decide), if_neg (by decide), e1, if_neg (by omega)]
  have RS := Lib.hid (fun W A => ar_ok W A a a [42] 1 (C) (vInt (C)) rfl ha ha rfl (by decide) he)
  have PL := Lib.hid (fun W A (t : TypeId) h => ar_plain W A a a [42] (t := t) h)
  have AW := Lib.hid awake_any
  have r1 : ¬ a < -999999999 := by omega
  have r2 : ¬ 999999999 < a := by omega
  have ww1 : IntKind.i64.wrap (a + a) = a + a := IntWalk.i64_in _ ⟨by omega, by omega⟩
  have ww2 : IntKind.i64.wrap (a - a) = a - a := IntWalk.i64_in _ ⟨by omega, by omega⟩
  have ww3 : IntKind.i64.wrap (a * a) = C := by rw [hC]; exact IntWalk.i64_in _ ⟨by omega, by omega⟩
  have ww4 : IntKind.i64.wrap op = op := IntWalk.i64_in _ ⟨by omega, by omega⟩
  obtain ⟨v1, v2⟩ := hr
  clear he hw
  clear hC hC1 hC2 ha hb
  go_enter Tryd.func6, Tryd.ntmps6
  go_wp2_with (first | (go_at_call 21; refine (PL.out _ _ _ (by exact al_at _ _ (by simp))).mono ?_; rintro e w1 ⟨g1, B1, B2, rfl, hp⟩; have G1 := Lib.hid ((((World.grownBy_alloc w _ none).trans (World.grownBy_alloc _ _ none)).trans (World.grownBy_alloc _ _ none)).trans g1); have KD := Lib.hid ((g1.block w.heap.size (by simp; omega) (by simp)).trans ((Below.heap_alloc _ _ _ (by simp; omega)).trans ((Below.heap_alloc _ _ _ (by simp)).trans (al_new w _)))); have R1 := Lib.hid (RS.out w1 _ B1 B2 hp); clear PL RS hp g1) | (go_at_call 20; refine R1.out.mono ?_; rintro e w2 ⟨g2, M, x, rfl, s4, k1, k2⟩; have G2 := Lib.hid (G1.out.trans g2); have G4 := Lib.hid (fun o o' => (G1.out.trans g2).trans ((World.grownBy_alloc w2 o none).trans (World.grownBy_alloc _ o' none))); have KE := Lib.hid ((g2.block _ (heap_lt KD.out) (by simp)).trans KD.out); have dk := fun o o' => cell_al (cell_al (show w2.cell? ⟨w.heap.size, 2, none⟩ = some (iv (C)) by rw [Lib.cell_of_heap KE.out]; rfl) (heap_lt KE.out) o) (show w.heap.size < _ by have := heap_lt KE.out; simp; omega) o'; unfold AM.v AV.v; rw [s4, k1, k2]; clear R1 G1 g2 s4 k1 k2 KD) | (go_at_call 14; refine (AW.out _).mono ?_; rintro e w5 ⟨rfl, g5⟩; have G5 := Lib.hid ((G4.out _ _).trans g5); clear g5))
  generalize hV : World.alloc (World.alloc w2 _) _ = V
  have m4 : V.cell? ⟨w2.heap.size, 4, none⟩ = some (iv 4) := by subst hV; simp
  have x0 : V.cell? ⟨w2.heap.size + 1, 0, none⟩ = some (iv 1) := by subst hV; simp
  have x1 : V.cell? ⟨w2.heap.size + 1, 1, none⟩ = some (iv (C)) := by subst hV; simp
  have d0 : V.cell? ⟨w.heap.size, 2, none⟩ = some (iv (C)) := by subst hV; exact dk _ _
  have GV : Hid (w.grownBy V.drew none) := Lib.hid (by subst hV; exact (G4.out _ _).trans (grown_drew _))
  clear hV dk G4 KE
  go_still_tail 22, (by kernel_rfl)
  change wpList _ _ _ _ _ V.drew
  generalize V.drew = V' at *
  go_wp2_with (first | (go_at_call 14; refine (AW.out _).mono ?_; rintro e w5 ⟨rfl, g5⟩; have G5 := Lib.hid (GV.out.trans g5); clear g5))
  go_ret
  exact ⟨rfl, G5.out⟩
set_option maxRecDepth 100000 in
set_option maxHeartbeats 8000000 in
theorem ar_2_eq_no (a b op C : Int) (w : World) (ha : -999999999 ≤ a ∧ a ≤ 999999999) (hb : -999999999 ≤ b ∧ b ≤ 999999999) (h0 : 0 ≤ op) (h255 : op ≤ 255) (hk : op.tmod 5 = 2) (hcmp : a = b) (hC : a * b = C) (hC1 : -9000000000000000000 ≤ C) (hC2 : C ≤ 9000000000000000000) (hr : C < -999999999 ∨ 999999999 < C) :
    Calls Tryd.prog 6 #[iv a, iv b, .int .u8 op] w fun e w' => e = .returned (.bool true) ∧ w.grownBy w' none := by
  subst hcmp
  have hw : Go.RowKit.wrap64 (a * a) = C := by rw [hC]; exact IntWalk.wrap64_in _ ⟨by omega, by omega⟩
  have he : ∀ bs : List Blk, exec bs ⟨10, 0, 0, [42]⟩ ([] ++ [vInt a] ++ [vInt a]) [] ⟨0, 3, []⟩ 0 = .error 5 := fun bs => by
    have e1 : opInt [42] a a = C := by simp [opInt, w64, hw]
    rw [exec_op, if_neg (by decide), if_neg (by decide), e1, if_pos (by omega)]
  have RS := Lib.hid (fun W A => ar_no W A a a [42] ha ha rfl (by decide) he)
  have PL := Lib.hid (fun W A (t : TypeId) h => ar_plain W A a a [42] (t := t) h)
  have AW := Lib.hid awake_any
  have r1 : ¬ a < -999999999 := by omega
  have r2 : ¬ 999999999 < a := by omega
  have ww1 : IntKind.i64.wrap (a + a) = a + a := IntWalk.i64_in _ ⟨by omega, by omega⟩
  have ww2 : IntKind.i64.wrap (a - a) = a - a := IntWalk.i64_in _ ⟨by omega, by omega⟩
  have ww3 : IntKind.i64.wrap (a * a) = C := by rw [hC]; exact IntWalk.i64_in _ ⟨by omega, by omega⟩
  have ww4 : IntKind.i64.wrap op = op := IntWalk.i64_in _ ⟨by omega, by omega⟩
  clear he hw
  clear hC hC1 hC2 ha hb
  have hr' : decide (C < -999999999) = true ∨ (decide (C < -999999999) = false ∧ decide (999999999 < C) = true) := by
    by_cases hq : C < -999999999
    · exact .inl (by simpa using hq)
    · exact .inr ⟨by simpa using hq, by simp; omega⟩
  clear hr
  rcases hr' with v1 | ⟨v1, v2⟩
  all_goals
    go_enter Tryd.func6, Tryd.ntmps6
    go_wp2_with (first | (go_at_call 21; refine (PL.out _ _ _ (by exact al_at _ _ (by simp))).mono ?_; rintro e w1 ⟨g1, B1, B2, rfl, hp⟩; have G1 := Lib.hid ((((World.grownBy_alloc w _ none).trans (World.grownBy_alloc _ _ none)).trans (World.grownBy_alloc _ _ none)).trans g1); have KD := Lib.hid ((g1.block w.heap.size (by simp; omega) (by simp)).trans ((Below.heap_alloc _ _ _ (by simp; omega)).trans ((Below.heap_alloc _ _ _ (by simp)).trans (al_new w _)))); have R1 := Lib.hid (RS.out w1 _ B1 B2 hp); clear PL RS hp g1) | (go_at_call 20; refine R1.out.mono ?_; rintro e w2 ⟨g2, M, rfl, s3, s5⟩; have G2 := Lib.hid (G1.out.trans g2); have G4 := Lib.hid (fun o o' => (G1.out.trans g2).trans ((World.grownBy_alloc w2 o none).trans (World.grownBy_alloc _ o' none))); have KE := Lib.hid ((g2.block _ (heap_lt KD.out) (by simp)).trans KD.out); have dk := fun o o' => cell_al (cell_al (show w2.cell? ⟨w.heap.size, 2, none⟩ = some (iv (C)) by rw [Lib.cell_of_heap KE.out]; rfl) (heap_lt KE.out) o) (show w.heap.size < _ by have := heap_lt KE.out; simp; omega) o'; unfold AM.v; rw [s3, s5]; clear R1 G1 g2 s3 s5 KD) | (go_at_call 14; refine (AW.out _).mono ?_; rintro e w5 ⟨rfl, g5⟩; have G5 := Lib.hid ((G4.out _ _).trans g5); clear g5))
    go_ret
    exact ⟨rfl, G5.out⟩
set_option maxRecDepth 100000 in
set_option maxHeartbeats 8000000 in
theorem ar_2_lt_ok (a b op C : Int) (w : World) (ha : -999999999 ≤ a ∧ a ≤ 999999999) (hb : -999999999 ≤ b ∧ b ≤ 999999999) (h0 : 0 ≤ op) (h255 : op ≤ 255) (hk : op.tmod 5 = 2) (hcmp : a < b) (hC : a * b = C) (hC1 : -9000000000000000000 ≤ C) (hC2 : C ≤ 9000000000000000000) (hr : ¬ (C < -999999999) ∧ ¬ (999999999 < C)) :
    Calls Tryd.prog 6 #[iv a, iv b, .int .u8 op] w fun e w' => e = .returned (.bool true) ∧ w.grownBy w' none := by
  have hw : Go.RowKit.wrap64 (a * b) = C := by rw [hC]; exact IntWalk.wrap64_in _ ⟨by omega, by omega⟩
  have he : ∀ bs : List Blk, exec bs ⟨10, 0, 0, [42]⟩ ([] ++ [vInt a] ++ [vInt b]) [] ⟨0, 3, []⟩ 0 = .ok ⟨[] ++ [vInt (C)], [] ++ [⟨0, 3, []⟩], 0, false⟩ := fun bs => by
    have e1 : opInt [42] a b = C := by simp [opInt, w64, hw]
    rw [exec_op, if_neg (by decide), if_neg (by decide), e1, if_neg (by omega)]
  have RS := Lib.hid (fun W A => ar_ok W A a b [42] 1 (C) (vInt (C)) rfl ha hb rfl (by decide) he)
  have PL := Lib.hid (fun W A (t : TypeId) h => ar_plain W A a b [42] (t := t) h)
  have AW := Lib.hid awake_any
  have r1 : ¬ a < -999999999 := by omega
  have r2 : ¬ 999999999 < a := by omega
  have r3 : ¬ b < -999999999 := by omega
  have r4 : ¬ 999999999 < b := by omega
  have c1 : (a == b) = false := by simp; omega
  have c2 : ¬ a = b := by omega
  have c3 : decide (a < b) = true := by simpa using hcmp
  have ww1 : IntKind.i64.wrap (a + b) = a + b := IntWalk.i64_in _ ⟨by omega, by omega⟩
  have ww2 : IntKind.i64.wrap (a - b) = a - b := IntWalk.i64_in _ ⟨by omega, by omega⟩
  have ww3 : IntKind.i64.wrap (a * b) = C := by rw [hC]; exact IntWalk.i64_in _ ⟨by omega, by omega⟩
  have ww4 : IntKind.i64.wrap op = op := IntWalk.i64_in _ ⟨by omega, by omega⟩
  obtain ⟨v1, v2⟩ := hr
  clear he hw
  clear hC hC1 hC2 ha hb
  go_enter Tryd.func6, Tryd.ntmps6
  go_wp2_with (first | (go_at_call 21; refine (PL.out _ _ _ (by exact al_at _ _ (by simp))).mono ?_; rintro e w1 ⟨g1, B1, B2, rfl, hp⟩; have G1 := Lib.hid ((((World.grownBy_alloc w _ none).trans (World.grownBy_alloc _ _ none)).trans (World.grownBy_alloc _ _ none)).trans g1); have KD := Lib.hid ((g1.block w.heap.size (by simp; omega) (by simp)).trans ((Below.heap_alloc _ _ _ (by simp; omega)).trans ((Below.heap_alloc _ _ _ (by simp)).trans (al_new w _)))); have R1 := Lib.hid (RS.out w1 _ B1 B2 hp); clear PL RS hp g1) | (go_at_call 20; refine R1.out.mono ?_; rintro e w2 ⟨g2, M, x, rfl, s4, k1, k2⟩; have G2 := Lib.hid (G1.out.trans g2); have G4 := Lib.hid (fun o o' => (G1.out.trans g2).trans ((World.grownBy_alloc w2 o none).trans (World.grownBy_alloc _ o' none))); have KE := Lib.hid ((g2.block _ (heap_lt KD.out) (by simp)).trans KD.out); have dk := fun o o' => cell_al (cell_al (show w2.cell? ⟨w.heap.size, 2, none⟩ = some (iv (C)) by rw [Lib.cell_of_heap KE.out]; rfl) (heap_lt KE.out) o) (show w.heap.size < _ by have := heap_lt KE.out; simp; omega) o'; unfold AM.v AV.v; rw [s4, k1, k2]; clear R1 G1 g2 s4 k1 k2 KD) | (go_at_call 14; refine (AW.out _).mono ?_; rintro e w5 ⟨rfl, g5⟩; have G5 := Lib.hid ((G4.out _ _).trans g5); clear g5))
  generalize hV : World.alloc (World.alloc w2 _) _ = V
  have m4 : V.cell? ⟨w2.heap.size, 4, none⟩ = some (iv 4) := by subst hV; simp
  have x0 : V.cell? ⟨w2.heap.size + 1, 0, none⟩ = some (iv 1) := by subst hV; simp
  have x1 : V.cell? ⟨w2.heap.size + 1, 1, none⟩ = some (iv (C)) := by subst hV; simp
  have d0 : V.cell? ⟨w.heap.size, 2, none⟩ = some (iv (C)) := by subst hV; exact dk _ _
  have GV : Hid (w.grownBy V.drew none) := Lib.hid (by subst hV; exact (G4.out _ _).trans (grown_drew _))
  clear hV dk G4 KE
  go_still_tail 22, (by kernel_rfl)
  change wpList _ _ _ _ _ V.drew
  generalize V.drew = V' at *
  go_wp2_with (first | (go_at_call 14; refine (AW.out _).mono ?_; rintro e w5 ⟨rfl, g5⟩; have G5 := Lib.hid (GV.out.trans g5); clear g5))
  go_ret
  exact ⟨rfl, G5.out⟩
set_option maxRecDepth 100000 in
set_option maxHeartbeats 8000000 in
theorem ar_2_lt_no (a b op C : Int) (w : World) (ha : -999999999 ≤ a ∧ a ≤ 999999999) (hb : -999999999 ≤ b ∧ b ≤ 999999999) (h0 : 0 ≤ op) (h255 : op ≤ 255) (hk : op.tmod 5 = 2) (hcmp : a < b) (hC : a * b = C) (hC1 : -9000000000000000000 ≤ C) (hC2 : C ≤ 9000000000000000000) (hr : C < -999999999 ∨ 999999999 < C) :
    Calls Tryd.prog 6 #[iv a, iv b, .int .u8 op] w fun e w' => e = .returned (.bool true) ∧ w.grownBy w' none := by
  have hw : Go.RowKit.wrap64 (a * b) = C := by rw [hC]; exact IntWalk.wrap64_in _ ⟨by omega, by omega⟩
  have he : ∀ bs : List Blk, exec bs ⟨10, 0, 0, [42]⟩ ([] ++ [vInt a] ++ [vInt b]) [] ⟨0, 3, []⟩ 0 = .error 5 := fun bs => by
    have e1 : opInt [42] a b = C := by simp [opInt, w64, hw]
    rw [exec_op, if_neg (by decide), if_neg (by decide), e1, if_pos (by omega)]
  have RS := Lib.hid (fun W A => ar_no W A a b [42] ha hb rfl (by decide) he)
  have PL := Lib.hid (fun W A (t : TypeId) h => ar_plain W A a b [42] (t := t) h)
  have AW := Lib.hid awake_any
  have r1 : ¬ a < -999999999 := by omega
  have r2 : ¬ 999999999 < a := by omega
  have r3 : ¬ b < -999999999 := by omega
  have r4 : ¬ 999999999 < b := by omega
  have c1 : (a == b) = false := by simp; omega
  have c2 : ¬ a = b := by omega
  have c3 : decide (a < b) = true := by simpa using hcmp
  have ww1 : IntKind.i64.wrap (a + b) = a + b := IntWalk.i64_in _ ⟨by omega, by omega⟩
  have ww2 : IntKind.i64.wrap (a - b) = a - b := IntWalk.i64_in _ ⟨by omega, by omega⟩
  have ww3 : IntKind.i64.wrap (a * b) = C := by rw [hC]; exact IntWalk.i64_in _ ⟨by omega, by omega⟩
  have ww4 : IntKind.i64.wrap op = op := IntWalk.i64_in _ ⟨by omega, by omega⟩
  clear he hw
  clear hC hC1 hC2 ha hb
  have hr' : decide (C < -999999999) = true ∨ (decide (C < -999999999) = false ∧ decide (999999999 < C) = true) := by
    by_cases hq : C < -999999999
    · exact .inl (by simpa using hq)
    · exact .inr ⟨by simpa using hq, by simp; omega⟩
  clear hr
  rcases hr' with v1 | ⟨v1, v2⟩
  all_goals
    go_enter Tryd.func6, Tryd.ntmps6
    go_wp2_with (first | (go_at_call 21; refine (PL.out _ _ _ (by exact al_at _ _ (by simp))).mono ?_; rintro e w1 ⟨g1, B1, B2, rfl, hp⟩; have G1 := Lib.hid ((((World.grownBy_alloc w _ none).trans (World.grownBy_alloc _ _ none)).trans (World.grownBy_alloc _ _ none)).trans g1); have KD := Lib.hid ((g1.block w.heap.size (by simp; omega) (by simp)).trans ((Below.heap_alloc _ _ _ (by simp; omega)).trans ((Below.heap_alloc _ _ _ (by simp)).trans (al_new w _)))); have R1 := Lib.hid (RS.out w1 _ B1 B2 hp); clear PL RS hp g1) | (go_at_call 20; refine R1.out.mono ?_; rintro e w2 ⟨g2, M, rfl, s3, s5⟩; have G2 := Lib.hid (G1.out.trans g2); have G4 := Lib.hid (fun o o' => (G1.out.trans g2).trans ((World.grownBy_alloc w2 o none).trans (World.grownBy_alloc _ o' none))); have KE := Lib.hid ((g2.block _ (heap_lt KD.out) (by simp)).trans KD.out); have dk := fun o o' => cell_al (cell_al (show w2.cell? ⟨w.heap.size, 2, none⟩ = some (iv (C)) by rw [Lib.cell_of_heap KE.out]; rfl) (heap_lt KE.out) o) (show w.heap.size < _ by have := heap_lt KE.out; simp; omega) o'; unfold AM.v; rw [s3, s5]; clear R1 G1 g2 s3 s5 KD) | (go_at_call 14; refine (AW.out _).mono ?_; rintro e w5 ⟨rfl, g5⟩; have G5 := Lib.hid ((G4.out _ _).trans g5); clear g5))
    go_ret
    exact ⟨rfl, G5.out⟩
set_option maxRecDepth 100000 in
set_option maxHeartbeats 8000000 in
theorem ar_2_gt_ok (a b op C : Int) (w : World) (ha : -999999999 ≤ a ∧ a ≤ 999999999) (hb : -999999999 ≤ b ∧ b ≤ 999999999) (h0 : 0 ≤ op) (h255 : op ≤ 255) (hk : op.tmod 5 = 2) (hcmp : b < a) (hC : a * b = C) (hC1 : -9000000000000000000 ≤ C) (hC2 : C ≤ 9000000000000000000) (hr : ¬ (C < -999999999) ∧ ¬ (999999999 < C)) :
    Calls Tryd.prog 6 #[iv a, iv b, .int .u8 op] w fun e w' => e = .returned (.bool true) ∧ w.grownBy w' none := by
  have hw : Go.RowKit.wrap64 (a * b) = C := by rw [hC]; exact IntWalk.wrap64_in _ ⟨by omega, by omega⟩
  have he : ∀ bs : List Blk, exec bs ⟨10, 0, 0, [42]⟩ ([] ++ [vInt a] ++ [vInt b]) [] ⟨0, 3, []⟩ 0 = .ok ⟨[] ++ [vInt (C)], [] ++ [⟨0, 3, []⟩], 0, false⟩ := fun bs => by
    have e1 : opInt [42] a b = C := by simp [opInt, w64, hw]
    rw [exec_op, if_neg (by decide), if_neg (by decide), e1, if_neg (by omega)]
  have RS := Lib.hid (fun W A => ar_ok W A a b [42] 1 (C) (vInt (C)) rfl ha hb rfl (by decide) he)
  have PL := Lib.hid (fun W A (t : TypeId) h => ar_plain W A a b [42] (t := t) h)
  have AW := Lib.hid awake_any
  have r1 : ¬ a < -999999999 := by omega
  have r2 : ¬ 999999999 < a := by omega
  have r3 : ¬ b < -999999999 := by omega
  have r4 : ¬ 999999999 < b := by omega
  have c1 : (a == b) = false := by simp; omega
  have c2 : ¬ a = b := by omega
  have c3 : ¬ a < b := by omega
  have ww1 : IntKind.i64.wrap (a + b) = a + b := IntWalk.i64_in _ ⟨by omega, by omega⟩
  have ww2 : IntKind.i64.wrap (a - b) = a - b := IntWalk.i64_in _ ⟨by omega, by omega⟩
  have ww3 : IntKind.i64.wrap (a * b) = C := by rw [hC]; exact IntWalk.i64_in _ ⟨by omega, by omega⟩
  have ww4 : IntKind.i64.wrap op = op := IntWalk.i64_in _ ⟨by omega, by omega⟩
  obtain ⟨v1, v2⟩ := hr
  clear he hw
  clear hC hC1 hC2 ha hb
  go_enter Tryd.func6, Tryd.ntmps6
  go_wp2_with (first | (go_at_call 21; refine (PL.out _ _ _ (by exact al_at _ _ (by simp))).mono ?_; rintro e w1 ⟨g1, B1, B2, rfl, hp⟩; have G1 := Lib.hid ((((World.grownBy_alloc w _ none).trans (World.grownBy_alloc _ _ none)).trans (World.grownBy_alloc _ _ none)).trans g1); have KD := Lib.hid ((g1.block w.heap.size (by simp; omega) (by simp)).trans ((Below.heap_alloc _ _ _ (by simp; omega)).trans ((Below.heap_alloc _ _ _ (by simp)).trans (al_new w _)))); have R1 := Lib.hid (RS.out w1 _ B1 B2 hp); clear PL RS hp g1) | (go_at_call 20; refine R1.out.mono ?_; rintro e w2 ⟨g2, M, x, rfl, s4, k1, k2⟩; have G2 := Lib.hid (G1.out.trans g2); have G4 := Lib.hid (fun o o' => (G1.out.trans g2).trans ((World.grownBy_alloc w2 o none).trans (World.grownBy_alloc _ o' none))); have KE := Lib.hid ((g2.block _ (heap_lt KD.out) (by simp)).trans KD.out); have dk := fun o o' => cell_al (cell_al (show w2.cell? ⟨w.heap.size, 2, none⟩ = some (iv (C)) by rw [Lib.cell_of_heap KE.out]; rfl) (heap_lt KE.out) o) (show w.heap.size < _ by have := heap_lt KE.out; simp; omega) o'; unfold AM.v AV.v; rw [s4, k1, k2]; clear R1 G1 g2 s4 k1 k2 KD) | (go_at_call 14; refine (AW.out _).mono ?_; rintro e w5 ⟨rfl, g5⟩; have G5 := Lib.hid ((G4.out _ _).trans g5); clear g5))
  generalize hV : World.alloc (World.alloc w2 _) _ = V
  have m4 : V.cell? ⟨w2.heap.size, 4, none⟩ = some (iv 4) := by subst hV; simp
  have x0 : V.cell? ⟨w2.heap.size + 1, 0, none⟩ = some (iv 1) := by subst hV; simp
  have x1 : V.cell? ⟨w2.heap.size + 1, 1, none⟩ = some (iv (C)) := by subst hV; simp
  have d0 : V.cell? ⟨w.heap.size, 2, none⟩ = some (iv (C)) := by subst hV; exact dk _ _
  have GV : Hid (w.grownBy V.drew none) := Lib.hid (by subst hV; exact (G4.out _ _).trans (grown_drew _))
  clear hV dk G4 KE
  go_still_tail 22, (by kernel_rfl)
  change wpList _ _ _ _ _ V.drew
  generalize V.drew = V' at *
  go_wp2_with (first | (go_at_call 14; refine (AW.out _).mono ?_; rintro e w5 ⟨rfl, g5⟩; have G5 := Lib.hid (GV.out.trans g5); clear g5))
  go_ret
  exact ⟨rfl, G5.out⟩
set_option maxRecDepth 100000 in
set_option maxHeartbeats 8000000 in
theorem ar_2_gt_no (a b op C : Int) (w : World) (ha : -999999999 ≤ a ∧ a ≤ 999999999) (hb : -999999999 ≤ b ∧ b ≤ 999999999) (h0 : 0 ≤ op) (h255 : op ≤ 255) (hk : op.tmod 5 = 2) (hcmp : b < a) (hC : a * b = C) (hC1 : -9000000000000000000 ≤ C) (hC2 : C ≤ 9000000000000000000) (hr : C < -999999999 ∨ 999999999 < C) :
    Calls Tryd.prog 6 #[iv a, iv b, .int .u8 op] w fun e w' => e = .returned (.bool true) ∧ w.grownBy w' none := by
  have hw : Go.RowKit.wrap64 (a * b) = C := by rw [hC]; exact IntWalk.wrap64_in _ ⟨by omega, by omega⟩
  have he : ∀ bs : List Blk, exec bs ⟨10, 0, 0, [42]⟩ ([] ++ [vInt a] ++ [vInt b]) [] ⟨0, 3, []⟩ 0 = .error 5 := fun bs => by
    have e1 : opInt [42] a b = C := by simp [opInt, w64, hw]
    rw [exec_op, if_neg (by decide), if_neg (by decide), e1, if_pos (by omega)]
  have RS := Lib.hid (fun W A => ar_no W A a b [42] ha hb rfl (by decide) he)
  have PL := Lib.hid (fun W A (t : TypeId) h => ar_plain W A a b [42] (t := t) h)
  have AW := Lib.hid awake_any
  have r1 : ¬ a < -999999999 := by omega
  have r2 : ¬ 999999999 < a := by omega
  have r3 : ¬ b < -999999999 := by omega
  have r4 : ¬ 999999999 < b := by omega
  have c1 : (a == b) = false := by simp; omega
  have c2 : ¬ a = b := by omega
  have c3 : ¬ a < b := by omega
  have ww1 : IntKind.i64.wrap (a + b) = a + b := IntWalk.i64_in _ ⟨by omega, by omega⟩
  have ww2 : IntKind.i64.wrap (a - b) = a - b := IntWalk.i64_in _ ⟨by omega, by omega⟩
  have ww3 : IntKind.i64.wrap (a * b) = C := by rw [hC]; exact IntWalk.i64_in _ ⟨by omega, by omega⟩
  have ww4 : IntKind.i64.wrap op = op := IntWalk.i64_in _ ⟨by omega, by omega⟩
  clear he hw
  clear hC hC1 hC2 ha hb
  have hr' : decide (C < -999999999) = true ∨ (decide (C < -999999999) = false ∧ decide (999999999 < C) = true) := by
    by_cases hq : C < -999999999
    · exact .inl (by simpa using hq)
    · exact .inr ⟨by simpa using hq, by simp; omega⟩
  clear hr
  rcases hr' with v1 | ⟨v1, v2⟩
  all_goals
    go_enter Tryd.func6, Tryd.ntmps6
    go_wp2_with (first | (go_at_call 21; refine (PL.out _ _ _ (by exact al_at _ _ (by simp))).mono ?_; rintro e w1 ⟨g1, B1, B2, rfl, hp⟩; have G1 := Lib.hid ((((World.grownBy_alloc w _ none).trans (World.grownBy_alloc _ _ none)).trans (World.grownBy_alloc _ _ none)).trans g1); have KD := Lib.hid ((g1.block w.heap.size (by simp; omega) (by simp)).trans ((Below.heap_alloc _ _ _ (by simp; omega)).trans ((Below.heap_alloc _ _ _ (by simp)).trans (al_new w _)))); have R1 := Lib.hid (RS.out w1 _ B1 B2 hp); clear PL RS hp g1) | (go_at_call 20; refine R1.out.mono ?_; rintro e w2 ⟨g2, M, rfl, s3, s5⟩; have G2 := Lib.hid (G1.out.trans g2); have G4 := Lib.hid (fun o o' => (G1.out.trans g2).trans ((World.grownBy_alloc w2 o none).trans (World.grownBy_alloc _ o' none))); have KE := Lib.hid ((g2.block _ (heap_lt KD.out) (by simp)).trans KD.out); have dk := fun o o' => cell_al (cell_al (show w2.cell? ⟨w.heap.size, 2, none⟩ = some (iv (C)) by rw [Lib.cell_of_heap KE.out]; rfl) (heap_lt KE.out) o) (show w.heap.size < _ by have := heap_lt KE.out; simp; omega) o'; unfold AM.v; rw [s3, s5]; clear R1 G1 g2 s3 s5 KD) | (go_at_call 14; refine (AW.out _).mono ?_; rintro e w5 ⟨rfl, g5⟩; have G5 := Lib.hid ((G4.out _ _).trans g5); clear g5))
    go_ret
    exact ⟨rfl, G5.out⟩
end Go.Proofs.YtdfllhmkgphcmaaDoor

/- Walk of Merge: valid sums whose sides are equal. -/
import Derived.Test.YtgenloemohcpcaaMergeA
import Derived.Test.YtgenloemohcpcaaIter
namespace Go.Proofs.Ytgenloemohcpcaa
open Go.RowKit

set_option maxRecDepth 100000 in
set_option maxHeartbeats 4000000 in
theorem merge_eq (b l r : SR) (w : World) (hb : b.Rd w) (hl : l.Rd w) (hr : r.Rd w) (h1 : chk b.L b.M = 0) (h2 : chk l.L l.M = 0) (h3 : chk r.L r.M = 0) (hq : l.p = r.p) (hsz : l.L.length ≤ 1000) (hsm : l.M.length ≤ 1000) :
    Calls Try.prog 12 #[b.val, l.val, r.val] w (MergePost b.p l.p r.p w) := by
  have st := chk_start w b l r hb hl hr
  have hall : ∀ j (h : j < [b, l, r].length), chk [b, l, r][j].L [b, l, r][j].M = 0 := by
    intro j hj
    match j, hj with
    | 0, _ => exact h1
    | 1, _ => exact h2
    | 2, _ => exact h3
  have e1 := mErr0 (b := b.p) (l := l.p) (r := r.p) h1 h2 h3
  have e2 : mrg b.p l.p r.p = l.p := by rw [← hq]; exact mrg_same _ _
  rw [e2] at e1
  have hq' : same2 l.L l.M r.L r.M = true := by
    unfold SR.p at hq
    simp only [Prod.mk.injEq] at hq
    simp [same2, hq.1, hq.2]
  have E1 := Lib.hid e1
  have HQ := Lib.hid hq'
  have HA := Lib.hid hall
  have ST := Lib.hid st
  clear hb hl hr h1 h2 h3 hq hq' e1 e2 hall st
  unfold SR.val
  go_enter Try.func12, Try.ntmps12
  go_wp2_with fail
  go_loopw [9, 10, 21] (fun _ _ i wr => ∃ k : Nat, k ≤ 3 ∧ i = .int .i64 k ∧ ChkSt w wr b l r k) (fun _ _ i _ => 3 - (intOf i).toNat)
  case atStart => exact ⟨0, by omega, rfl, ST.out⟩
  case round =>
    clear ST
    obtain ⟨k, hk, rfl, st⟩ := hrel
    by_cases hlt : k < 3
    · have hk3 : k < [b, l, r].length := hlt
      have hrd := st.box.mem (List.getElem_mem hk3)
      obtain ⟨c0, c1⟩ := st.ss k hk3
      have h0 := HA.out k hk3
      have t0 : (chk [b, l, r][k].L [b, l, r][k].M != 0) = false := by simpa using h0
      have NX := Lib.hid fun w' hb => st.next (w' := w') hb hk3 h0
      clear st h0 E1 HQ HA
      generalize [b, l, r][k] = s at *
      go_wp2_with fail
      refine (check_any s.A s.B s.c s.d s.L s.M _ (hrd.a.alloc _) (hrd.b.alloc _) (by have := hrd.la; omega) hrd.lb).mono ?_
      rintro e w1 ⟨rfl, k1⟩
      have K1 := Lib.hid k1
      clear k1
      go_wp2_with fail
      go_roundw
      case rel => exact ⟨k + 1, by omega, by go_num, NX.out _ (((Below.refl _ _).alloc (Nat.le_refl _) _).trans (K1.out.mono (by simp)))⟩
      case measure => simp [intOf]; omega
    · have bx3 := st.box
      clear st HA
      have y0 := bx3.b1.c0
      have y1 := bx3.b1.c1
      have y2 := bx3.b2.c0
      have y3 := bx3.b2.c1
      go_wp2_with fail
      refine (equal2_any l.A l.B r.A r.B l.c l.d r.c r.d l.L l.M r.L r.M wr bx3.rl.a bx3.rl.b bx3.rr.a bx3.rr.b (by omega) (by omega)).mono ?_
      rintro e w4 ⟨rfl, k4⟩
      rw [HQ.out]
      have bx4 := bx3.below k4
      clear k4 bx3 y0 y1 y2 y3
      have v0 := bx4.b1.c0
      have v1 := bx4.b1.c1
      have p0 := bx4.b3.c0
      have p1 := bx4.b3.c1
      have p2 := bx4.b3.f0 0
      have p3 := bx4.b3.f0 1
      have l1 := bx4.b1.lt
      have l3 := bx4.b3.lt
      have q1 := bx4.rl.a
      have q2 := bx4.rl.b
      have hS : ∀ W, Below w4.heap.size w4 W → (W.cell? ⟨w.heap.size + 1, 0, none⟩ = some (.slice l.A l.L.length l.c) ∧ W.cell? ⟨w.heap.size + 1, 1, none⟩ = some (.slice l.B l.M.length l.d)) := fun W hW =>
        ⟨(hW.cell (p := ⟨w.heap.size + 1, 0, none⟩) l1).trans v0, (hW.cell (p := ⟨w.heap.size + 1, 1, none⟩) l1).trans v1⟩
      have hS2 : ∀ W x y, Below w4.heap.size w4 W → (((W.setCell ⟨w.heap.size + 1 + 1 + 1, 0, none⟩ x).setCell ⟨w.heap.size + 1 + 1 + 1, 1, none⟩ y).cell? ⟨w.heap.size + 1, 0, none⟩ = some (.slice l.A l.L.length l.c) ∧ ((W.setCell ⟨w.heap.size + 1 + 1 + 1, 0, none⟩ x).setCell ⟨w.heap.size + 1 + 1 + 1, 1, none⟩ y).cell? ⟨w.heap.size + 1, 1, none⟩ = some (.slice l.B l.M.length l.d)) := fun W x y hW => by
        rw [World.cell?_setCell_other _ _ _ _ (by simp), World.cell?_setCell_other _ _ _ _ (by simp), World.cell?_setCell_other _ _ _ _ (by simp), World.cell?_setCell_other _ _ _ _ (by simp)]
        exact hS W hW
      have HS := Lib.hid hS
      have HS2 := Lib.hid hS2
      clear hS2
      have BX := Lib.hid bx4
      clear hS bx4
      have tokA : True := trivial
      go_wp2_with fail
      go_region_held3 (fun w' => w'.cell? ⟨w.heap.size + 1, 0, none⟩ = some (.slice l.A l.L.length l.c) ∧ w'.cell? ⟨w.heap.size + 1, 1, none⟩ = some (.slice l.B l.M.length l.d))
        (first | exact HS.out _ KB | exact HS.out _ KA | go_keep | exact HS2.out _ _ _ KB)
        (first
          | (go_at_call 29; have _t := tokA; refine (clone_any l.A l.c l.L _ (by exact q1) (by omega)).mono ?_; rintro e wA ⟨AA, cA, rfl, hcA, rA, kA⟩; have KA := undrew kA; clear tokA kA)
          | (go_at_call 29; refine (clone_any l.B l.d l.M _ (by exact q2.below KA) (by omega)).mono ?_; rintro e wB ⟨AB, cB, rfl, hcB, rB, kB⟩; have KB := KA.trans (kB.mono KA.size); replace rA := rA.below kB; have p0' := (KB.cell (p := ⟨w.heap.size + 1 + 1 + 1, 0, none⟩) l3).trans p0; have p1' := (KB.cell (p := ⟨w.heap.size + 1 + 1 + 1, 1, none⟩) l3).trans p1; have p2' := (KB.frozen (p := ⟨w.heap.size + 1 + 1 + 1, 0, none⟩) l3).trans p2; have p3' := (KB.frozen (p := ⟨w.heap.size + 1 + 1 + 1, 1, none⟩) l3).trans p3; clear kB))
      go_wp2_with fail
      have bx5 := BX.out.below KB
      obtain ⟨g0, g1, g2, g3⟩ := box_ret bx5 (.slice AA l.L.length cA) (.slice AB l.M.length cB)
      generalize (wB.setCell { block := w.heap.size + 1 + 1 + 1, off := 0 } (Value.slice AA l.L.length cA)).setCell { block := w.heap.size + 1 + 1 + 1, off := 1 } (Value.slice AB l.M.length cB) = w9 at *
      refine bodyPost_ret (v := .tuple #[sv AA AB l.L.length cA l.M.length cB, .int .i64 0]) (by simp [results, Try.results12, go_sem, g0, g1]) rfl ⟨⟨AA, AB, cA, cB, l.L, l.M⟩, ?_, ⟨g3 _ _ rA, g3 _ _ rB, hcA, hcB, by simp only; omega, by simp only; omega⟩, ?_, g2⟩
      · rw [E1.out.1]; rfl
      · rw [E1.out.2]; rfl
end Go.Proofs.Ytgenloemohcpcaa

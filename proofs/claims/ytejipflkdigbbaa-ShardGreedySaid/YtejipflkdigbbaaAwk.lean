/- Walk: the example of the chapter. -/
import Derived.Test.YtejipflkdigbbaaGrw
import Derived.Test.YtejipflkdigbbaaGrp
import Derived.Test.YtejipflkdigbbaaDiv4
import Derived.Test.YtejipflkdigbbaaSam
namespace Go.Proofs.Ytejipflkdigbbaa
open Go.RowKit

abbrev aC : List Int := [5, 3, 3, 2, 2]
abbrev aL : List (List Int) := [[0, 3], [1, 2, 4]]
theorem aw_ca : ca aC 2 = 0 := by decide
theorem aw_gf : (gfold aC 2 5).2 = [[0, 3], [1, 2, 4]] := by decide
theorem aw_greedy : greedy aC 2 = aL := by
  unfold greedy
  rw [if_pos aw_ca]
  show (gfold aC 2 5).2.map ascd = aL
  rw [aw_gf]
  have h1 : ascd [0, 3] = [0, 3] := asc_unique (ascd_perm _) (ascd_sorted _) (by decide)
  have h2 : ascd [1, 2, 4] = [1, 2, 4] := asc_unique (ascd_perm _) (ascd_sorted _) (by decide)
  simp [h1, h2]
theorem aw_ck : ck aC aL = 0 := by decide
theorem aw_span : span aC aL = 8 := by decide
theorem aw_best : bst aC 2 = 8 ∧ bstE aC 2 = 0 := by decide
theorem aw_dsc : dsc aC = aC := by
  rw [← ord_costs]
  decide
theorem aw_least : least aC 2 = 8 := by
  unfold least
  rw [aw_dsc]
  decide

theorem rd_made (w : World) (L : List Int) (t : TypeId) : RD iv (w.alloc (.cells (L.map iv).toArray t)) (some ⟨w.heap.size, 0, none⟩) L := by
  refine .inr ⟨_, rfl, by simp, fun j y hj => ?_⟩
  have e : (({ block := w.heap.size, off := 0 } : Addr).add j) = ⟨w.heap.size, j, none⟩ := by
    unfold Addr.add
    split
    · rename_i h; subst h; rfl
    · simp
  rw [e]
  simp [World.cell?_alloc_at, hj]
theorem lls_len (R : List Row) : (lls R).length = R.length := by simp [lls]
/-- The literal of two rows. -/
theorem rws_two (w : World) (L M : List Int) (hL : L.length ≤ 9) (hM : M.length ≤ 9) :
    Rws (((w.alloc (.cells (L.map iv).toArray 3)).alloc (.cells (M.map iv).toArray 3)).alloc (.cells #[.slice (some ⟨w.heap.size, 0, none⟩) L.length L.length, .slice (some ⟨w.heap.size + 1, 0, none⟩) M.length M.length] 22)) (some ⟨w.heap.size + 1 + 1, 0, none⟩)
      [⟨some ⟨w.heap.size, 0, none⟩, L.length, L⟩, ⟨some ⟨w.heap.size + 1, 0, none⟩, M.length, M⟩] := by
  have h1 := ((rd_made w L 3).alloc (.cells (M.map iv).toArray 3)).alloc (.cells #[.slice (some ⟨w.heap.size, 0, none⟩) L.length L.length, .slice (some ⟨w.heap.size + 1, 0, none⟩) M.length M.length] 22)
  have h2 := (rd_made (w.alloc (.cells (L.map iv).toArray 3)) M 3).alloc (.cells #[.slice (some ⟨w.heap.size, 0, none⟩) L.length L.length, .slice (some ⟨w.heap.size + 1, 0, none⟩) M.length M.length] 22)
  have e1 : (w.alloc (.cells (L.map iv).toArray 3)).heap.size = w.heap.size + 1 := by simp
  rw [e1] at h2
  refine ⟨.inr ⟨_, rfl, by simp, fun j x hj => ?_⟩, fun x hx => ?_⟩
  · have e2 : ((w.alloc (.cells (L.map iv).toArray 3)).alloc (.cells (M.map iv).toArray 3)).heap.size = w.heap.size + 1 + 1 := by simp
    match j, hj with
    | 0, hj =>
      simp at hj; subst hj
      rw [show (({ block := w.heap.size + 1 + 1, off := 0 } : Addr).add 0) = ⟨w.heap.size + 1 + 1, 0, none⟩ from rfl, ← e2]
      simp [World.cell?_alloc_at, Row.val]
    | 1, hj =>
      simp at hj; subst hj
      rw [show (({ block := w.heap.size + 1 + 1, off := 0 } : Addr).add 1) = ⟨w.heap.size + 1 + 1, 1, none⟩ from rfl, ← e2]
      simp [World.cell?_alloc_at, Row.val]
    | j + 2, hj => simp at hj
  · simp only [List.mem_cons, List.not_mem_nil, or_false] at hx
    rcases hx with rfl | rfl
    · exact ⟨h1, Nat.le_refl _, by show L.length ≤ _; omega⟩
    · exact ⟨h2, Nat.le_refl _, by show M.length ≤ _; omega⟩

set_option maxRecDepth 100000 in
set_option maxHeartbeats 2000000 in
theorem awake_any (w : World) : Calls Try.prog 11 #[] w fun e w' => e = .returned (.bool true) ∧ Below w.heap.size w w' := by
  have rc := rd_made w aC 3
  have b0 : Below w.heap.size w (w.alloc (.cells (aC.map iv).toArray 3)) := (Below.refl _ _).alloc (Nat.le_refl _) _
  have RC := Lib.hid rc
  have B0 := Lib.hid b0
  have GR := fun A c W h => greedy_any A c aC 2 W h (sorts_small (by decide))
  have LE := fun A c W h => leastF_any A c aC 2 W h
  have BE := fun A c W h => bestP_any A c aC 2 W h
  rw [aw_greedy, aw_ca] at GR
  rw [aw_ca, if_pos rfl, aw_least] at LE
  rw [aw_best.1, aw_best.2] at BE
  have HGR := Lib.hid GR
  have HLE := Lib.hid LE
  have HBE := Lib.hid BE
  clear rc b0 GR LE BE
  go_enter Try.func11, Try.ntmps11
  go_wp2_with fail
  refine (HGR.out (some ⟨w.heap.size, 0, none⟩) 5 _ RC.out).mono ?_
  rintro e w1 ⟨A1, R1, d1, rfl, r1, e1, k1⟩
  have hl : R1.length = 2 := by rw [← lls_len, e1]; rfl
  have K1 := Lib.hid k1
  have E1 := Lib.hid e1
  have RR1 := Lib.hid r1
  have HL := Lib.hid hl
  clear k1 e1 r1 hl
  go_wp2_with fail
  have SP := span_any (some ⟨w.heap.size, 0, none⟩) A1 5 d1 aC R1 w1 (RC.out.below K1.out) RR1.out (by rw [HL.out]; omega)
  rw [E1.out, aw_ck, if_pos rfl, aw_span] at SP
  refine SP.mono ?_
  rintro e w2 ⟨rfl, k2⟩
  clear SP
  have K2 := Lib.hid k2
  clear k2
  go_wp2_with fail
  refine (HLE.out (some ⟨w.heap.size, 0, none⟩) 5 w2 ((RC.out.below K1.out).below K2.out)).mono ?_
  rintro e w3 ⟨rfl, k3⟩
  have K3 := Lib.hid k3
  clear k3
  go_wp2_with fail
  refine (HBE.out (some ⟨w.heap.size, 0, none⟩) 5 w3 (((RC.out.below K1.out).below K2.out).below K3.out)).mono ?_
  rintro e w4 ⟨rfl, k4⟩
  have K4 := Lib.hid k4
  clear k4
  have R4 := Lib.hid (((RR1.out.below K2.out).below K3.out).below K4.out)
  have lit := rws_two w4 [0, 3] [1, 2, 4] (by decide) (by decide)
  have kl : Below w4.heap.size w4 (((w4.alloc (.cells ([0, 3].map iv).toArray 3)).alloc (.cells ([1, 2, 4].map iv).toArray 3)).alloc (.cells #[.slice (some ⟨w4.heap.size, 0, none⟩) 2 2, .slice (some ⟨w4.heap.size + 1, 0, none⟩) 3 3] 22)) := (((Below.refl _ _).alloc (Nat.le_refl _) _).alloc (by simp) _).alloc (by simp; omega) _
  have LIT := Lib.hid lit
  have KL := Lib.hid kl
  clear lit kl
  have B4 := Lib.hid ((((B0.out.trans (K1.out.mono B0.out.size)).trans (K2.out.mono (Nat.le_trans B0.out.size K1.out.size))).trans (K3.out.mono (Nat.le_trans B0.out.size (Nat.le_trans K1.out.size K2.out.size)))).trans (K4.out.mono (Nat.le_trans B0.out.size (Nat.le_trans K1.out.size (Nat.le_trans K2.out.size K3.out.size)))))
  clear HGR HLE HBE RR1
  go_wp2_with fail
  refine (same_any A1 _ d1 2 R1 _ _ (R4.out.below KL.out) LIT.out (by rw [HL.out]; omega)).mono ?_
  rintro e w5 ⟨he, n5, rfl⟩
  have he2 : e = .returned (.bool true) := by rw [he, E1.out]; rfl
  clear he
  subst he2
  have K5 := Lib.hid (below_drewN (B4.out.trans (KL.out.mono B4.out.size)) n5)
  go_wp2_with fail
  go_ret
  exact ⟨rfl, K5.out⟩
end Go.Proofs.Ytejipflkdigbbaa

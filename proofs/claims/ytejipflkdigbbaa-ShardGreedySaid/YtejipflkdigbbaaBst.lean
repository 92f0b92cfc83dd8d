/- Walks: the reference's best and Best. -/
import Derived.Test.YtejipflkdigbbaaLst
import Derived.Test.YtejipflkdigbbaaPure5
import Derived.RegionTactic
import Derived.Deep.Cut
namespace Go.Proofs.Ytejipflkdigbbaa
open Go.RowKit

/-- Costs and sums that stay within bounds. -/
structure Bnd (C S : List Int) (n : Nat) : Prop where
  c : ∀ c ∈ C, 0 ≤ c ∧ c ≤ 1099511627776
  cl : C.length ≤ 1000
  s : ∀ s ∈ S, 0 ≤ s ∧ s + C.length * 1099511627776 ≤ 1099511627776000
  sl : S.length ≤ n
  n1 : 1 ≤ n
  n2 : n ≤ 100
theorem mem_set' {S : List Int} {k : Nat} {x y : Int} (h : y ∈ S.set k x) : y ∈ S ∨ y = x := List.mem_or_eq_of_mem_set h
theorem Bnd.next {c : Int} {C S : List Int} {n k : Nat} (h : Bnd (c :: C) S n) (hk : k < wys S n) : Bnd C (opt c S k) n := by
  have hc := h.c c (by simp)
  have hl := h.cl
  simp only [List.length_cons] at hl
  refine ⟨fun d hd => h.c d (by simp [hd]), by omega, ?_, ?_, h.n1, h.n2⟩
  · intro s hs
    unfold opt at hs
    split at hs
    · rename_i hlt
      rcases mem_set' hs with hs | rfl
      · have := h.s s hs
        simp only [List.length_cons] at this
        omega
      · have hm : S.getD k 0 ∈ S := by simp [List.getD_eq_getElem?_getD, hlt]
        have := h.s _ hm
        simp only [List.length_cons] at this
        omega
    · rcases List.mem_append.1 hs with hs | hs
      · have := h.s s hs
        simp only [List.length_cons] at this
        omega
      · simp only [List.mem_singleton] at hs
        subst hs
        omega
  · have := h.sl
    rw [opt_len]
    unfold wys at hk
    split <;> split at hk <;> omega
theorem OT.at {w : World} {base g cap : Nat} {L : List Int} (h : OT w base (.slice (some ⟨g, 0, none⟩) L.length cap) L) {j : Nat} (hj : j < L.length) : w.cell? ⟨g, j, none⟩ = some (.int .i64 (L.getD j 0)) ∧ w.frozen? ⟨g, j, none⟩ = false := by
  refine ⟨?_, World.ownsRow.frozenAt h j⟩
  rw [World.ownsRow.cellAt h j (by omega)]
  simp [hj, List.getD_eq_getElem?_getD]
theorem OT.set {w : World} {base g cap : Nat} {L : List Int} (h : OT w base (.slice (some ⟨g, 0, none⟩) L.length cap) L) (j : Nat) (x : Int) : OT (w.setCell ⟨g, j, none⟩ (.int .i64 x)) base (.slice (some ⟨g, 0, none⟩) L.length cap) (L.set j x) ∧ w.grownBy (w.setCell ⟨g, j, none⟩ (.int .i64 x)) (some g) := by
  have := World.ownsRow.stored h j (.int .i64 x)
  refine ⟨?_, this.2⟩
  unfold OT
  rw [List.length_set, List.map_set]
  exact this.1

theorem ot_rd {w : World} {base g cap m : Nat} {L : List Int} (h : OT w base (.slice (some ⟨g, 0, none⟩) m cap) L) (hm : L.length = m) : RD iv w.drew (some ⟨g, 0, none⟩) L := by
  subst hm
  obtain ⟨A, c, e, hc, hr, -⟩ := h.form
  cases e
  exact hr.drewN 1
set_option maxRecDepth 100000 in
set_option maxHeartbeats 4000000 in
theorem best_nil (A B : Option Addr) (c d : Nat) (S : List Int) (n : Nat) (w : World) (hB : RD iv w B S) (hb : Bnd [] S n) :
    Calls Try.prog 44 #[.slice A 0 c, .slice B S.length d, .int .i64 n] w fun e w' => e = .returned (.int .i64 (bestR n [] S)) ∧ Below w.heap.size w w' := by
  have hS := hb.sl
  have hn := hb.n2
  clear hb
  go_enter Try.func44, Try.ntmps44
  go_wp2_with (go_at_call 25; refine (greatest_any B d S _ hB (by omega)).mono ?_; rintro e w' ⟨rfl, rfl⟩)
  go_ret
  exact ⟨rfl, Below.refl _ _⟩

set_option maxRecDepth 100000 in
set_option maxHeartbeats 4000000 in
theorem best_cons (x : Int) (C : List Int) (n : Nat) (ih : ∀ (S : List Int) (A B : Option Addr) (c d : Nat) (w : World), RD iv w A C → RD iv w B S → C.length ≤ c → Bnd C S n → Calls Try.prog 44 #[.slice A C.length c, .slice B S.length d, .int .i64 n] w fun e w' => e = .returned (.int .i64 (bestR n C S)) ∧ Below w.heap.size w w')
    (S : List Int) (A B : Option Addr) (c d : Nat) (w : World) (hA : RD iv w A (x :: C)) (hB : RD iv w B S) (hc : (x :: C).length ≤ c) (hb : Bnd (x :: C) S n) :
    Calls Try.prog 44 #[.slice A (x :: C).length c, .slice B S.length d, .int .i64 n] w fun e w' => e = .returned (.int .i64 (bestR n (x :: C) S)) ∧ Below w.heap.size w w' := by
  have hS := hb.sl
  have hn := hb.n2
  have hn1 := hb.n1
  have hx := hb.c x (by simp)
  have HBD := Lib.hid hb
  have IH := Lib.hid ih
  have HA := Lib.hid hA
  have HB := Lib.hid hB
  have W0 : Hid (bestR n (x :: C) S = mn (-1) (((opts x S n).take (wys S n)).map (bestR n C))) := Lib.hid (by rw [List.take_of_length_le (by rw [opts_len]; exact Nat.le_refl _)]; rfl)
  have hcl : C.length + 1 ≤ c := by simpa using hc
  have hne : ((C.length : Int) + 1 == 0) = false := by simp; omega
  have hC := hb.cl
  simp only [List.length_cons] at hC
  obtain ⟨a, rfl, hab, hac⟩ := hA.at (show 0 < (x :: C).length by simp)
  clear hb ih hA hB hc
  simp only [List.length_cons]
  go_enter Try.func44, Try.ntmps44
  go_wp2
  go_loopw [7, 8] (fun o i wr => ∃ k : Nat, k ≤ wys S n ∧ i = .int .i64 k ∧ o = .int .i64 (mn (-1) (((opts x S n).take k).map (bestR n C))) ∧ Hid (Below w.heap.size w wr)) (fun _ i _ => wys S n - (intOf i).toNat)
  case atStart => exact ⟨0, Nat.zero_le _, rfl, rfl, Lib.hid (Below.refl _ _)⟩
  case round =>
    obtain ⟨k, hk, rfl, rfl, HBE⟩ := hrel
    have hw : wys S n = if S.length < n then S.length + 1 else S.length := rfl
    by_cases hkw : k < wys S n
    · have t1 : k ≤ S.length := by split at hw <;> omega
      have t2 : k < n := by split at hw <;> omega
      have MT := Lib.hid (mn_take (n := n) (C := C) (S := S) (d := x) hkw)
      have NB := Lib.hid (HBD.out.next hkw)
      have NN := Lib.hid (bestR_nonneg hn1 C (opt x S k))
      generalize mn (-1) (((opts x S n).take k).map (bestR n C)) = b at *
      clear hw
      have o1 := ot_empty wr (Nat.le_refl _)
      have b1 : Below wr.heap.size wr (wr.alloc (.cells #[] 3)) := (Below.refl _ _).alloc (Nat.le_refl _) _
      have rB := HB.out.below HBE.out
      by_cases hlt : k < S.length
      · have t3 : ((k : Int) == (S.length : Int)) = false := by simp; omega
        have hSne : S ≠ [] := fun h => by subst h; simp at hlt
        go_upto_region 8 with (at_builtin; refine wpList_app _ rfl (.tmp 27) (.tmp 28) rfl wr.heap.size (v := .slice (some ⟨wr.heap.size, 0, none⟩) 0 0) rfl o1 (M := S) rfl rfl (rB.below b1) (by simp; omega) (by simp) ?_; intro v2 w2 o2 g2 l2; have b2 := ot_below b1 o1 g2)
        rw [List.nil_append] at o2
        obtain ⟨g, cap, rfl, hg1, hg2, hcap⟩ := o2.inBlock hSne
        have B2 := Lib.hid (HBE.out.trans (b2.mono HBE.out.size))
        have m1 := o2.at hlt
        have hs2 := o2.set k (S.getD k 0 + x)
        have sb : S.getD k 0 ∈ S := by simp [List.getD_eq_getElem?_getD, hlt]
        have sbd := HBD.out.s _ sb
        simp only [List.length_cons] at sbd
        obtain ⟨a', e', hab', hac'⟩ := (HA.out.below B2.out).at (show 0 < (x :: C).length by simp)
        obtain rfl : a' = a := by injection e'; exact Eq.symm ‹_›
        clear e'
        rw [add_zero'] at hac'
        simp only [List.getElem_cons_zero] at hac'
        obtain ⟨m11, m12⟩ := m1
        have z1 : (0 : Int) ≤ (k : Int) := by omega
        have z2 : (k : Int) < (S.length : Int) := by omega
        have HOPT : Hid (opt x S k = S.set k (S.getD k 0 + x)) := Lib.hid (by unfold opt; rw [if_pos hlt])
        have HLN : Hid ((opt x S k).length = S.length) := Lib.hid (by rw [opt_len, if_pos hlt])
        generalize S.getD k 0 = y at *
        clear o1 b1 b2 g2 l2 hac rB
        go_upto_region 10 with (fail)
        go_region
        go_upto_region 11 with (fail)
        have HBW : Hid (Below w.heap.size w (w2.setCell ⟨g, k, none⟩ (.int .i64 (y + x))).drew) := Lib.hid (below_drewN (B2.out.setCell (p := ⟨g, k, none⟩) (Nat.le_trans HBE.out.size hg1) _) 1)
        have HRN : Hid (RD iv (w2.setCell ⟨g, k, none⟩ (.int .i64 (y + x))).drew (some ⟨g, 0, none⟩) (opt x S k)) := Lib.hid (by rw [HOPT.out]; exact ot_rd hs2.1 (by simp))
        generalize (w2.setCell ⟨g, k, none⟩ (.int .i64 (y + x))).drew = W3 at *
        clear hs2 o2 m11 m12 hac' B2
        have BW : Below w.heap.size w W3 := HBW.out
        have rN := HRN.out
        have rC : RD iv W3 (cutA (some a') c 1) C := (HA.out.below BW).cutA 1 c (by simp; omega)
        have hs := fun W => run_cut (some a') (C.length + 1) c 1 1 rfl (by omega) W
        have ic := IH.out (opt x S k) (cutA (some a') c 1) (some ⟨g, 0, none⟩) (c - 1) cap W3 rC rN (by omega) NB.out
        rw [HLN.out] at ic
        have IC := Lib.hid ic
        have NZ := NN.out
        generalize bestR n C (opt x S k) = z at *
        clear ic rN rC
        go_wp2_with (go_at_call 44; refine IC.out.mono ?_; rintro e w4 ⟨rfl, k4⟩)
        all_goals have HB4 := Lib.hid (BW.trans (k4.mono BW.size))
        all_goals clear k4
        all_goals go_roundw
        all_goals first | exact ⟨k + 1, by omega, by go_num, by rw [MT.out]; unfold upd1; first | rw [if_pos (by omega)] | rw [if_neg (by omega)], HB4⟩ | (simp [intOf]; omega)
      · obtain rfl : k = S.length := by omega
        have t3 : ((S.length : Int) == (S.length : Int)) = true := by simp
        go_upto_region 10 with (first
          | (at_builtin; refine wpList_app _ rfl (.tmp 27) (.tmp 28) rfl wr.heap.size (v := .slice (some ⟨wr.heap.size, 0, none⟩) 0 0) rfl o1 (M := S) rfl rfl (rB.below b1) (by simp; omega) (by simp) ?_; intro v2 w2 o2 g2 l2; have b2 := ot_below b1 o1 g2)
          | (at_builtin; refine wpList_app _ rfl (.tmp 34) (.tmp 35) rfl wr.heap.size (v := v2) rfl (o2.alloc _) (M := [(0 : Int)]) rfl rfl (rd_one w2 0 3) (by simp; omega) (by have := b2.size; simp; omega) ?_; intro v3 w3 o3 g3 l3; have b3 := ot_below (b2.alloc b2.size _) (o2.alloc _) g3))
        rw [List.nil_append] at o3
        obtain ⟨g, cap, rfl, hg1, hg2, hcap⟩ := o3.inBlock (by simp)
        have hl1 : (S ++ [(0 : Int)]).length = S.length + 1 := by simp
        have B2 := Lib.hid (HBE.out.trans (b3.mono HBE.out.size))
        obtain ⟨m11, m12⟩ := o3.at (show S.length < (S ++ [(0 : Int)]).length by simp)
        have e0 : (S ++ [(0 : Int)]).getD S.length 0 = 0 := by simp [List.getD_eq_getElem?_getD]
        rw [e0] at m11
        have hs2 := o3.set S.length (0 + x)
        obtain ⟨a', e', hab', hac'⟩ := (HA.out.below B2.out).at (show 0 < (x :: C).length by simp)
        obtain rfl : a' = a := by injection e'; exact Eq.symm ‹_›
        clear e' e0
        rw [add_zero'] at hac'
        simp only [List.getElem_cons_zero] at hac'
        have HOPT : Hid (opt x S S.length = (S ++ [(0 : Int)]).set S.length (0 + x)) := Lib.hid (by unfold opt; rw [if_neg (by omega)]; simp)
        have HLN : Hid ((opt x S S.length).length = S.length + 1) := Lib.hid (by rw [opt_len, if_neg (by omega)])
        rw [hl1]
        rw [hl1] at hs2
        have z1 : (0 : Int) ≤ (S.length : Int) := by omega
        have z2 : (S.length : Int) < ((S.length + 1 : Nat) : Int) := by omega
        clear o1 b1 b2 g2 l2 hac rB o2 g3 l3 b3 hl1
        generalize hk0 : S.length = k at *
        go_region
        go_upto_region 11 with (fail)
        have HBW : Hid (Below w.heap.size w (w3.setCell ⟨g, k, none⟩ (.int .i64 (0 + x))).drew) := Lib.hid (below_drewN (B2.out.setCell (p := ⟨g, k, none⟩) (Nat.le_trans HBE.out.size hg1) _) 1)
        have HRN : Hid (RD iv (w3.setCell ⟨g, k, none⟩ (.int .i64 (0 + x))).drew (some ⟨g, 0, none⟩) (opt x S k)) := Lib.hid (by rw [HOPT.out]; exact ot_rd hs2.1 (by simp; omega))
        rw [Int.zero_add] at HBW HRN
        generalize (w3.setCell ⟨g, k, none⟩ (.int .i64 x)).drew = W3 at *
        clear hs2 o3 m11 m12 hac' B2
        have BW : Below w.heap.size w W3 := HBW.out
        have rN := HRN.out
        have rC : RD iv W3 (cutA (some a') c 1) C := (HA.out.below BW).cutA 1 c (by simp; omega)
        have hs := fun W => run_cut (some a') (C.length + 1) c 1 1 rfl (by omega) W
        have ic := IH.out (opt x S k) (cutA (some a') c 1) (some ⟨g, 0, none⟩) (c - 1) cap W3 rC rN (by omega) NB.out
        rw [HLN.out] at ic
        have IC := Lib.hid ic
        have NZ := NN.out
        generalize bestR n C (opt x S k) = z at *
        clear ic rN rC
        subst hk0
        go_wp2_with (go_at_call 44; refine IC.out.mono ?_; rintro e w4 ⟨rfl, k4⟩)
        all_goals have HB4 := Lib.hid (BW.trans (k4.mono BW.size))
        all_goals clear k4
        all_goals go_roundw
        all_goals first | exact ⟨S.length + 1, by omega, by go_num, by rw [MT.out]; unfold upd1; first | rw [if_pos (by omega)] | rw [if_neg (by omega)], HB4⟩ | (simp [intOf]; omega)
    · have e0 : k = wys S n := by omega
      have W1 := Lib.hid (W0.out.trans (by rw [← e0]))
      have t0 : (S.length < n ∧ k = S.length + 1) ∨ (¬ S.length < n ∧ k = S.length) := by unfold wys at e0; split at e0 <;> omega
      clear hw e0 hk hkw W0
      generalize mn (-1) (((opts x S n).take k).map (bestR n C)) = m at *
      rcases t0 with ⟨t1, t2⟩ | ⟨t1, t2⟩
      · have t3 : decide ((k : Int) ≤ (S.length : Int)) = false := by simp; omega
        subst t2
        go_wp2
        go_ret
        exact ⟨ret_int W1.out.symm, HBE.out⟩
      · have t3 : decide ((k : Int) ≤ (S.length : Int)) = true := by simp; omega
        have t4 : decide ((k : Int) < (n : Int)) = false := by simp; omega
        subst t2
        go_wp2
        go_ret
        exact ⟨ret_int W1.out.symm, HBE.out⟩

theorem best_any : ∀ (C : List Int) (n : Nat) (S : List Int) (A B : Option Addr) (c d : Nat) (w : World), RD iv w A C → RD iv w B S → C.length ≤ c → Bnd C S n →
    Calls Try.prog 44 #[.slice A C.length c, .slice B S.length d, .int .i64 n] w fun e w' => e = .returned (.int .i64 (bestR n C S)) ∧ Below w.heap.size w w'
  | [], n, S, A, B, c, d, w, _, hB, _, hb => best_nil A B c d S n w hB hb
  | x :: C, n, S, A, B, c, d, w, hA, hB, hc, hb => best_cons x C n (fun S A B c d w => best_any C n S A B c d w) S A B c d w hA hB hc hb

/-- The least span of all divisions, or why there is none. -/
def bstE (C : List Int) (n : Int) : Int := if ca C n ≠ 0 then ca C n else if 8 < C.length then 4 else 0
def bst (C : List Int) (n : Int) : Int := if bstE C n ≠ 0 then 0 else bestR n.toNat C []
set_option maxRecDepth 100000 in
set_option maxHeartbeats 2000000 in
theorem rbest_any (A : Option Addr) (c : Nat) (C : List Int) (n : Int) (w : World) (hA : RD iv w A C) (hc : C.length ≤ c) :
    Calls Try.prog 22 #[.slice A C.length c, .int .i64 n] w fun e w' => e = .returned (.tuple #[.int .i64 (bst C n), .int .i64 (bstE C n)]) ∧ Below w.heap.size w w' := by
  by_cases h0 : ca C n = 0
  · have q0 : (ca C n != 0) = false := by simpa using h0
    obtain ⟨h1, hn1, hn2⟩ := ca_zero.1 h0
    obtain ⟨hC, hcc⟩ := cc_zero.1 h1
    by_cases h8 : 8 < C.length
    · have E : bstE C n = 4 := by unfold bstE; rw [if_neg (by simpa using h0), if_pos h8]
      have E2 : bst C n = 0 := by unfold bst; rw [E, if_pos (by simp)]
      rw [E, E2]
      clear h0 E E2
      go_enter Try.func22, Try.ntmps22
      go_wp2_with (go_at_call 36; refine (both_any A c C n _ hA).mono ?_; rintro e w1 ⟨rfl, rfl⟩)
      go_ret2
      exact ⟨rfl, Below.refl _ _⟩
    · have E : bstE C n = 0 := by unfold bstE; rw [if_neg (by simpa using h0), if_neg h8]
      have E2 : bst C n = bestR n.toNat C [] := by unfold bst; rw [E, if_neg (by simp)]
      rw [E, E2]
      obtain ⟨N, rfl⟩ : ∃ N : Nat, n = N := ⟨n.toNat, by omega⟩
      simp only [Int.toNat_natCast]
      have hb : Bnd C [] N := ⟨hcc, hC, by simp, by simp, by omega, by omega⟩
      have IC := Lib.hid (best_any C N [] A none c 0 w hA (.inl rfl) hc hb)
      clear h0 E E2 hcc hb
      go_enter Try.func22, Try.ntmps22
      go_wp2_with (first | (go_at_call 36; refine (both_any A c C _ _ hA).mono ?_; rintro e w1 ⟨rfl, rfl⟩) | (go_at_call 44; refine IC.out.mono ?_; rintro e w1 ⟨rfl, k1⟩))
      go_ret2
      exact ⟨rfl, k1⟩
  · have q0 : (ca C n != 0) = true := by simpa using h0
    have E : bstE C n = ca C n := by unfold bstE; rw [if_pos h0]
    have E2 : bst C n = 0 := by unfold bst; rw [E, if_pos h0]
    rw [E, E2]
    clear h0 E E2
    go_enter Try.func22, Try.ntmps22
    go_wp2_with (go_at_call 36; refine (both_any A c C n _ hA).mono ?_; rintro e w1 ⟨rfl, rfl⟩)
    go_ret2
    exact ⟨rfl, Below.refl _ _⟩
end Go.Proofs.Ytejipflkdigbbaa

/- Walks: slices.SortStableFunc at the order of Greedy: fewer than 40 costs. -/
import Derived.Test.YtejipflkdigbbaaSy4
namespace Go.Proofs.Ytejipflkdigbbaa
open Go.RowKit

/-- The whole row sorted. -/
def StbPost (C : List Int) (g cap n B : Nat) (w : World) (e : Ending) (w' : World) : Prop :=
  e = .returned (.tuple #[]) ∧ OT w' B (.slice (some ⟨g, 0, none⟩) n cap) (ord C) ∧ w.grownBy w' (some g)
theorem idx_split {n k : Nat} (h : k ≤ n) : idx n = idx k ++ (idx n).drop k := by
  have : (idx n).take k = idx k := by
    unfold idx
    rw [← List.map_take, List.take_range, Nat.min_eq_left h]
  rw [← this, List.take_append_drop]
theorem idx_asc (n : Nat) : (idx n).Pairwise (· < ·) := by
  unfold idx
  rw [List.pairwise_map]
  exact List.pairwise_lt_range.imp fun h => by omega
theorem idx_mem {n : Nat} {z : Int} (h : z ∈ idx n) : 0 ≤ z ∧ z < n := by
  unfold idx at h
  obtain ⟨k, hk, rfl⟩ := List.mem_map.1 h
  rw [List.mem_range] at hk
  omega
theorem ord_of {C Z : List Int} (hp : Z.Perm (idx C.length)) (hs : Z.Pairwise (lexP C)) : Z = ord C := by
  refine lex_unique (hp.trans ?_) hs (ordU_lex C C.length)
  exact (ordU_perm C C.length).symm

set_option maxHeartbeats 4000000 in
set_option maxRecDepth 100000 in
theorem stable46_big (C : List Int) (D g cap n B : Nat) (w : World) (hC : C.length = n) (h20 : 20 ≤ n) (h40 : n < 40) (hc : Cmp C D g w) (ho : OT w B (.slice (some ⟨g, 0, none⟩) n cap) (idx n)) :
    Calls Try.prog 46 #[.slice (some ⟨g, 0, none⟩) n cap, .int .i64 n, .func (.func 32) #[] #[.pointer (some ⟨D, 0, none⟩)]] w (StbPost C g cap n B w) := by
  have hs := idx_split h20
  obtain ⟨R, hR⟩ : ∃ R, (idx n).drop 20 = R := ⟨_, rfl⟩
  rw [hR] at hs
  have hRl : R.length = n - 20 := by rw [← hR]; simp [idx_len]
  have hasc := idx_asc n
  rw [hs, List.pairwise_append] at hasc
  have hmem : ∀ z ∈ idx 20 ++ R, 0 ≤ z ∧ z < C.length := fun z hz => by rw [hC]; rw [← hs] at hz; exact idx_mem hz
  have o1 : OT w B (.slice (some ⟨g, 0, none⟩) n cap) ([] ++ idx 20 ++ R) := by rw [hs] at ho; simpa using ho
  have i1 := fun a b h1 h2 => ins53_any C D g cap n B [] (idx 20) R a b w (by omega) hC hc o1 (fun z hz => hmem z (List.mem_append.2 (.inl hz))) hasc.1 h1 h2
  have i2 := fun (Z : List Int) (w1 : World) (hz : Z.Perm (idx 20)) (o : OT w1 B (.slice (some ⟨g, 0, none⟩) n cap) (Z ++ R ++ [])) (hg : w.grownBy w1 (some g)) a b h1 h2 => ins53_any C D g cap n B Z R [] a b w1 (by omega) hC (hc.on hg) o (fun z hz => hmem z (List.mem_append.2 (.inr hz))) hasc.2.1 h1 h2
  have i3 := fun (Z T : List Int) (w2 : World) (hz : Z.Perm (idx 20)) (ht : T.Perm R) (h0 : T ≠ []) (s1 : Z.Pairwise (lexP C)) (s2 : T.Pairwise (lexP C)) (o : OT w2 B (.slice (some ⟨g, 0, none⟩) n cap) ([] ++ Z ++ T ++ [])) (hg : w.grownBy w2 (some g)) a m b h1 h2 h3 => sym_ih C D g cap n B (by omega) hC (Z.length + T.length + 1) [] Z T [] a m b w2 (by omega) (fun e => by have := hz.length_eq; rw [e, idx_len] at this; simp at this) h0 (hc.on hg) o (fun z h => hmem z (by rcases List.mem_append.1 h with h | h; exact List.mem_append.2 (.inl (hz.mem_iff.1 h)); exact List.mem_append.2 (.inr (ht.mem_iff.1 h)))) s1 s2 (fun x hx y hy => hasc.2.2 x (hz.mem_iff.1 hx) y (ht.mem_iff.1 hy)) h1 h2 h3
  have fin : ∀ Z : List Int, Z.Perm (idx 20 ++ R) → Z.Pairwise (lexP C) → Z = ord C := fun Z h1 h2 => ord_of (by rw [hC, hs]; exact h1) h2
  have I1 := Lib.hid i1
  have I2 := Lib.hid i2
  have I3 := Lib.hid i3
  have FIN := Lib.hid fin
  have HRL := Lib.hid hRl
  have t1 : (20 : Int) ≤ (n : Int) := by omega
  have t2 : ¬ (40 : Int) ≤ (n : Int) := by omega
  clear hs hR hRl hasc hmem o1 i1 i2 i3 fin ho hc
  go_enter Try.func46, Try.ntmps46
  go_wp2
  refine wp_loop_rounds 2 ?_
  rw [rounds_succ]
  go_wp2_with (go_at_call 53; refine (I1.out _ _ (by simp) (by simp [idx_len])).mono ?_; rintro e w1 ⟨rfl, Z1, p1, s1, o1, g1⟩; have P1 := Lib.hid p1; have S1 := Lib.hid s1; have O1 : Hid (OT w1 B (.slice (some ⟨g, 0, none⟩) n cap) (Z1 ++ R ++ [])) := Lib.hid (by simpa using o1); have G1 := Lib.hid g1; have L1 : Hid (Z1.length = 20) := Lib.hid (by rw [p1.length_eq, idx_len]); clear p1 s1 o1 g1)
  rw [rounds_succ]
  go_wp2_with (go_at_call 53; refine (I2.out Z1 w1 P1.out O1.out G1.out _ _ (by rw [L1.out]; rfl) (by rw [L1.out, HRL.out]; omega)).mono ?_; rintro e w2 ⟨rfl, Z2, p2, s2, o2, g2⟩; have P2 := Lib.hid p2; have S2 := Lib.hid s2; have O2 : Hid (OT w2 B (.slice (some ⟨g, 0, none⟩) n cap) ([] ++ Z1 ++ Z2 ++ [])) := Lib.hid (by simpa using o2); have G2 := Lib.hid (G1.out.trans g2); have L2 : Hid (Z2.length = n - 20) := Lib.hid (by rw [p2.length_eq, HRL.out]); clear p2 s2 o2 g2)
  by_cases h21 : 20 < n
  · have t3 : (20 : Int) < (n : Int) := by omega
    refine wp_loop_rounds 2 ?_
    rw [rounds_succ]
    go_wp2
    refine wp_loop_rounds 1 ?_
    rw [rounds_succ]
    go_wp2_with (go_at_call 54; refine (I3.out Z1 Z2 w2 P1.out P2.out (fun e => by have := L2.out; rw [e] at this; simp at this; omega) S1.out S2.out O2.out G2.out _ _ _ (by simp) (by rw [L1.out]; rfl) (by rw [L1.out, L2.out]; simp; omega)).mono ?_; rintro e w3 ⟨rfl, Z3, m3, o3, g3⟩; have M3 := Lib.hid m3; have O3 := Lib.hid o3; have G3 := Lib.hid (G2.out.trans g3); clear m3 o3 g3)
    rw [rounds_succ]
    go_wp2
    go_end0
    refine ⟨rfl, ?_, G3.out⟩
    rw [← FIN.out Z3 (M3.out.perm.trans (P1.out.append P2.out)) M3.out.sorted]
    simpa using O3.out
  · obtain rfl : n = 20 := by omega
    have e2 : Z2 = [] := List.eq_nil_of_length_eq_zero (by have := L2.out; omega)
    have FN : Hid (StbPost C g cap 20 B w (.returned (.tuple #[])) w2) := Lib.hid ⟨rfl, by
      have hp := P2.out
      rw [e2] at hp
      have h1 := O2.out
      rw [e2] at h1
      rw [← FIN.out Z1 (by rw [← List.Perm.nil_eq hp]; simpa using P1.out) S1.out]
      simpa using h1, G2.out⟩
    clear e2
    refine wp_loop_rounds 1 ?_
    rw [rounds_succ]
    go_wp2
    go_end0
    exact FN.out

theorem grown_cmp {A : Option Addr} {c : Nat} {C : List Int} {D g : Nat} {w : World} (hD : w.heap[D]? = some (.cells #[.slice A C.length c] 22 (0, 0))) (hA : RD iv w A C) (hDg : D ≠ g) (hAg : C ≠ [] → ∀ a, A = some a → a.block ≠ g) : Cmp C D g w := by
  intro w' hg x y hx1 hx2 hy1 hy2
  obtain ⟨X, rfl⟩ : ∃ X : Nat, x = X := ⟨x.toNat, by omega⟩
  obtain ⟨Y, rfl⟩ : ∃ Y : Nat, y = Y := ⟨y.toNat, by omega⟩
  have hD' : w'.heap[D]? = some (.cells #[.slice A C.length c] 22 (0, 0)) := (hg.block D (heap_lt hD) (by simpa using hDg)).trans hD
  have hA' : RD iv w' A C := by
    rcases hA with h | ⟨a, e, hb, hc⟩
    · rw [h] at hx2; simp at hx2; omega
    · refine .inr ⟨a, e, Nat.lt_of_lt_of_le hb hg.size, fun j z hj => ?_⟩
      rw [← hc j z hj]
      have hne : C ≠ [] := fun e => by rw [e] at hx2; simp at hx2; omega
      have h1 := hg.block a.block hb (by simpa using hAg hne a e)
      unfold World.cell?
      rw [add_block, h1]
  have h := closure32 X Y A c C D w' hD' hA' (by omega) (by omega)
  have e1 : cst C (X : Int) = C[X]'(by omega) := by have : X < C.length := by omega
                                                    simp [cst, getElem?_pos, this]
  have e2 : cst C (Y : Int) = C[Y]'(by omega) := by have : Y < C.length := by omega
                                                    simp [cst, getElem?_pos, this]
  rw [e1, e2]
  exact h
theorem sorts_big {C : List Int} (h20 : 20 ≤ C.length) (h40 : C.length < 40) : Sorts C := by
  intro A c D g cap B w hD hA hDg hAg ho
  have hc := stable46_big C D g cap C.length B w rfl h20 h40 (grown_cmp hD hA hDg hAg) ho
  have HC := Lib.hid hc
  clear hc ho hD hA hDg hAg
  go_enter Try.func31, Try.ntmps31
  go_wp2_with (go_at_call 46; refine HC.out.mono ?_; rintro e w1 ⟨rfl, o1, g1⟩)
  go_end0
  exact ⟨rfl, o1, g1⟩
theorem sorts_thirty {C : List Int} (h : C.length ≤ 30) : Sorts C := by
  by_cases h20 : C.length < 20
  · exact sorts_small h20
  · exact sorts_big (by omega) (by omega)
end Go.Proofs.Ytejipflkdigbbaa

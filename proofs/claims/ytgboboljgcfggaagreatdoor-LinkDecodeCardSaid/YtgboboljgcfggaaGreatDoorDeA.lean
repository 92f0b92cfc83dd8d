/- Walks: the reader's number, signed and text. -/
import Derived.Test.YtgboboljgcfggaaGreatDoorDcC
import Derived.Test.YtgboboljgcfggaaGreatDoorM7
namespace Go.Proofs.YtgboboljgcfggaaGreatDoor
open Go.RowKit

/-- The reader in memory. -/
def RdS (rb : Nat) (s : RS) (V : World) : Prop := V.heap[rb]? = some (.cells #[tv s.rest, .bool s.bad] 74 (0, 0))
theorem RdS.c {rb : Nat} {s : RS} {V : World} (h : RdS rb s V) : V.cell? ⟨rb, 0, none⟩ = some (tv s.rest) ∧ V.cell? ⟨rb, 1, none⟩ = some (.bool s.bad) ∧ V.frozen? ⟨rb, 0, none⟩ = false ∧ V.frozen? ⟨rb, 1, none⟩ = false :=
  ⟨by rw [Lib.cell_of_heap h]; rfl, by rw [Lib.cell_of_heap h]; rfl, Lib.frozen_of_heap h 0, Lib.frozen_of_heap h 1⟩
theorem RdS.set0 {rb : Nat} {s : RS} {V : World} (h : RdS rb s V) (t : T) : RdS rb ⟨t, s.bad⟩ (V.setCell ⟨rb, 0, none⟩ (tv t)) := by
  unfold RdS at h ⊢
  simp [World.setCell, Array.getElem?_modify, h]
theorem RdS.set1 {rb : Nat} {s : RS} {V : World} (h : RdS rb s V) (b : Bool) : RdS rb ⟨s.rest, b⟩ (V.setCell ⟨rb, 1, none⟩ (.bool b)) := by
  unfold RdS at h ⊢
  simp [World.setCell, Array.getElem?_modify, h]
/-- What a call of the reader leaves. -/
def RdP (rb : Nat) (v : Value) (s : RS) (V : World) (e : Ending) (V' : World) : Prop := e = .returned v ∧ RdS rb s V' ∧ V.grownBy V' (some rb)
attribute [local irreducible] Calls in
set_option maxRecDepth 100000 in
set_option maxHeartbeats 1000000 in
theorem rnum_any (rb : Nat) (s : RS) (V : World) (h : RdS rb s V) (_hl : s.rest.length ≤ 1000000) : Calls Tryz.prog 23 #[.pointer (some ⟨rb, 0, none⟩)] V (RdP rb (iv (rdN s).1) (rdN s).2 V) := by
  obtain ⟨n, k, c, hg⟩ : ∃ n k c, gi s.rest = (n, k, c) := ⟨_, _, _, rfl⟩
  have GI := Lib.hid (fun W => show Calls Tryz.prog 48 #[.string ⟨s.rest.toArray⟩] W (fun e w' => e = .returned (.tuple #[.int .i64 n, .int .i64 k, .int .i64 c]) ∧ W = w') from by
    have h := getInt_any s.rest W
    unfold gi3 at h
    rw [hg] at h
    exact h)
  have HR := Lib.hid h
  have HG := Lib.hid hg
  obtain ⟨c0, c1, f0, f1⟩ := h.c
  by_cases h0 : c = 0
  · subst h0
    have hk : k ≤ s.rest.length := gi_len hg
    have E := Lib.hid (show rdN s = ((n : Int), ⟨s.rest.drop k, s.bad⟩) from by unfold rdN; rw [hg, if_pos rfl])
    rw [E.out]
    have hs : (⟨s.rest.toArray⟩ : ByteArray).size = s.rest.length := rfl
    have ed := extb_drop s.rest k
    clear h hg
    go_enter Tryz.func23, Tryz.ntmps23
    go_wp2_with (go_at_call 48; refine (GI.out _).mono ?_; rintro e w' ⟨rfl, rfl⟩)
    go_ret
    exact ⟨rfl, by first | exact HR.out.set0 _ | (rw [ed]; exact HR.out.set0 _), grown_set rb 0 _⟩
  · have hc : (c != 0) = true := by simpa using h0
    have E := Lib.hid (show rdN s = (0, ⟨s.rest, true⟩) from by unfold rdN; rw [hg, if_neg h0])
    rw [E.out]
    clear h hg
    go_enter Tryz.func23, Tryz.ntmps23
    go_wp2_with (go_at_call 48; refine (GI.out _).mono ?_; rintro e w' ⟨rfl, rfl⟩)
    go_ret
    exact ⟨rfl, HR.out.set1 true, grown_set rb 1 _⟩
attribute [local irreducible] Calls in
set_option maxRecDepth 100000 in
set_option maxHeartbeats 1000000 in
theorem rtext_any (rb : Nat) (s : RS) (V : World) (h : RdS rb s V) (hl : s.rest.length ≤ 1000000) : Calls Tryz.prog 25 #[.pointer (some ⟨rb, 0, none⟩)] V (RdP rb (tv (rdT s).1) (rdT s).2 V) := by
  obtain ⟨x, k, c, hg⟩ : ∃ n k c, gt s.rest = (n, k, c) := ⟨_, _, _, rfl⟩
  have GI := Lib.hid (fun W => show Calls Tryz.prog 50 #[.string ⟨s.rest.toArray⟩] W (fun e w' => e = .returned (.tuple #[.string ⟨x.toArray⟩, .int .i64 k, .int .i64 c]) ∧ W = w') from by
    have h := getText_any s.rest W (by omega)
    unfold gt3 at h
    rw [hg] at h
    exact h)
  have HR := Lib.hid h
  have HG := Lib.hid hg
  obtain ⟨c0, c1, f0, f1⟩ := h.c
  by_cases h0 : c = 0
  · subst h0
    have hk : k ≤ s.rest.length := gt_len hg (Nat.le_refl _)
    have E := Lib.hid (show rdT s = (x, ⟨s.rest.drop k, s.bad⟩) from by unfold rdT; rw [hg, if_pos rfl])
    rw [E.out]
    have hs : (⟨s.rest.toArray⟩ : ByteArray).size = s.rest.length := rfl
    have ed := extb_drop s.rest k
    clear h hg
    go_enter Tryz.func25, Tryz.ntmps25
    go_wp2_with (go_at_call 50; refine (GI.out _).mono ?_; rintro e w' ⟨rfl, rfl⟩)
    go_ret
    exact ⟨rfl, by first | exact HR.out.set0 _ | (rw [ed]; exact HR.out.set0 _), grown_set rb 0 _⟩
  · have hc : (c != 0) = true := by simpa using h0
    have E := Lib.hid (show rdT s = ([], ⟨s.rest, true⟩) from by unfold rdT; rw [hg, if_neg h0])
    rw [E.out]
    clear h hg
    go_enter Tryz.func25, Tryz.ntmps25
    go_wp2_with (go_at_call 50; refine (GI.out _).mono ?_; rintro e w' ⟨rfl, rfl⟩)
    go_ret
    exact ⟨rfl, HR.out.set1 true, grown_set rb 1 _⟩
theorem rdN_le (s : RS) : (rdN s).1 ≤ 1099511627776 := by
  unfold rdN
  split
  · rename_i h
    obtain ⟨r, e1, e2, h3⟩ := gi_inv (l := s.rest) (v := (gi s.rest).1) (k := (gi s.rest).2.1) (by rw [← h])
    show ((gi s.rest).1 : Int) ≤ _
    omega
  · simp
/-- A number with a sign. -/
def rsG (s : RS) : Int × RS := (sgn (rdN s).1, flag (true && (rdN s).1 == 1) (rdN s).2)
attribute [local irreducible] Calls in
set_option maxRecDepth 100000 in
set_option maxHeartbeats 1000000 in
theorem rsig_any (rb : Nat) (s : RS) (V : World) (h : RdS rb s V) (hl : s.rest.length ≤ 1000000) : Calls Tryz.prog 49 #[.pointer (some ⟨rb, 0, none⟩)] V (RdP rb (iv (rsG s).1) (rsG s).2 V) := by
  have h1 := rdN_nn s
  have h2 := rdN_le s
  have RN := rnum_any rb s V h hl
  unfold rsG
  generalize rdN s = r at *
  obtain ⟨n, s1⟩ := r
  simp only at h1 h2 RN ⊢
  have RN := Lib.hid RN
  by_cases e1 : n = 1
  · subst e1
    have E := Lib.hid (show sgn 1 = 0 ∧ flag (true && (1 : Int) == 1) s1 = ⟨s1.rest, true⟩ from ⟨rfl, by unfold flag; simp⟩)
    rw [E.out.1, E.out.2]
    go_enter Tryz.func49, Tryz.ntmps49
    go_upto_region 2 with (go_at_call 23; refine RN.out.mono ?_; rintro e W1 ⟨rfl, r1, g1⟩; have R1 := Lib.hid r1; have G1 := Lib.hid g1; clear r1 g1)
    obtain ⟨c0, c1, f0, f1⟩ := R1.out.c
    go_wp2
    go_ret
    exact ⟨rfl, R1.out.set1 true, G1.out.trans (grown_set rb 1 _)⟩
  · have e2 : (n == 1) = false := by simpa using e1
    have E := Lib.hid (show flag (true && n == 1) s1 = s1 from by rw [e2]; exact flag_false _)
    rw [E.out]
    by_cases e3 : n % 2 = 1
    · have e4 : sgn n = -(n / 2) := if_pos e3
      have ed : 0 ≤ n / 2 ∧ n / 2 ≤ 1099511627776 := by omega
      have HE := Lib.hid e4
      clear e4 e1
      have e5 : (n % 2 == 1) = true := by simpa using e3
      have e6 : Int.tmod n 2 = n % 2 := Int.tmod_eq_emod_of_nonneg h1
      have e7 : Int.tdiv n 2 = n / 2 := Int.tdiv_eq_ediv_of_nonneg h1
      go_enter Tryz.func49, Tryz.ntmps49
      go_upto_region 2 with (go_at_call 23; refine RN.out.mono ?_; rintro e W1 ⟨rfl, r1, g1⟩; have R1 := Lib.hid r1; have G1 := Lib.hid g1; clear r1 g1)
      obtain ⟨c0, c1, f0, f1⟩ := R1.out.c
      go_wp2
      go_ret
      exact ⟨by rw [HE.out]; rfl, R1.out, G1.out⟩
    · have e4 : sgn n = n / 2 := if_neg e3
      have ed : 0 ≤ n / 2 ∧ n / 2 ≤ 1099511627776 := by omega
      have HE := Lib.hid e4
      clear e4 e1
      have e5 : (n % 2 == 1) = false := by simpa using e3
      have e6 : Int.tmod n 2 = n % 2 := Int.tmod_eq_emod_of_nonneg h1
      have e7 : Int.tdiv n 2 = n / 2 := Int.tdiv_eq_ediv_of_nonneg h1
      go_enter Tryz.func49, Tryz.ntmps49
      go_upto_region 2 with (go_at_call 23; refine RN.out.mono ?_; rintro e W1 ⟨rfl, r1, g1⟩; have R1 := Lib.hid r1; have G1 := Lib.hid g1; clear r1 g1)
      obtain ⟨c0, c1, f0, f1⟩ := R1.out.c
      go_wp2
      go_ret
      exact ⟨by rw [HE.out]; rfl, R1.out, G1.out⟩
end Go.Proofs.YtgboboljgcfggaaGreatDoor

/- Walks: Of, Value, Sides, Clone. -/
import Derived.Test.YtgenloemohcpcaaGr
import Derived.Test.YtgenloemohcpcaaApp
namespace Go.Proofs.Ytgenloemohcpcaa
open Go.RowKit

set_option maxHeartbeats 400000 in
theorem of_any (x : T) (w : World) : Calls Try.prog 16 #[tv x] w (SumPost [x] [] w) := by
  go_enter Try.func16, Try.ntmps16
  go_wp2
  refine bodyPost_ret (v := .agg #[Value.slice (some { block := w.heap.size + 1, off := 0 }) 1 1, Value.slice none 0 0]) (by simp [results, Try.results16, go_sem]) rfl
    ⟨⟨some ⟨w.heap.size + 1, 0, none⟩, none, 1, 0, [x], []⟩, rfl, ⟨.inr ⟨_, rfl, by simp, ?_⟩, .inl rfl, by simp, by simp, by simp, by simp⟩, rfl, rfl, ((Below.refl _ _).alloc (Nat.le_refl _) _).alloc (by simp) _⟩
  have h1 := rd_one (w.alloc (Obj.cells #[Value.slice (some { block := w.heap.size + 1, off := 0 }) 1 1, Value.slice none 0 0] 24)) x 9
  rcases h1 with h1 | ⟨a, e, _, h1⟩
  · cases h1
  · have e : a = ⟨w.heap.size + 1, 0, none⟩ := by simpa using e.symm
    subst e
    exact h1

def valS (L M : List T) : T := if M = [] ∧ chk L M = 0 then L.headD [] else []
def valB (L M : List T) : Bool := decide (M = [] ∧ chk L M = 0)
def sides (L M : List T) : Int := if chk L M = 0 then L.length else 0

set_option maxHeartbeats 400000 in
theorem value_any (A B : Option Addr) (c d : Nat) (L M : List T) (w : World) (hA : RD w A L) (hB : RD w B M) (hl : L.length ≤ 9223372036854775807) (hm : M.length ≤ 9223372036854775806) :
    Calls Try.prog 17 #[sv A B L.length c M.length d] w fun e w' => e = .returned (.tuple #[tv (valS L M), .bool (valB L M)]) ∧ Below w.heap.size w w' := by
  obtain ⟨f0, f1⟩ := two_cells w (Value.slice A L.length c) (Value.slice B M.length d) 24
  have b0 : Below w.heap.size w (w.alloc (Obj.cells #[Value.slice A L.length c, Value.slice B M.length d] 24)) := (Below.refl _ _).alloc (Nat.le_refl _) _
  have hz : (w.alloc (Obj.cells #[Value.slice A L.length c, Value.slice B M.length d] 24)).heap.size = w.heap.size + 1 := by simp
  by_cases h1 : M = []
  · have t1 : ((M.length : Int) != 0) = false := by simp [h1]
    by_cases h2 : chk L M = 0
    · have t2 : (chk L M != 0) = false := by simp [h2]
      have e1 : valS L M = L.headD [] := by simp [valS, h1]; intro h; rw [← h1] at h; exact absurd h2 h
      have e2 : valB L M = true := by simp [valB, h1]; rw [← h1]; exact h2
      have hlen : 0 < L.length := by have := (chk_zero.1 h2).len; omega
      rw [e1, e2]
      have HZ := Lib.hid hz
      clear e1 e2 h1 h2 hz
      go_enter Try.func17, Try.ntmps17
      go_wp2_with fail
      generalize w.alloc (Obj.cells #[Value.slice A L.length c, Value.slice B M.length d] 24) = W at *
      have hA' := hA.below b0
      have hB' := hB.below b0
      refine (check_any A B c d L M _ hA' hB' hl hm).mono ?_
      rintro e w1 ⟨rfl, b1⟩
      obtain ⟨a, rfl, hab, hac⟩ := (hA'.below b1).at hlen
      rw [add_zero'] at hac
      have f0' := (b1.cell (p := ⟨w.heap.size, 0, none⟩) (by have := HZ.out; show w.heap.size < _; omega)).trans f0
      obtain ⟨y, L', rfl⟩ : ∃ y L', L = y :: L' := by
        cases L with
        | nil => simp at hlen
        | cons y L' => exact ⟨y, L', rfl⟩
      have HB := Lib.hid (b0.trans (b1.mono (by have := HZ.out; omega)))
      clear b0 b1 hA hA' hB hB' f0 f1
      go_wp2_with fail
      go_ret2
      exact ⟨rfl, HB.out⟩
    · have t2 : (chk L M != 0) = true := by simpa using h2
      have e1 : valS L M = [] := by simp [valS, h2]
      have e2 : valB L M = false := by simp [valB, h2]
      rw [e1, e2]
      have HZ := Lib.hid hz
      clear e1 e2 h1 h2 hz
      go_enter Try.func17, Try.ntmps17
      go_wp2_with fail
      generalize w.alloc (Obj.cells #[Value.slice A L.length c, Value.slice B M.length d] 24) = W at *
      refine (check_any A B c d L M _ (hA.below b0) (hB.below b0) hl hm).mono ?_
      rintro e w1 ⟨rfl, b1⟩
      have HB := Lib.hid (b0.trans (b1.mono (by have := HZ.out; omega)))
      clear b0 b1
      go_wp2_with fail
      go_ret2
      exact ⟨rfl, HB.out⟩
  · have t1 : ((M.length : Int) != 0) = true := by simpa using h1
    have e1 : valS L M = [] := by simp [valS, h1]
    have e2 : valB L M = false := by simp [valB, h1]
    rw [e1, e2]
    clear e1 e2 h1
    go_enter Try.func17, Try.ntmps17
    go_wp2_with fail
    go_ret2
    exact ⟨rfl, b0⟩

set_option maxHeartbeats 400000 in
theorem sides_any (A B : Option Addr) (c d : Nat) (L M : List T) (w : World) (hA : RD w A L) (hB : RD w B M) (hl : L.length ≤ 9223372036854775807) (hm : M.length ≤ 9223372036854775806) :
    Calls Try.prog 18 #[sv A B L.length c M.length d] w fun e w' => e = .returned (.int .i64 (sides L M)) ∧ Below w.heap.size w w' := by
  obtain ⟨f0, f1⟩ := two_cells w (Value.slice A L.length c) (Value.slice B M.length d) 24
  have b0 : Below w.heap.size w (w.alloc (Obj.cells #[Value.slice A L.length c, Value.slice B M.length d] 24)) := (Below.refl _ _).alloc (Nat.le_refl _) _
  have hz : (w.alloc (Obj.cells #[Value.slice A L.length c, Value.slice B M.length d] 24)).heap.size = w.heap.size + 1 := by simp
  have HZ := Lib.hid hz
  clear hz
  by_cases h2 : chk L M = 0
  · have t2 : (chk L M != 0) = false := by simp [h2]
    have e1 : sides L M = L.length := by simp [sides, h2]
    rw [e1]
    clear e1 h2
    go_enter Try.func18, Try.ntmps18
    go_wp2_with fail
    generalize w.alloc (Obj.cells #[Value.slice A L.length c, Value.slice B M.length d] 24) = W at *
    refine (check_any A B c d L M _ (hA.below b0) (hB.below b0) hl hm).mono ?_
    rintro e w1 ⟨rfl, b1⟩
    have f0' := (b1.cell (p := ⟨w.heap.size, 0, none⟩) (by have := HZ.out; show w.heap.size < _; omega)).trans f0
    have HB := Lib.hid (b0.trans (b1.mono (by have := HZ.out; omega)))
    clear b0 b1 f0 f1
    go_wp2_with fail
    go_ret
    exact ⟨rfl, HB.out⟩
  · have t2 : (chk L M != 0) = true := by simpa using h2
    have e1 : sides L M = 0 := by simp [sides, h2]
    rw [e1]
    clear e1 h2
    go_enter Try.func18, Try.ntmps18
    go_wp2_with fail
    generalize w.alloc (Obj.cells #[Value.slice A L.length c, Value.slice B M.length d] 24) = W at *
    refine (check_any A B c d L M _ (hA.below b0) (hB.below b0) hl hm).mono ?_
    rintro e w1 ⟨rfl, b1⟩
    have HB := Lib.hid (b0.trans (b1.mono (by have := HZ.out; omega)))
    clear b0 b1 f0 f1
    go_wp2_with fail
    go_ret
    exact ⟨rfl, HB.out⟩
end Go.Proofs.Ytgenloemohcpcaa

/- Walks: the comparison of Greedy. -/
import Derived.Test.YtejipflkdigbbaaSrt
import Derived.Test.YtejipflkdigbbaaStb
import Derived.Test.YtejipflkdigbbaaDiv
namespace Go.Proofs.Ytejipflkdigbbaa
open Go.RowKit Go.Shelf Go.Sort

set_option maxHeartbeats 1000000 in
theorem closure32 (x y : Nat) (A : Option Addr) (c : Nat) (C : List Int) (D : Nat) (W : World) (hD : W.heap[D]? = some (.cells #[.slice A C.length c] 22 (0, 0))) (hA : RD iv W A C) (hx : x < C.length) (hy : y < C.length) :
    Calls Try.prog 32 #[.int .i64 x, .int .i64 y, .pointer (some ⟨D, 0, none⟩)] W fun e w' => e = .returned (.int .i64 (Lib.compareInt C[y] C[x])) ∧ ∃ q, w' = W.drewN q := by
  have c1 := cell_h hD
  have dl := heap_lt hD
  obtain ⟨a, rfl, hab, hac⟩ := hA.at hx
  obtain ⟨a', e', hab', hac'⟩ := hA.at hy
  cases e'
  have hcon := fun q => compare_any C[y] C[x] (W.drewN q)
  generalize Lib.compareInt C[y] C[x] = r at hcon ⊢
  generalize C[y] = p at *
  generalize C[x] = p' at *
  go_enter Try.func32, Try.ntmps32
  go_wp2
  go_quiet ((go_at_call 33; exact Calls.quiet_of_same (hcon _)))
  go_wp2
  go_ret
  exact ⟨rfl, _, rfl⟩

/-- An index as it lies in memory. -/
def ie {N : Nat} (i : Fin (N + 1)) : Value := .int .i64 ((i : Nat) : Int)
theorem ie_one {N : Nat} : OneCell (ie (N := N)) := fun _ => rfl
section
variable {N : Nat}
theorem sx_size (w : World) (g n : Nat) (d : Array (Fin (N + 1))) (os : Array Obj) : w.heap.size ≤ (sortWorld ie w g 0 n d os).heap.size := by
  simp [sortWorld, grow, putRow, mapBlock, Sort.ahead]
theorem sx_other (w : World) (g n : Nat) (d : Array (Fin (N + 1))) (os : Array Obj) {k : Nat} (hk : k < w.heap.size) (hne : k ≠ g) : (sortWorld ie w g 0 n d os).heap[k]? = w.heap[k]? := by
  unfold sortWorld
  rw [heap_grow_old _ _ (by simpa [putRow, mapBlock, Sort.ahead] using hk)]
  simp [putRow, mapBlock, Sort.ahead, Array.getElem?_modify, Ne.symm hne]
theorem sx_rdi {w : World} {A : Option Addr} {C : List Int} (h : RD iv w A C) (g n : Nat) (d : Array (Fin (N + 1))) (os : Array Obj) (hne : ∀ a, A = some a → a.block ≠ g) : RD iv (sortWorld ie w g 0 n d os) A C := by
  rcases h with rfl | ⟨a, e, hb, hc⟩
  · exact .inl rfl
  · refine .inr ⟨a, e, Nat.lt_of_lt_of_le hb (sx_size w g n d os), fun j x hj => ?_⟩
    rw [← hc j x hj]
    have h1 := sx_other w g n d os hb (hne a e)
    unfold World.cell?
    rw [add_block, h1]
def cfC (C : List Int) (x y : Fin (N + 1)) : Int := Lib.compareInt (cst C (y : Nat)) (cst C (x : Nat))
theorem cfC_lt (C : List Int) : ltOf (cfC (N := N) C) = ltC (N := N) C := by
  funext x y
  unfold ltOf cfC ltC Lib.compareInt
  by_cases h1 : cst C (y : Nat) < cst C (x : Nat)
  · simp [h1]
  · by_cases h2 : cst C (x : Nat) < cst C (y : Nat) <;> simp [h1, h2]
theorem cmpReads32 (A : Option Addr) (c : Nat) (C : List Int) (D g : Nat) (w : World) (size : Nat) (hC : C.length = N + 1) (hD : w.heap[D]? = some (.cells #[.slice A C.length c] 22 (0, 0))) (hA : RD iv w A C) (hDg : D ≠ g) (hAg : ∀ a, A = some a → a.block ≠ g) :
    CmpReads Try.prog 32 #[.pointer (some ⟨D, 0, none⟩)] (ie (N := N)) (cfC C) g 0 size w := fun m os dk _ x y => by
  have h1 := sx_rdi hA g m dk os hAg
  have h2 := (sx_other w g m dk os (heap_lt hD) hDg).trans hD
  have h := closure32 x y A c C D _ h2 h1 (by omega) (by omega)
  have e1 : cst C (x : Nat) = C[(x : Nat)]'(by omega) := by simp [cst, getElem?_pos, hC]
  have e2 : cst C (y : Nat) = C[(y : Nat)]'(by omega) := by simp [cst, getElem?_pos, hC]
  unfold cfC
  rw [e1, e2]
  exact h
end
end Go.Proofs.Ytejipflkdigbbaa

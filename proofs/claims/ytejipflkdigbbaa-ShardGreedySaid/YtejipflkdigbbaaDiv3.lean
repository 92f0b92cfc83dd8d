/- Walk: the iterator of the divisions. -/
import Derived.Test.YtejipflkdigbbaaDiv2
import Derived.Laws.EntriesVeiled
namespace Go.Proofs.Ytejipflkdigbbaa
open Go.RowKit Go.Shelf

def IterPost (X : List Nat) (J : List (List Int) → World → Prop) (ls : List (List Int)) (W : World) (e : Ending) (W' : World) : Prop :=
  (∃ r, e = .returned r) ∧ J ls W' ∧ KP X W W'
theorem two_new (W : World) (a b : Obj) : ((W.alloc a).alloc b).heap[W.heap.size]? = some a ∧ ((W.alloc a).alloc b).heap[W.heap.size + 1]? = some b := by
  constructor
  · exact (Below.heap_alloc _ _ _ (by simp)).trans (World.alloc_heap_new W a)
  · have := World.alloc_heap_new (W.alloc a) b
    rwa [World.size_alloc] at this

set_option maxRecDepth 100000 in
set_option maxHeartbeats 4000000 in
theorem iter_any {X : List Nat} {l m : Nat} {J : List (List Int) → World → Prop} (R : Rng X l m J) (A : Option Addr) (c : Nat) (C : List Int) (n D : Nat) (W : World) (hX : D ∉ X ∧ D + 1 ∉ X) (hAX : C ≠ [] → ∀ a, A = some a → a.block ∉ X) (hXW : ∀ x ∈ X, x < W.heap.size)
    (hd : W.heap[D]? = some (.cells #[.slice A C.length c] 22 (0, 0))) (he : W.heap[D + 1]? = some (.cells #[.int .i64 n] 3 (0, 0))) (hr : RD iv W A C) (hJ : J [] W) (hb : Bnd C [] n) :
    Calls Try.prog 51 #[.func (.yield l) #[] #[], .pointer (some ⟨D, 0, none⟩), .pointer (some ⟨D + 1, 0, none⟩)] W (IterPost X J (leaves n C []) W) := by

  obtain ⟨W2, hW2⟩ : ∃ W2, (W.alloc (.cells #[.func (.yield l) #[] #[]] 62)).alloc (.cells #[.func (.func 52) #[] #[.pointer (some ⟨D, 0, none⟩), .pointer (some ⟨W.heap.size, 0, none⟩), .pointer (some ⟨W.heap.size + 1, 0, none⟩), .pointer (some ⟨D + 1, 0, none⟩)]] 63) = W2 := ⟨_, rfl⟩
  have bw : Below W.heap.size W W2 := by rw [← hW2]; exact ((Below.refl _ _).alloc (Nat.le_refl _) _).alloc (by simp) _
  have tn : W2.heap[W.heap.size]? = some (.cells #[.func (.yield l) #[] #[]] 62 (0, 0)) ∧ W2.heap[W.heap.size + 1]? = some (.cells #[.func (.func 52) #[] #[.pointer (some ⟨D, 0, none⟩), .pointer (some ⟨W.heap.size, 0, none⟩), .pointer (some ⟨W.heap.size + 1, 0, none⟩), .pointer (some ⟨D + 1, 0, none⟩)]] 63 (0, 0)) := by rw [← hW2]; exact two_new W _ _
  have hc : Cap A c C n D W.heap.size (W.heap.size + 1) l W2 := ⟨(bw.block D (heap_lt hd)).trans hd, (bw.block (D + 1) (heap_lt he)).trans he, tn.1, tn.2, hr.below bw⟩
  have hcl := hb.cl
  have ic := place_any R A c C n D W.heap.size (W.heap.size + 1) ⟨hX.1, hX.2, fun h => by have := hXW _ h; omega, fun h => by have := hXW _ h; omega⟩ hAX hcl C.length 0 (by omega) [] [] none 0 W2 hc (R.keep _ _ _ hJ bw) (.inl rfl) (fun b h => by cases h) (fun x hx => Nat.lt_of_lt_of_le (hXW x hx) bw.size) (by simpa using hb)
  rw [List.drop_zero] at ic
  have IC := Lib.hid ic
  have BW := Lib.hid bw
  have c3 := cell_h tn.2
  have HW2 := Lib.hid hW2
  clear ic bw tn hc hr hJ hb hd he hX hAX hXW R hW2
  go_enter Try.func51, Try.ntmps51
  go_wp2_with fail
  rw [HW2.out]
  refine IC.out.mono ?_
  rintro e W3 ⟨rfl, j3, k3⟩
  go_wp2_with fail
  go_end0
  exact ⟨⟨_, rfl⟩, by simpa using j3, (KP.of BW.out).trans k3⟩
end Go.Proofs.Ytejipflkdigbbaa

/- Walks: Greedy. -/
import Derived.Test.YtejipflkdigbbaaStn
import Derived.OwnWalk
namespace Go.Proofs.Ytejipflkdigbbaa
open Go.RowKit Go.Shelf Go.Sort

theorem info22 : (Try.prog.info? 22).map (fun i => (i.zero, i.size, i.bytes)) = some (some (.slice none 0 0), 1, 24) := by kernel_rfl
/-- The indices up to k, then zeros. -/
def idz (n k : Nat) : List Int := idx k ++ List.replicate (n - k) 0
theorem idz_len {n k : Nat} (h : k ≤ n) : (idz n k).length = n := by simp [idz, idx_len]; omega
theorem idz_zero (n : Nat) : idz n 0 = List.replicate n 0 := by simp [idz, idx]
theorem idz_end (n : Nat) : idz n n = idx n := by simp [idz]
theorem idz_set {n k : Nat} (h : k < n) : (idz n k).set k (k : Int) = idz n (k + 1) := by
  unfold idz
  rw [List.set_append_right _ _ (by rw [idx_len]; exact Nat.le_refl _), idx_len, Nat.sub_self, show n - k = (n - (k + 1)) + 1 by omega, List.replicate_succ, List.set_cons_zero]
  simp [idx, List.range_succ]
theorem OT.put {w : World} {B g cap : Nat} {L : List Int} {n : Nat} (h : OT w B (.slice (some ⟨g, 0, none⟩) n cap) L) (hn : L.length = n) (j : Nat) (x : Int) : OT (w.setCell ⟨g, j, none⟩ (iv x)) B (.slice (some ⟨g, 0, none⟩) n cap) (L.set j x) ∧ w.grownBy (w.setCell ⟨g, j, none⟩ (iv x)) (some g) := by
  subst hn
  have := World.ownsRow.stored h j (iv x)
  refine ⟨?_, this.2⟩
  unfold OT
  rw [List.length_set, List.map_set]
  exact this.1

/-- The memory of Greedy after ks sums and kp parts. -/
structure GS (W w : World) (A : Option Addr) (c : Nat) (C : List Int) (D go gs gp B n ks kp : Nat) : Prop where
  below : Below W.heap.size W w
  box : w.heap[D]? = some (.cells #[.slice A C.length c] 22 (0, 0))
  rord : OT w W.heap.size (.slice (some ⟨go, 0, none⟩) C.length C.length) (ord C)
  sums : OT w W.heap.size (.slice (some ⟨gs, 0, none⟩) n n) (gfold C n ks).1
  parts : ∃ V, PT w W.heap.size B gp n V (gfold C n kp).2
  d : W.heap.size ≤ D ∧ D < B
  o : go < B ∧ go ≠ D
  s : gs < B ∧ gs ≠ D ∧ gs ≠ go
  p : gp < B ∧ gp ≠ D ∧ gp ≠ go ∧ gp ≠ gs

section
variable {W w : World} {A : Option Addr} {c : Nat} {C : List Int} {D go gs gp B n k : Nat}
theorem Below.setIn {W w : World} {X g : Nat} (h : Below X W w) (hg : X ≤ g) {w' : World} (hk : w.grownBy w' (some g)) (hX : X ≤ w.heap.size) : Below X W w' := h.grown hk hX fun k e => by cases e; exact hg
/-- The sum of the part. -/
theorem GS.sum (h : GS W w A c C D go gs gp B n k (k + 1)) (hgs : W.heap.size ≤ gs) (hk : k < (ord C).length) : GS W (w.setCell ⟨gs, lp (gfold C n k).1, none⟩ (iv ((gfold C n k).1.getD (lp (gfold C n k).1) 0 + cst C (ord C)[k]))) A c C D go gs gp B n (k + 1) (k + 1) := by
  obtain ⟨h1, g1⟩ := h.sums.put (gfold_len C n k).1 (lp (gfold C n k).1) ((gfold C n k).1.getD (lp (gfold C n k).1) 0 + cst C (ord C)[k])
  have e : (gfold C n (k + 1)).1 = (gfold C n k).1.set (lp (gfold C n k).1) ((gfold C n k).1.getD (lp (gfold C n k).1) 0 + cst C (ord C)[k]) := by rw [gfold_succ C n hk]; rfl
  obtain ⟨V, hV⟩ := h.parts
  refine ⟨Below.setIn h.below hgs g1 h.below.size, ?_, h.rord.kept g1 (.inr fun e => h.s.2.2 (by cases e; rfl)), by rw [e]; exact h1, ⟨V, hV.kept g1 fun b e => by cases e; exact ⟨h.s.1, fun e => h.p.2.2.2 e.symm⟩⟩, h.d, h.o, h.s, h.p⟩
  rw [g1.block D (heap_lt h.box) (fun e => h.s.2.1 (by cases e; rfl))]
  exact h.box
/-- The part with its new index. -/
theorem GS.part (h : GS W w A c C D go gs gp B n k k) (hgp : W.heap.size ≤ gp) (hk : k < (ord C).length) {V : List Value} (hV : PT w W.heap.size B gp n V (gfold C n k).2) {v v' : Value} {w' : World} (hv : V[lp (gfold C n k).1]? = some v)
    (ho : OT w' B v' ((gfold C n k).2.getD (lp (gfold C n k).1) [] ++ [(ord C)[k]])) (hg : w.grownBy w' v.ownBlock) (hb : v'.ownBlock = v.ownBlock ∨ v'.ownBlock = some w.heap.size) (hvb : ∀ b, v.ownBlock = some b → B ≤ b) :
    GS W (w'.setCell ⟨gp, lp (gfold C n k).1, none⟩ v') A c C D go gs gp B n k (k + 1) := by
  have e : (gfold C n (k + 1)).2 = (gfold C n k).2.set (lp (gfold C n k).1) ((gfold C n k).2.getD (lp (gfold C n k).1) [] ++ [(ord C)[k]]) := by rw [gfold_succ C n hk]; rfl
  obtain ⟨p1, g1⟩ := hV.put hv ho hg (by rcases hb with h | h; exact .inl h; exact .inr fun b e => by rw [h] at e; cases e; exact Nat.le_refl _)
  have far : ∀ x, x < B → some x ≠ v.ownBlock := fun x hx e => by have := hvb x e.symm; omega
  have b1 : Below W.heap.size W w' := h.below.grown hg h.below.size fun b e => by have := hvb b e; have := h.d; omega
  refine ⟨Below.setIn b1 hgp g1 b1.size, ?_, (h.rord.kept hg (.inr (far go h.o.1))).kept g1 (.inr fun e => h.p.2.2.1 (by cases e; rfl)), (h.sums.kept hg (.inr (far gs h.s.1))).kept g1 (.inr fun e => h.p.2.2.2 (by cases e; rfl)), ⟨_, by rw [e]; exact p1⟩, h.d, h.o, h.s, h.p⟩
  rw [g1.block D (Nat.lt_of_lt_of_le (heap_lt h.box) hg.size) (fun e => h.p.2.1 (by cases e; rfl)), hg.block D (heap_lt h.box) (far D h.d.2)]
  exact h.box
end
end Go.Proofs.Ytejipflkdigbbaa

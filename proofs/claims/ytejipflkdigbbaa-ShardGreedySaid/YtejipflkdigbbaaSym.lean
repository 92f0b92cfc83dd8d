/- Plain: merging two sorted runs by rotations. -/
import Derived.Test.YtejipflkdigbbaaStb
namespace Go.Proofs.Ytejipflkdigbbaa

theorem lexP_trans {C : List Int} {x y z : Int} (h1 : lexP C x y) (h2 : lexP C y z) : lexP C x z := by
  unfold lexP at *
  rcases h1 with h1 | ⟨h1, k1⟩ <;> rcases h2 with h2 | ⟨h2, k2⟩
  · exact .inl (by omega)
  · exact .inl (by omega)
  · exact .inl (by omega)
  · exact .inr ⟨by omega, by omega⟩
theorem lexP_low {C : List Int} {x y : Int} (h : x < y) : lexP C y x ↔ cst C x < cst C y := by
  unfold lexP
  constructor
  · rintro (h1 | ⟨h1, h2⟩)
    · exact h1
    · omega
  · exact .inl
theorem lexP_low' {C : List Int} {x y : Int} (h : x < y) (hc : ¬ cst C x < cst C y) : lexP C x y := by
  unfold lexP
  by_cases h1 : cst C y = cst C x
  · exact .inr ⟨h1, h⟩
  · exact .inl (by omega)
/-- In a sorted run every element is its last one or stands before it. -/
theorem le_last {C : List Int} {X : List Int} (h : X.Pairwise (lexP C)) {l : Int} (hl : X.getLast? = some l) {x : Int} (hx : x ∈ X) : x = l ∨ lexP C x l := by
  obtain ⟨Y, rfl⟩ : ∃ Y, X = Y ++ [l] := by
    rcases List.eq_nil_or_concat X with rfl | ⟨Y, z, rfl⟩
    · simp at hl
    · simp at hl; subst hl; exact ⟨Y, by simp⟩
  rw [List.mem_append, List.mem_singleton] at hx
  rcases hx with hx | hx
  · exact .inr ((List.pairwise_append.1 h).2.2 x hx l (by simp))
  · exact .inl hx
theorem head_le {C : List Int} {X : List Int} (h : X.Pairwise (lexP C)) {l : Int} (hl : X.head? = some l) {x : Int} (hx : x ∈ X) : x = l ∨ lexP C l x := by
  cases X with
  | nil => simp at hl
  | cons z X =>
    simp at hl
    subst hl
    rw [List.mem_cons] at hx
    rcases hx with hx | hx
    · exact .inl hx
    · exact .inr ((List.pairwise_cons.1 h).1 x hx)
theorem some_last {X : List Int} {x : Int} (h : x ∈ X) : ∃ l, X.getLast? = some l ∧ l ∈ X := by
  cases hl : X.getLast? with
  | none => rw [List.getLast?_eq_none_iff] at hl; subst hl; simp at h
  | some l => exact ⟨l, rfl, List.mem_of_getLast? hl⟩
theorem some_head {X : List Int} {x : Int} (h : x ∈ X) : ∃ l, X.head? = some l ∧ l ∈ X := by
  cases X with
  | nil => simp at h
  | cons z X => exact ⟨z, rfl, by simp⟩
/-- The two halves behind the rotation: every element of the first stands before every one of the second. -/
theorem sym_cross {C X1 X2 Y1 Y2 : List Int} (hX : (X1 ++ X2).Pairwise (lexP C)) (hY : (Y1 ++ Y2).Pairwise (lexP C)) (hc : ∀ x ∈ X1 ++ X2, ∀ y ∈ Y1 ++ Y2, x < y)
    (h1 : ∀ x y, X1.getLast? = some x → Y2.head? = some y → ¬ cst C x < cst C y) (h2 : ∀ x y, X2.head? = some x → Y1.getLast? = some y → cst C x < cst C y) :
    ∀ u ∈ X1 ++ Y1, ∀ v ∈ X2 ++ Y2, lexP C u v := by
  obtain ⟨a1, a2, a3⟩ := List.pairwise_append.1 hX
  obtain ⟨b1, b2, b3⟩ := List.pairwise_append.1 hY
  intro u hu v hv
  rw [List.mem_append] at hu hv
  rcases hu with hu | hu <;> rcases hv with hv | hv
  · exact a3 u hu v hv
  · obtain ⟨l, hl, ml⟩ := some_last hu
    obtain ⟨f, hf, mf⟩ := some_head hv
    have k := lexP_low' (hc l (by simp [ml]) f (by simp [mf])) (h1 l f hl hf)
    rcases le_last a1 hl hu with rfl | ku
    · rcases head_le b2 hf hv with rfl | kv
      · exact k
      · exact lexP_trans k kv
    · rcases head_le b2 hf hv with rfl | kv
      · exact lexP_trans ku k
      · exact lexP_trans (lexP_trans ku k) kv
  · obtain ⟨l, hl, ml⟩ := some_last hu
    obtain ⟨f, hf, mf⟩ := some_head hv
    have k := (lexP_low (C := C) (hc f (by simp [mf]) l (by simp [ml]))).2 (h2 f l hf hl)
    rcases le_last b1 hl hu with rfl | ku
    · rcases head_le a2 hf hv with rfl | kv
      · exact k
      · exact lexP_trans k kv
    · rcases head_le a2 hf hv with rfl | kv
      · exact lexP_trans ku k
      · exact lexP_trans (lexP_trans ku k) kv
  · exact b3 u hu v hv
/-- What a merge of the runs X and Y yields. -/
structure Mrg (C X Y Z : List Int) : Prop where
  perm : Z.Perm (X ++ Y)
  sorted : Z.Pairwise (lexP C)
theorem Mrg.left {C X : List Int} (h : X.Pairwise (lexP C)) : Mrg C X [] (X ++ []) := ⟨.refl _, by simpa using h⟩
theorem Mrg.right {C Y : List Int} (h : Y.Pairwise (lexP C)) : Mrg C [] Y ([] ++ Y) := ⟨.refl _, by simpa using h⟩
theorem Mrg.join {C X1 X2 Y1 Y2 Z1 Z2 : List Int} (h1 : Mrg C X1 Y1 Z1) (h2 : Mrg C X2 Y2 Z2) (hc : ∀ u ∈ X1 ++ Y1, ∀ v ∈ X2 ++ Y2, lexP C u v) : Mrg C (X1 ++ X2) (Y1 ++ Y2) (Z1 ++ Z2) where
  perm := by
    refine (h1.perm.append h2.perm).trans ?_
    have : (X1 ++ Y1 ++ (X2 ++ Y2)).Perm (X1 ++ (X2 ++ (Y1 ++ Y2))) := by
      rw [List.append_assoc]
      refine List.Perm.append_left X1 ?_
      rw [← List.append_assoc, ← List.append_assoc]
      exact List.Perm.append_right Y2 List.perm_append_comm
    simpa using this
  sorted := List.pairwise_append.2 ⟨h1.sorted, h2.sorted, fun u hu v hv => hc u (h1.perm.mem_iff.1 hu) v (h2.perm.mem_iff.1 hv)⟩
/-- One element ahead of a run. -/
theorem Mrg.one {C Y1 Y2 : List Int} {x : Int} (hY : (Y1 ++ Y2).Pairwise (lexP C)) (hc : ∀ y ∈ Y1 ++ Y2, x < y) (h1 : ∀ y, Y1.getLast? = some y → cst C x < cst C y) (h2 : ∀ y, Y2.head? = some y → ¬ cst C x < cst C y) :
    Mrg C [x] (Y1 ++ Y2) (Y1 ++ x :: Y2) := by
  have k := sym_cross (C := C) (X1 := []) (X2 := [x]) (Y1 := Y1) (Y2 := []) (by simp) (by simpa using (List.pairwise_append.1 hY).1) (by simpa using fun y hy => hc y (by simp [hy])) (by simp) (by intro x' y e hy; simp at e; subst e; exact h1 y hy)
  have k2 := sym_cross (C := C) (X1 := [x]) (X2 := []) (Y1 := []) (Y2 := Y2) (by simp) (by simpa using (List.pairwise_append.1 hY).2.1) (by simpa using fun y hy => hc y (by simp [hy])) (by intro x' y e hy; simp at e; subst e; exact h2 y hy) (by simp)
  refine ⟨?_, ?_⟩
  · rw [List.singleton_append]; exact List.perm_middle
  · rw [List.pairwise_append, List.pairwise_cons]
    obtain ⟨b1, b2, b3⟩ := List.pairwise_append.1 hY
    refine ⟨b1, ⟨fun v hv => k2 x (by simp) v (by simpa using hv), b2⟩, fun u hu v hv => ?_⟩
    rw [List.mem_cons] at hv
    rcases hv with rfl | hv
    · exact k u (by simpa using hu) v (by simp)
    · exact b3 u hu v hv
/-- One element behind a run. -/
theorem Mrg.last {C X1 X2 : List Int} {y : Int} (hX : (X1 ++ X2).Pairwise (lexP C)) (hc : ∀ x ∈ X1 ++ X2, x < y) (h1 : ∀ x, X1.getLast? = some x → ¬ cst C x < cst C y) (h2 : ∀ x, X2.head? = some x → cst C x < cst C y) :
    Mrg C (X1 ++ X2) [y] (X1 ++ y :: X2) := by
  have k := sym_cross (C := C) (X1 := X1) (X2 := []) (Y1 := []) (Y2 := [y]) (by simpa using (List.pairwise_append.1 hX).1) (by simp) (by simpa using fun x hx => hc x (by simp [hx])) (by simpa using h1) (by simp)
  have k2 := sym_cross (C := C) (X1 := []) (X2 := X2) (Y1 := [y]) (Y2 := []) (by simpa using (List.pairwise_append.1 hX).2.1) (by simp) (by simpa using fun x hx => hc x (by simp [hx])) (by simp) (by simpa using h2)
  refine ⟨?_, ?_⟩
  · rw [List.append_assoc]
    refine List.Perm.append_left X1 ?_
    exact (List.perm_append_comm (l₁ := [y]) (l₂ := X2))
  · rw [List.pairwise_append, List.pairwise_cons]
    obtain ⟨b1, b2, b3⟩ := List.pairwise_append.1 hX
    refine ⟨b1, ⟨fun v hv => k2 y (by simp) v (by simpa using hv), b2⟩, fun u hu v hv => ?_⟩
    rw [List.mem_cons] at hv
    rcases hv with rfl | hv
    · exact k u (by simpa using hu) v (by simp)
    · exact b3 u hu v hv
end Go.Proofs.Ytejipflkdigbbaa

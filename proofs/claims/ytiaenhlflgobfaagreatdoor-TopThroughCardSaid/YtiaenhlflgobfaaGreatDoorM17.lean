/- Walks and words: AwA, AwB, AwH, AwC, AwD. -/
import Derived.Test.YtiaenhlflgobfaaGreatDoorApp
import Derived.Test.YtiaenhlflgobfaaGreatDoorMpk
import Derived.Test.YtiaenhlflgobfaaGreatDoorMpt
import Derived.Test.YtiaenhlflgobfaaGreatDoorM6
import Derived.Test.YtiaenhlflgobfaaGreatDoorFre
import Derived.Test.YtiaenhlflgobfaaGreatDoorM16
namespace Go.Proofs.YtiaenhlflgobfaaGreatDoor
open Go.RowKit
def aB : Ex := .mk 1 [] [] 7 0 none 0 []
def aBv : Value := .agg #[iv 1, .string ⟨#[]⟩, .string ⟨#[]⟩, iv 7, iv 0, .slice none 0 0]
set_option maxRecDepth 100000 in
set_option maxHeartbeats 4000000 in
attribute [local irreducible] Calls in
theorem indexE_none (f : Value) (w : World) : Calls Tryz.prog 196 #[.slice none 0 0, f] w fun e w' => e = .returned (iv (-1)) ∧ w' = w := by
  go_enter Tryz.func196, Tryz.ntmps196
  go_wp2
  refine wp_loop_rounds 1 ?_
  rw [rounds_succ]
  go_wp2
  go_ret
  exact ⟨rfl, rfl⟩
set_option maxRecDepth 100000 in
set_option maxHeartbeats 4000000 in
attribute [local irreducible] Calls in
theorem containsE_none (f : Value) (w : World) : Calls Tryz.prog 151 #[.slice none 0 0, f] w fun e w' => e = .returned (.bool false) ∧ w' = w := by
  go_enter Tryz.func151, Tryz.ntmps151
  go_wp2_with (go_at_call 196; (with_reducible refine (indexE_none f _).mono ?_); rintro e w1 ⟨rfl, rfl⟩)
  go_ret
  exact ⟨rfl, rfl⟩
set_option maxRecDepth 100000 in
set_option maxHeartbeats 4000000 in
attribute [local irreducible] Calls in
theorem hasSum_a (w : World) : Calls Tryz.prog 116 #[aBv] w fun e w' => e = .returned (.bool false) ∧ Gr w w' := by
  have c0 := ex_box6 aB w _ (gr_refl _)
  obtain ⟨c0, c1, c2, c3, c4, c5⟩ := c0
  simp only [aB, Ex.kind, Ex.name, Ex.more, Ex.int, Ex.den, Ex.A, Ex.c, Ex.sub, List.length_nil] at c0 c1 c2 c3 c4 c5
  unfold aBv
  go_enter Tryz.func116, Tryz.ntmps116
  go_wp2_with (go_at_call 151; (with_reducible refine (containsE_none _ _).mono ?_); rintro e w1 ⟨rfl, rfl⟩; (try dsimp only))
  go_ret
  exact ⟨rfl, gr_al _ _⟩
set_option maxRecDepth 100000 in
set_option maxHeartbeats 4000000 in
attribute [local irreducible] Calls in
theorem made_any (k : Int) (w : World) : Calls Tryz.prog 125 #[iv k, .slice none 0 0] w fun e w' => e = .returned (.pointer (some ⟨w.heap.size, 0, none⟩)) ∧ w' = w.alloc (.cells #[.pointer none, iv k, .slice none 0 0, iv 0] 206) := by
  go_enter Tryz.func125, Tryz.ntmps125
  go_wp2
  go_ret
  exact ⟨rfl, rfl⟩
set_option maxRecDepth 100000 in
set_option maxHeartbeats 4000000 in
attribute [local irreducible] Calls in
theorem unknown_any (w : World) : Calls Tryz.prog 122 #[] w fun e w' => e = .returned (.pointer (some ⟨w.heap.size, 0, none⟩)) ∧ w' = w.alloc (.cells #[.pointer none, iv 5, .slice none 0 0, iv 0] 206) := by
  go_enter Tryz.func122, Tryz.ntmps122
  go_wp2
  go_ret
  exact ⟨rfl, rfl⟩
set_option maxRecDepth 100000 in
set_option maxHeartbeats 4000000 in
attribute [local irreducible] Calls in
theorem find_self (b : Nat) (w : World) (h : w.cell? ⟨b, 0, none⟩ = some (.pointer none)) : Calls Tryz.prog 127 #[.pointer (some ⟨b, 0, none⟩)] w fun e w' => e = .returned (.pointer (some ⟨b, 0, none⟩)) ∧ w' = w := by
  go_enter Tryz.func127, Tryz.ntmps127
  go_wp2
  refine wp_loop_rounds 1 ?_
  rw [rounds_succ]
  go_wp2
  go_ret
  exact ⟨rfl, rfl⟩
set_option maxRecDepth 100000 in
set_option maxHeartbeats 4000000 in
attribute [local irreducible] Calls in
theorem find_up (b c : Nat) (w : World) (h : w.cell? ⟨b, 0, none⟩ = some (.pointer (some ⟨c, 0, none⟩))) (h2 : w.cell? ⟨c, 0, none⟩ = some (.pointer none)) : Calls Tryz.prog 127 #[.pointer (some ⟨b, 0, none⟩)] w fun e w' => e = .returned (.pointer (some ⟨c, 0, none⟩)) ∧ w' = w := by
  go_enter Tryz.func127, Tryz.ntmps127
  go_wp2
  refine wp_loop_rounds 2 ?_
  rw [rounds_succ]
  go_wp2
  rw [rounds_succ]
  go_wp2
  go_ret
  exact ⟨rfl, rfl⟩
set_option maxRecDepth 100000 in
set_option maxHeartbeats 4000000 in
attribute [local irreducible] Calls in
theorem len64_0 (w : World) : Calls Tryz.prog 224 #[.int .u64 0] w fun e w' => e = .returned (iv 0) ∧ w' = w := by
  have l0 : Lib.len8 0 = 0 := by decide
  have l1 : Lib.len8 1 = 1 := by decide
  go_enter Tryz.func224, Tryz.ntmps224
  go_wp2
  go_ret
  exact ⟨rfl, rfl⟩
set_option maxRecDepth 100000 in
set_option maxHeartbeats 4000000 in
attribute [local irreducible] Calls in
theorem len64_1 (w : World) : Calls Tryz.prog 224 #[.int .u64 1] w fun e w' => e = .returned (iv 1) ∧ w' = w := by
  have l0 : Lib.len8 0 = 0 := by decide
  have l1 : Lib.len8 1 = 1 := by decide
  go_enter Tryz.func224, Tryz.ntmps224
  go_wp2
  go_ret
  exact ⟨rfl, rfl⟩
set_option maxRecDepth 100000 in
set_option maxHeartbeats 4000000 in
attribute [local irreducible] Calls in
theorem bitsLen_0 (w : World) : Calls Tryz.prog 198 #[.int .u64 0] w fun e w' => e = .returned (iv 0) ∧ w' = w := by
  go_enter Tryz.func198, Tryz.ntmps198
  go_wp2_with (go_at_call 224; (with_reducible refine (len64_0 _).mono ?_); rintro e w1 ⟨rfl, rfl⟩)
  go_ret
  exact ⟨rfl, rfl⟩
end Go.Proofs.YtiaenhlflgobfaaGreatDoor
namespace Go.Proofs.YtiaenhlflgobfaaGreatDoor
open Go.RowKit
theorem boxB {V : World} {b : Nat} (h : V.heap[b]? = some (.cells #[iv 1, .string ⟨#[]⟩, .string ⟨#[]⟩, iv 7, iv 0, .slice none 0 0] 43 (0, 0))) : V.cell? ⟨b, 0, none⟩ = some (iv 1) ∧ V.cell? ⟨b, 1, none⟩ = some (.string ⟨#[]⟩) ∧ V.cell? ⟨b, 2, none⟩ = some (.string ⟨#[]⟩) ∧ V.cell? ⟨b, 3, none⟩ = some (iv 7) ∧ V.cell? ⟨b, 4, none⟩ = some (iv 0) ∧ V.cell? ⟨b, 5, none⟩ = some (.slice none 0 0) := by
  refine ⟨?_, ?_, ?_, ?_, ?_, ?_⟩ <;> (rw [Lib.cell_of_heap h]; rfl)
set_option maxRecDepth 100000 in
set_option maxHeartbeats 4000000 in
attribute [local irreducible] Calls in
theorem insertN_none (f : Value) (w : World) : Calls Tryz.prog 215 #[.slice none 0 0, iv 0, iv 0, f] w fun e w' => (∃ r, e = .returned r) ∧ w' = w := by
  go_enter Tryz.func215, Tryz.ntmps215
  go_wp2
  refine wp_loop_rounds 1 ?_
  rw [rounds_succ]
  go_wp2
  first | go_end0 | refine bodyPost_ret (results_none rfl _ _ _) rfl ?_
  exact ⟨⟨_, rfl⟩, rfl⟩
set_option maxRecDepth 100000 in
set_option maxHeartbeats 4000000 in
attribute [local irreducible] Calls in
theorem pdqN_none (f : Value) (w : World) : Calls Tryz.prog 197 #[.slice none 0 0, iv 0, iv 0, iv 0, f] w fun e w' => (∃ r, e = .returned r) ∧ w' = w := by
  go_enter Tryz.func197, Tryz.ntmps197
  go_wp2
  refine wp_loop_rounds 1 ?_
  rw [rounds_succ]
  go_wp2_with (go_at_call 215; (with_reducible refine (insertN_none _ _).mono ?_); rintro e w1 ⟨⟨r, rfl⟩, rfl⟩)
  first | go_end0 | refine bodyPost_ret (results_none rfl _ _ _) rfl ?_
  exact ⟨⟨_, rfl⟩, rfl⟩
set_option maxRecDepth 100000 in
set_option maxHeartbeats 4000000 in
attribute [local irreducible] Calls in
theorem sortN_none (f : Value) (w : World) : Calls Tryz.prog 154 #[.slice none 0 0, f] w fun e w' => (∃ r, e = .returned r) ∧ w' = w := by
  go_enter Tryz.func154, Tryz.ntmps154
  go_wp2_with (first
    | (go_at_call 198; (with_reducible refine (bitsLen_0 _).mono ?_); rintro e w1 ⟨rfl, rfl⟩)
    | (go_at_call 197; (with_reducible refine (pdqN_none _ _).mono ?_); rintro e w1 ⟨⟨r, rfl⟩, rfl⟩))
  first | go_end0 | refine bodyPost_ret (results_none rfl _ _ _) rfl ?_
  exact ⟨⟨_, rfl⟩, rfl⟩
set_option maxRecDepth 100000 in
set_option maxHeartbeats 4000000 in
attribute [local irreducible] Calls in
theorem compactN_none (w : World) : Calls Tryz.prog 159 #[.slice none 0 0] w fun e w' => e = .returned (.slice none 0 0) ∧ w' = w := by
  go_enter Tryz.func159, Tryz.ntmps159
  go_wp2
  go_ret
  exact ⟨rfl, rfl⟩
set_option maxRecDepth 100000 in
set_option maxHeartbeats 4000000 in
attribute [local irreducible] Calls in
theorem refs1_a (p : Value) (w : World) : Calls Tryz.prog 153 #[aBv, p] w fun e w' => e = .returned (.bool true) ∧ Gr w w' := by
  obtain ⟨c0, c1, c2, c3, c4, c5⟩ := boxB (V := w.alloc (.cells #[iv 1, .string ⟨#[]⟩, .string ⟨#[]⟩, iv 7, iv 0, .slice none 0 0] 43)) (al_new _ _)
  unfold aBv
  go_enter Tryz.func153, Tryz.ntmps153
  go_wp2
  go_ret
  exact ⟨rfl, gr_al _ _⟩
set_option maxRecDepth 100000 in
set_option maxHeartbeats 4000000 in
attribute [local irreducible] Calls in
theorem visit_a (p : Value) (w : World) : Calls Tryz.prog 152 #[aBv, .func (.func 153) #[] #[p]] w fun e w' => (∃ r, e = .returned r) ∧ Gr w w' := by
  obtain ⟨W1, hW1⟩ : ∃ W1, w.alloc (.cells #[iv 1, .string ⟨#[]⟩, .string ⟨#[]⟩, iv 7, iv 0, .slice none 0 0] 43) = W1 := ⟨_, rfl⟩
  obtain ⟨W2, hW2⟩ : ∃ W2, W1.alloc (.cells #[iv 1, .string ⟨#[]⟩, .string ⟨#[]⟩, iv 7, iv 0, .slice none 0 0] 43) = W2 := ⟨_, rfl⟩
  obtain ⟨W3, hW3⟩ : ∃ W3, W2.alloc (.cells #[iv 1, .string ⟨#[]⟩, .string ⟨#[]⟩, iv 7, iv 0, .slice none 0 0] 43) = W3 := ⟨_, rfl⟩
  obtain ⟨g1, hg1⟩ : ∃ g, w.heap.size = g := ⟨_, rfl⟩
  have s1 : W1.heap.size = g1 + 1 := by rw [← hW1, ← hg1]; simp
  have s2 : W2.heap.size = g1 + 1 + 1 := by rw [← hW2]; simp [s1]
  have h1 : W1.heap[g1]? = some (.cells #[iv 1, .string ⟨#[]⟩, .string ⟨#[]⟩, iv 7, iv 0, .slice none 0 0] 43 (0, 0)) := by rw [← hW1, ← hg1]; exact al_new _ _
  have h2 : W2.heap[g1 + 1]? = some (.cells #[iv 1, .string ⟨#[]⟩, .string ⟨#[]⟩, iv 7, iv 0, .slice none 0 0] 43 (0, 0)) := by rw [← hW2]; exact al_at _ _ s1.symm
  have h3 : W3.heap[g1 + 1 + 1]? = some (.cells #[iv 1, .string ⟨#[]⟩, .string ⟨#[]⟩, iv 7, iv 0, .slice none 0 0] 43 (0, 0)) := by rw [← hW3]; exact al_at _ _ s2.symm
  have G1 := Lib.hid (show Gr w W1 from by rw [← hW1]; exact gr_al _ _)
  have G2 := Lib.hid (show Gr W1 W2 from by rw [← hW2]; exact gr_al _ _)
  have G3 := Lib.hid (show Gr W2 W3 from by rw [← hW3]; exact gr_al _ _)
  have HS := Lib.hid (And.intro hg1 (And.intro s1 s2))
  have O2 := Lib.hid (show OR 43 6 Ex.cs W2 (g1 + 1) (.slice (some ⟨g1 + 1, 0, none⟩) 0 1) [] from by
    have h := OR.one (e := 43) (w := W1) (base := g1 + 1) (cs := Ex.cs) Ex.cs_len aB (b := #[iv 1, .string ⟨#[]⟩, .string ⟨#[]⟩, iv 7, iv 0, .slice none 0 0]) (by omega) rfl
    rw [hW2, s1] at h
    exact OR.short (L := []) Ex.cs_len h)
  have F3 := Lib.hid (fun V (g : Gr W3 V) => boxB (gr_h g h3))
  obtain ⟨c0, c1, c2, c3, c4, c5⟩ := boxB h1
  obtain ⟨d0, d1, d2, d3, d4, d5⟩ := boxB h2
  obtain ⟨e0, e1, e2, e3, e4, e5⟩ := boxB h3
  have HW3 := Lib.hid hW3
  clear hW3
  have C1 := Lib.hid (fun V => refs1_a p V)
  clear h1 h2 h3
  unfold aBv at C1 ⊢
  go_enter Tryz.func152, Tryz.ntmps152
  go_wp2
  refine wp_loop_rounds 2 ?_
  rw [rounds_succ]
  go_upto_region 5 with fail
  rw [HW3.out]
  go_wp2_with (first
    | (go_at_call 153; (with_reducible refine (C1.out _).mono ?_); rintro e w4 ⟨rfl, g4⟩; have G4 := Lib.hid g4; clear e0 e1 e2 e3 e4 e5; obtain ⟨e0, e1, e2, e3, e4, e5⟩ := F3.out _ g4; clear g4)
    | (at_builtin; refine wpList_app elE rfl (.tmp 26) (.tmp 28) rfl (g1 + 1) (v := .slice (some ⟨g1 + 1, 0, none⟩) 0 1) rfl (O2.out.gr (G3.out.trans G4.out)) (A := none) (M := ([] : List Ex)) (m := 0) (c := 0) rfl rfl RD.nil (by simp) (by have := HS.out; have := G3.out.size; have := G4.out.size; omega) ?_; intro v7 w7 o7 g7 b7; have O7 := Lib.hid o7; have G7 := Lib.hid (OR.grow (W := w) (G1.out.trans (G2.out.trans (G3.out.trans G4.out))) (O2.out.gr (G3.out.trans G4.out)) (by have := HS.out; omega) g7); obtain ⟨A7, c7, rfl, -⟩ := o7.form2 Ex.cs_len; clear o7 g7 b7))
  rw [rounds_succ]
  go_wp2
  first | go_end0 | refine bodyPost_ret (results_none rfl _ _ _) rfl ?_
  exact ⟨⟨_, rfl⟩, G7.out⟩
set_option maxRecDepth 100000 in
set_option maxHeartbeats 4000000 in
attribute [local irreducible] Calls in
theorem refs_a (w : World) : Calls Tryz.prog 117 #[aBv] w fun e w' => e = .returned (.slice none 0 0) ∧ Gr w w' := by
  obtain ⟨W1, hW1⟩ : ∃ W1, w.alloc (.cells #[iv 1, .string ⟨#[]⟩, .string ⟨#[]⟩, iv 7, iv 0, .slice none 0 0] 43) = W1 := ⟨_, rfl⟩
  obtain ⟨W2, hW2⟩ : ∃ W2, W1.alloc (.cells #[.slice none 0 0] 189) = W2 := ⟨_, rfl⟩
  obtain ⟨g1, hg1⟩ : ∃ g, w.heap.size = g := ⟨_, rfl⟩
  have s1 : W1.heap.size = g1 + 1 := by rw [← hW1, ← hg1]; simp
  have h1 : W2.heap[g1]? = some (.cells #[iv 1, .string ⟨#[]⟩, .string ⟨#[]⟩, iv 7, iv 0, .slice none 0 0] 43 (0, 0)) := by rw [← hW2]; exact gr_h (gr_al _ _) (by rw [← hW1, ← hg1]; exact al_new _ _)
  have h2 : W2.heap[g1 + 1]? = some (.cells #[.slice none 0 0] 189 (0, 0)) := by rw [← hW2]; exact al_at _ _ s1.symm
  have G2 := Lib.hid (show Gr w W2 from by rw [← hW2, ← hW1]; exact (gr_al _ _).trans (gr_al _ _))
  have F2 := Lib.hid (fun V (g : Gr W2 V) => show V.cell? ⟨g1 + 1, 0, none⟩ = some (.slice none 0 0) from Lib.cell_of_heap (gr_h g h2) 0)
  obtain ⟨c0, c1, c2, c3, c4, c5⟩ := boxB h1
  have C1 := Lib.hid (fun p V => visit_a p V)
  clear h1 h2
  unfold aBv at C1 ⊢
  go_enter Tryz.func117, Tryz.ntmps117
  go_wp2_with (first
    | (go_at_call 152; (with_reducible refine (C1.out _ _).mono ?_); rintro e w4 ⟨⟨r, rfl⟩, g4⟩; have G4 := Lib.hid g4; have f2 := F2.out _ g4; clear g4 c0 c1 c2 c3 c4 c5)
    | (go_at_call 154; (with_reducible refine (sortN_none _ _).mono ?_); rintro e w5 ⟨⟨r, rfl⟩, rfl⟩)
    | (go_at_call 159; (with_reducible refine (compactN_none _).mono ?_); rintro e w6 ⟨rfl, rfl⟩))
  go_ret
  exact ⟨rfl, G2.out.trans G4.out⟩
def aDv (k : Nat) : Value := .agg #[iv 1, iv 1, .bool true, .slice (some ⟨k, 0, none⟩) 1 1, .bool false, iv 1, .string ⟨#[]⟩, .string ⟨#[]⟩, iv 7, iv 0, .slice none 0 0]
theorem boxD {V : World} {b k : Nat} (h : V.heap[b]? = some (.cells #[iv 1, iv 1, .bool true, .slice (some ⟨k, 0, none⟩) 1 1, .bool false, iv 1, .string ⟨#[]⟩, .string ⟨#[]⟩, iv 7, iv 0, .slice none 0 0] 45 (0, 0))) : V.cell? ⟨b, 0, none⟩ = some (iv 1) ∧ V.cell? ⟨b, 1, none⟩ = some (iv 1) ∧ V.cell? ⟨b, 2, none⟩ = some (.bool true) ∧ V.cell? ⟨b, 3, none⟩ = some (.slice (some ⟨k, 0, none⟩) 1 1) ∧ V.cell? ⟨b, 4, none⟩ = some (.bool false) ∧ V.cell? ⟨b, 5, none⟩ = some (iv 1) ∧ V.cell? ⟨b, 6, none⟩ = some (.string ⟨#[]⟩) ∧ V.cell? ⟨b, 7, none⟩ = some (.string ⟨#[]⟩) ∧ V.cell? ⟨b, 8, none⟩ = some (iv 7) ∧ V.cell? ⟨b, 9, none⟩ = some (iv 0) ∧ V.cell? ⟨b, 10, none⟩ = some (.slice none 0 0) := by
  refine ⟨?_, ?_, ?_, ?_, ?_, ?_, ?_, ?_, ?_, ?_, ?_⟩ <;> (rw [Lib.cell_of_heap h]; rfl)
set_option maxRecDepth 100000 in
set_option maxHeartbeats 4000000 in
attribute [local irreducible] Calls in
theorem uses_a (k : Nat) (w : World) : Calls Tryz.prog 119 #[aDv k] w fun e w' => e = .returned (.slice none 0 0) ∧ Gr w w' := by
  obtain ⟨W1, hW1⟩ : ∃ W1, w.alloc (.cells #[iv 1, iv 1, .bool true, .slice (some ⟨k, 0, none⟩) 1 1, .bool false, iv 1, .string ⟨#[]⟩, .string ⟨#[]⟩, iv 7, iv 0, .slice none 0 0] 45) = W1 := ⟨_, rfl⟩
  obtain ⟨d0, d1, d2, d3, d4, d5, d6, d7, d8, d9, d10⟩ := boxD (V := W1) (b := w.heap.size) (k := k) (by rw [← hW1]; exact al_new _ _)
  have G1 := Lib.hid (show Gr w W1 from by rw [← hW1]; exact gr_al _ _)
  have C1 := Lib.hid (fun V => refs_a V)
  unfold aBv at C1
  unfold aDv
  go_enter Tryz.func119, Tryz.ntmps119
  go_wp2_with (go_at_call 117; (with_reducible refine (C1.out _).mono ?_); rintro e w4 ⟨rfl, g4⟩; have G4 := Lib.hid g4; clear g4)
  refine wp_loop_rounds 1 ?_
  rw [rounds_succ]
  go_wp2
  go_ret
  exact ⟨rfl, G1.out.trans G4.out⟩
end Go.Proofs.YtiaenhlflgobfaaGreatDoor
namespace Go.Proofs.YtiaenhlflgobfaaGreatDoor
open Go.RowKit Go.Maps
structure HS (w0 V : World) (L : List (Nat × Obj)) : Prop where
  g : Gr w0 V
  n : (L.map (·.1)).Nodup
  b : ∀ p ∈ L, w0.heap.size ≤ p.1
  f : ∀ p ∈ L, V.heap[p.1]? = some p.2
section
variable {w0 V V' : World} {L pre post : List (Nat × Obj)} {b : Nat} {o o' : Obj}
theorem HS.nil : HS w0 w0 [] := ⟨gr_refl _, by simp, by simp, by simp⟩
theorem HS.lt (h : HS w0 V L) : ∀ p ∈ L, p.1 < V.heap.size := fun p hp => heap_lt (h.f p hp)
theorem HS.gr (h : HS w0 V L) (g : Gr V V') : HS w0 V' L := ⟨h.g.trans g, h.n, h.b, fun p hp => gr_h g (h.f p hp)⟩
theorem HS.alloc (h : HS w0 V L) (hb : V.heap.size = b) (o : Obj) : HS w0 (V.alloc o) ((b, o) :: L) := by
  refine ⟨h.g.trans (gr_al _ _), ?_, fun p hp => ?_, fun p hp => ?_⟩
  · rw [List.map_cons, List.nodup_cons]
    refine ⟨fun hm => ?_, h.n⟩
    obtain ⟨q, hq, e⟩ := List.mem_map.1 hm
    have := h.lt q hq
    simp only at e
    omega
  · rcases List.mem_cons.1 hp with rfl | hp
    · rw [← hb]; exact h.g.size
    · exact h.b p hp
  · rcases List.mem_cons.1 hp with rfl | hp
    · exact al_at _ _ hb.symm
    · exact gr_h (gr_al _ _) (h.f p hp)
theorem HS.put (h : HS w0 V (pre ++ (b, o) :: post)) (g : V.grownBy V' (some b)) (e : V'.heap[b]? = some o') : HS w0 V' (pre ++ (b, o') :: post) := by
  have hn := h.n
  rw [List.map_append, List.map_cons, List.nodup_append] at hn
  obtain ⟨n1, n2, n3⟩ := hn
  rw [List.nodup_cons] at n2
  have hb : w0.heap.size ≤ b := h.b (b, o) (by simp)
  refine ⟨⟨?_, ?_, ?_, ?_, ?_⟩, ?_, ?_, ?_⟩
  · exact g.os.trans h.g.os
  · exact g.tape.trans h.g.tape
  · exact g.output.trans h.g.output
  · exact Nat.le_trans h.g.size g.size
  · intro k hk _
    exact (g.block k (Nat.lt_of_lt_of_le hk h.g.size) (by intro hh; cases hh; omega)).trans (h.g.block k hk (by simp))
  · have := h.n
    simpa using this
  · intro p hp
    rcases List.mem_append.1 hp with hp | hp
    · exact h.b p (by simp [hp])
    · rcases List.mem_cons.1 hp with rfl | hp
      · exact hb
      · exact h.b p (by simp [hp])
  · intro p hp
    have key : ∀ q ∈ pre ++ (b, o) :: post, q.1 ≠ b → V'.heap[q.1]? = some q.2 := fun q hq hne => (g.block q.1 (h.lt q hq) (by intro hh; cases hh; exact hne rfl)).trans (h.f q hq)
    rcases List.mem_append.1 hp with hp | hp
    · refine key p (by simp [hp]) (fun hh => ?_)
      exact n3 p.1 (List.mem_map.2 ⟨p, hp, rfl⟩) b (by simp) hh
    · rcases List.mem_cons.1 hp with rfl | hp
      · exact e
      · refine key p (by simp [hp]) (fun hh => ?_)
        exact n2.1 (List.mem_map.2 ⟨p, hp, hh⟩)
theorem set_any {W : World} {k j : Nat} {u : Value} {C : Array Value} {t : TypeId} (h : W.heap[k]? = some (.cells C t (0, 0))) : (W.setCell ⟨k, j, none⟩ u).heap[k]? = some (.cells (C.setIfInBounds j u) t (0, 0)) := by
  simp [World.setCell, Array.getElem?_modify, h]
theorem HS.setc {C : Array Value} {t : TypeId} (h : HS w0 V (pre ++ (b, .cells C t (0, 0)) :: post)) (j : Nat) (u : Value) : HS w0 (V.setCell ⟨b, j, none⟩ u) (pre ++ (b, .cells (C.setIfInBounds j u) t (0, 0)) :: post) :=
  h.put (grown_set b j u) (set_any (h.f (b, _) (by simp)))
end
def mapO {κ : Type} (kv : κ → Value) (l : MK κ) : Obj := .map (ensK kv 0 l).toArray l.length
theorem HS.setm {w0 V : World} {pre post : List (Nat × Obj)} {b : Nat} {κ : Type} {kv : κ → Value} {l : MK κ} (h : HS w0 V (pre ++ (b, mapO kv l) :: post)) (m : MK κ) : HS w0 (setM kv V b m) (pre ++ (b, mapO kv m) :: post) :=
  h.put (grown_setM V b m) (MP.set (m := m) (h.f (b, mapO kv l) (by simp) : MP kv V b l))
theorem HS.mp {w0 V : World} {L : List (Nat × Obj)} {b : Nat} {κ : Type} {kv : κ → Value} {l : MK κ} (h : HS w0 V L) (hm : (b, mapO kv l) ∈ L) : MP kv V b l := h.f _ hm
theorem HS.cell {w0 V : World} {L : List (Nat × Obj)} {b : Nat} {C : Array Value} {t : TypeId} (h : HS w0 V L) (hm : (b, Obj.cells C t (0, 0)) ∈ L) (j : Nat) : V.cell? ⟨b, j, none⟩ = C[j]? := Lib.cell_of_heap (h.f _ hm) j
theorem HS.frz {w0 V : World} {L : List (Nat × Obj)} {b : Nat} {C : Array Value} {t : TypeId} (h : HS w0 V L) (hm : (b, Obj.cells C t (0, 0)) ∈ L) (j : Nat) : V.frozen? ⟨b, j, none⟩ = false := Lib.frozen_of_heap (h.f _ hm) j
theorem row1 {α : Type} {e : TypeId} {n : Nat} {cs : α → List Value} {V : World} {B : Nat} {v : Value} {x : α} (o : OR e n cs V B v [x]) (hn : (cs x).length = n) : ∃ g cap cur, v = .slice (some ⟨g, 0, none⟩) 1 cap ∧ B ≤ g ∧ V.heap[g]? = some (.cells cur e (0, 0)) ∧ 1 ≤ cap ∧ cap ≤ 9223372036854775807 ∧ (∀ (i : Nat) u, (cs x)[i]? = some u → cur[i]? = some u) ∧ cur.size = cap * n := by
  rcases o.2 with ⟨_, h⟩ | ⟨g, cap, cur, e1, hg, hh, hc, hm, hs, hx⟩
  · cases h
  · refine ⟨g, cap, cur, e1, hg, hh, hc, by unfold maxLen at hm; omega, fun i u hu => ?_, hs⟩
    have hi : i < n := by
      rcases Nat.lt_or_ge i (cs x).length with h | h
      · omega
      · rw [List.getElem?_eq_none h] at hu; cases hu
    have h1 : (cur.toList.take (1 * n))[i]? = some u := by
      have : [x].length = 1 := rfl
      rw [this] at hx
      rw [hx, List.flatMap_cons, List.flatMap_nil, List.append_nil]
      exact hu
    rw [List.getElem?_take, if_pos (by omega)] at h1
    simpa using h1
theorem row_or {α : Type} {e : TypeId} {cs : α → List Value} {V : World} {B g cap : Nat} {cur : Array Value} {x : α} {v : Value} (hx : cs x = [v]) (h : V.heap[g]? = some (.cells cur e (0, 0))) (hB : B ≤ g) (h1 : 1 ≤ cap) (hm : cap ≤ 9223372036854775807) (hs : cur.size = cap * 1) (h0 : cur[0]? = some v) : OR e 1 cs V B (.slice (some ⟨g, 0, none⟩) 1 cap) [x] := by
  refine ⟨by simp [hx], .inr ⟨g, cap, cur, rfl, hB, h, h1, by unfold maxLen; omega, hs, ?_⟩⟩
  rw [List.flatMap_cons, List.flatMap_nil, List.append_nil, hx]
  have h2 : cur.toList[0]? = some v := by simpa using h0
  rcases hc : cur.toList with _ | ⟨a, l⟩
  · rw [hc] at h2; cases h2
  · rw [hc] at h2
    have h3 : a = v := by simpa using h2
    rw [h3]
    simp
end Go.Proofs.YtiaenhlflgobfaaGreatDoor
namespace Go.Proofs.YtiaenhlflgobfaaGreatDoor
open Go.RowKit Go.Maps
set_option maxRecDepth 100000 in
set_option maxHeartbeats 4000000 in
attribute [local irreducible] Calls in
theorem checkDecls_a (kN kD : Nat) (w : World) (hN : w.heap[kN]? = some (.cells #[.string ⟨#[102]⟩] 9 (0, 0))) (hD : w.heap[kD]? = some (.cells #[iv 1, iv 1, .bool true, .slice (some ⟨kN, 0, none⟩) 1 1, .bool false, iv 1, .string ⟨#[]⟩, .string ⟨#[]⟩, iv 7, iv 0, .slice none 0 0] 45 (0, 0))) : Calls Tryz.prog 76 #[.agg #[.string ⟨#[109]⟩, .slice none 0 0, .slice (some ⟨kD, 0, none⟩) 1 1], .slice none 0 0] w fun e w' => e = .returned (.tuple #[iv 0, iv 0]) ∧ Gr w w' := by
  have FN := Lib.hid (fun V (g : Gr w V) => show V.cell? ⟨kN, 0, none⟩ = some (.string ⟨#[102]⟩) from Lib.cell_of_heap (gr_h g hN) 0)
  have FD := Lib.hid (fun V (g : Gr w V) => boxD (gr_h g hD))
  clear hN hD
  have CH := Lib.hid (fun V => hasSum_a V)
  have CR := Lib.hid (fun V => refs_a V)
  unfold aBv at CH CR
  have S0 := Lib.hid (HS.nil (w0 := w))
  have hmm := @run_makeMap Tryz.prog
  go_enter Tryz.func76, Tryz.ntmps76
  obtain ⟨b2, hb2⟩ : ∃ b, w.heap.size = b := ⟨_, rfl⟩
  go_upto_region 1 with fail
  generalize hW : World.alloc w _ = W1
  have S1 := Lib.hid (show HS w W1 [(b2, Obj.cells #[.string ⟨#[109]⟩, .slice none 0 0, .slice (some ⟨kD, 0, none⟩) 1 1] 39 (0, 0))] from by rw [← hW]; exact S0.out.alloc hb2 _)
  clear hW
  have Hb2 := Lib.hid hb2
  clear hb2
  obtain ⟨b6, hb6⟩ : ∃ b, W1.heap.size = b := ⟨_, rfl⟩
  go_upto_region 2 with fail
  generalize hW : World.alloc W1 _ = W2
  have S2 := Lib.hid (show HS w W2 [(b6, mapO iv ([] : MK Int)), (b2, Obj.cells #[.string ⟨#[109]⟩, .slice none 0 0, .slice (some ⟨kD, 0, none⟩) 1 1] 39 (0, 0))] from by rw [← hW]; exact S1.out.alloc hb6 _)
  clear hW
  have Hb6 := Lib.hid hb6
  clear hb6
  have x1 : W2.cell? ⟨b2, 2, none⟩ = some (.slice (some ⟨kD, 0, none⟩) 1 1) := S2.out.cell (b := b2) (C := #[.string ⟨#[109]⟩, .slice none 0 0, .slice (some ⟨kD, 0, none⟩) 1 1]) (t := 39) (by simp) 2
  go_wp2
  refine wp_loop_rounds 2 ?_
  rw [rounds_succ]
  obtain ⟨d0, d1, d2, d3, d4, d5, d6, d7, d8, d9, d10⟩ := FD.out _ S2.out.g
  obtain ⟨b8, hb8⟩ : ∃ b, W2.heap.size = b := ⟨_, rfl⟩
  go_upto_region 5 with fail
  generalize hW : World.alloc W2 _ = W3
  have S3 := Lib.hid (show HS w W3 [(b8, Obj.cells #[iv 1, iv 1, .bool true, .slice (some ⟨kN, 0, none⟩) 1 1, .bool false, iv 1, .string ⟨#[]⟩, .string ⟨#[]⟩, iv 7, iv 0, .slice none 0 0] 45 (0, 0)), (b6, mapO iv ([] : MK Int)), (b2, Obj.cells #[.string ⟨#[109]⟩, .slice none 0 0, .slice (some ⟨kD, 0, none⟩) 1 1] 39 (0, 0))] from by rw [← hW]; exact S2.out.alloc hb8 _)
  clear hW
  have Hb8 := Lib.hid hb8
  clear hb8
  clear x1 d0 d1 d2 d3 d4 d5 d6 d7 d8 d9 d10
  have x2 : W3.cell? ⟨b8, 0, none⟩ = some (iv 1) := S3.out.cell (b := b8) (C := #[iv 1, iv 1, .bool true, .slice (some ⟨kN, 0, none⟩) 1 1, .bool false, iv 1, .string ⟨#[]⟩, .string ⟨#[]⟩, iv 7, iv 0, .slice none 0 0]) (t := 45) (by simp) 0
  have x3 : (Instr.mapUpdate 187 (.map (some b6)) (iv 1) (.bool true)).run Tryz.prog W3 = .ok () (setM iv W3 b6 ([(1, .bool true)] : MK Int)) := update_k ktI (S3.out.mp (b := b6) (kv := iv) (l := ([] : MK Int)) (by simp)) LK.nil Tryz.underlying187 (k := 1) (by decide) (by rfl) (.bool true)
  go_upto_region 6 with fail
  generalize hW : setM iv W3 b6 _ = W4
  have S4 := Lib.hid (show HS w W4 [(b8, Obj.cells #[iv 1, iv 1, .bool true, .slice (some ⟨kN, 0, none⟩) 1 1, .bool false, iv 1, .string ⟨#[]⟩, .string ⟨#[]⟩, iv 7, iv 0, .slice none 0 0] 45 (0, 0)), (b6, mapO iv ([(1, .bool true)] : MK Int)), (b2, Obj.cells #[.string ⟨#[109]⟩, .slice none 0 0, .slice (some ⟨kD, 0, none⟩) 1 1] 39 (0, 0))] from by rw [← hW]; exact HS.setm (pre := [(b8, Obj.cells #[iv 1, iv 1, .bool true, .slice (some ⟨kN, 0, none⟩) 1 1, .bool false, iv 1, .string ⟨#[]⟩, .string ⟨#[]⟩, iv 7, iv 0, .slice none 0 0] 45 (0, 0))]) (post := [(b2, Obj.cells #[.string ⟨#[109]⟩, .slice none 0 0, .slice (some ⟨kD, 0, none⟩) 1 1] 39 (0, 0))]) (l := ([] : MK Int)) S3.out ([(1, .bool true)] : MK Int))
  clear hW
  clear x2 x3
  go_wp2
  rw [rounds_succ]
  obtain ⟨b9, hb9⟩ : ∃ b, W4.heap.size = b := ⟨_, rfl⟩
  go_upto_region 8 with fail
  generalize hW : World.alloc W4 _ = W5
  have S5 := Lib.hid (show HS w W5 [(b9, mapO tv ([] : MK T)), (b8, Obj.cells #[iv 1, iv 1, .bool true, .slice (some ⟨kN, 0, none⟩) 1 1, .bool false, iv 1, .string ⟨#[]⟩, .string ⟨#[]⟩, iv 7, iv 0, .slice none 0 0] 45 (0, 0)), (b6, mapO iv ([(1, .bool true)] : MK Int)), (b2, Obj.cells #[.string ⟨#[109]⟩, .slice none 0 0, .slice (some ⟨kD, 0, none⟩) 1 1] 39 (0, 0))] from by rw [← hW]; exact S4.out.alloc hb9 _)
  clear hW
  have Hb9 := Lib.hid hb9
  clear hb9
  have x4 : W5.cell? ⟨b2, 2, none⟩ = some (.slice (some ⟨kD, 0, none⟩) 1 1) := S5.out.cell (b := b2) (C := #[.string ⟨#[109]⟩, .slice none 0 0, .slice (some ⟨kD, 0, none⟩) 1 1]) (t := 39) (by simp) 2
  go_wp2
  refine wp_loop_rounds 2 ?_
  rw [rounds_succ]
  obtain ⟨d0, d1, d2, d3, d4, d5, d6, d7, d8, d9, d10⟩ := FD.out _ S5.out.g
  obtain ⟨b11, hb11⟩ : ∃ b, W5.heap.size = b := ⟨_, rfl⟩
  go_upto_region 11 with fail
  generalize hW : World.alloc W5 _ = W6
  have S6 := Lib.hid (show HS w W6 [(b11, Obj.cells #[iv 1, iv 1, .bool true, .slice (some ⟨kN, 0, none⟩) 1 1, .bool false, iv 1, .string ⟨#[]⟩, .string ⟨#[]⟩, iv 7, iv 0, .slice none 0 0] 45 (0, 0)), (b9, mapO tv ([] : MK T)), (b8, Obj.cells #[iv 1, iv 1, .bool true, .slice (some ⟨kN, 0, none⟩) 1 1, .bool false, iv 1, .string ⟨#[]⟩, .string ⟨#[]⟩, iv 7, iv 0, .slice none 0 0] 45 (0, 0)), (b6, mapO iv ([(1, .bool true)] : MK Int)), (b2, Obj.cells #[.string ⟨#[109]⟩, .slice none 0 0, .slice (some ⟨kD, 0, none⟩) 1 1] 39 (0, 0))] from by rw [← hW]; exact S5.out.alloc hb11 _)
  clear hW
  have Hb11 := Lib.hid hb11
  clear hb11
  clear x4 d0 d1 d2 d3 d4 d5 d6 d7 d8 d9 d10
  have x5 : W6.cell? ⟨b11, 3, none⟩ = some (.slice (some ⟨kN, 0, none⟩) 1 1) := S6.out.cell (b := b11) (C := #[iv 1, iv 1, .bool true, .slice (some ⟨kN, 0, none⟩) 1 1, .bool false, iv 1, .string ⟨#[]⟩, .string ⟨#[]⟩, iv 7, iv 0, .slice none 0 0]) (t := 45) (by simp) 3
  have x6 : W6.cell? ⟨b11, 4, none⟩ = some (.bool false) := S6.out.cell (b := b11) (C := #[iv 1, iv 1, .bool true, .slice (some ⟨kN, 0, none⟩) 1 1, .bool false, iv 1, .string ⟨#[]⟩, .string ⟨#[]⟩, iv 7, iv 0, .slice none 0 0]) (t := 45) (by simp) 4
  have x7 : W6.cell? ⟨b11, 5, none⟩ = some (iv 1) := S6.out.cell (b := b11) (C := #[iv 1, iv 1, .bool true, .slice (some ⟨kN, 0, none⟩) 1 1, .bool false, iv 1, .string ⟨#[]⟩, .string ⟨#[]⟩, iv 7, iv 0, .slice none 0 0]) (t := 45) (by simp) 5
  have x8 : W6.cell? ⟨b11, 6, none⟩ = some (.string ⟨#[]⟩) := S6.out.cell (b := b11) (C := #[iv 1, iv 1, .bool true, .slice (some ⟨kN, 0, none⟩) 1 1, .bool false, iv 1, .string ⟨#[]⟩, .string ⟨#[]⟩, iv 7, iv 0, .slice none 0 0]) (t := 45) (by simp) 6
  have x9 : W6.cell? ⟨b11, 7, none⟩ = some (.string ⟨#[]⟩) := S6.out.cell (b := b11) (C := #[iv 1, iv 1, .bool true, .slice (some ⟨kN, 0, none⟩) 1 1, .bool false, iv 1, .string ⟨#[]⟩, .string ⟨#[]⟩, iv 7, iv 0, .slice none 0 0]) (t := 45) (by simp) 7
  have x10 : W6.cell? ⟨b11, 8, none⟩ = some (iv 7) := S6.out.cell (b := b11) (C := #[iv 1, iv 1, .bool true, .slice (some ⟨kN, 0, none⟩) 1 1, .bool false, iv 1, .string ⟨#[]⟩, .string ⟨#[]⟩, iv 7, iv 0, .slice none 0 0]) (t := 45) (by simp) 8
  have x11 : W6.cell? ⟨b11, 9, none⟩ = some (iv 0) := S6.out.cell (b := b11) (C := #[iv 1, iv 1, .bool true, .slice (some ⟨kN, 0, none⟩) 1 1, .bool false, iv 1, .string ⟨#[]⟩, .string ⟨#[]⟩, iv 7, iv 0, .slice none 0 0]) (t := 45) (by simp) 9
  have x12 : W6.cell? ⟨b11, 10, none⟩ = some (.slice none 0 0) := S6.out.cell (b := b11) (C := #[iv 1, iv 1, .bool true, .slice (some ⟨kN, 0, none⟩) 1 1, .bool false, iv 1, .string ⟨#[]⟩, .string ⟨#[]⟩, iv 7, iv 0, .slice none 0 0]) (t := 45) (by simp) 10
  have n0 := FN.out _ S6.out.g
  go_upto_region 13 with (go_at_call 116; (with_reducible refine (CH.out _).mono ?_); rintro e W7 ⟨rfl, g⟩; have S7 := Lib.hid (show HS w W7 [(b11, Obj.cells #[iv 1, iv 1, .bool true, .slice (some ⟨kN, 0, none⟩) 1 1, .bool false, iv 1, .string ⟨#[]⟩, .string ⟨#[]⟩, iv 7, iv 0, .slice none 0 0] 45 (0, 0)), (b9, mapO tv ([] : MK T)), (b8, Obj.cells #[iv 1, iv 1, .bool true, .slice (some ⟨kN, 0, none⟩) 1 1, .bool false, iv 1, .string ⟨#[]⟩, .string ⟨#[]⟩, iv 7, iv 0, .slice none 0 0] 45 (0, 0)), (b6, mapO iv ([(1, .bool true)] : MK Int)), (b2, Obj.cells #[.string ⟨#[109]⟩, .slice none 0 0, .slice (some ⟨kD, 0, none⟩) 1 1] 39 (0, 0))] from S6.out.gr g); clear g x5 x6 x7 x8 x9 x10 x11 x12 n0; have x13 : W7.cell? ⟨b11, 3, none⟩ = some (.slice (some ⟨kN, 0, none⟩) 1 1) := S7.out.cell (b := b11) (C := #[iv 1, iv 1, .bool true, .slice (some ⟨kN, 0, none⟩) 1 1, .bool false, iv 1, .string ⟨#[]⟩, .string ⟨#[]⟩, iv 7, iv 0, .slice none 0 0]) (t := 45) (by simp) 3; have x14 : W7.cell? ⟨b11, 4, none⟩ = some (.bool false) := S7.out.cell (b := b11) (C := #[iv 1, iv 1, .bool true, .slice (some ⟨kN, 0, none⟩) 1 1, .bool false, iv 1, .string ⟨#[]⟩, .string ⟨#[]⟩, iv 7, iv 0, .slice none 0 0]) (t := 45) (by simp) 4; have x15 : W7.cell? ⟨b11, 5, none⟩ = some (iv 1) := S7.out.cell (b := b11) (C := #[iv 1, iv 1, .bool true, .slice (some ⟨kN, 0, none⟩) 1 1, .bool false, iv 1, .string ⟨#[]⟩, .string ⟨#[]⟩, iv 7, iv 0, .slice none 0 0]) (t := 45) (by simp) 5; have x16 : W7.cell? ⟨b11, 6, none⟩ = some (.string ⟨#[]⟩) := S7.out.cell (b := b11) (C := #[iv 1, iv 1, .bool true, .slice (some ⟨kN, 0, none⟩) 1 1, .bool false, iv 1, .string ⟨#[]⟩, .string ⟨#[]⟩, iv 7, iv 0, .slice none 0 0]) (t := 45) (by simp) 6; have x17 : W7.cell? ⟨b11, 7, none⟩ = some (.string ⟨#[]⟩) := S7.out.cell (b := b11) (C := #[iv 1, iv 1, .bool true, .slice (some ⟨kN, 0, none⟩) 1 1, .bool false, iv 1, .string ⟨#[]⟩, .string ⟨#[]⟩, iv 7, iv 0, .slice none 0 0]) (t := 45) (by simp) 7; have x18 : W7.cell? ⟨b11, 8, none⟩ = some (iv 7) := S7.out.cell (b := b11) (C := #[iv 1, iv 1, .bool true, .slice (some ⟨kN, 0, none⟩) 1 1, .bool false, iv 1, .string ⟨#[]⟩, .string ⟨#[]⟩, iv 7, iv 0, .slice none 0 0]) (t := 45) (by simp) 8; have x19 : W7.cell? ⟨b11, 9, none⟩ = some (iv 0) := S7.out.cell (b := b11) (C := #[iv 1, iv 1, .bool true, .slice (some ⟨kN, 0, none⟩) 1 1, .bool false, iv 1, .string ⟨#[]⟩, .string ⟨#[]⟩, iv 7, iv 0, .slice none 0 0]) (t := 45) (by simp) 9; have x20 : W7.cell? ⟨b11, 10, none⟩ = some (.slice none 0 0) := S7.out.cell (b := b11) (C := #[iv 1, iv 1, .bool true, .slice (some ⟨kN, 0, none⟩) 1 1, .bool false, iv 1, .string ⟨#[]⟩, .string ⟨#[]⟩, iv 7, iv 0, .slice none 0 0]) (t := 45) (by simp) 10; have n0 := FN.out _ S7.out.g; have x21 : (Instr.lookup 188 (.map (some b9)) (.string ⟨#[102]⟩) false).run Tryz.prog W7 = .ok (.bool false) W7 := (lookup_k ktT (S7.out.mp (b := b9) (kv := tv) (l := ([] : MK T)) (by simp)) LK.nil Tryz.underlying188 (z := .bool false) (by kernel_rfl) (k := ([102] : T)) (by decide)).1; (try dsimp only))
  clear x13 x14 x15 x16 x17 x18 x19 x20 n0 x21
  have x22 : W7.cell? ⟨b11, 3, none⟩ = some (.slice (some ⟨kN, 0, none⟩) 1 1) := S7.out.cell (b := b11) (C := #[iv 1, iv 1, .bool true, .slice (some ⟨kN, 0, none⟩) 1 1, .bool false, iv 1, .string ⟨#[]⟩, .string ⟨#[]⟩, iv 7, iv 0, .slice none 0 0]) (t := 45) (by simp) 3
  have n0 := FN.out _ S7.out.g
  have x23 : (Instr.mapUpdate 188 (.map (some b9)) (.string ⟨#[102]⟩) (.bool true)).run Tryz.prog W7 = .ok () (setM tv W7 b9 ([([102], .bool true)] : MK T)) := update_k ktT (S7.out.mp (b := b9) (kv := tv) (l := ([] : MK T)) (by simp)) LK.nil Tryz.underlying188 (k := ([102] : T)) (by decide) (by rfl) (.bool true)
  go_upto_region 14 with fail
  generalize hW : setM tv W7 b9 _ = W8
  have S8 := Lib.hid (show HS w W8 [(b11, Obj.cells #[iv 1, iv 1, .bool true, .slice (some ⟨kN, 0, none⟩) 1 1, .bool false, iv 1, .string ⟨#[]⟩, .string ⟨#[]⟩, iv 7, iv 0, .slice none 0 0] 45 (0, 0)), (b9, mapO tv ([([102], .bool true)] : MK T)), (b8, Obj.cells #[iv 1, iv 1, .bool true, .slice (some ⟨kN, 0, none⟩) 1 1, .bool false, iv 1, .string ⟨#[]⟩, .string ⟨#[]⟩, iv 7, iv 0, .slice none 0 0] 45 (0, 0)), (b6, mapO iv ([(1, .bool true)] : MK Int)), (b2, Obj.cells #[.string ⟨#[109]⟩, .slice none 0 0, .slice (some ⟨kD, 0, none⟩) 1 1] 39 (0, 0))] from by rw [← hW]; exact HS.setm (pre := [(b11, Obj.cells #[iv 1, iv 1, .bool true, .slice (some ⟨kN, 0, none⟩) 1 1, .bool false, iv 1, .string ⟨#[]⟩, .string ⟨#[]⟩, iv 7, iv 0, .slice none 0 0] 45 (0, 0))]) (post := [(b8, Obj.cells #[iv 1, iv 1, .bool true, .slice (some ⟨kN, 0, none⟩) 1 1, .bool false, iv 1, .string ⟨#[]⟩, .string ⟨#[]⟩, iv 7, iv 0, .slice none 0 0] 45 (0, 0)), (b6, mapO iv ([(1, .bool true)] : MK Int)), (b2, Obj.cells #[.string ⟨#[109]⟩, .slice none 0 0, .slice (some ⟨kD, 0, none⟩) 1 1] 39 (0, 0))]) (l := ([] : MK T)) S7.out ([([102], .bool true)] : MK T))
  clear hW
  clear x22 n0 x23
  have x24 : W8.cell? ⟨b11, 5, none⟩ = some (iv 1) := S8.out.cell (b := b11) (C := #[iv 1, iv 1, .bool true, .slice (some ⟨kN, 0, none⟩) 1 1, .bool false, iv 1, .string ⟨#[]⟩, .string ⟨#[]⟩, iv 7, iv 0, .slice none 0 0]) (t := 45) (by simp) 5
  have x25 : W8.cell? ⟨b11, 6, none⟩ = some (.string ⟨#[]⟩) := S8.out.cell (b := b11) (C := #[iv 1, iv 1, .bool true, .slice (some ⟨kN, 0, none⟩) 1 1, .bool false, iv 1, .string ⟨#[]⟩, .string ⟨#[]⟩, iv 7, iv 0, .slice none 0 0]) (t := 45) (by simp) 6
  have x26 : W8.cell? ⟨b11, 7, none⟩ = some (.string ⟨#[]⟩) := S8.out.cell (b := b11) (C := #[iv 1, iv 1, .bool true, .slice (some ⟨kN, 0, none⟩) 1 1, .bool false, iv 1, .string ⟨#[]⟩, .string ⟨#[]⟩, iv 7, iv 0, .slice none 0 0]) (t := 45) (by simp) 7
  have x27 : W8.cell? ⟨b11, 8, none⟩ = some (iv 7) := S8.out.cell (b := b11) (C := #[iv 1, iv 1, .bool true, .slice (some ⟨kN, 0, none⟩) 1 1, .bool false, iv 1, .string ⟨#[]⟩, .string ⟨#[]⟩, iv 7, iv 0, .slice none 0 0]) (t := 45) (by simp) 8
  have x28 : W8.cell? ⟨b11, 9, none⟩ = some (iv 0) := S8.out.cell (b := b11) (C := #[iv 1, iv 1, .bool true, .slice (some ⟨kN, 0, none⟩) 1 1, .bool false, iv 1, .string ⟨#[]⟩, .string ⟨#[]⟩, iv 7, iv 0, .slice none 0 0]) (t := 45) (by simp) 9
  have x29 : W8.cell? ⟨b11, 10, none⟩ = some (.slice none 0 0) := S8.out.cell (b := b11) (C := #[iv 1, iv 1, .bool true, .slice (some ⟨kN, 0, none⟩) 1 1, .bool false, iv 1, .string ⟨#[]⟩, .string ⟨#[]⟩, iv 7, iv 0, .slice none 0 0]) (t := 45) (by simp) 10
  go_wp2_with (go_at_call 117; (with_reducible refine (CR.out _).mono ?_); rintro e W9 ⟨rfl, g⟩; have S9 := Lib.hid (show HS w W9 [(b11, Obj.cells #[iv 1, iv 1, .bool true, .slice (some ⟨kN, 0, none⟩) 1 1, .bool false, iv 1, .string ⟨#[]⟩, .string ⟨#[]⟩, iv 7, iv 0, .slice none 0 0] 45 (0, 0)), (b9, mapO tv ([([102], .bool true)] : MK T)), (b8, Obj.cells #[iv 1, iv 1, .bool true, .slice (some ⟨kN, 0, none⟩) 1 1, .bool false, iv 1, .string ⟨#[]⟩, .string ⟨#[]⟩, iv 7, iv 0, .slice none 0 0] 45 (0, 0)), (b6, mapO iv ([(1, .bool true)] : MK Int)), (b2, Obj.cells #[.string ⟨#[109]⟩, .slice none 0 0, .slice (some ⟨kD, 0, none⟩) 1 1] 39 (0, 0))] from S8.out.gr g); clear g)
  clear x24 x25 x26 x27 x28 x29
  refine wp_loop_rounds 1 ?_
  rw [rounds_succ]
  go_wp2
  rw [rounds_succ]
  go_wp2
  go_ret2
  exact ⟨rfl, S9.out.g⟩
end Go.Proofs.YtiaenhlflgobfaaGreatDoor
namespace Go.Proofs.YtiaenhlflgobfaaGreatDoor
open Go.RowKit Go.Maps
def ics (n : Int) : List Value := [iv n]
theorem ics_len (n : Int) : (ics n).length = 1 := rfl
theorem ics1 (n : Int) : ∀ u ∈ ics n, u.oneCell' = true := by
  intro u hu
  rw [List.mem_singleton.1 hu]
  rfl
theorem elI : EL 110 3 1 ics := ⟨ics_len, ics1, Tryz.underlying110, ⟨iv 0, 8, by kernel_rfl, rfl, by decide⟩, by decide⟩
structure GI where
  A : Option Addr
  n : Nat
  c : Nat
def GI.cs (s : GI) : List Value := [.slice s.A s.n s.c]
theorem GI.cs_len (s : GI) : s.cs.length = 1 := rfl
theorem GI.cell1 (s : GI) : ∀ u ∈ s.cs, u.oneCell' = true := by
  intro u hu
  rw [List.mem_singleton.1 hu]
  rfl
theorem elG : EL 137 110 1 GI.cs := ⟨GI.cs_len, GI.cell1, Tryz.underlying137, ⟨.slice none 0 0, 24, by kernel_rfl, rfl, by decide⟩, by decide⟩
set_option maxRecDepth 100000 in
set_option maxHeartbeats 4000000 in
attribute [local irreducible] Calls in
theorem bitsLen_1 (w : World) : Calls Tryz.prog 198 #[.int .u64 1] w fun e w' => e = .returned (iv 1) ∧ w' = w := by
  go_enter Tryz.func198, Tryz.ntmps198
  go_wp2_with (go_at_call 224; (with_reducible refine (len64_1 _).mono ?_); rintro e w1 ⟨rfl, rfl⟩)
  go_ret
  exact ⟨rfl, rfl⟩
set_option maxRecDepth 100000 in
set_option maxHeartbeats 4000000 in
attribute [local irreducible] Calls in
theorem indexI_one (g cap : Nat) (w : World) (h : w.cell? ⟨g, 0, none⟩ = some (iv 1)) : Calls Tryz.prog 171 #[.slice (some ⟨g, 0, none⟩) 1 cap, iv 1] w fun e w' => e = .returned (iv 0) ∧ w' = w := by
  go_enter Tryz.func171, Tryz.ntmps171
  go_wp2
  refine wp_loop_rounds 1 ?_
  rw [rounds_succ]
  go_wp2
  go_ret
  exact ⟨rfl, rfl⟩
set_option maxRecDepth 100000 in
set_option maxHeartbeats 4000000 in
attribute [local irreducible] Calls in
theorem cloneI_one (g cap : Nat) (w : World) (h : w.cell? ⟨g, 0, none⟩ = some (iv 1)) (hg : g < w.heap.size) : Calls Tryz.prog 172 #[.slice (some ⟨g, 0, none⟩) 1 cap] w fun e w' => ∃ v, e = .returned v ∧ OR 3 1 ics w' w.heap.size v [1] ∧ Gr w w' := by
  have R1 := Lib.hid (show RD 1 ics w (some ⟨g, 0, none⟩) [1] from .inr ⟨_, rfl, hg, fun j x hx i v hv => by
    have hj : j = 0 := by
      rcases j with _ | j
      · rfl
      · simp at hx
    subst hj
    have hx1 : x = 1 := by simpa using hx.symm
    subst hx1
    have hi : i = 0 := by
      rcases i with _ | i
      · rfl
      · simp [ics] at hv
    subst hi
    have hv1 : iv 1 = v := by simpa [ics] using hv
    rw [← hv1]
    exact h⟩)
  have q22 : ∀ (w : World) (a : Option Addr) (n c n' c' : Nat), (binOp .eql 110 (.slice a n c) (.slice none n' c')).run Tryz.prog w = .ok (.bool a.isNone) w := fun w a n c n' c' => Lib.run_eql_slice_nil w _ _ a n c n' c' Tryz.underlying110
  go_enter Tryz.func172, Tryz.ntmps172
  go_wp2_with (at_builtin; refine wpList_app elI rfl (.tmp 5) (.tmp 6) rfl w.heap.size (v := .slice (some ⟨w.heap.size, 0, none⟩) 0 0) rfl (OR.empty (Nat.le_refl _)) (A := some ⟨g, 0, none⟩) (M := ([1] : List Int)) (m := 1) (c := cap) rfl rfl (R1.out.gr (gr_al _ _)) (by simp) (by simp) ?_; intro v7 w7 o7 g7 b7; have O7 := Lib.hid o7; have G7 := Lib.hid (OR.grow (W := w) (gr_al _ _) (OR.empty (n := 1) (cs := ics) (Nat.le_refl _)) (Nat.le_refl _) g7); clear o7 g7 b7)
  go_ret
  exact ⟨_, rfl, O7.out, G7.out⟩
set_option maxRecDepth 100000 in
set_option maxHeartbeats 4000000 in
attribute [local irreducible] Calls in
theorem insertI_one (v : Value) (w : World) : Calls Tryz.prog 240 #[v, iv 0, iv 1] w fun e w' => (∃ r, e = .returned r) ∧ w' = w := by
  go_enter Tryz.func240, Tryz.ntmps240
  go_wp2
  refine wp_loop_rounds 1 ?_
  rw [rounds_succ]
  go_wp2
  first | go_end0 | refine bodyPost_ret (results_none rfl _ _ _) rfl ?_
  exact ⟨⟨_, rfl⟩, rfl⟩
set_option maxRecDepth 100000 in
set_option maxHeartbeats 4000000 in
attribute [local irreducible] Calls in
theorem pdqI_one (v : Value) (w : World) : Calls Tryz.prog 203 #[v, iv 0, iv 1, iv 1] w fun e w' => (∃ r, e = .returned r) ∧ w' = w := by
  go_enter Tryz.func203, Tryz.ntmps203
  go_wp2
  refine wp_loop_rounds 1 ?_
  rw [rounds_succ]
  go_wp2_with (go_at_call 240; (with_reducible refine (insertI_one _ _).mono ?_); rintro e w1 ⟨⟨r, rfl⟩, rfl⟩)
  first | go_end0 | refine bodyPost_ret (results_none rfl _ _ _) rfl ?_
  exact ⟨⟨_, rfl⟩, rfl⟩
set_option maxRecDepth 100000 in
set_option maxHeartbeats 4000000 in
attribute [local irreducible] Calls in
theorem sortI_one (g cap : Nat) (w : World) : Calls Tryz.prog 173 #[.slice (some ⟨g, 0, none⟩) 1 cap] w fun e w' => (∃ r, e = .returned r) ∧ w' = w := by
  go_enter Tryz.func173, Tryz.ntmps173
  go_wp2_with (first
    | (go_at_call 198; (with_reducible refine (bitsLen_1 _).mono ?_); rintro e w1 ⟨rfl, rfl⟩)
    | (go_at_call 203; (with_reducible refine (pdqI_one _ _).mono ?_); rintro e w1 ⟨⟨r, rfl⟩, rfl⟩))
  first | go_end0 | refine bodyPost_ret (results_none rfl _ _ _) rfl ?_
  exact ⟨⟨_, rfl⟩, rfl⟩
set_option maxRecDepth 100000 in
set_option maxHeartbeats 4000000 in
attribute [local irreducible] Calls in
theorem insertG_one (v f : Value) (w : World) : Calls Tryz.prog 232 #[v, iv 0, iv 1, f] w fun e w' => (∃ r, e = .returned r) ∧ w' = w := by
  go_enter Tryz.func232, Tryz.ntmps232
  go_wp2
  refine wp_loop_rounds 1 ?_
  rw [rounds_succ]
  go_wp2
  first | go_end0 | refine bodyPost_ret (results_none rfl _ _ _) rfl ?_
  exact ⟨⟨_, rfl⟩, rfl⟩
set_option maxRecDepth 100000 in
set_option maxHeartbeats 4000000 in
attribute [local irreducible] Calls in
theorem pdqG_one (v f : Value) (w : World) : Calls Tryz.prog 202 #[v, iv 0, iv 1, iv 1, f] w fun e w' => (∃ r, e = .returned r) ∧ w' = w := by
  go_enter Tryz.func202, Tryz.ntmps202
  go_wp2
  refine wp_loop_rounds 1 ?_
  rw [rounds_succ]
  go_wp2_with (go_at_call 232; (with_reducible refine (insertG_one _ _ _).mono ?_); rintro e w1 ⟨⟨r, rfl⟩, rfl⟩)
  first | go_end0 | refine bodyPost_ret (results_none rfl _ _ _) rfl ?_
  exact ⟨⟨_, rfl⟩, rfl⟩
set_option maxRecDepth 100000 in
set_option maxHeartbeats 4000000 in
attribute [local irreducible] Calls in
theorem sortG_one (g cap : Nat) (f : Value) (w : World) : Calls Tryz.prog 164 #[.slice (some ⟨g, 0, none⟩) 1 cap, f] w fun e w' => (∃ r, e = .returned r) ∧ w' = w := by
  go_enter Tryz.func164, Tryz.ntmps164
  go_wp2_with (first
    | (go_at_call 198; (with_reducible refine (bitsLen_1 _).mono ?_); rintro e w1 ⟨rfl, rfl⟩)
    | (go_at_call 202; (with_reducible refine (pdqG_one _ _ _).mono ?_); rintro e w1 ⟨⟨r, rfl⟩, rfl⟩))
  first | go_end0 | refine bodyPost_ret (results_none rfl _ _ _) rfl ?_
  exact ⟨⟨_, rfl⟩, rfl⟩
end Go.Proofs.YtiaenhlflgobfaaGreatDoor

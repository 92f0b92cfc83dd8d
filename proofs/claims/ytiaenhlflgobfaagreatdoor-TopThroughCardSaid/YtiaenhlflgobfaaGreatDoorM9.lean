/- Walks and words: Con, Ckd. -/
import Derived.Test.YtiaenhlflgobfaaGreatDoorM4
import Derived.Test.YtiaenhlflgobfaaGreatDoorBiA
import Derived.Test.YtiaenhlflgobfaaGreatDoorM6
import Derived.Test.YtiaenhlflgobfaaGreatDoorM8
namespace Go.Proofs.YtiaenhlflgobfaaGreatDoor
open Go.RowKit
set_option maxRecDepth 100000 in
theorem dot_any (y : Ex) (w : World) : Calls Tryz.prog 136 #[y.v] w fun e w' => e = .returned (.bool (decide (y.er.kind = 4))) ∧ Gr w w' := by
  obtain ⟨c0, -⟩ := ex_box6 y w _ (gr_refl _)
  have GX := Lib.hid (gr_al w (.cells #[iv y.kind, tv y.name, tv y.more, iv y.int, iv y.den, .slice y.A y.sub.length y.c] 43))
  rw [er_kind]
  unfold Ex.v
  by_cases h : y.kind = 4
  · rw [h] at c0 GX ⊢
    go_enter Tryz.func136, Tryz.ntmps136
    go_wp2
    go_ret
    exact ⟨rfl, GX.out⟩
  · have hk : (y.kind == 4) = false := by simpa using h
    have hd : decide (y.kind = 4) = false := decide_eq_false h
    rw [hd]
    generalize y.kind = k at *
    clear h hd
    go_enter Tryz.func136, Tryz.ntmps136
    go_wp2
    go_ret
    exact ⟨rfl, GX.out⟩
set_option maxRecDepth 100000 in
theorem ref_any (y : Ex) (l : T) (w : World) (bl : Nat) (hb : w.cell? ⟨bl, 0, none⟩ = some (tv l)) : Calls Tryz.prog 138 #[y.v, .pointer (some ⟨bl, 0, none⟩)] w fun e w' => e = .returned (.bool (decide (y.er.kind = 5) && decide (y.er.name = l))) ∧ Gr w w' := by
  obtain ⟨c0, c1, -⟩ := ex_box6 y w _ (gr_refl _)
  have GX := Lib.hid (gr_al w (.cells #[iv y.kind, tv y.name, tv y.more, iv y.int, iv y.den, .slice y.A y.sub.length y.c] 43))
  have d0 := gr_c GX.out hb
  rw [er_kind, er_name]
  unfold Ex.v
  generalize y.kind = k at *
  generalize y.name = n at *
  by_cases h : k = 5
  · subst h
    by_cases h2 : n = l
    · subst h2
      rw [show (decide ((5 : Int) = 5) && decide (n = n)) = true from by simp]
      clear hb
      go_enter Tryz.func138, Tryz.ntmps138
      go_wp2
      go_ret
      exact ⟨rfl, GX.out⟩
    · have hn : (n == l) = false := by simpa using h2
      rw [show (decide ((5 : Int) = 5) && decide (n = l)) = false from by simp [h2]]
      clear h2 hb
      go_enter Tryz.func138, Tryz.ntmps138
      go_wp2
      go_ret
      exact ⟨rfl, GX.out⟩
  · have hk : (k == 5) = false := by simpa using h
    rw [show (decide (k = 5) && decide (n = l)) = false from by simp [h]]
    clear h hb
    go_enter Tryz.func138, Tryz.ntmps138
    go_wp2
    go_ret
    exact ⟨rfl, GX.out⟩
set_option maxRecDepth 100000 in
set_option maxHeartbeats 2000000 in
attribute [local irreducible] Calls in
theorem found_dot (w : World) (bA bF : Nat) (hne : bA ≠ bF) (hA : w.heap[bA]? = some (.cells #[.func (.func 136) #[] #[]] 87 (0, 0))) (V : World) (y : Ex) (g : w.grownBy V (some bF)) (f0 : V.heap[bF]? = some (.cells #[.bool false] 4 (0, 0))) :
    Calls Tryz.prog 182 #[y.v, .pointer (some ⟨bA, 0, none⟩), .pointer (some ⟨bF, 0, none⟩)] V fun e w' => e = .returned (.bool (!(fun e => decide (e.kind = 4)) y.er)) ∧ V.grownBy w' (some bF) ∧ w'.heap[bF]? = some (.cells #[.bool ((fun e => decide (e.kind = 4)) y.er)] 4 (0, 0)) := by
  have bV : bF < V.heap.size := heap_lt f0
  have a0 : (V.alloc (.cells #[iv y.kind, tv y.name, tv y.more, iv y.int, iv y.den, .slice y.A y.sub.length y.c] 43)).cell? ⟨bA, 0, none⟩ = some (.func (.func 136) #[] #[]) := by
    have h := gr_h (gr_al V (.cells #[iv y.kind, tv y.name, tv y.more, iv y.int, iv y.den, .slice y.A y.sub.length y.c] 43)) ((g.block bA (heap_lt hA) (by simpa using hne)).trans hA)
    rw [Lib.cell_of_heap h]; rfl
  obtain ⟨c0, c1, c2, c3, c4, c5⟩ := ex_box6 y V _ (gr_refl _)
  have F1 := Lib.hid (gr_h (gr_al V (.cells #[iv y.kind, tv y.name, tv y.more, iv y.int, iv y.den, .slice y.A y.sub.length y.c] 43)) f0)
  have GX := Lib.hid (gr_al V (.cells #[iv y.kind, tv y.name, tv y.more, iv y.int, iv y.den, .slice y.A y.sub.length y.c] 43))
  have BV := Lib.hid bV
  have CL := Lib.hid (fun U => dot_any y U)
  obtain ⟨b, hb⟩ : ∃ b, (fun e => decide (e.kind = 4)) y.er = b := ⟨_, rfl⟩
  have hb' := hb
  dsimp only at hb'
  rw [hb]
  rw [hb'] at CL
  clear hb hb' f0 bV
  unfold Ex.v at CL ⊢
  cases b with
  | false =>
    go_enter Tryz.func182, Tryz.ntmps182
    go_upto_region 2 with (go_at_call 136; (with_reducible refine (CL.out _).mono ?_); rintro e w1 ⟨rfl, g1⟩; have G1 := Lib.hid g1; have h1 := gr_h g1 F1.out; have d0 := Lib.cell_of_heap h1 0; have d1 := Lib.frozen_of_heap h1 0; simp only [List.getElem?_toArray, List.getElem?_cons_zero] at d0; clear g1 h1)
    have e0 := Lib.cell_of_heap (set_same (u := .bool false) (gr_h G1.out F1.out)) 0
    simp only [List.getElem?_toArray, List.getElem?_cons_zero] at e0
    go_wp2
    go_ret
    exact ⟨rfl, ((World.grownBy.trans GX.out G1.out).but (some bF)).trans (grown_set bF 0 _), set_same (gr_h G1.out F1.out)⟩
  | true =>
    go_enter Tryz.func182, Tryz.ntmps182
    go_upto_region 2 with (go_at_call 136; (with_reducible refine (CL.out _).mono ?_); rintro e w1 ⟨rfl, g1⟩; have G1 := Lib.hid g1; have h1 := gr_h g1 F1.out; have d0 := Lib.cell_of_heap h1 0; have d1 := Lib.frozen_of_heap h1 0; simp only [List.getElem?_toArray, List.getElem?_cons_zero] at d0; clear g1 h1)
    have e0 := Lib.cell_of_heap (set_same (u := .bool true) (gr_h G1.out F1.out)) 0
    simp only [List.getElem?_toArray, List.getElem?_cons_zero] at e0
    go_wp2
    go_ret
    exact ⟨rfl, ((World.grownBy.trans GX.out G1.out).but (some bF)).trans (grown_set bF 0 _), set_same (gr_h G1.out F1.out)⟩
set_option maxRecDepth 100000 in
set_option maxHeartbeats 2000000 in
attribute [local irreducible] Calls in
theorem found_ref (l : T) (bl : Nat) (w : World) (bA bF : Nat) (hne : bA ≠ bF) (hA : w.heap[bA]? = some (.cells #[.func (.func 138) #[] #[.pointer (some ⟨bl, 0, none⟩)]] 87 (0, 0))) (hl : ∀ V, w.grownBy V (some bF) → V.cell? ⟨bl, 0, none⟩ = some (tv l)) (V : World) (y : Ex) (g : w.grownBy V (some bF)) (f0 : V.heap[bF]? = some (.cells #[.bool false] 4 (0, 0))) :
    Calls Tryz.prog 182 #[y.v, .pointer (some ⟨bA, 0, none⟩), .pointer (some ⟨bF, 0, none⟩)] V fun e w' => e = .returned (.bool (!(fun e => decide (e.kind = 5) && decide (e.name = l)) y.er)) ∧ V.grownBy w' (some bF) ∧ w'.heap[bF]? = some (.cells #[.bool ((fun e => decide (e.kind = 5) && decide (e.name = l)) y.er)] 4 (0, 0)) := by
  have bV : bF < V.heap.size := heap_lt f0
  have a0 : (V.alloc (.cells #[iv y.kind, tv y.name, tv y.more, iv y.int, iv y.den, .slice y.A y.sub.length y.c] 43)).cell? ⟨bA, 0, none⟩ = some (.func (.func 138) #[] #[.pointer (some ⟨bl, 0, none⟩)]) := by
    have h := gr_h (gr_al V (.cells #[iv y.kind, tv y.name, tv y.more, iv y.int, iv y.den, .slice y.A y.sub.length y.c] 43)) ((g.block bA (heap_lt hA) (by simpa using hne)).trans hA)
    rw [Lib.cell_of_heap h]; rfl
  obtain ⟨c0, c1, c2, c3, c4, c5⟩ := ex_box6 y V _ (gr_refl _)
  have F1 := Lib.hid (gr_h (gr_al V (.cells #[iv y.kind, tv y.name, tv y.more, iv y.int, iv y.den, .slice y.A y.sub.length y.c] 43)) f0)
  have GX := Lib.hid (gr_al V (.cells #[iv y.kind, tv y.name, tv y.more, iv y.int, iv y.den, .slice y.A y.sub.length y.c] 43))
  have BV := Lib.hid bV
  have CL := Lib.hid (ref_any y l _ bl (gr_c (gr_al V (.cells #[iv y.kind, tv y.name, tv y.more, iv y.int, iv y.den, .slice y.A y.sub.length y.c] 43)) (hl V g)))
  obtain ⟨b, hb⟩ : ∃ b, (fun e => decide (e.kind = 5) && decide (e.name = l)) y.er = b := ⟨_, rfl⟩
  have hb' := hb
  dsimp only at hb'
  rw [hb]
  rw [hb'] at CL
  clear hb hb' f0 bV hl
  unfold Ex.v at CL ⊢
  cases b with
  | false =>
    go_enter Tryz.func182, Tryz.ntmps182
    go_upto_region 2 with (go_at_call 138; (with_reducible refine (CL.out).mono ?_); rintro e w1 ⟨rfl, g1⟩; have G1 := Lib.hid g1; have h1 := gr_h g1 F1.out; have d0 := Lib.cell_of_heap h1 0; have d1 := Lib.frozen_of_heap h1 0; simp only [List.getElem?_toArray, List.getElem?_cons_zero] at d0; clear g1 h1)
    have e0 := Lib.cell_of_heap (set_same (u := .bool false) (gr_h G1.out F1.out)) 0
    simp only [List.getElem?_toArray, List.getElem?_cons_zero] at e0
    go_wp2
    go_ret
    exact ⟨rfl, ((World.grownBy.trans GX.out G1.out).but (some bF)).trans (grown_set bF 0 _), set_same (gr_h G1.out F1.out)⟩
  | true =>
    go_enter Tryz.func182, Tryz.ntmps182
    go_upto_region 2 with (go_at_call 138; (with_reducible refine (CL.out).mono ?_); rintro e w1 ⟨rfl, g1⟩; have G1 := Lib.hid g1; have h1 := gr_h g1 F1.out; have d0 := Lib.cell_of_heap h1 0; have d1 := Lib.frozen_of_heap h1 0; simp only [List.getElem?_toArray, List.getElem?_cons_zero] at d0; clear g1 h1)
    have e0 := Lib.cell_of_heap (set_same (u := .bool true) (gr_h G1.out F1.out)) 0
    simp only [List.getElem?_toArray, List.getElem?_cons_zero] at e0
    go_wp2
    go_ret
    exact ⟨rfl, ((World.grownBy.trans GX.out G1.out).but (some bF)).trans (grown_set bF 0 _), set_same (gr_h G1.out F1.out)⟩
set_option maxRecDepth 100000 in
set_option maxHeartbeats 2000000 in
attribute [local irreducible] Calls in
theorem contains_dot (x : Ex) (w : World) (hx : x.Rd w) (hn : (x.er.pre 1).length ≤ 400) : Calls Tryz.prog 135 #[x.v, .func (.func 136) #[] #[]] w fun e w' => e = .returned (.bool ((x.er.pre 1).any fun q => decide (q.2.kind = 4))) ∧ Gr w w' := by
  have GX := Lib.hid (show Gr w ((w.alloc (.cells #[iv x.kind, tv x.name, tv x.more, iv x.int, iv x.den, .slice x.A x.sub.length x.c] 43)).alloc (.cells #[.func (.func 136) #[] #[]] 87)) from (gr_al _ _).trans (gr_al _ _))
  have G3 := Lib.hid (gr_al ((w.alloc (.cells #[iv x.kind, tv x.name, tv x.more, iv x.int, iv x.den, .slice x.A x.sub.length x.c] 43)).alloc (.cells #[.func (.func 136) #[] #[]] 87)) (.cells #[.bool false] 4))
  have F3 := Lib.hid (al_at ((w.alloc (.cells #[iv x.kind, tv x.name, tv x.more, iv x.int, iv x.den, .slice x.A x.sub.length x.c] 43)).alloc (.cells #[.func (.func 136) #[] #[]] 87)) (.cells #[.bool false] 4) (A := w.heap.size + 2) (by simp))
  have A3 := Lib.hid (gr_h G3.out (al_at (w.alloc (.cells #[iv x.kind, tv x.name, tv x.more, iv x.int, iv x.den, .slice x.A x.sub.length x.c] 43)) (.cells #[.func (.func 136) #[] #[]] 87) (A := w.heap.size + 1) (by simp)))
  have X3 := Lib.hid (gr_h ((gr_al _ (.cells #[.func (.func 136) #[] #[]] 87)).trans G3.out) (al_new w (.cells #[iv x.kind, tv x.name, tv x.more, iv x.int, iv x.den, .slice x.A x.sub.length x.c] 43)))
  have Z3 := Lib.hid (show (((w.alloc (.cells #[iv x.kind, tv x.name, tv x.more, iv x.int, iv x.den, .slice x.A x.sub.length x.c] 43)).alloc (.cells #[.func (.func 136) #[] #[]] 87)).alloc (.cells #[.bool false] 4)).heap.size = w.heap.size + 3 by simp)
  have VA := Lib.hid (vis_any (fun e => decide (e.kind = 4)) 1 x)
  obtain ⟨b, hb⟩ : ∃ b, ((x.er.pre 1).any fun q => decide (q.2.kind = 4)) = b := ⟨_, rfl⟩
  have HB := Lib.hid hb
  rw [hb]
  have HX := Lib.hid hx
  have HN := Lib.hid hn
  clear hx hn hb
  unfold Ex.v
  go_enter Tryz.func135, Tryz.ntmps135
  go_upto_region 2 with fail
  generalize ((w.alloc (.cells #[iv x.kind, tv x.name, tv x.more, iv x.int, iv x.den, .slice x.A x.sub.length x.c] 43)).alloc (.cells #[.func (.func 136) #[] #[]] 87)).alloc (.cells #[.bool false] 4) = W at *
  have CV := Lib.hid (visit_any x w W (w.heap.size + 1) (w.heap.size + 1 + 1) (fun e => decide (e.kind = 4)) HX.out (GX.out.trans G3.out) (by omega) HN.out F3.out (fun V y g f0 _ => found_dot W (w.heap.size + 1) (w.heap.size + 1 + 1) (by omega) A3.out V y g f0))
  rw [VA.out, HB.out] at CV
  clear VA HB
  have c0 := Lib.cell_of_heap X3.out 0
  have c1 := Lib.cell_of_heap X3.out 1
  have c2 := Lib.cell_of_heap X3.out 2
  have c3 := Lib.cell_of_heap X3.out 3
  have c4 := Lib.cell_of_heap X3.out 4
  have c5 := Lib.cell_of_heap X3.out 5
  simp only [List.getElem?_toArray, List.getElem?_cons_zero, List.getElem?_cons_succ] at c0 c1 c2 c3 c4 c5
  unfold Ex.v at CV
  go_wp2_with (go_at_call 152; (with_reducible refine CV.out.mono ?_); rintro e w5 ⟨⟨r, rfl⟩, g5, f5⟩; have G5 := Lib.hid (And.intro g5 f5); have d5 := Lib.cell_of_heap f5 0; simp only [List.getElem?_toArray, List.getElem?_cons_zero] at d5; clear g5 f5)
  go_ret
  exact ⟨rfl, grown_new (GX.out.trans G3.out) G5.out.1 (fun k h => by cases h; omega)⟩
set_option maxRecDepth 100000 in
set_option maxHeartbeats 2000000 in
attribute [local irreducible] Calls in
theorem contains_ref (x : Ex) (l : T) (bl : Nat) (w : World) (hx : x.Rd w) (hn : (x.er.pre 1).length ≤ 400) (hl : w.cell? ⟨bl, 0, none⟩ = some (tv l)) (hbl : bl < w.heap.size) : Calls Tryz.prog 135 #[x.v, .func (.func 138) #[] #[.pointer (some ⟨bl, 0, none⟩)]] w fun e w' => e = .returned (.bool ((x.er.pre 1).any fun q => decide (q.2.kind = 5) && decide (q.2.name = l))) ∧ Gr w w' := by
  have GX := Lib.hid (show Gr w ((w.alloc (.cells #[iv x.kind, tv x.name, tv x.more, iv x.int, iv x.den, .slice x.A x.sub.length x.c] 43)).alloc (.cells #[.func (.func 138) #[] #[.pointer (some ⟨bl, 0, none⟩)]] 87)) from (gr_al _ _).trans (gr_al _ _))
  have G3 := Lib.hid (gr_al ((w.alloc (.cells #[iv x.kind, tv x.name, tv x.more, iv x.int, iv x.den, .slice x.A x.sub.length x.c] 43)).alloc (.cells #[.func (.func 138) #[] #[.pointer (some ⟨bl, 0, none⟩)]] 87)) (.cells #[.bool false] 4))
  have F3 := Lib.hid (al_at ((w.alloc (.cells #[iv x.kind, tv x.name, tv x.more, iv x.int, iv x.den, .slice x.A x.sub.length x.c] 43)).alloc (.cells #[.func (.func 138) #[] #[.pointer (some ⟨bl, 0, none⟩)]] 87)) (.cells #[.bool false] 4) (A := w.heap.size + 2) (by simp))
  have A3 := Lib.hid (gr_h G3.out (al_at (w.alloc (.cells #[iv x.kind, tv x.name, tv x.more, iv x.int, iv x.den, .slice x.A x.sub.length x.c] 43)) (.cells #[.func (.func 138) #[] #[.pointer (some ⟨bl, 0, none⟩)]] 87) (A := w.heap.size + 1) (by simp)))
  have X3 := Lib.hid (gr_h ((gr_al _ (.cells #[.func (.func 138) #[] #[.pointer (some ⟨bl, 0, none⟩)]] 87)).trans G3.out) (al_new w (.cells #[iv x.kind, tv x.name, tv x.more, iv x.int, iv x.den, .slice x.A x.sub.length x.c] 43)))
  have Z3 := Lib.hid (show (((w.alloc (.cells #[iv x.kind, tv x.name, tv x.more, iv x.int, iv x.den, .slice x.A x.sub.length x.c] 43)).alloc (.cells #[.func (.func 138) #[] #[.pointer (some ⟨bl, 0, none⟩)]] 87)).alloc (.cells #[.bool false] 4)).heap.size = w.heap.size + 3 by simp)
  have VA := Lib.hid (vis_any (fun e => decide (e.kind = 5) && decide (e.name = l)) 1 x)
  have HL := Lib.hid (fun V (g : (((w.alloc (.cells #[iv x.kind, tv x.name, tv x.more, iv x.int, iv x.den, .slice x.A x.sub.length x.c] 43)).alloc (.cells #[.func (.func 138) #[] #[.pointer (some ⟨bl, 0, none⟩)]] 87)).alloc (.cells #[.bool false] 4)).grownBy V (some (w.heap.size + 2))) => show V.cell? ⟨bl, 0, none⟩ = some (tv l) from g.cell (gr_c (GX.out.trans G3.out) hl) (by simp; omega))
  obtain ⟨b, hb⟩ : ∃ b, ((x.er.pre 1).any fun q => decide (q.2.kind = 5) && decide (q.2.name = l)) = b := ⟨_, rfl⟩
  have HB := Lib.hid hb
  rw [hb]
  have HX := Lib.hid hx
  have HN := Lib.hid hn
  clear hx hn hb hl hbl
  unfold Ex.v
  go_enter Tryz.func135, Tryz.ntmps135
  go_upto_region 2 with fail
  generalize ((w.alloc (.cells #[iv x.kind, tv x.name, tv x.more, iv x.int, iv x.den, .slice x.A x.sub.length x.c] 43)).alloc (.cells #[.func (.func 138) #[] #[.pointer (some ⟨bl, 0, none⟩)]] 87)).alloc (.cells #[.bool false] 4) = W at *
  have CV := Lib.hid (visit_any x w W (w.heap.size + 1) (w.heap.size + 1 + 1) (fun e => decide (e.kind = 5) && decide (e.name = l)) HX.out (GX.out.trans G3.out) (by omega) HN.out F3.out (fun V y g f0 _ => found_ref l bl W (w.heap.size + 1) (w.heap.size + 1 + 1) (by omega) A3.out HL.out V y g f0))
  rw [VA.out, HB.out] at CV
  clear VA HB
  have c0 := Lib.cell_of_heap X3.out 0
  have c1 := Lib.cell_of_heap X3.out 1
  have c2 := Lib.cell_of_heap X3.out 2
  have c3 := Lib.cell_of_heap X3.out 3
  have c4 := Lib.cell_of_heap X3.out 4
  have c5 := Lib.cell_of_heap X3.out 5
  simp only [List.getElem?_toArray, List.getElem?_cons_zero, List.getElem?_cons_succ] at c0 c1 c2 c3 c4 c5
  unfold Ex.v at CV
  go_wp2_with (go_at_call 152; (with_reducible refine CV.out.mono ?_); rintro e w5 ⟨⟨r, rfl⟩, g5, f5⟩; have G5 := Lib.hid (And.intro g5 f5); have d5 := Lib.cell_of_heap f5 0; simp only [List.getElem?_toArray, List.getElem?_cons_zero] at d5; clear g5 f5)
  go_ret
  exact ⟨rfl, grown_new (GX.out.trans G3.out) G5.out.1 (fun k h => by cases h; omega)⟩
end Go.Proofs.YtiaenhlflgobfaaGreatDoor
namespace Go.Proofs.YtiaenhlflgobfaaGreatDoor
open Go.RowKit
theorem ckE_len {e : PE} (h : ckE e = 0) : (e.pre 1).length ≤ 400 := by
  have h1 := (ckE_zero h).1
  unfold nd at h1
  rwa [List.length_map] at h1
set_option maxRecDepth 100000 in
set_option maxHeartbeats 4000000 in
attribute [local irreducible] Calls in
theorem checkDecl_any (l : T) (d : Dec) (w : World) (hd : d.Rd w) : Calls Tryz.prog 84 #[tv l, d.v] w fun e w' => e = .returned (iv (ckD l d.er)) ∧ Gr w w' := by
  obtain ⟨W, hW⟩ : ∃ W, (w.alloc (.cells #[tv l] 9)).alloc (.cells #[iv d.id, iv d.kind, .bool d.pub, .slice d.nA d.names.length d.nc, .bool d.doubt, iv d.body.kind, tv d.body.name, tv d.body.more, iv d.body.int, iv d.body.den, .slice d.body.A d.body.sub.length d.body.c] 45) = W := ⟨_, rfl⟩
  have GX := Lib.hid (show Gr w W by rw [← hW]; exact (gr_al _ _).trans (gr_al _ _))
  have CB := Lib.hid (fun V (g : Gr W V) => show V.cell? ⟨w.heap.size + 1, 0, none⟩ = some (iv d.id) ∧ V.cell? ⟨w.heap.size + 1, 1, none⟩ = some (iv d.kind) ∧ V.cell? ⟨w.heap.size + 1, 2, none⟩ = some (.bool d.pub) ∧ V.cell? ⟨w.heap.size + 1, 3, none⟩ = some (.slice d.nA d.names.length d.nc) ∧ V.cell? ⟨w.heap.size + 1, 4, none⟩ = some (.bool d.doubt) ∧ V.cell? ⟨w.heap.size + 1, 5, none⟩ = some (iv d.body.kind) ∧ V.cell? ⟨w.heap.size + 1, 6, none⟩ = some (tv d.body.name) ∧ V.cell? ⟨w.heap.size + 1, 7, none⟩ = some (tv d.body.more) ∧ V.cell? ⟨w.heap.size + 1, 8, none⟩ = some (iv d.body.int) ∧ V.cell? ⟨w.heap.size + 1, 9, none⟩ = some (iv d.body.den) ∧ V.cell? ⟨w.heap.size + 1, 10, none⟩ = some (.slice d.body.A d.body.sub.length d.body.c) ∧ V.cell? ⟨w.heap.size, 0, none⟩ = some (tv l) ∧ w.heap.size < V.heap.size from by
    have h1 := gr_h g (by rw [← hW]; exact al_at _ _ (A := w.heap.size + 1) (by simp))
    have h2 := gr_h g (by rw [← hW]; exact gr_h (gr_al _ _) (al_new w (.cells #[tv l] 9)))
    exact ⟨by rw [Lib.cell_of_heap h1]; rfl, by rw [Lib.cell_of_heap h1]; rfl, by rw [Lib.cell_of_heap h1]; rfl, by rw [Lib.cell_of_heap h1]; rfl, by rw [Lib.cell_of_heap h1]; rfl, by rw [Lib.cell_of_heap h1]; rfl, by rw [Lib.cell_of_heap h1]; rfl, by rw [Lib.cell_of_heap h1]; rfl, by rw [Lib.cell_of_heap h1]; rfl, by rw [Lib.cell_of_heap h1]; rfl, by rw [Lib.cell_of_heap h1]; rfl, by rw [Lib.cell_of_heap h2]; rfl, heap_lt h2⟩)
  have CN := Lib.hid (fun V (g : Gr W V) => checkNamesB_any d.nA d.nc d.names V (hd.n.gr (GX.out.trans g)))
  have CE := Lib.hid (fun V (g : Gr W V) => checkExpr_any d.body V (hd.b.gr (GX.out.trans g)))
  have CD := Lib.hid (fun (h : ckE d.body.er = 0) V (g : Gr W V) => contains_dot d.body V (hd.b.gr (GX.out.trans g)) (ckE_len h))
  have CF := Lib.hid (fun (h : ckE d.body.er = 0) V (g : Gr W V) => free_any d.body V (hd.b.gr (GX.out.trans g)) h)
  have CR := Lib.hid (fun (h : ckE d.body.er = 0) V (g : Gr W V) => contains_ref d.body l w.heap.size V (hd.b.gr (GX.out.trans g)) (ckE_len h) (CB.out V g).2.2.2.2.2.2.2.2.2.2.2.1 (CB.out V g).2.2.2.2.2.2.2.2.2.2.2.2)
  have SP := Lib.hid (show ckD l d.er = if d.id < 1 ∨ 999999 < d.id then 2 else if d.kind ≠ 1 ∧ d.kind ≠ 2 ∧ d.kind ≠ 3 then 9 else if ckNs d.names ≠ 0 then ckNs d.names else ckB l d.body.er from rfl)
  unfold ckB at SP
  obtain ⟨q, hq⟩ : ∃ q, ckD l d.er = q := ⟨_, rfl⟩
  rw [hq] at SP ⊢
  obtain ⟨eN, hN⟩ : ∃ e, ckNs d.names = e := ⟨_, rfl⟩
  obtain ⟨eE, hE⟩ : ∃ e, ckE d.body.er = e := ⟨_, rfl⟩
  obtain ⟨bD, hD⟩ : ∃ e, ((d.body.er.pre 1).any fun q => decide (q.2.kind = 4)) = e := ⟨_, rfl⟩
  obtain ⟨bR, hR⟩ : ∃ e, ((d.body.er.pre 1).any fun q => decide (q.2.kind = 5) && decide (q.2.name = l)) = e := ⟨_, rfl⟩
  rw [hN, hE, hD, hR] at SP
  rw [hE] at CE CD CF CR
  rw [hN] at CN
  rw [hD] at CD
  rw [hR] at CR
  clear hq hN hE hD hR hd
  generalize d.body.er.fr [] [] = FK at *
  unfold Dec.v
  unfold Ex.v at *
  obtain ⟨c0, c1, c2, c3, c4, c5, c6, c7, c8, c9, c10, l0, lb⟩ := CB.out _ (gr_refl _)
  by_cases h1 : d.id < 1 ∨ 999999 < d.id
  · have hq : q = 2 := by rw [SP.out, if_pos h1]
    subst hq
    clear SP
    by_cases h2 : d.id < 1
    · go_enter Tryz.func84, Tryz.ntmps84
      go_wp2
      all_goals (first | go_end0 | go_ret | refine bodyPost_ret (results_none rfl _ _ _) rfl ?_)
      all_goals exact ⟨rfl, GX.out⟩
    · have h3 : 999999 < d.id := by omega
      go_enter Tryz.func84, Tryz.ntmps84
      go_wp2
      all_goals (first | go_end0 | go_ret | refine bodyPost_ret (results_none rfl _ _ _) rfl ?_)
      all_goals exact ⟨rfl, GX.out⟩
  by_cases h2 : d.kind ≠ 1 ∧ d.kind ≠ 2 ∧ d.kind ≠ 3
  · have hq : q = 9 := by rw [SP.out, if_neg h1, if_pos h2]
    subst hq
    obtain ⟨k1, k2, k3⟩ := h2
    have p1 : (d.kind != 1) = true := by simpa using k1
    have p2 : (d.kind != 2) = true := by simpa using k2
    have p3 : (d.kind != 3) = true := by simpa using k3
    have r1 : ¬ d.id < 1 := fun h => h1 (.inl h)
    have r2 : ¬ 999999 < d.id := fun h => h1 (.inr h)
    clear SP h1
    go_enter Tryz.func84, Tryz.ntmps84
    go_wp2
    all_goals (first | go_end0 | go_ret | refine bodyPost_ret (results_none rfl _ _ _) rfl ?_)
    all_goals exact ⟨rfl, GX.out⟩
  have S2 := Lib.hid (SP.out.trans ((if_neg h1).trans (if_neg h2)))
  have r1 : ¬ d.id < 1 := fun h => h1 (.inl h)
  have r2 : ¬ 999999 < d.id := fun h => h1 (.inr h)
  clear SP h1
  have hkk : d.kind = 1 ∨ d.kind = 2 ∨ d.kind = 3 := by omega
  clear h2
  go_enter Tryz.func84, Tryz.ntmps84
  go_upto_region 3 with fail
  clear hW r1 r2
  have HK := Lib.hid hkk
  clear hkk
  go_cut [15, 16, 17, 18, 19, 20, 21, 22, 23, 24, 25, 26, 27] (fun _ _ _ _ _ _ _ _ _ _ _ _ b V => b = .bool false ∧ V = W)
  case first =>
    rcases HK.out with h | h | h
    all_goals rw [h] at c1
    all_goals go_wp2
    all_goals go_meet
    all_goals exact ⟨rfl, rfl⟩
  case rest =>
    obtain ⟨rfl, hw⟩ := hcut
    subst hw
    go_upto_region 6 with (go_at_call 134; refine (CN.out _ (gr_refl _)).mono ?_; rintro e w1 ⟨rfl, g1⟩; have G1 := Lib.hid g1; clear g1)
    clear CN HK c0 c1 c2 c3 c4 c5 c6 c7 c8 c9 c10 l0 lb
    by_cases hN : eN = 0
    · subst hN
      have S3 := Lib.hid (S2.out.trans (if_neg (by decide)))
      clear S2
      obtain ⟨c0, c1, c2, c3, c4, c5, c6, c7, c8, c9, c10, l0, lb⟩ := CB.out _ G1.out
      go_upto_region 9 with (go_at_call 85; refine (CE.out _ G1.out).mono ?_; rintro e w2 ⟨rfl, g2⟩; have G2 := Lib.hid (G1.out.trans g2); clear g2)
      clear CE c0 c1 c2 c3 c4 c5 c6 c7 c8 c9 c10 l0 lb
      by_cases hE : eE = 0
      · subst hE
        have S4 := Lib.hid (S3.out.trans (if_neg (by decide)))
        clear S3
        obtain ⟨c0, c1, c2, c3, c4, c5, c6, c7, c8, c9, c10, l0, lb⟩ := CB.out _ G2.out
        cases bD with
        | true =>
          have hq : q = 9 := S4.out.trans (if_pos rfl)
          subst hq
          clear S4
          go_wp2_with (go_at_call 135; refine (CD.out (by first | rfl | trivial) _ G2.out).mono ?_; rintro e w3 ⟨rfl, g3⟩; have G3 := Lib.hid (G2.out.trans g3); clear g3)
          all_goals (first | go_end0 | go_ret | refine bodyPost_ret (results_none rfl _ _ _) rfl ?_)
          all_goals exact ⟨rfl, GX.out.trans G3.out⟩
        | false =>
          have S5 := Lib.hid (S4.out.trans (if_neg (by decide)))
          clear S4
          go_upto_region 13 with (go_at_call 135; refine (CD.out (by first | rfl | trivial) _ G2.out).mono ?_; rintro e w3 ⟨rfl, g3⟩; have G3 := Lib.hid (G2.out.trans g3); clear g3)
          clear CD c0 c1 c2 c3 c4 c5 c6 c7 c8 c9 c10 l0 lb
          obtain ⟨c0, c1, c2, c3, c4, c5, c6, c7, c8, c9, c10, l0, lb⟩ := CB.out _ G3.out
          by_cases hF : FK = []
          · have S6 := Lib.hid (S5.out.trans (if_neg (by simpa using hF)))
            clear S5
            go_upto_region 15 with (go_at_call 137; refine (CF.out (by first | rfl | trivial) _ G3.out).mono ?_; rintro e w4 ⟨⟨Aq, n, c, rfl, hn⟩, g4⟩; have G4 := Lib.hid (G3.out.trans g4); clear g4; obtain rfl : n = 0 := hn.2 hF; clear hn)
            clear CF c0 c1 c2 c3 c4 c5 c6 c7 c8 c9 c10 l0 lb
            obtain ⟨c0, c1, c2, c3, c4, c5, c6, c7, c8, c9, c10, l0, lb⟩ := CB.out _ G4.out
            cases bR with
            | true =>
              have hq : q = 1 := S6.out.trans (if_pos rfl)
              subst hq
              clear S6
              go_wp2_with (go_at_call 135; refine (CR.out (by first | rfl | trivial) _ G4.out).mono ?_; rintro e w5 ⟨rfl, g5⟩; have G5 := Lib.hid (G4.out.trans g5); clear g5)
              all_goals (first | go_end0 | go_ret | refine bodyPost_ret (results_none rfl _ _ _) rfl ?_)
              all_goals exact ⟨rfl, GX.out.trans G5.out⟩
            | false =>
              have hq : q = 0 := S6.out.trans (if_neg (by decide))
              subst hq
              clear S6
              go_wp2_with (go_at_call 135; refine (CR.out (by first | rfl | trivial) _ G4.out).mono ?_; rintro e w5 ⟨rfl, g5⟩; have G5 := Lib.hid (G4.out.trans g5); clear g5)
              all_goals (first | go_end0 | go_ret | refine bodyPost_ret (results_none rfl _ _ _) rfl ?_)
              all_goals exact ⟨rfl, GX.out.trans G5.out⟩
          · have hq : q = 21 := S5.out.trans (if_pos hF)
            subst hq
            clear S5
            go_wp2_with (go_at_call 137; refine (CF.out (by first | rfl | trivial) _ G3.out).mono ?_; rintro e w4 ⟨⟨Aq, n, c, rfl, hn⟩, g4⟩; have G4 := Lib.hid (G3.out.trans g4); clear g4; have hn2 : (0 : Int) < (n : Int) := (by have : n ≠ 0 := fun h => hF (hn.1 h); omega); clear hn)
            all_goals (first | go_end0 | go_ret | refine bodyPost_ret (results_none rfl _ _ _) rfl ?_)
            all_goals exact ⟨rfl, GX.out.trans G4.out⟩
      · have hq : q = eE := S3.out.trans (if_pos hE)
        subst hq
        clear S3
        have p : (q != 0) = true := by simpa using hE
        go_wp2
        all_goals (first | go_end0 | go_ret | refine bodyPost_ret (results_none rfl _ _ _) rfl ?_)
        all_goals exact ⟨rfl, GX.out.trans G2.out⟩
    · have hq : q = eN := S2.out.trans (if_pos hN)
      subst hq
      clear S2
      have p : (q != 0) = true := by simpa using hN
      go_wp2
      all_goals (first | go_end0 | go_ret | refine bodyPost_ret (results_none rfl _ _ _) rfl ?_)
      all_goals exact ⟨rfl, GX.out.trans G1.out⟩
end Go.Proofs.YtiaenhlflgobfaaGreatDoor

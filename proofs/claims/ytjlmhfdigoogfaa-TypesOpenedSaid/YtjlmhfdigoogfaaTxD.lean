/- Walks: the reading of a type (76). -/
import Derived.Test.YtjlmhfdigoogfaaTxC
namespace Go.Proofs.Ytjlmhfdigoogfaa
open Go.RowKit

theorem begins_yes {rp : Nat} {s p r : T} {c : Int} {w : World} (hr : w.heap[rp]? = some (.cells #[tv s, iv c] 106 (0, 0))) (h : cut p s = some r) : Calls Try.prog 90 #[.pointer (some ⟨rp, 0, none⟩), tv p] w fun e w' => e = .returned (.bool true) ∧ RS w rp r c w' := by
  have := begins_any rp s p c w hr
  rwa [h] at this
theorem begins_not {rp : Nat} {s p : T} {c : Int} {w : World} (hr : w.heap[rp]? = some (.cells #[tv s, iv c] 106 (0, 0))) (h : cut p s = none) : Calls Try.prog 90 #[.pointer (some ⟨rp, 0, none⟩), tv p] w fun e w' => e = .returned (.bool false) ∧ RS w rp s c w' := by
  have := begins_any rp s p c w hr
  rwa [h] at this
theorem expect_yes {rp : Nat} {s p r : T} {c : Int} {w : World} (hr : w.heap[rp]? = some (.cells #[tv s, iv c] 106 (0, 0))) (h : cut p s = some r) : Calls Try.prog 91 #[.pointer (some ⟨rp, 0, none⟩), tv p] w fun e w' => RS w rp r c w' ∧ e = .returned (.tuple #[]) := by
  have := expect_any rp s p c w hr
  rwa [h] at this
theorem expect_not {rp : Nat} {s p : T} {c : Int} {w : World} (hr : w.heap[rp]? = some (.cells #[tv s, iv c] 106 (0, 0))) (h : cut p s = none) : Calls Try.prog 91 #[.pointer (some ⟨rp, 0, none⟩), tv p] w fun e w' => RS w rp s c w' ∧ e = .panicked gup := by
  have := expect_any rp s p c w hr
  rwa [h] at this
/-- What was read, where no more than 200 types were begun. -/
def rdm (c : Int) (o : Option (PT × T)) : Option (PT × T) := match o with
  | some (t, r) => if c + t.size ≤ 200 then some (t, r) else none
  | none => none
/-- What the reading of a type leaves. -/
def RTP (rp : Nat) (c : Int) (o : Option (PT × T)) (w : World) (e : Ending) (w' : World) : Prop := w.grownBy w' (some rp) ∧ match rdm c o with
  | some (t, r) => ∃ v, e = .returned v ∧ TyR (w.heap.size ≤ ·) t w' v ∧ w'.heap[rp]? = some (.cells #[tv r, iv (c + t.size)] 106 (0, 0))
  | none => e = .panicked gup
theorem gb_cell {w V : World} {row : Option Nat} (g : w.grownBy V row) {k j : Nat} (hk : w.heap.size ≤ k) (u : Value) : w.grownBy (V.setCell ⟨k, j, none⟩ u) row :=
  ⟨g.os, g.tape, g.output, by simpa [World.setCell] using g.size, fun i hi hn => (Below.heap_setCell _ _ _ _ (by show i ≠ k; omega)).trans (g.block i hi hn)⟩
theorem gb_set {w V : World} {rp : Nat} (g : w.grownBy V (some rp)) (j : Nat) (u : Value) : w.grownBy (V.setCell ⟨rp, j, none⟩ u) (some rp) :=
  ⟨g.os, g.tape, g.output, by simpa [World.setCell] using g.size, fun i hi hn => (Below.heap_setCell _ _ _ _ (by rintro rfl; exact hn rfl)).trans (g.block i hi hn)⟩
theorem h_other {V : World} {k b j : Nat} {o : Option Obj} (h : V.heap[k]? = o) (hk : k ≠ b) (u : Value) : (V.setCell ⟨b, j, none⟩ u).heap[k]? = o := (Below.heap_setCell _ _ _ _ hk).trans h
/-- The reader, and the box of the result, while a type is read. -/
structure RB (w : World) (rp : Nat) (s : T) (c : Int) (V : World) : Prop where
  gr : w.grownBy V (some rp)
  hr : V.heap[rp]? = some (.cells #[tv s, iv c] 106 (0, 0))
  hz : V.heap[w.heap.size]? = some (.cells #[iv 0, iv 0, .slice none 0 0] 24 (0, 0))
  lt : rp < w.heap.size
theorem RB.step {w V V' : World} {rp : Nat} {s s' : T} {c c' : Int} (h : RB w rp s c V) (k : V.grownBy V' (some rp)) (k' : V'.heap[rp]? = some (.cells #[tv s', iv c'] 106 (0, 0))) : RB w rp s' c' V' :=
  ⟨h.gr.trans k, k', (k.block _ (heap_lt h.hz) (by intro e; cases e; exact absurd h.lt (Nat.lt_irrefl _))).trans h.hz, h.lt⟩
theorem RB.rs {w V V' : World} {rp : Nat} {s s' : T} {c c' : Int} (h : RB w rp s c V) (k : RS V rp s' c' V') : RB w rp s' c' V' := h.step k.2 k.1
theorem RB.cells {w V : World} {rp : Nat} {s : T} {c : Int} (h : RB w rp s c V) : ((V.cell? ⟨w.heap.size, 0, none⟩ = some (iv 0) ∧ V.cell? ⟨w.heap.size, 1, none⟩ = some (iv 0) ∧ V.cell? ⟨w.heap.size, 2, none⟩ = some (.slice none 0 0)) ∧ ∀ j, V.frozen? ⟨w.heap.size, j, none⟩ = false) := cell3 h.hz
theorem RB.first {w : World} {rp : Nat} {s : T} {c : Int} (h : w.heap[rp]? = some (.cells #[tv s, iv c] 106 (0, 0))) (c' : Int) : RB w rp s c' ((w.setCell ⟨rp, 1, none⟩ (iv c')).alloc (.cells #[iv 0, iv 0, .slice none 0 0] 24)) := by
  have hl := heap_lt h
  have h1 : (w.setCell ⟨rp, 1, none⟩ (iv c')).heap[rp]? = some (.cells #[tv s, iv c'] 106 (0, 0)) := by simp [World.setCell, Array.getElem?_modify, h]
  exact ⟨(grown_set _ _ _).trans (World.grownBy.but (gr_al _ _) _), gr_h (gr_al _ _) h1, al_at _ _ (by simp [World.setCell]), hl⟩
theorem RB.al {w V : World} {rp : Nat} {s : T} {c : Int} (h : RB w rp s c V) (o : Obj) : RB w rp s c (V.alloc o) := h.step (World.grownBy.but (gr_al _ _) _) (gr_h (gr_al _ _) h.hr)
theorem RB.put {w V : World} {rp : Nat} {s : T} {c : Int} (h : RB w rp s c V) (s' : T) : RB w rp s' c (V.setCell ⟨rp, 0, none⟩ (tv s')) :=
  h.step (grown_set _ _ _) (by have := h.hr; simp [World.setCell, Array.getElem?_modify, this])
/-- The result is stored. -/
theorem RB.out {w V : World} {rp : Nat} {s : T} {c : Int} (h : RB w rp s c V) (a b d : Value) : w.grownBy (((V.setCell ⟨w.heap.size, 0, none⟩ a).setCell ⟨w.heap.size, 1, none⟩ b).setCell ⟨w.heap.size, 2, none⟩ d) (some rp) ∧ (((V.setCell ⟨w.heap.size, 0, none⟩ a).setCell ⟨w.heap.size, 1, none⟩ b).setCell ⟨w.heap.size, 2, none⟩ d).heap[rp]? = some (.cells #[tv s, iv c] 106 (0, 0)) := by
  have hl := h.lt
  exact ⟨gb_cell (gb_cell (gb_cell h.gr (Nat.le_refl _) _) (Nat.le_refl _) _) (Nat.le_refl _) _, h_other (h_other (h_other h.hr (by omega) _) (by omega) _) (by omega) _⟩
attribute [local irreducible] Calls in
set_option maxRecDepth 100000 in
set_option maxHeartbeats 1000000 in
theorem rt_limit (s : T) (rp : Nat) (c : Int) (w : World) (hr : w.heap[rp]? = some (.cells #[tv s, iv c] 106 (0, 0))) (h0 : 0 ≤ c) (hc : c = 200) : Calls Try.prog 76 #[.pointer (some ⟨rp, 0, none⟩)] w fun e w' => e = .panicked gup ∧ w.grownBy w' (some rp) := by
  subst hc
  have hlt := heap_lt hr
  have HB := Lib.hid (RB.first hr 201)
  obtain ⟨⟨r0, r1⟩, rf⟩ := rs_cells (gr_h (gr_al w (.cells #[iv 0, iv 0, .slice none 0 0] 24)) hr)
  obtain ⟨⟨q0, q1⟩, qf⟩ := rs_cells HB.out.hr
  obtain ⟨⟨z0, z1, z2⟩, zf⟩ := HB.out.cells
  clear hr h0
  unfold gup
  go_enter Try.func76, Try.ntmps76
  go_wp2
  exact ⟨rfl, rfl, HB.out.gr⟩
attribute [local irreducible] Calls in
set_option maxRecDepth 100000 in
set_option maxHeartbeats 1000000 in
theorem rt_int (s : T) (rp : Nat) (c : Int) (w : World) (hr : w.heap[rp]? = some (.cells #[tv s, iv c] 106 (0, 0))) (h0 : 0 ≤ c) (hc : c < 200) (r : T) (C1 : Hid (cut sInt s = some r)) : Calls Try.prog 76 #[.pointer (some ⟨rp, 0, none⟩)] w fun e w' => e = .returned (.agg #[iv 1, iv 0, .slice none 0 0]) ∧ w.grownBy w' (some rp) ∧ w'.heap[rp]? = some (.cells #[tv r, iv (c + 1)] 106 (0, 0)) := by
  have hlt := heap_lt hr
  have HB := Lib.hid (RB.first hr (c + 1))
  obtain ⟨⟨r0, r1⟩, rf⟩ := rs_cells (gr_h (gr_al w (.cells #[iv 0, iv 0, .slice none 0 0] 24)) hr)
  obtain ⟨⟨q0, q1⟩, qf⟩ := rs_cells HB.out.hr
  obtain ⟨⟨z0, z1, z2⟩, zf⟩ := HB.out.cells
  clear hr
  go_enter Try.func76, Try.ntmps76
  go_wp2_with ((first | (go_at_call 90; refine (begins_yes HB.out.hr C1.out).mono ?_; rintro e w1 ⟨rfl, h1⟩; have HN := Lib.hid (HB.out.rs h1); clear HB h1; have HB := HN; clear HN; obtain ⟨⟨z0, z1, z2⟩, zf⟩ := HB.out.cells; clear q0 q1 qf; obtain ⟨⟨q0, q1⟩, qf⟩ := rs_cells HB.out.hr)))
  have H6 := Lib.hid (set3 (a' := iv 1) (b' := iv 0) (c' := .slice none 0 0) HB.out.hz)
  exact bodyPost_ret (results_cell_row (P := Try.prog) rfl _ _ (w.heap.size) _ _ _ _ rfl H6.out rfl rfl rfl) rfl ⟨rfl, HB.out.out _ _ _⟩
attribute [local irreducible] Calls in
set_option maxRecDepth 100000 in
set_option maxHeartbeats 1000000 in
theorem rt_bool (s : T) (rp : Nat) (c : Int) (w : World) (hr : w.heap[rp]? = some (.cells #[tv s, iv c] 106 (0, 0))) (h0 : 0 ≤ c) (hc : c < 200) (r : T) (C1 : Hid (cut sInt s = none)) (C2 : Hid (cut sBool s = some r)) : Calls Try.prog 76 #[.pointer (some ⟨rp, 0, none⟩)] w fun e w' => e = .returned (.agg #[iv 2, iv 0, .slice none 0 0]) ∧ w.grownBy w' (some rp) ∧ w'.heap[rp]? = some (.cells #[tv r, iv (c + 1)] 106 (0, 0)) := by
  have hlt := heap_lt hr
  have HB := Lib.hid (RB.first hr (c + 1))
  obtain ⟨⟨r0, r1⟩, rf⟩ := rs_cells (gr_h (gr_al w (.cells #[iv 0, iv 0, .slice none 0 0] 24)) hr)
  obtain ⟨⟨q0, q1⟩, qf⟩ := rs_cells HB.out.hr
  obtain ⟨⟨z0, z1, z2⟩, zf⟩ := HB.out.cells
  clear hr
  go_enter Try.func76, Try.ntmps76
  go_wp2_with ((first | (go_at_call 90; refine (begins_not HB.out.hr C1.out).mono ?_; rintro e w1 ⟨rfl, h1⟩; have HN := Lib.hid (HB.out.rs h1); clear HB h1; have HB := HN; clear HN; obtain ⟨⟨z0, z1, z2⟩, zf⟩ := HB.out.cells; clear q0 q1 qf; obtain ⟨⟨q0, q1⟩, qf⟩ := rs_cells HB.out.hr) | (go_at_call 90; refine (begins_yes HB.out.hr C2.out).mono ?_; rintro e w1 ⟨rfl, h1⟩; have HN := Lib.hid (HB.out.rs h1); clear HB h1; have HB := HN; clear HN; obtain ⟨⟨z0, z1, z2⟩, zf⟩ := HB.out.cells; clear q0 q1 qf; obtain ⟨⟨q0, q1⟩, qf⟩ := rs_cells HB.out.hr)))
  have H6 := Lib.hid (set3 (a' := iv 2) (b' := iv 0) (c' := .slice none 0 0) HB.out.hz)
  exact bodyPost_ret (results_cell_row (P := Try.prog) rfl _ _ (w.heap.size) _ _ _ _ rfl H6.out rfl rfl rfl) rfl ⟨rfl, HB.out.out _ _ _⟩
attribute [local irreducible] Calls in
set_option maxRecDepth 100000 in
set_option maxHeartbeats 1000000 in
theorem rt_empty (rp : Nat) (c : Int) (w : World) (hr : w.heap[rp]? = some (.cells #[tv [], iv c] 106 (0, 0))) (h0 : 0 ≤ c) (hc : c < 200) (C1 : Hid (cut sInt [] = none)) (C2 : Hid (cut sBool [] = none)) (C3 : Hid (cut sList [] = none)) (C4 : Hid (cut [40] [] = none)) : Calls Try.prog 76 #[.pointer (some ⟨rp, 0, none⟩)] w fun e w' => e = .panicked gup ∧ w.grownBy w' (some rp) := by
  have hlt := heap_lt hr
  have HB := Lib.hid (RB.first hr (c + 1))
  obtain ⟨⟨r0, r1⟩, rf⟩ := rs_cells (gr_h (gr_al w (.cells #[iv 0, iv 0, .slice none 0 0] 24)) hr)
  obtain ⟨⟨q0, q1⟩, qf⟩ := rs_cells HB.out.hr
  obtain ⟨⟨z0, z1, z2⟩, zf⟩ := HB.out.cells
  clear hr
  unfold gup
  go_enter Try.func76, Try.ntmps76
  go_wp2_with ((first | (go_at_call 90; refine (begins_not HB.out.hr C1.out).mono ?_; rintro e w1 ⟨rfl, h1⟩; have HN := Lib.hid (HB.out.rs h1); clear HB h1; have HB := HN; clear HN; obtain ⟨⟨z0, z1, z2⟩, zf⟩ := HB.out.cells; clear q0 q1 qf; obtain ⟨⟨q0, q1⟩, qf⟩ := rs_cells HB.out.hr) | (go_at_call 90; refine (begins_not HB.out.hr C2.out).mono ?_; rintro e w1 ⟨rfl, h1⟩; have HN := Lib.hid (HB.out.rs h1); clear HB h1; have HB := HN; clear HN; obtain ⟨⟨z0, z1, z2⟩, zf⟩ := HB.out.cells; clear q0 q1 qf; obtain ⟨⟨q0, q1⟩, qf⟩ := rs_cells HB.out.hr) | (go_at_call 90; refine (begins_not HB.out.hr C3.out).mono ?_; rintro e w1 ⟨rfl, h1⟩; have HN := Lib.hid (HB.out.rs h1); clear HB h1; have HB := HN; clear HN; obtain ⟨⟨z0, z1, z2⟩, zf⟩ := HB.out.cells; clear q0 q1 qf; obtain ⟨⟨q0, q1⟩, qf⟩ := rs_cells HB.out.hr) | (go_at_call 90; refine (begins_not HB.out.hr C4.out).mono ?_; rintro e w1 ⟨rfl, h1⟩; have HN := Lib.hid (HB.out.rs h1); clear HB h1; have HB := HN; clear HN; obtain ⟨⟨z0, z1, z2⟩, zf⟩ := HB.out.cells; clear q0 q1 qf; obtain ⟨⟨q0, q1⟩, qf⟩ := rs_cells HB.out.hr)))
  exact ⟨rfl, rfl, HB.out.gr⟩
attribute [local irreducible] Calls in
set_option maxRecDepth 100000 in
set_option maxHeartbeats 1000000 in
theorem rt_low (rp : Nat) (c : Int) (w : World) (ch : UInt8) (q : T) (hr : w.heap[rp]? = some (.cells #[tv (ch :: q), iv c] 106 (0, 0))) (h0 : 0 ≤ c) (hc : c < 200) (C1 : Hid (cut sInt (ch :: q) = none)) (C2 : Hid (cut sBool (ch :: q) = none)) (C3 : Hid (cut sList (ch :: q) = none)) (C4 : Hid (cut [40] (ch :: q) = none)) (hb : ch.toNat < 97) : Calls Try.prog 76 #[.pointer (some ⟨rp, 0, none⟩)] w fun e w' => e = .panicked gup ∧ w.grownBy w' (some rp) := by
  have hlt := heap_lt hr
  have HB := Lib.hid (RB.first hr (c + 1))
  obtain ⟨⟨r0, r1⟩, rf⟩ := rs_cells (gr_h (gr_al w (.cells #[iv 0, iv 0, .slice none 0 0] 24)) hr)
  obtain ⟨⟨q0, q1⟩, qf⟩ := rs_cells HB.out.hr
  obtain ⟨⟨z0, z1, z2⟩, zf⟩ := HB.out.cells
  clear hr
  unfold gup
  have hx : ∀ h, (⟨(ch :: q).toArray⟩ : ByteArray)[0]'h = ch := fun _ => rfl
  go_enter Try.func76, Try.ntmps76
  go_wp2_with ((first | (go_at_call 90; refine (begins_not HB.out.hr C1.out).mono ?_; rintro e w1 ⟨rfl, h1⟩; have HN := Lib.hid (HB.out.rs h1); clear HB h1; have HB := HN; clear HN; obtain ⟨⟨z0, z1, z2⟩, zf⟩ := HB.out.cells; clear q0 q1 qf; obtain ⟨⟨q0, q1⟩, qf⟩ := rs_cells HB.out.hr) | (go_at_call 90; refine (begins_not HB.out.hr C2.out).mono ?_; rintro e w1 ⟨rfl, h1⟩; have HN := Lib.hid (HB.out.rs h1); clear HB h1; have HB := HN; clear HN; obtain ⟨⟨z0, z1, z2⟩, zf⟩ := HB.out.cells; clear q0 q1 qf; obtain ⟨⟨q0, q1⟩, qf⟩ := rs_cells HB.out.hr) | (go_at_call 90; refine (begins_not HB.out.hr C3.out).mono ?_; rintro e w1 ⟨rfl, h1⟩; have HN := Lib.hid (HB.out.rs h1); clear HB h1; have HB := HN; clear HN; obtain ⟨⟨z0, z1, z2⟩, zf⟩ := HB.out.cells; clear q0 q1 qf; obtain ⟨⟨q0, q1⟩, qf⟩ := rs_cells HB.out.hr) | (go_at_call 90; refine (begins_not HB.out.hr C4.out).mono ?_; rintro e w1 ⟨rfl, h1⟩; have HN := Lib.hid (HB.out.rs h1); clear HB h1; have HB := HN; clear HN; obtain ⟨⟨z0, z1, z2⟩, zf⟩ := HB.out.cells; clear q0 q1 qf; obtain ⟨⟨q0, q1⟩, qf⟩ := rs_cells HB.out.hr)))
  exact ⟨rfl, rfl, HB.out.gr⟩
attribute [local irreducible] Calls in
set_option maxRecDepth 100000 in
set_option maxHeartbeats 1000000 in
theorem rt_high (rp : Nat) (c : Int) (w : World) (ch : UInt8) (q : T) (hr : w.heap[rp]? = some (.cells #[tv (ch :: q), iv c] 106 (0, 0))) (h0 : 0 ≤ c) (hc : c < 200) (C1 : Hid (cut sInt (ch :: q) = none)) (C2 : Hid (cut sBool (ch :: q) = none)) (C3 : Hid (cut sList (ch :: q) = none)) (C4 : Hid (cut [40] (ch :: q) = none)) (hb : 122 < ch.toNat) : Calls Try.prog 76 #[.pointer (some ⟨rp, 0, none⟩)] w fun e w' => e = .panicked gup ∧ w.grownBy w' (some rp) := by
  have hlt := heap_lt hr
  have HB := Lib.hid (RB.first hr (c + 1))
  obtain ⟨⟨r0, r1⟩, rf⟩ := rs_cells (gr_h (gr_al w (.cells #[iv 0, iv 0, .slice none 0 0] 24)) hr)
  obtain ⟨⟨q0, q1⟩, qf⟩ := rs_cells HB.out.hr
  obtain ⟨⟨z0, z1, z2⟩, zf⟩ := HB.out.cells
  clear hr
  unfold gup
  have hx : ∀ h, (⟨(ch :: q).toArray⟩ : ByteArray)[0]'h = ch := fun _ => rfl
  go_enter Try.func76, Try.ntmps76
  go_wp2_with ((first | (go_at_call 90; refine (begins_not HB.out.hr C1.out).mono ?_; rintro e w1 ⟨rfl, h1⟩; have HN := Lib.hid (HB.out.rs h1); clear HB h1; have HB := HN; clear HN; obtain ⟨⟨z0, z1, z2⟩, zf⟩ := HB.out.cells; clear q0 q1 qf; obtain ⟨⟨q0, q1⟩, qf⟩ := rs_cells HB.out.hr) | (go_at_call 90; refine (begins_not HB.out.hr C2.out).mono ?_; rintro e w1 ⟨rfl, h1⟩; have HN := Lib.hid (HB.out.rs h1); clear HB h1; have HB := HN; clear HN; obtain ⟨⟨z0, z1, z2⟩, zf⟩ := HB.out.cells; clear q0 q1 qf; obtain ⟨⟨q0, q1⟩, qf⟩ := rs_cells HB.out.hr) | (go_at_call 90; refine (begins_not HB.out.hr C3.out).mono ?_; rintro e w1 ⟨rfl, h1⟩; have HN := Lib.hid (HB.out.rs h1); clear HB h1; have HB := HN; clear HN; obtain ⟨⟨z0, z1, z2⟩, zf⟩ := HB.out.cells; clear q0 q1 qf; obtain ⟨⟨q0, q1⟩, qf⟩ := rs_cells HB.out.hr) | (go_at_call 90; refine (begins_not HB.out.hr C4.out).mono ?_; rintro e w1 ⟨rfl, h1⟩; have HN := Lib.hid (HB.out.rs h1); clear HB h1; have HB := HN; clear HN; obtain ⟨⟨z0, z1, z2⟩, zf⟩ := HB.out.cells; clear q0 q1 qf; obtain ⟨⟨q0, q1⟩, qf⟩ := rs_cells HB.out.hr)))
  exact ⟨rfl, rfl, HB.out.gr⟩
attribute [local irreducible] Calls in
set_option maxRecDepth 100000 in
set_option maxHeartbeats 1000000 in
theorem rt_var (rp : Nat) (c : Int) (w : World) (ch : UInt8) (q : T) (hr : w.heap[rp]? = some (.cells #[tv (ch :: q), iv c] 106 (0, 0))) (h0 : 0 ≤ c) (hc : c < 200) (C1 : Hid (cut sInt (ch :: q) = none)) (C2 : Hid (cut sBool (ch :: q) = none)) (C3 : Hid (cut sList (ch :: q) = none)) (C4 : Hid (cut [40] (ch :: q) = none)) (hb : 97 ≤ ch.toNat) (hb2 : ch.toNat ≤ 122) : Calls Try.prog 76 #[.pointer (some ⟨rp, 0, none⟩)] w fun e w' => e = .returned (.agg #[iv 5, iv ((ch.toNat : Int) - 97), .slice none 0 0]) ∧ w.grownBy w' (some rp) ∧ w'.heap[rp]? = some (.cells #[tv q, iv (c + 1)] 106 (0, 0)) := by
  have hlt := heap_lt hr
  have HB := Lib.hid (RB.first hr (c + 1))
  obtain ⟨⟨r0, r1⟩, rf⟩ := rs_cells (gr_h (gr_al w (.cells #[iv 0, iv 0, .slice none 0 0] 24)) hr)
  obtain ⟨⟨q0, q1⟩, qf⟩ := rs_cells HB.out.hr
  obtain ⟨⟨z0, z1, z2⟩, zf⟩ := HB.out.cells
  clear hr
  have hx : ∀ h, (⟨(ch :: q).toArray⟩ : ByteArray)[0]'h = ch := fun _ => rfl
  have hy : (⟨(ch :: q).toArray⟩ : ByteArray).extract 1 (q.length + 1) = ⟨q.toArray⟩ := ext_drop (ch :: q) 1
  go_enter Try.func76, Try.ntmps76
  go_wp2_with ((first | (go_at_call 90; refine (begins_not HB.out.hr C1.out).mono ?_; rintro e w1 ⟨rfl, h1⟩; have HN := Lib.hid (HB.out.rs h1); clear HB h1; have HB := HN; clear HN; obtain ⟨⟨z0, z1, z2⟩, zf⟩ := HB.out.cells; clear q0 q1 qf; obtain ⟨⟨q0, q1⟩, qf⟩ := rs_cells HB.out.hr) | (go_at_call 90; refine (begins_not HB.out.hr C2.out).mono ?_; rintro e w1 ⟨rfl, h1⟩; have HN := Lib.hid (HB.out.rs h1); clear HB h1; have HB := HN; clear HN; obtain ⟨⟨z0, z1, z2⟩, zf⟩ := HB.out.cells; clear q0 q1 qf; obtain ⟨⟨q0, q1⟩, qf⟩ := rs_cells HB.out.hr) | (go_at_call 90; refine (begins_not HB.out.hr C3.out).mono ?_; rintro e w1 ⟨rfl, h1⟩; have HN := Lib.hid (HB.out.rs h1); clear HB h1; have HB := HN; clear HN; obtain ⟨⟨z0, z1, z2⟩, zf⟩ := HB.out.cells; clear q0 q1 qf; obtain ⟨⟨q0, q1⟩, qf⟩ := rs_cells HB.out.hr) | (go_at_call 90; refine (begins_not HB.out.hr C4.out).mono ?_; rintro e w1 ⟨rfl, h1⟩; have HN := Lib.hid (HB.out.rs h1); clear HB h1; have HB := HN; clear HN; obtain ⟨⟨z0, z1, z2⟩, zf⟩ := HB.out.cells; clear q0 q1 qf; obtain ⟨⟨q0, q1⟩, qf⟩ := rs_cells HB.out.hr) | (go_at_call 62; refine (variable_any _ _).mono ?_; rintro e w2 ⟨rfl, g⟩; have HN := Lib.hid (HB.out.step (World.grownBy.but g _) (gr_h g HB.out.hr)); clear HB g; have HB := HN; clear HN; obtain ⟨⟨z0, z1, z2⟩, zf⟩ := (HB.out.al (.cells #[iv 5, iv ((ch.toNat : Int) - 97), .slice none 0 0] 24)).cells; clear q0 q1 qf; obtain ⟨⟨q0, q1⟩, qf⟩ := rs_cells (HB.out.al (.cells #[iv 5, iv ((ch.toNat : Int) - 97), .slice none 0 0] 24)).hr; have HB2 := Lib.hid ((HB.out.al (.cells #[iv 5, iv ((ch.toNat : Int) - 97), .slice none 0 0] 24)).put q); obtain ⟨⟨y0, y1, y2⟩, yf⟩ := HB2.out.cells; obtain ⟨⟨x0, x1, x2⟩, -⟩ := cell3 (h_other (b := rp) (j := 0) (al_new w2 (.cells #[iv 5, iv ((ch.toNat : Int) - 97), .slice none 0 0] 24)) (by have := heap_lt HB.out.hr; omega) (tv q)))))
  have H6 := Lib.hid (set3 (a' := iv 5) (b' := iv ((ch.toNat : Int) - 97)) (c' := .slice none 0 0) HB2.out.hz)
  exact bodyPost_ret (results_cell_row (P := Try.prog) rfl _ _ (w.heap.size) _ _ _ _ rfl H6.out rfl rfl rfl) rfl ⟨rfl, HB2.out.out _ _ _⟩
end Go.Proofs.Ytjlmhfdigoogfaa

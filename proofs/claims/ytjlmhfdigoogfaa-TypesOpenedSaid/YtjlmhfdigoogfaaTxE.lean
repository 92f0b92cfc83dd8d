/- Walks: the reading of a type (76), in whole. -/
import Derived.Test.YtjlmhfdigoogfaaTxD
namespace Go.Proofs.Ytjlmhfdigoogfaa
open Go.RowKit

/-- Blocks from a number on stay. -/
def KP (M : Nat) (A B : World) : Prop := A.heap.size ≤ B.heap.size ∧ ∀ k, M ≤ k → k < A.heap.size → B.heap[k]? = A.heap[k]?
theorem KP.trans {M : Nat} {A B C : World} (h : KP M A B) (k : KP M B C) : KP M A C := ⟨Nat.le_trans h.1 k.1, fun j h1 h2 => (k.2 j h1 (Nat.lt_of_lt_of_le h2 h.1)).trans (h.2 j h1 h2)⟩
theorem KP.grow {M rp : Nat} {A B : World} (h : rp < M) (g : A.grownBy B (some rp)) : KP M A B := ⟨g.size, fun k h1 h2 => g.block k h2 (by intro e; cases e; omega)⟩
theorem KP.gr {M : Nat} {A B : World} (g : Gr A B) : KP M A B := ⟨g.size, fun k _ h2 => g.block k h2 (by simp)⟩
theorem KP.cell {M b j : Nat} {A : World} (h : b < M) (u : Value) : KP M A (A.setCell ⟨b, j, none⟩ u) := ⟨by simp [World.setCell], fun k h1 _ => Below.heap_setCell _ _ _ _ (show k ≠ b by omega)⟩
theorem KP.rd {M : Nat} {A B : World} {x : Ty} (h : KP M A B) (hx : x.Rd A) (hi : TIn (M ≤ ·) x.A x.sub) : x.Rd B := TRd.keepAt hx hi h.1 h.2
theorem mkT {M K : Nat} {V : World} (L : List Ty) (n : Int) (hK : M ≤ K) (h : V.heap[K]? = some (.cells (L.flatMap Ty.cs).toArray 24 (0, 0))) (hl : L.length ≤ 1000) (hs : ∀ x ∈ L, x.Rd V ∧ TIn (M ≤ ·) x.A x.sub) : TyR (M ≤ ·) (.mk n 0 (ers L)) V (.agg #[iv n, iv 0, .slice (some ⟨K, 0, none⟩) L.length L.length]) :=
  ⟨.mk n 0 (some ⟨K, 0, none⟩) L.length L, rfl, TRd.row (L := L) (t := 24) h (Nat.le_refl _) (by show L.length ≤ _; omega) fun x hx => (hs x hx).1, .mk (fun a e _ => by cases e; exact hK) fun x hx => (hs x hx).2, by simp [Ty.er]⟩
/-- A type was read. -/
def RTok (rp : Nat) (t : PT) (r : T) (c : Int) (w : World) (e : Ending) (w' : World) : Prop := w.grownBy w' (some rp) ∧ ∃ v, e = .returned v ∧ TyR (w.heap.size ≤ ·) t w' v ∧ w'.heap[rp]? = some (.cells #[tv r, iv c] 106 (0, 0))
/-- None was read. -/
def RTno (rp : Nat) (w : World) (e : Ending) (w' : World) : Prop := e = .panicked gup ∧ w.grownBy w' (some rp)
theorem rtok_of {w w' : World} {rp K : Nat} {s : T} {c : Int} {V : World} {L : List Ty} {t : PT} {n : Int} {v : Value} (h : RB w rp s c V) (hK : V.heap[K]? = some (.cells (L.flatMap Ty.cs).toArray 24 (0, 0))) (hk : w.heap.size < K) (hl : L.length ≤ 1000) (hs : ∀ x ∈ L, ∃ M, w.heap.size < M ∧ x.Rd V ∧ TIn (M ≤ ·) x.A x.sub) (ht : .mk n 0 (ers L) = t) (hv : v = .agg #[iv n, iv 0, .slice (some ⟨K, 0, none⟩) L.length L.length]) (a b d : Value) (hw : w' = ((V.setCell ⟨w.heap.size, 0, none⟩ a).setCell ⟨w.heap.size, 1, none⟩ b).setCell ⟨w.heap.size, 2, none⟩ d) : RTok rp t s c w (.returned v) w' := by
  subst hw hv ht
  have h1 := h.out a b d
  refine ⟨h1.1, _, rfl, mkT L n (Nat.le_of_lt hk) (h_other (h_other (h_other hK (by omega) _) (by omega) _) (by omega) _) hl fun x hx => ?_, h1.2⟩
  obtain ⟨M, hM, h2, h3⟩ := hs x hx
  exact ⟨(((KP.cell hM a).trans (KP.cell hM b)).trans (KP.cell hM d)).rd h2 h3, h3.mono fun k hk => by omega⟩
attribute [local irreducible] Calls in
set_option maxRecDepth 100000 in
set_option maxHeartbeats 2000000 in
theorem rl_1 (s : T) (rp : Nat) (c : Int) (w : World) (hr : w.heap[rp]? = some (.cells #[tv s, iv c] 106 (0, 0))) (h0 : 0 ≤ c) (hc : c < 200) (r : T) (C1 : Hid (cut sInt s = none)) (C2 : Hid (cut sBool s = none)) (C3 : Hid (cut sList s = some r)) (CH1 : Hid (∀ V, V.heap[rp]? = some (.cells #[tv r, iv (c + 1)] 106 (0, 0)) → Calls Try.prog 76 #[.pointer (some ⟨rp, 0, none⟩)] V (RTno rp V))) : Calls Try.prog 76 #[.pointer (some ⟨rp, 0, none⟩)] w (RTno rp w) := by
  have hlt := heap_lt hr
  have HB := Lib.hid (RB.first hr (c + 1))
  obtain ⟨⟨r0, r1⟩, rf⟩ := rs_cells (gr_h (gr_al w (.cells #[iv 0, iv 0, .slice none 0 0] 24)) hr)
  obtain ⟨⟨q0, q1⟩, qf⟩ := rs_cells HB.out.hr
  obtain ⟨⟨z0, z1, z2⟩, zf⟩ := HB.out.cells
  clear hr
  go_enter Try.func76, Try.ntmps76
  go_wp2_with ((first | (go_at_call 90; refine (begins_not HB.out.hr C1.out).mono ?_; rintro e w1 ⟨rfl, h1⟩; have HN := Lib.hid (HB.out.rs h1); clear h1; clear HB z0 z1 z2 zf; have HB := HN; clear HN; obtain ⟨⟨z0, z1, z2⟩, zf⟩ := HB.out.cells) | (go_at_call 90; refine (begins_not HB.out.hr C2.out).mono ?_; rintro e w1 ⟨rfl, h1⟩; have HN := Lib.hid (HB.out.rs h1); clear h1; clear HB z0 z1 z2 zf; have HB := HN; clear HN; obtain ⟨⟨z0, z1, z2⟩, zf⟩ := HB.out.cells) | (go_at_call 90; refine (begins_yes HB.out.hr C3.out).mono ?_; rintro e w1 ⟨rfl, h1⟩; have HN := Lib.hid (HB.out.rs h1); clear h1; clear HB z0 z1 z2 zf; have HB := HN; clear HN; obtain ⟨⟨z0, z1, z2⟩, zf⟩ := HB.out.cells) | (go_at_call 76; refine (CH1.out _ HB.out.hr).mono ?_; rintro e w3 ⟨rfl, g⟩; have GE := Lib.hid (HB.out.gr.trans g); clear g)))
  exact ⟨rfl, rfl, GE.out⟩
attribute [local irreducible] Calls in
set_option maxRecDepth 100000 in
set_option maxHeartbeats 2000000 in
theorem rl_2 (s : T) (rp : Nat) (c : Int) (w : World) (hr : w.heap[rp]? = some (.cells #[tv s, iv c] 106 (0, 0))) (h0 : 0 ≤ c) (hc : c < 200) (r : T) (C1 : Hid (cut sInt s = none)) (C2 : Hid (cut sBool s = none)) (C3 : Hid (cut sList s = some r)) (t : PT) (r1 : T) (c1 : Int) (CH1 : Hid (∀ V, V.heap[rp]? = some (.cells #[tv r, iv (c + 1)] 106 (0, 0)) → Calls Try.prog 76 #[.pointer (some ⟨rp, 0, none⟩)] V (RTok rp t r1 c1 V))) (C5 : Hid (cut [41] r1 = none)) : Calls Try.prog 76 #[.pointer (some ⟨rp, 0, none⟩)] w (RTno rp w) := by
  have hlt := heap_lt hr
  have HB := Lib.hid (RB.first hr (c + 1))
  obtain ⟨⟨r0, r1⟩, rf⟩ := rs_cells (gr_h (gr_al w (.cells #[iv 0, iv 0, .slice none 0 0] 24)) hr)
  obtain ⟨⟨q0, q1⟩, qf⟩ := rs_cells HB.out.hr
  obtain ⟨⟨z0, z1, z2⟩, zf⟩ := HB.out.cells
  clear hr
  go_enter Try.func76, Try.ntmps76
  go_wp2_with ((first | (go_at_call 90; refine (begins_not HB.out.hr C1.out).mono ?_; rintro e w1 ⟨rfl, h1⟩; have HN := Lib.hid (HB.out.rs h1); clear h1; clear HB z0 z1 z2 zf; have HB := HN; clear HN; obtain ⟨⟨z0, z1, z2⟩, zf⟩ := HB.out.cells) | (go_at_call 90; refine (begins_not HB.out.hr C2.out).mono ?_; rintro e w1 ⟨rfl, h1⟩; have HN := Lib.hid (HB.out.rs h1); clear h1; clear HB z0 z1 z2 zf; have HB := HN; clear HN; obtain ⟨⟨z0, z1, z2⟩, zf⟩ := HB.out.cells) | (go_at_call 90; refine (begins_yes HB.out.hr C3.out).mono ?_; rintro e w1 ⟨rfl, h1⟩; have HN := Lib.hid (HB.out.rs h1); clear h1; clear HB z0 z1 z2 zf; have HB := HN; clear HN; obtain ⟨⟨z0, z1, z2⟩, zf⟩ := HB.out.cells) | (go_at_call 76; refine (CH1.out _ HB.out.hr).mono ?_; rintro e w3 ⟨g, v, rfl, ⟨x, rfl, hx, hi, he⟩, h3⟩; unfold Ty.v; have ML1 := Lib.hid (heap_lt HB.out.hz); have TX1 := Lib.hid (And.intro hx (And.intro hi he)); have GG1 := Lib.hid g; have HN := Lib.hid ((HB.out.step g h3).al (.cells #[iv x.kind, iv x.var, .slice x.A x.sub.length x.c] 24)); clear g hx hi he h3; have BX1 := Lib.hid (al_new w3 (.cells #[iv x.kind, iv x.var, .slice x.A x.sub.length x.c] 24)); clear HB z0 z1 z2 zf; have HB := HN; clear HN; obtain ⟨⟨z0, z1, z2⟩, zf⟩ := HB.out.cells) | (go_at_call 91; refine (expect_not HB.out.hr C5.out).mono ?_; rintro e w4 ⟨h4, rfl⟩; have GE := Lib.hid (HB.out.gr.trans h4.2); clear h4)))
  exact ⟨rfl, rfl, GE.out⟩
attribute [local irreducible] Calls in
set_option maxRecDepth 100000 in
set_option maxHeartbeats 2000000 in
theorem rl_3 (s : T) (rp : Nat) (c : Int) (w : World) (hr : w.heap[rp]? = some (.cells #[tv s, iv c] 106 (0, 0))) (h0 : 0 ≤ c) (hc : c < 200) (r : T) (C1 : Hid (cut sInt s = none)) (C2 : Hid (cut sBool s = none)) (C3 : Hid (cut sList s = some r)) (t : PT) (r1 : T) (c1 : Int) (CH1 : Hid (∀ V, V.heap[rp]? = some (.cells #[tv r, iv (c + 1)] 106 (0, 0)) → Calls Try.prog 76 #[.pointer (some ⟨rp, 0, none⟩)] V (RTok rp t r1 c1 V))) (r2 : T) (C5 : Hid (cut [41] r1 = some r2)) : Calls Try.prog 76 #[.pointer (some ⟨rp, 0, none⟩)] w (RTok rp (.mk 3 0 [t]) r2 c1 w) := by
  have hlt := heap_lt hr
  have HB := Lib.hid (RB.first hr (c + 1))
  obtain ⟨⟨r0, r1⟩, rf⟩ := rs_cells (gr_h (gr_al w (.cells #[iv 0, iv 0, .slice none 0 0] 24)) hr)
  obtain ⟨⟨q0, q1⟩, qf⟩ := rs_cells HB.out.hr
  obtain ⟨⟨z0, z1, z2⟩, zf⟩ := HB.out.cells
  clear hr
  go_enter Try.func76, Try.ntmps76
  go_wp2_with ((first | (go_at_call 90; refine (begins_not HB.out.hr C1.out).mono ?_; rintro e w1 ⟨rfl, h1⟩; have HN := Lib.hid (HB.out.rs h1); clear h1; clear HB z0 z1 z2 zf; have HB := HN; clear HN; obtain ⟨⟨z0, z1, z2⟩, zf⟩ := HB.out.cells) | (go_at_call 90; refine (begins_not HB.out.hr C2.out).mono ?_; rintro e w1 ⟨rfl, h1⟩; have HN := Lib.hid (HB.out.rs h1); clear h1; clear HB z0 z1 z2 zf; have HB := HN; clear HN; obtain ⟨⟨z0, z1, z2⟩, zf⟩ := HB.out.cells) | (go_at_call 90; refine (begins_yes HB.out.hr C3.out).mono ?_; rintro e w1 ⟨rfl, h1⟩; have HN := Lib.hid (HB.out.rs h1); clear h1; clear HB z0 z1 z2 zf; have HB := HN; clear HN; obtain ⟨⟨z0, z1, z2⟩, zf⟩ := HB.out.cells) | (go_at_call 76; refine (CH1.out _ HB.out.hr).mono ?_; rintro e w3 ⟨g, v, rfl, ⟨x, rfl, hx, hi, he⟩, h3⟩; unfold Ty.v; have ML1 := Lib.hid (heap_lt HB.out.hz); have TX1 := Lib.hid (And.intro hx (And.intro hi he)); have GG1 := Lib.hid g; have HN := Lib.hid ((HB.out.step g h3).al (.cells #[iv x.kind, iv x.var, .slice x.A x.sub.length x.c] 24)); clear g hx hi he h3; have BX1 := Lib.hid (al_new w3 (.cells #[iv x.kind, iv x.var, .slice x.A x.sub.length x.c] 24)); clear HB z0 z1 z2 zf; have HB := HN; clear HN; obtain ⟨⟨z0, z1, z2⟩, zf⟩ := HB.out.cells) | (go_at_call 91; refine (expect_yes HB.out.hr C5.out).mono ?_; rintro e w4 ⟨h4, rfl⟩; have G41 := Lib.hid h4.2; have HN := Lib.hid (HB.out.rs h4); clear h4; clear HB z0 z1 z2 zf; have HB := HN; clear HN; obtain ⟨⟨z0, z1, z2⟩, zf⟩ := HB.out.cells; have XB := Lib.hid (((G41.out.block _ (heap_lt BX1.out) (by intro e; cases e; have := heap_lt HB.out.hz; have := HB.out.lt; have := ML1.out; have := GG1.out.size; omega)).trans BX1.out)); obtain ⟨⟨x0, x1, x2⟩, -⟩ := cell3 XB.out; have HN := Lib.hid (HB.out.al (.cells #[iv x.kind, iv x.var, .slice x.A x.sub.length x.c] 24)); clear HB z0 z1 z2 zf; have HB := HN; clear HN; obtain ⟨⟨z0, z1, z2⟩, zf⟩ := HB.out.cells)))
  have H6 := Lib.hid (set3 (a' := iv 3) (b' := iv 0) (c' := .slice (some ⟨w4.heap.size, 0, none⟩) 1 1) HB.out.hz)
  have k1 := KP.gr (M := w1.heap.size) (gr_al w3 (.cells #[iv x.kind, iv x.var, .slice x.A x.sub.length x.c] 24))
  have hrp : rp < w1.heap.size := by have := ML1.out; omega
  have k2 := k1.trans ((KP.grow hrp G41.out).trans (KP.gr (gr_al w4 (.cells #[iv x.kind, iv x.var, .slice x.A x.sub.length x.c] 24))))
  refine bodyPost_ret (results_cell_row (P := Try.prog) rfl _ _ (w.heap.size) _ _ _ _ rfl H6.out rfl rfl rfl) rfl ?_
  refine rtok_of (L := [x]) HB.out (al_new w4 _) ?_ (by simp) (fun y hy => ?_) (by rw [ers_cons, ers_nil, TX1.out.2.2]) rfl _ _ _ rfl
  · have := ML1.out; have := GG1.out.size; have := G41.out.size; simp at this; omega
  · obtain rfl := List.mem_singleton.1 hy
    exact ⟨w1.heap.size, ML1.out, k2.rd TX1.out.1 TX1.out.2.1, TX1.out.2.1⟩
attribute [local irreducible] Calls in
set_option maxRecDepth 100000 in
set_option maxHeartbeats 2000000 in
theorem rf_1 (s : T) (rp : Nat) (c : Int) (w : World) (hr : w.heap[rp]? = some (.cells #[tv s, iv c] 106 (0, 0))) (h0 : 0 ≤ c) (hc : c < 200) (r : T) (C1 : Hid (cut sInt s = none)) (C2 : Hid (cut sBool s = none)) (C3 : Hid (cut sList s = none)) (C4 : Hid (cut [40] s = some r)) (CH1 : Hid (∀ V, V.heap[rp]? = some (.cells #[tv r, iv (c + 1)] 106 (0, 0)) → Calls Try.prog 76 #[.pointer (some ⟨rp, 0, none⟩)] V (RTno rp V))) : Calls Try.prog 76 #[.pointer (some ⟨rp, 0, none⟩)] w (RTno rp w) := by
  have hlt := heap_lt hr
  have HB := Lib.hid (RB.first hr (c + 1))
  obtain ⟨⟨r0, r1⟩, rf⟩ := rs_cells (gr_h (gr_al w (.cells #[iv 0, iv 0, .slice none 0 0] 24)) hr)
  obtain ⟨⟨q0, q1⟩, qf⟩ := rs_cells HB.out.hr
  obtain ⟨⟨z0, z1, z2⟩, zf⟩ := HB.out.cells
  clear hr
  go_enter Try.func76, Try.ntmps76
  go_wp2_with ((first | (go_at_call 90; refine (begins_not HB.out.hr C1.out).mono ?_; rintro e w1 ⟨rfl, h1⟩; have HN := Lib.hid (HB.out.rs h1); clear h1; clear HB z0 z1 z2 zf; have HB := HN; clear HN; obtain ⟨⟨z0, z1, z2⟩, zf⟩ := HB.out.cells) | (go_at_call 90; refine (begins_not HB.out.hr C2.out).mono ?_; rintro e w1 ⟨rfl, h1⟩; have HN := Lib.hid (HB.out.rs h1); clear h1; clear HB z0 z1 z2 zf; have HB := HN; clear HN; obtain ⟨⟨z0, z1, z2⟩, zf⟩ := HB.out.cells) | (go_at_call 90; refine (begins_not HB.out.hr C3.out).mono ?_; rintro e w1 ⟨rfl, h1⟩; have HN := Lib.hid (HB.out.rs h1); clear h1; clear HB z0 z1 z2 zf; have HB := HN; clear HN; obtain ⟨⟨z0, z1, z2⟩, zf⟩ := HB.out.cells) | (go_at_call 90; refine (begins_yes HB.out.hr C4.out).mono ?_; rintro e w1 ⟨rfl, h1⟩; have HN := Lib.hid (HB.out.rs h1); clear h1; clear HB z0 z1 z2 zf; have HB := HN; clear HN; obtain ⟨⟨z0, z1, z2⟩, zf⟩ := HB.out.cells) | (go_at_call 76; refine (CH1.out _ HB.out.hr).mono ?_; rintro e w3 ⟨rfl, g⟩; have GE := Lib.hid (HB.out.gr.trans g); clear g)))
  exact ⟨rfl, rfl, GE.out⟩
attribute [local irreducible] Calls in
set_option maxRecDepth 100000 in
set_option maxHeartbeats 2000000 in
theorem rf_2 (s : T) (rp : Nat) (c : Int) (w : World) (hr : w.heap[rp]? = some (.cells #[tv s, iv c] 106 (0, 0))) (h0 : 0 ≤ c) (hc : c < 200) (r : T) (C1 : Hid (cut sInt s = none)) (C2 : Hid (cut sBool s = none)) (C3 : Hid (cut sList s = none)) (C4 : Hid (cut [40] s = some r)) (t : PT) (r1 : T) (c1 : Int) (CH1 : Hid (∀ V, V.heap[rp]? = some (.cells #[tv r, iv (c + 1)] 106 (0, 0)) → Calls Try.prog 76 #[.pointer (some ⟨rp, 0, none⟩)] V (RTok rp t r1 c1 V))) (C5 : Hid (cut sTo r1 = none)) : Calls Try.prog 76 #[.pointer (some ⟨rp, 0, none⟩)] w (RTno rp w) := by
  have hlt := heap_lt hr
  have HB := Lib.hid (RB.first hr (c + 1))
  obtain ⟨⟨r0, r1⟩, rf⟩ := rs_cells (gr_h (gr_al w (.cells #[iv 0, iv 0, .slice none 0 0] 24)) hr)
  obtain ⟨⟨q0, q1⟩, qf⟩ := rs_cells HB.out.hr
  obtain ⟨⟨z0, z1, z2⟩, zf⟩ := HB.out.cells
  clear hr
  go_enter Try.func76, Try.ntmps76
  go_wp2_with ((first | (go_at_call 90; refine (begins_not HB.out.hr C1.out).mono ?_; rintro e w1 ⟨rfl, h1⟩; have HN := Lib.hid (HB.out.rs h1); clear h1; clear HB z0 z1 z2 zf; have HB := HN; clear HN; obtain ⟨⟨z0, z1, z2⟩, zf⟩ := HB.out.cells) | (go_at_call 90; refine (begins_not HB.out.hr C2.out).mono ?_; rintro e w1 ⟨rfl, h1⟩; have HN := Lib.hid (HB.out.rs h1); clear h1; clear HB z0 z1 z2 zf; have HB := HN; clear HN; obtain ⟨⟨z0, z1, z2⟩, zf⟩ := HB.out.cells) | (go_at_call 90; refine (begins_not HB.out.hr C3.out).mono ?_; rintro e w1 ⟨rfl, h1⟩; have HN := Lib.hid (HB.out.rs h1); clear h1; clear HB z0 z1 z2 zf; have HB := HN; clear HN; obtain ⟨⟨z0, z1, z2⟩, zf⟩ := HB.out.cells) | (go_at_call 90; refine (begins_yes HB.out.hr C4.out).mono ?_; rintro e w1 ⟨rfl, h1⟩; have HN := Lib.hid (HB.out.rs h1); clear h1; clear HB z0 z1 z2 zf; have HB := HN; clear HN; obtain ⟨⟨z0, z1, z2⟩, zf⟩ := HB.out.cells) | (go_at_call 76; refine (CH1.out _ HB.out.hr).mono ?_; rintro e w3 ⟨g, v, rfl, ⟨x, rfl, hx, hi, he⟩, h3⟩; unfold Ty.v; have ML1 := Lib.hid (heap_lt HB.out.hz); have TX1 := Lib.hid (And.intro hx (And.intro hi he)); have GG1 := Lib.hid g; have HN := Lib.hid ((HB.out.step g h3).al (.cells #[iv x.kind, iv x.var, .slice x.A x.sub.length x.c] 24)); clear g hx hi he h3; have BX1 := Lib.hid (al_new w3 (.cells #[iv x.kind, iv x.var, .slice x.A x.sub.length x.c] 24)); clear HB z0 z1 z2 zf; have HB := HN; clear HN; obtain ⟨⟨z0, z1, z2⟩, zf⟩ := HB.out.cells) | (go_at_call 91; refine (expect_not HB.out.hr C5.out).mono ?_; rintro e w4 ⟨h4, rfl⟩; have GE := Lib.hid (HB.out.gr.trans h4.2); clear h4)))
  exact ⟨rfl, rfl, GE.out⟩
attribute [local irreducible] Calls in
set_option maxRecDepth 100000 in
set_option maxHeartbeats 2000000 in
theorem rf_3 (s : T) (rp : Nat) (c : Int) (w : World) (hr : w.heap[rp]? = some (.cells #[tv s, iv c] 106 (0, 0))) (h0 : 0 ≤ c) (hc : c < 200) (r : T) (C1 : Hid (cut sInt s = none)) (C2 : Hid (cut sBool s = none)) (C3 : Hid (cut sList s = none)) (C4 : Hid (cut [40] s = some r)) (t : PT) (r1 : T) (c1 : Int) (CH1 : Hid (∀ V, V.heap[rp]? = some (.cells #[tv r, iv (c + 1)] 106 (0, 0)) → Calls Try.prog 76 #[.pointer (some ⟨rp, 0, none⟩)] V (RTok rp t r1 c1 V))) (r2 : T) (C5 : Hid (cut sTo r1 = some r2)) (CH2 : Hid (∀ V, V.heap[rp]? = some (.cells #[tv r2, iv c1] 106 (0, 0)) → Calls Try.prog 76 #[.pointer (some ⟨rp, 0, none⟩)] V (RTno rp V))) : Calls Try.prog 76 #[.pointer (some ⟨rp, 0, none⟩)] w (RTno rp w) := by
  have hlt := heap_lt hr
  have HB := Lib.hid (RB.first hr (c + 1))
  obtain ⟨⟨r0, r1⟩, rf⟩ := rs_cells (gr_h (gr_al w (.cells #[iv 0, iv 0, .slice none 0 0] 24)) hr)
  obtain ⟨⟨q0, q1⟩, qf⟩ := rs_cells HB.out.hr
  obtain ⟨⟨z0, z1, z2⟩, zf⟩ := HB.out.cells
  clear hr
  go_enter Try.func76, Try.ntmps76
  go_wp2_with ((first | (go_at_call 90; refine (begins_not HB.out.hr C1.out).mono ?_; rintro e w1 ⟨rfl, h1⟩; have HN := Lib.hid (HB.out.rs h1); clear h1; clear HB z0 z1 z2 zf; have HB := HN; clear HN; obtain ⟨⟨z0, z1, z2⟩, zf⟩ := HB.out.cells) | (go_at_call 90; refine (begins_not HB.out.hr C2.out).mono ?_; rintro e w1 ⟨rfl, h1⟩; have HN := Lib.hid (HB.out.rs h1); clear h1; clear HB z0 z1 z2 zf; have HB := HN; clear HN; obtain ⟨⟨z0, z1, z2⟩, zf⟩ := HB.out.cells) | (go_at_call 90; refine (begins_not HB.out.hr C3.out).mono ?_; rintro e w1 ⟨rfl, h1⟩; have HN := Lib.hid (HB.out.rs h1); clear h1; clear HB z0 z1 z2 zf; have HB := HN; clear HN; obtain ⟨⟨z0, z1, z2⟩, zf⟩ := HB.out.cells) | (go_at_call 90; refine (begins_yes HB.out.hr C4.out).mono ?_; rintro e w1 ⟨rfl, h1⟩; have HN := Lib.hid (HB.out.rs h1); clear h1; clear HB z0 z1 z2 zf; have HB := HN; clear HN; obtain ⟨⟨z0, z1, z2⟩, zf⟩ := HB.out.cells) | (go_at_call 76; refine (CH1.out _ HB.out.hr).mono ?_; rintro e w3 ⟨g, v, rfl, ⟨x, rfl, hx, hi, he⟩, h3⟩; unfold Ty.v; have ML1 := Lib.hid (heap_lt HB.out.hz); have TX1 := Lib.hid (And.intro hx (And.intro hi he)); have GG1 := Lib.hid g; have HN := Lib.hid ((HB.out.step g h3).al (.cells #[iv x.kind, iv x.var, .slice x.A x.sub.length x.c] 24)); clear g hx hi he h3; have BX1 := Lib.hid (al_new w3 (.cells #[iv x.kind, iv x.var, .slice x.A x.sub.length x.c] 24)); clear HB z0 z1 z2 zf; have HB := HN; clear HN; obtain ⟨⟨z0, z1, z2⟩, zf⟩ := HB.out.cells) | (go_at_call 91; refine (expect_yes HB.out.hr C5.out).mono ?_; rintro e w4 ⟨h4, rfl⟩; have G41 := Lib.hid h4.2; have HN := Lib.hid (HB.out.rs h4); clear h4; clear HB z0 z1 z2 zf; have HB := HN; clear HN; obtain ⟨⟨z0, z1, z2⟩, zf⟩ := HB.out.cells) | (go_at_call 76; refine (CH2.out _ HB.out.hr).mono ?_; rintro e w5 ⟨rfl, g⟩; have GE := Lib.hid (HB.out.gr.trans g); clear g)))
  exact ⟨rfl, rfl, GE.out⟩
attribute [local irreducible] Calls in
set_option maxRecDepth 100000 in
set_option maxHeartbeats 2000000 in
theorem rf_4 (s : T) (rp : Nat) (c : Int) (w : World) (hr : w.heap[rp]? = some (.cells #[tv s, iv c] 106 (0, 0))) (h0 : 0 ≤ c) (hc : c < 200) (r : T) (C1 : Hid (cut sInt s = none)) (C2 : Hid (cut sBool s = none)) (C3 : Hid (cut sList s = none)) (C4 : Hid (cut [40] s = some r)) (t : PT) (r1 : T) (c1 : Int) (CH1 : Hid (∀ V, V.heap[rp]? = some (.cells #[tv r, iv (c + 1)] 106 (0, 0)) → Calls Try.prog 76 #[.pointer (some ⟨rp, 0, none⟩)] V (RTok rp t r1 c1 V))) (r2 : T) (C5 : Hid (cut sTo r1 = some r2)) (u : PT) (r3 : T) (c2 : Int) (CH2 : Hid (∀ V, V.heap[rp]? = some (.cells #[tv r2, iv c1] 106 (0, 0)) → Calls Try.prog 76 #[.pointer (some ⟨rp, 0, none⟩)] V (RTok rp u r3 c2 V))) (C6 : Hid (cut [41] r3 = none)) : Calls Try.prog 76 #[.pointer (some ⟨rp, 0, none⟩)] w (RTno rp w) := by
  have hlt := heap_lt hr
  have HB := Lib.hid (RB.first hr (c + 1))
  obtain ⟨⟨r0, r1⟩, rf⟩ := rs_cells (gr_h (gr_al w (.cells #[iv 0, iv 0, .slice none 0 0] 24)) hr)
  obtain ⟨⟨q0, q1⟩, qf⟩ := rs_cells HB.out.hr
  obtain ⟨⟨z0, z1, z2⟩, zf⟩ := HB.out.cells
  clear hr
  go_enter Try.func76, Try.ntmps76
  go_wp2_with ((first | (go_at_call 90; refine (begins_not HB.out.hr C1.out).mono ?_; rintro e w1 ⟨rfl, h1⟩; have HN := Lib.hid (HB.out.rs h1); clear h1; clear HB z0 z1 z2 zf; have HB := HN; clear HN; obtain ⟨⟨z0, z1, z2⟩, zf⟩ := HB.out.cells) | (go_at_call 90; refine (begins_not HB.out.hr C2.out).mono ?_; rintro e w1 ⟨rfl, h1⟩; have HN := Lib.hid (HB.out.rs h1); clear h1; clear HB z0 z1 z2 zf; have HB := HN; clear HN; obtain ⟨⟨z0, z1, z2⟩, zf⟩ := HB.out.cells) | (go_at_call 90; refine (begins_not HB.out.hr C3.out).mono ?_; rintro e w1 ⟨rfl, h1⟩; have HN := Lib.hid (HB.out.rs h1); clear h1; clear HB z0 z1 z2 zf; have HB := HN; clear HN; obtain ⟨⟨z0, z1, z2⟩, zf⟩ := HB.out.cells) | (go_at_call 90; refine (begins_yes HB.out.hr C4.out).mono ?_; rintro e w1 ⟨rfl, h1⟩; have HN := Lib.hid (HB.out.rs h1); clear h1; clear HB z0 z1 z2 zf; have HB := HN; clear HN; obtain ⟨⟨z0, z1, z2⟩, zf⟩ := HB.out.cells) | (go_at_call 76; refine (CH1.out _ HB.out.hr).mono ?_; rintro e w3 ⟨g, v, rfl, ⟨x, rfl, hx, hi, he⟩, h3⟩; unfold Ty.v; have ML1 := Lib.hid (heap_lt HB.out.hz); have TX1 := Lib.hid (And.intro hx (And.intro hi he)); have GG1 := Lib.hid g; have HN := Lib.hid ((HB.out.step g h3).al (.cells #[iv x.kind, iv x.var, .slice x.A x.sub.length x.c] 24)); clear g hx hi he h3; have BX1 := Lib.hid (al_new w3 (.cells #[iv x.kind, iv x.var, .slice x.A x.sub.length x.c] 24)); clear HB z0 z1 z2 zf; have HB := HN; clear HN; obtain ⟨⟨z0, z1, z2⟩, zf⟩ := HB.out.cells) | (go_at_call 91; refine (expect_yes HB.out.hr C5.out).mono ?_; rintro e w4 ⟨h4, rfl⟩; have G41 := Lib.hid h4.2; have HN := Lib.hid (HB.out.rs h4); clear h4; clear HB z0 z1 z2 zf; have HB := HN; clear HN; obtain ⟨⟨z0, z1, z2⟩, zf⟩ := HB.out.cells) | (go_at_call 76; refine (CH2.out _ HB.out.hr).mono ?_; rintro e w5 ⟨g, v, rfl, ⟨y, rfl, hx, hi, he⟩, h3⟩; unfold Ty.v; have ML2 := Lib.hid (heap_lt HB.out.hz); have TX2 := Lib.hid (And.intro hx (And.intro hi he)); have GG2 := Lib.hid g; have HN := Lib.hid ((HB.out.step g h3).al (.cells #[iv y.kind, iv y.var, .slice y.A y.sub.length y.c] 24)); clear g hx hi he h3; have BX2 := Lib.hid (al_new w5 (.cells #[iv y.kind, iv y.var, .slice y.A y.sub.length y.c] 24)); clear HB z0 z1 z2 zf; have HB := HN; clear HN; obtain ⟨⟨z0, z1, z2⟩, zf⟩ := HB.out.cells) | (go_at_call 91; refine (expect_not HB.out.hr C6.out).mono ?_; rintro e w6 ⟨h4, rfl⟩; have GE := Lib.hid (HB.out.gr.trans h4.2); clear h4)))
  exact ⟨rfl, rfl, GE.out⟩
attribute [local irreducible] Calls in
set_option maxRecDepth 100000 in
set_option maxHeartbeats 2000000 in
theorem rf_5 (s : T) (rp : Nat) (c : Int) (w : World) (hr : w.heap[rp]? = some (.cells #[tv s, iv c] 106 (0, 0))) (h0 : 0 ≤ c) (hc : c < 200) (r : T) (C1 : Hid (cut sInt s = none)) (C2 : Hid (cut sBool s = none)) (C3 : Hid (cut sList s = none)) (C4 : Hid (cut [40] s = some r)) (t : PT) (r1 : T) (c1 : Int) (CH1 : Hid (∀ V, V.heap[rp]? = some (.cells #[tv r, iv (c + 1)] 106 (0, 0)) → Calls Try.prog 76 #[.pointer (some ⟨rp, 0, none⟩)] V (RTok rp t r1 c1 V))) (r2 : T) (C5 : Hid (cut sTo r1 = some r2)) (u : PT) (r3 : T) (c2 : Int) (CH2 : Hid (∀ V, V.heap[rp]? = some (.cells #[tv r2, iv c1] 106 (0, 0)) → Calls Try.prog 76 #[.pointer (some ⟨rp, 0, none⟩)] V (RTok rp u r3 c2 V))) (r4 : T) (C6 : Hid (cut [41] r3 = some r4)) : Calls Try.prog 76 #[.pointer (some ⟨rp, 0, none⟩)] w (RTok rp (.mk 4 0 [t, u]) r4 c2 w) := by
  have hlt := heap_lt hr
  have HB := Lib.hid (RB.first hr (c + 1))
  obtain ⟨⟨r0, r1⟩, rf⟩ := rs_cells (gr_h (gr_al w (.cells #[iv 0, iv 0, .slice none 0 0] 24)) hr)
  obtain ⟨⟨q0, q1⟩, qf⟩ := rs_cells HB.out.hr
  obtain ⟨⟨z0, z1, z2⟩, zf⟩ := HB.out.cells
  clear hr
  go_enter Try.func76, Try.ntmps76
  go_wp2_with ((first | (go_at_call 90; refine (begins_not HB.out.hr C1.out).mono ?_; rintro e w1 ⟨rfl, h1⟩; have HN := Lib.hid (HB.out.rs h1); clear h1; clear HB z0 z1 z2 zf; have HB := HN; clear HN; obtain ⟨⟨z0, z1, z2⟩, zf⟩ := HB.out.cells) | (go_at_call 90; refine (begins_not HB.out.hr C2.out).mono ?_; rintro e w1 ⟨rfl, h1⟩; have HN := Lib.hid (HB.out.rs h1); clear h1; clear HB z0 z1 z2 zf; have HB := HN; clear HN; obtain ⟨⟨z0, z1, z2⟩, zf⟩ := HB.out.cells) | (go_at_call 90; refine (begins_not HB.out.hr C3.out).mono ?_; rintro e w1 ⟨rfl, h1⟩; have HN := Lib.hid (HB.out.rs h1); clear h1; clear HB z0 z1 z2 zf; have HB := HN; clear HN; obtain ⟨⟨z0, z1, z2⟩, zf⟩ := HB.out.cells) | (go_at_call 90; refine (begins_yes HB.out.hr C4.out).mono ?_; rintro e w1 ⟨rfl, h1⟩; have HN := Lib.hid (HB.out.rs h1); clear h1; clear HB z0 z1 z2 zf; have HB := HN; clear HN; obtain ⟨⟨z0, z1, z2⟩, zf⟩ := HB.out.cells) | (go_at_call 76; refine (CH1.out _ HB.out.hr).mono ?_; rintro e w3 ⟨g, v, rfl, ⟨x, rfl, hx, hi, he⟩, h3⟩; unfold Ty.v; have ML1 := Lib.hid (heap_lt HB.out.hz); have TX1 := Lib.hid (And.intro hx (And.intro hi he)); have GG1 := Lib.hid g; have HN := Lib.hid ((HB.out.step g h3).al (.cells #[iv x.kind, iv x.var, .slice x.A x.sub.length x.c] 24)); clear g hx hi he h3; have BX1 := Lib.hid (al_new w3 (.cells #[iv x.kind, iv x.var, .slice x.A x.sub.length x.c] 24)); clear HB z0 z1 z2 zf; have HB := HN; clear HN; obtain ⟨⟨z0, z1, z2⟩, zf⟩ := HB.out.cells) | (go_at_call 91; refine (expect_yes HB.out.hr C5.out).mono ?_; rintro e w4 ⟨h4, rfl⟩; have G41 := Lib.hid h4.2; have HN := Lib.hid (HB.out.rs h4); clear h4; clear HB z0 z1 z2 zf; have HB := HN; clear HN; obtain ⟨⟨z0, z1, z2⟩, zf⟩ := HB.out.cells) | (go_at_call 76; refine (CH2.out _ HB.out.hr).mono ?_; rintro e w5 ⟨g, v, rfl, ⟨y, rfl, hx, hi, he⟩, h3⟩; unfold Ty.v; have ML2 := Lib.hid (heap_lt HB.out.hz); have TX2 := Lib.hid (And.intro hx (And.intro hi he)); have GG2 := Lib.hid g; have HN := Lib.hid ((HB.out.step g h3).al (.cells #[iv y.kind, iv y.var, .slice y.A y.sub.length y.c] 24)); clear g hx hi he h3; have BX2 := Lib.hid (al_new w5 (.cells #[iv y.kind, iv y.var, .slice y.A y.sub.length y.c] 24)); clear HB z0 z1 z2 zf; have HB := HN; clear HN; obtain ⟨⟨z0, z1, z2⟩, zf⟩ := HB.out.cells) | (go_at_call 91; refine (expect_yes HB.out.hr C6.out).mono ?_; rintro e w6 ⟨h4, rfl⟩; have G42 := Lib.hid h4.2; have HN := Lib.hid (HB.out.rs h4); clear h4; clear HB z0 z1 z2 zf; have HB := HN; clear HN; obtain ⟨⟨z0, z1, z2⟩, zf⟩ := HB.out.cells; have RN := Lib.hid (show rp < w3.heap.size from by have := heap_lt HB.out.hz; have := HB.out.lt; have := ML1.out; have := GG1.out.size; omega); have SZ4 := Lib.hid (show w3.heap.size + 1 ≤ w4.heap.size from by have := G41.out.size; simpa using this); have SZ5 := Lib.hid GG2.out.size; have XB := Lib.hid (show w6.heap[w3.heap.size]? = some (.cells #[iv x.kind, iv x.var, .slice x.A x.sub.length x.c] 24) from (G42.out.block _ (by have := SZ4.out; have := SZ5.out; simp; omega) (by intro e; cases e; have := RN.out; omega)).trans ((gr_al w5 _).block _ (by have := SZ4.out; have := SZ5.out; omega) (by simp) |>.trans ((GG2.out.block _ (by have := SZ4.out; omega) (by intro e; cases e; have := RN.out; omega)).trans ((G41.out.block _ (heap_lt BX1.out) (by intro e; cases e; have := RN.out; omega)).trans BX1.out)))); have YB := Lib.hid (show w6.heap[w5.heap.size]? = some (.cells #[iv y.kind, iv y.var, .slice y.A y.sub.length y.c] 24) from (G42.out.block _ (heap_lt BX2.out) (by intro e; cases e; have := RN.out; have := SZ4.out; have := SZ5.out; omega)).trans BX2.out); obtain ⟨⟨x0, x1, x2⟩, -⟩ := cell3 XB.out; obtain ⟨⟨y0, y1, y2⟩, -⟩ := cell3 YB.out; have HN := Lib.hid (HB.out.al (.cells #[iv x.kind, iv x.var, .slice x.A x.sub.length x.c, iv y.kind, iv y.var, .slice y.A y.sub.length y.c] 24)); clear HB z0 z1 z2 zf; have HB := HN; clear HN; obtain ⟨⟨z0, z1, z2⟩, zf⟩ := HB.out.cells)))
  have H6 := Lib.hid (set3 (a' := iv 4) (b' := iv 0) (c' := .slice (some ⟨w6.heap.size, 0, none⟩) 2 2) HB.out.hz)
  have hrp : rp < w1.heap.size := by have := ML1.out; omega
  have hg1 := GG1.out.size
  have s4 := SZ4.out
  have s5 := SZ5.out
  have s6 := G42.out.size
  simp at s6
  have m1 := ML1.out
  have k6 : KP w4.heap.size (w5.alloc (.cells #[iv y.kind, iv y.var, .slice y.A y.sub.length y.c] 24)) (w6.alloc (.cells #[iv x.kind, iv x.var, .slice x.A x.sub.length x.c, iv y.kind, iv y.var, .slice y.A y.sub.length y.c] 24)) := (KP.grow (by omega) G42.out).trans (KP.gr (gr_al w6 _))
  have k5 := (KP.gr (M := w4.heap.size) (gr_al w5 (.cells #[iv y.kind, iv y.var, .slice y.A y.sub.length y.c] 24))).trans k6
  have j6 : KP w1.heap.size (w5.alloc (.cells #[iv y.kind, iv y.var, .slice y.A y.sub.length y.c] 24)) (w6.alloc (.cells #[iv x.kind, iv x.var, .slice x.A x.sub.length x.c, iv y.kind, iv y.var, .slice y.A y.sub.length y.c] 24)) := (KP.grow (by omega) G42.out).trans (KP.gr (gr_al w6 _))
  have j3 := (KP.gr (M := w1.heap.size) (gr_al w3 (.cells #[iv x.kind, iv x.var, .slice x.A x.sub.length x.c] 24))).trans ((KP.grow hrp G41.out).trans ((KP.grow hrp GG2.out).trans ((KP.gr (gr_al w5 (.cells #[iv y.kind, iv y.var, .slice y.A y.sub.length y.c] 24))).trans j6)))
  refine bodyPost_ret (results_cell_row (P := Try.prog) rfl _ _ (w.heap.size) _ _ _ _ rfl H6.out rfl rfl rfl) rfl ?_
  refine rtok_of (L := [x, y]) HB.out (al_new w6 _) ?_ (by simp) (fun z hz => ?_) (by rw [ers_cons, ers_cons, ers_nil, TX1.out.2.2, TX2.out.2.2]) rfl _ _ _ rfl
  · omega
  · simp only [List.mem_cons, List.not_mem_nil, or_false] at hz
    rcases hz with rfl | rfl
    · exact ⟨w1.heap.size, m1, j3.rd TX1.out.1 TX1.out.2.1, TX1.out.2.1⟩
    · exact ⟨w4.heap.size, by omega, k5.rd TX2.out.1 TX2.out.2.1, TX2.out.2.1⟩
end Go.Proofs.Ytjlmhfdigoogfaa

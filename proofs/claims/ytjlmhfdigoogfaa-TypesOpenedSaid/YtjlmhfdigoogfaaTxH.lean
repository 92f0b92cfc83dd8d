/- Walks: the reference's reading of a type (77). -/
import Derived.Test.YtjlmhfdigoogfaaTxG
namespace Go.Proofs.Ytjlmhfdigoogfaa
open Go.RowKit

theorem rb_yes {s p r : T} (h : cut p s = some r) (w : World) : Calls Try.prog 92 #[tv s, tv p] w fun e w' => e = .returned (.bool true) ∧ w' = w := by
  have := rbegins_any s p w
  rwa [show p.isPrefixOf s = true from by cases hb : p.isPrefixOf s with
    | true => rfl
    | false => rw [cut_no hb] at h; cases h] at this
theorem rb_not {s p : T} (h : cut p s = none) (w : World) : Calls Try.prog 92 #[tv s, tv p] w fun e w' => e = .returned (.bool false) ∧ w' = w := by
  have := rbegins_any s p w
  rwa [show p.isPrefixOf s = false from by cases hb : p.isPrefixOf s with
    | false => rfl
    | true => rw [cut_yes hb] at h; cases h] at this
/-- The box of the result. -/
structure RC (w V : World) : Prop where
  gr : Gr w V
  hz : V.heap[w.heap.size]? = some (.cells #[iv 0, iv 0, .slice none 0 0] 24 (0, 0))
theorem RC.grow {w V V' : World} (h : RC w V) (g : Gr V V') : RC w V' := ⟨h.gr.trans g, gr_h g h.hz⟩
theorem RC.first (w : World) : RC w (w.alloc (.cells #[iv 0, iv 0, .slice none 0 0] 24)) := ⟨gr_al _ _, al_new _ _⟩
theorem RC.out {w V : World} (h : RC w V) (a b d : Value) : Gr w (((V.setCell ⟨w.heap.size, 0, none⟩ a).setCell ⟨w.heap.size, 1, none⟩ b).setCell ⟨w.heap.size, 2, none⟩ d) := gr_cell (gr_cell (gr_cell h.gr (Nat.le_refl _) _) (Nat.le_refl _) _) (Nat.le_refl _) _
/-- A type was read. -/
def RRok (t : PT) (n : Nat) (w : World) (e : Ending) (w' : World) : Prop := Gr w w' ∧ ∃ v, e = .returned (.tuple #[v, iv n]) ∧ TyR (w.heap.size ≤ ·) t w' v
/-- None was read. -/
def RRno (w : World) (e : Ending) (w' : World) : Prop := e = .returned (.tuple #[.agg #[iv 0, iv 0, .slice none 0 0], iv 0]) ∧ Gr w w'
theorem rrok_flat {w w' : World} {k n : Int} {m : Nat} {e : Ending} (h : e = .returned (.tuple #[.agg #[iv k, iv n, .slice none 0 0], iv m]) ∧ Gr w w') : RRok (.mk k n []) m w e w' := ⟨h.2, _, h.1, TyR.flat _ _ _ _⟩
theorem rrok_of {w w' : World} {K m : Nat} {V : World} {L : List Ty} {t : PT} {n : Int} {e : Ending} (h : RC w V) (hK : V.heap[K]? = some (.cells (L.flatMap Ty.cs).toArray 24 (0, 0))) (hk : w.heap.size < K) (hl : L.length ≤ 1000) (hs : ∀ x ∈ L, ∃ M, w.heap.size < M ∧ x.Rd V ∧ TIn (M ≤ ·) x.A x.sub) (ht : .mk n 0 (ers L) = t) (hv : e = .returned (.tuple #[.agg #[iv n, iv 0, .slice (some ⟨K, 0, none⟩) L.length L.length], iv m])) (a b d : Value) (hw : w' = ((V.setCell ⟨w.heap.size, 0, none⟩ a).setCell ⟨w.heap.size, 1, none⟩ b).setCell ⟨w.heap.size, 2, none⟩ d) : RRok t m w e w' := by
  subst hw hv ht
  refine ⟨h.out a b d, _, rfl, mkT L n (Nat.le_of_lt hk) (h_other (h_other (h_other hK (by omega) _) (by omega) _) (by omega) _) hl fun x hx => ?_⟩
  obtain ⟨M, hM, h2, h3⟩ := hs x hx
  exact ⟨(((KP.cell hM a).trans (KP.cell hM b)).trans (KP.cell hM d)).rd h2 h3, h3.mono fun k hk => by omega⟩
attribute [local irreducible] Calls in
set_option maxRecDepth 100000 in
set_option maxHeartbeats 2000000 in
theorem rr_limit (s : T) (c : Int) (hc : 200 < c) (w : World) : Calls Try.prog 77 #[tv s, iv c] w (RRno w) := by
  have HB := Lib.hid (RC.first w)
  obtain ⟨⟨z0, z1, z2⟩, zf⟩ := cell3 HB.out.hz
  go_enter Try.func77, Try.ntmps77
  go_wp2
  exact bodyPost_ret (results_row_tmp (P := Try.prog) rfl _ _ (w.heap.size) _ _ _ _ rfl rfl (al_new w (.cells #[iv 0, iv 0, .slice none 0 0] 24)) rfl rfl rfl) rfl ⟨rfl, gr_al _ _⟩
attribute [local irreducible] Calls in
set_option maxRecDepth 100000 in
set_option maxHeartbeats 2000000 in
theorem rr_int (s : T) (c : Int) (hc : 0 ≤ c) (hc2 : c ≤ 200) (r : T) (C1 : Hid (cut sInt s = some r)) (w : World) : Calls Try.prog 77 #[tv s, iv c] w (RRok (.mk 1 0 []) 3 w) := by
  have HB := Lib.hid (RC.first w)
  obtain ⟨⟨z0, z1, z2⟩, zf⟩ := cell3 HB.out.hz
  go_enter Try.func77, Try.ntmps77
  go_wp2_with ((first | (go_at_call 92; refine (rb_yes C1.out _).mono ?_; rintro e w1 ⟨rfl, rfl⟩)))
  exact bodyPost_ret (results_row_tmp (P := Try.prog) rfl _ _ (w.heap.size) _ _ _ _ rfl rfl (al_new w (.cells #[iv 1, iv 0, .slice none 0 0] 24)) rfl rfl rfl) rfl (rrok_flat ⟨rfl, gr_al _ _⟩)
attribute [local irreducible] Calls in
set_option maxRecDepth 100000 in
set_option maxHeartbeats 2000000 in
theorem rr_bool (s : T) (c : Int) (hc : 0 ≤ c) (hc2 : c ≤ 200) (r : T) (C1 : Hid (cut sInt s = none)) (C2 : Hid (cut sBool s = some r)) (w : World) : Calls Try.prog 77 #[tv s, iv c] w (RRok (.mk 2 0 []) 4 w) := by
  have HB := Lib.hid (RC.first w)
  obtain ⟨⟨z0, z1, z2⟩, zf⟩ := cell3 HB.out.hz
  go_enter Try.func77, Try.ntmps77
  go_wp2_with ((first | (go_at_call 92; refine (rb_not C1.out _).mono ?_; rintro e w1 ⟨rfl, rfl⟩) | (go_at_call 92; refine (rb_yes C2.out _).mono ?_; rintro e w1 ⟨rfl, rfl⟩)))
  exact bodyPost_ret (results_row_tmp (P := Try.prog) rfl _ _ (w.heap.size) _ _ _ _ rfl rfl (al_new w (.cells #[iv 2, iv 0, .slice none 0 0] 24)) rfl rfl rfl) rfl (rrok_flat ⟨rfl, gr_al _ _⟩)
attribute [local irreducible] Calls in
set_option maxRecDepth 100000 in
set_option maxHeartbeats 2000000 in
theorem rr_var (ch : UInt8) (q : T) (c : Int) (hc : 0 ≤ c) (hc2 : c ≤ 200) (C1 : Hid (cut sInt (ch :: q) = none)) (C2 : Hid (cut sBool (ch :: q) = none)) (hb : 97 ≤ ch.toNat) (hb2 : ch.toNat ≤ 122) (w : World) : Calls Try.prog 77 #[tv (ch :: q), iv c] w (RRok (vr ((ch.toNat : Int) - 97)) 1 w) := by
  have HB := Lib.hid (RC.first w)
  obtain ⟨⟨z0, z1, z2⟩, zf⟩ := cell3 HB.out.hz
  have hx : ∀ h, (⟨(ch :: q).toArray⟩ : ByteArray)[0]'h = ch := fun _ => rfl
  go_enter Try.func77, Try.ntmps77
  go_wp2_with ((first | (go_at_call 92; refine (rb_not C1.out _).mono ?_; rintro e w1 ⟨rfl, rfl⟩) | (go_at_call 92; refine (rb_not C2.out _).mono ?_; rintro e w1 ⟨rfl, rfl⟩) | (go_at_call 26; refine (var_any _ _).mono ?_; rintro e w2 ⟨rfl, g⟩; have HN := Lib.hid (HB.out.grow g); clear HB g; have HB := HN; clear HN; obtain ⟨⟨z0, z1, z2⟩, zf⟩ := cell3 HB.out.hz)))
  have H6 := Lib.hid (set3 (a' := iv 5) (b' := iv ((ch.toNat : Int) - 97)) (c' := .slice none 0 0) HB.out.hz)
  exact bodyPost_ret (results_row_tmp (P := Try.prog) rfl _ _ (w.heap.size) _ _ _ _ rfl rfl H6.out rfl rfl rfl) rfl (rrok_flat ⟨rfl, HB.out.out _ _ _⟩)
attribute [local irreducible] Calls in
set_option maxRecDepth 100000 in
set_option maxHeartbeats 2000000 in
theorem rr_empty (c : Int) (hc : 0 ≤ c) (hc2 : c ≤ 200) (C1 : Hid (cut sInt [] = none)) (C2 : Hid (cut sBool [] = none)) (C3 : Hid (cut sList [] = none)) (C4 : Hid (cut [40] [] = none)) (w : World) : Calls Try.prog 77 #[tv [], iv c] w (RRno w) := by
  have HB := Lib.hid (RC.first w)
  obtain ⟨⟨z0, z1, z2⟩, zf⟩ := cell3 HB.out.hz
  go_enter Try.func77, Try.ntmps77
  go_wp2_with ((first | (go_at_call 92; refine (rb_not C1.out _).mono ?_; rintro e w1 ⟨rfl, rfl⟩) | (go_at_call 92; refine (rb_not C2.out _).mono ?_; rintro e w1 ⟨rfl, rfl⟩) | (go_at_call 92; refine (rb_not C3.out _).mono ?_; rintro e w1 ⟨rfl, rfl⟩) | (go_at_call 92; refine (rb_not C4.out _).mono ?_; rintro e w1 ⟨rfl, rfl⟩)))
  exact bodyPost_ret (results_row_tmp (P := Try.prog) rfl _ _ (w.heap.size) _ _ _ _ rfl rfl (al_new w (.cells #[iv 0, iv 0, .slice none 0 0] 24)) rfl rfl rfl) rfl ⟨rfl, gr_al _ _⟩
attribute [local irreducible] Calls in
set_option maxRecDepth 100000 in
set_option maxHeartbeats 2000000 in
theorem rr_low (ch : UInt8) (q : T) (c : Int) (hc : 0 ≤ c) (hc2 : c ≤ 200) (C1 : Hid (cut sInt (ch :: q) = none)) (C2 : Hid (cut sBool (ch :: q) = none)) (C3 : Hid (cut sList (ch :: q) = none)) (C4 : Hid (cut [40] (ch :: q) = none)) (hb : ch.toNat < 97) (w : World) : Calls Try.prog 77 #[tv (ch :: q), iv c] w (RRno w) := by
  have HB := Lib.hid (RC.first w)
  obtain ⟨⟨z0, z1, z2⟩, zf⟩ := cell3 HB.out.hz
  have hx : ∀ h, (⟨(ch :: q).toArray⟩ : ByteArray)[0]'h = ch := fun _ => rfl
  go_enter Try.func77, Try.ntmps77
  go_wp2_with ((first | (go_at_call 92; refine (rb_not C1.out _).mono ?_; rintro e w1 ⟨rfl, rfl⟩) | (go_at_call 92; refine (rb_not C2.out _).mono ?_; rintro e w1 ⟨rfl, rfl⟩) | (go_at_call 92; refine (rb_not C3.out _).mono ?_; rintro e w1 ⟨rfl, rfl⟩) | (go_at_call 92; refine (rb_not C4.out _).mono ?_; rintro e w1 ⟨rfl, rfl⟩)))
  exact bodyPost_ret (results_row_tmp (P := Try.prog) rfl _ _ (w.heap.size) _ _ _ _ rfl rfl (al_new w (.cells #[iv 0, iv 0, .slice none 0 0] 24)) rfl rfl rfl) rfl ⟨rfl, gr_al _ _⟩
attribute [local irreducible] Calls in
set_option maxRecDepth 100000 in
set_option maxHeartbeats 2000000 in
theorem rr_high (ch : UInt8) (q : T) (c : Int) (hc : 0 ≤ c) (hc2 : c ≤ 200) (C1 : Hid (cut sInt (ch :: q) = none)) (C2 : Hid (cut sBool (ch :: q) = none)) (C3 : Hid (cut sList (ch :: q) = none)) (C4 : Hid (cut [40] (ch :: q) = none)) (hb : 122 < ch.toNat) (w : World) : Calls Try.prog 77 #[tv (ch :: q), iv c] w (RRno w) := by
  have HB := Lib.hid (RC.first w)
  obtain ⟨⟨z0, z1, z2⟩, zf⟩ := cell3 HB.out.hz
  have hx : ∀ h, (⟨(ch :: q).toArray⟩ : ByteArray)[0]'h = ch := fun _ => rfl
  go_enter Try.func77, Try.ntmps77
  go_wp2_with ((first | (go_at_call 92; refine (rb_not C1.out _).mono ?_; rintro e w1 ⟨rfl, rfl⟩) | (go_at_call 92; refine (rb_not C2.out _).mono ?_; rintro e w1 ⟨rfl, rfl⟩) | (go_at_call 92; refine (rb_not C3.out _).mono ?_; rintro e w1 ⟨rfl, rfl⟩) | (go_at_call 92; refine (rb_not C4.out _).mono ?_; rintro e w1 ⟨rfl, rfl⟩)))
  exact bodyPost_ret (results_row_tmp (P := Try.prog) rfl _ _ (w.heap.size) _ _ _ _ rfl rfl (al_new w (.cells #[iv 0, iv 0, .slice none 0 0] 24)) rfl rfl rfl) rfl ⟨rfl, gr_al _ _⟩
end Go.Proofs.Ytjlmhfdigoogfaa

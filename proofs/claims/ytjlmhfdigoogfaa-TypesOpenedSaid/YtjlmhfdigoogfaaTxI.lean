/- Walks: the reference's reading of a type (77): lists and functions. -/
import Derived.Test.YtjlmhfdigoogfaaTxH
namespace Go.Proofs.Ytjlmhfdigoogfaa
open Go.RowKit

attribute [local irreducible] Calls in
set_option maxRecDepth 100000 in
set_option maxHeartbeats 2000000 in
theorem rrl_1 (q : T) (hql : q.length ≤ 1000000) (c : Int) (hc : 0 ≤ c) (hc2 : c ≤ 200) (C1 : Hid (cut sInt (40 :: q) = none)) (C2 : Hid (cut sBool (40 :: q) = none)) (r : T) (C3 : Hid (cut sList (40 :: q) = some r)) (CH1 : Hid (∀ V, Calls Try.prog 77 #[tv r, iv (c + 1)] V (RRno V)))  (w : World) : Calls Try.prog 77 #[tv (40 :: q), iv c] w (RRno w) := by
  have HB := Lib.hid (RC.first w)
  obtain ⟨⟨z0, z1, z2⟩, zf⟩ := cell3 HB.out.hz
  have hx : ∀ h, (⟨(40 :: q).toArray⟩ : ByteArray)[0]'h = 40 := fun _ => rfl
  have hy : (⟨(40 :: q).toArray⟩ : ByteArray).extract 6 (q.length + 1) = ⟨r.toArray⟩ := by
    rw [show q.length + 1 = (40 :: q : T).length from rfl, ext_drop, show (40 :: q : T).drop 6 = r from by have := cut_some C3.out; rw [this]; rfl]
  have hl6 : (6 : Int) ≤ (q.length : Int) + 1 := by
    have := cut_len C3.out
    simp at this
    omega
  go_enter Try.func77, Try.ntmps77
  go_wp2_with ((first | (go_at_call 92; refine (rb_not C1.out _).mono ?_; rintro e w1 ⟨rfl, rfl⟩) | (go_at_call 92; refine (rb_not C2.out _).mono ?_; rintro e w1 ⟨rfl, rfl⟩) | (go_at_call 92; refine (rb_yes C3.out _).mono ?_; rintro e w1 ⟨rfl, rfl⟩) | (go_at_call 77; refine (CH1.out _).mono ?_; rintro e w3 ⟨rfl, g⟩; have HN := Lib.hid ((HB.out.grow g).grow (gr_al w3 (.cells #[iv 0, iv 0, .slice none 0 0] 24))); clear g; clear HB z0 z1 z2 zf; have HB := HN; clear HN; obtain ⟨⟨z0, z1, z2⟩, zf⟩ := cell3 HB.out.hz)))
  have H6 := Lib.hid (set3 (a' := iv 0) (b' := iv 0) (c' := .slice none 0 0) HB.out.hz)
  exact bodyPost_ret (results_row_tmp (P := Try.prog) rfl _ _ (w.heap.size) _ _ _ _ rfl rfl H6.out rfl rfl rfl) rfl ⟨rfl, HB.out.out _ _ _⟩
attribute [local irreducible] Calls in
set_option maxRecDepth 100000 in
set_option maxHeartbeats 2000000 in
theorem rrl_2 (q : T) (hql : q.length ≤ 1000000) (c : Int) (hc : 0 ≤ c) (hc2 : c ≤ 200) (C1 : Hid (cut sInt (40 :: q) = none)) (C2 : Hid (cut sBool (40 :: q) = none)) (r : T) (C3 : Hid (cut sList (40 :: q) = some r)) (t : PT) (m1 : Nat) (CH1 : Hid (∀ V, Calls Try.prog 77 #[tv r, iv (c + 1)] V (RRok t m1 V))) (hm1 : 0 < m1) (r1 : T) (D1 : Hid ((40 :: q : T).drop (6 + m1) = r1)) (hb1 : 6 + m1 ≤ q.length + 1) (C5 : Hid (cut [41] r1 = none)) (w : World) : Calls Try.prog 77 #[tv (40 :: q), iv c] w (RRno w) := by
  have HB := Lib.hid (RC.first w)
  obtain ⟨⟨z0, z1, z2⟩, zf⟩ := cell3 HB.out.hz
  have hx : ∀ h, (⟨(40 :: q).toArray⟩ : ByteArray)[0]'h = 40 := fun _ => rfl
  have hy : (⟨(40 :: q).toArray⟩ : ByteArray).extract 6 (q.length + 1) = ⟨r.toArray⟩ := by
    rw [show q.length + 1 = (40 :: q : T).length from rfl, ext_drop, show (40 :: q : T).drop 6 = r from by have := cut_some C3.out; rw [this]; rfl]
  have hl6 : (6 : Int) ≤ (q.length : Int) + 1 := by
    have := cut_len C3.out
    simp at this
    omega
  have hy1 : (⟨(40 :: q).toArray⟩ : ByteArray).extract (6 + m1) (q.length + 1) = ⟨r1.toArray⟩ := by
    rw [show q.length + 1 = (40 :: q : T).length from rfl, ext_drop, D1.out]
  have i1 : ((6 : Int) + (m1 : Int)).toNat = 6 + m1 := by omega
  have i2 : (6 : Int) + (m1 : Int) ≤ (q.length : Int) + 1 := by omega
  go_enter Try.func77, Try.ntmps77
  go_wp2_with ((first | (go_at_call 92; refine (rb_not C1.out _).mono ?_; rintro e w1 ⟨rfl, rfl⟩) | (go_at_call 92; refine (rb_not C2.out _).mono ?_; rintro e w1 ⟨rfl, rfl⟩) | (go_at_call 92; refine (rb_yes C3.out _).mono ?_; rintro e w1 ⟨rfl, rfl⟩) | (go_at_call 77; refine (CH1.out _).mono ?_; rintro e w3 ⟨g, v, rfl, ⟨x, rfl, hx9, hi, he⟩⟩; unfold Ty.v; have ML1 := Lib.hid (heap_lt HB.out.hz); have TX1 := Lib.hid (And.intro hx9 (And.intro hi he)); have GG1 := Lib.hid g; have HN := Lib.hid ((HB.out.grow g).grow (gr_al w3 (.cells #[iv x.kind, iv x.var, .slice x.A x.sub.length x.c] 24))); clear g hx9 hi he; have BX1 := Lib.hid (al_new w3 (.cells #[iv x.kind, iv x.var, .slice x.A x.sub.length x.c] 24)); clear HB z0 z1 z2 zf; have HB := HN; clear HN; obtain ⟨⟨z0, z1, z2⟩, zf⟩ := cell3 HB.out.hz) | (go_at_call 92; refine (rb_not C5.out _).mono ?_; rintro e w1 ⟨rfl, rfl⟩)))
  have H6 := Lib.hid (set3 (a' := iv 0) (b' := iv 0) (c' := .slice none 0 0) HB.out.hz)
  exact bodyPost_ret (results_row_tmp (P := Try.prog) rfl _ _ (w.heap.size) _ _ _ _ rfl rfl H6.out rfl rfl rfl) rfl ⟨rfl, HB.out.out _ _ _⟩
attribute [local irreducible] Calls in
set_option maxRecDepth 100000 in
set_option maxHeartbeats 2000000 in
theorem rrl_3 (q : T) (hql : q.length ≤ 1000000) (c : Int) (hc : 0 ≤ c) (hc2 : c ≤ 200) (C1 : Hid (cut sInt (40 :: q) = none)) (C2 : Hid (cut sBool (40 :: q) = none)) (r : T) (C3 : Hid (cut sList (40 :: q) = some r)) (t : PT) (m1 : Nat) (CH1 : Hid (∀ V, Calls Try.prog 77 #[tv r, iv (c + 1)] V (RRok t m1 V))) (hm1 : 0 < m1) (r1 : T) (D1 : Hid ((40 :: q : T).drop (6 + m1) = r1)) (hb1 : 6 + m1 ≤ q.length + 1) (r2 : T) (C5 : Hid (cut [41] r1 = some r2)) (w : World) : Calls Try.prog 77 #[tv (40 :: q), iv c] w (RRok (.mk 3 0 [t]) (7 + m1) w) := by
  have HB := Lib.hid (RC.first w)
  obtain ⟨⟨z0, z1, z2⟩, zf⟩ := cell3 HB.out.hz
  have hx : ∀ h, (⟨(40 :: q).toArray⟩ : ByteArray)[0]'h = 40 := fun _ => rfl
  have hy : (⟨(40 :: q).toArray⟩ : ByteArray).extract 6 (q.length + 1) = ⟨r.toArray⟩ := by
    rw [show q.length + 1 = (40 :: q : T).length from rfl, ext_drop, show (40 :: q : T).drop 6 = r from by have := cut_some C3.out; rw [this]; rfl]
  have hl6 : (6 : Int) ≤ (q.length : Int) + 1 := by
    have := cut_len C3.out
    simp at this
    omega
  have hy1 : (⟨(40 :: q).toArray⟩ : ByteArray).extract (6 + m1) (q.length + 1) = ⟨r1.toArray⟩ := by
    rw [show q.length + 1 = (40 :: q : T).length from rfl, ext_drop, D1.out]
  have i1 : ((6 : Int) + (m1 : Int)).toNat = 6 + m1 := by omega
  have i2 : (6 : Int) + (m1 : Int) ≤ (q.length : Int) + 1 := by omega
  go_enter Try.func77, Try.ntmps77
  go_wp2_with ((first | (go_at_call 92; refine (rb_not C1.out _).mono ?_; rintro e w1 ⟨rfl, rfl⟩) | (go_at_call 92; refine (rb_not C2.out _).mono ?_; rintro e w1 ⟨rfl, rfl⟩) | (go_at_call 92; refine (rb_yes C3.out _).mono ?_; rintro e w1 ⟨rfl, rfl⟩) | (go_at_call 77; refine (CH1.out _).mono ?_; rintro e w3 ⟨g, v, rfl, ⟨x, rfl, hx9, hi, he⟩⟩; unfold Ty.v; have ML1 := Lib.hid (heap_lt HB.out.hz); have TX1 := Lib.hid (And.intro hx9 (And.intro hi he)); have GG1 := Lib.hid g; have HN := Lib.hid ((HB.out.grow g).grow (gr_al w3 (.cells #[iv x.kind, iv x.var, .slice x.A x.sub.length x.c] 24))); clear g hx9 hi he; have BX1 := Lib.hid (al_new w3 (.cells #[iv x.kind, iv x.var, .slice x.A x.sub.length x.c] 24)); clear HB z0 z1 z2 zf; have HB := HN; clear HN; obtain ⟨⟨z0, z1, z2⟩, zf⟩ := cell3 HB.out.hz; obtain ⟨⟨x0, x1, x2⟩, -⟩ := cell3 BX1.out) | (go_at_call 92; refine (rb_yes C5.out _).mono ?_; rintro e w1 ⟨rfl, rfl⟩; have HN := Lib.hid (HB.out.grow (gr_al _ (.cells #[iv x.kind, iv x.var, .slice x.A x.sub.length x.c] 24))); clear HB z0 z1 z2 zf; have HB := HN; clear HN; obtain ⟨⟨z0, z1, z2⟩, zf⟩ := cell3 HB.out.hz)))
  have H6 := Lib.hid (set3 (a' := iv 3) (b' := iv 0) (c' := .slice (some ⟨w3.heap.size + 1, 0, none⟩) 1 1) HB.out.hz)
  have k2 := (KP.gr (M := w.heap.size + 1) (gr_al w3 (.cells #[iv x.kind, iv x.var, .slice x.A x.sub.length x.c] 24))).trans (KP.gr (gr_al (w3.alloc (.cells #[iv x.kind, iv x.var, .slice x.A x.sub.length x.c] 24)) (.cells #[iv x.kind, iv x.var, .slice x.A x.sub.length x.c] 24)))
  have hg := GG1.out.size
  simp at hg
  refine bodyPost_ret (results_row_tmp (P := Try.prog) rfl _ _ (w.heap.size) _ _ _ _ rfl rfl H6.out rfl rfl rfl) rfl ?_
  refine rrok_of (L := [x]) (K := w3.heap.size + 1) HB.out (al_at _ _ (by simp)) (by omega) (by simp) (fun y hy => ?_) (by rw [ers_cons, ers_nil, TX1.out.2.2]) rfl _ _ _ rfl
  obtain rfl := List.mem_singleton.1 hy
  have es : ∀ (W : World) (o : Obj), (W.alloc o).heap.size = W.heap.size + 1 := fun W o => by simp
  have hi := TX1.out.2.1
  simp only [es] at hi
  exact ⟨w.heap.size + 1, by omega, k2.rd TX1.out.1 hi, hi⟩
attribute [local irreducible] Calls in
set_option maxRecDepth 100000 in
set_option maxHeartbeats 2000000 in
theorem rrf_1 (q : T) (hql : q.length ≤ 1000000) (c : Int) (hc : 0 ≤ c) (hc2 : c ≤ 200) (C1 : Hid (cut sInt (40 :: q) = none)) (C2 : Hid (cut sBool (40 :: q) = none)) (r : T) (C3 : Hid (cut sList (40 :: q) = none)) (C4 : Hid (cut [40] (40 :: q) = some r)) (CH1 : Hid (∀ V, Calls Try.prog 77 #[tv r, iv (c + 1)] V (RRno V)))  (w : World) : Calls Try.prog 77 #[tv (40 :: q), iv c] w (RRno w) := by
  have HB := Lib.hid (RC.first w)
  obtain ⟨⟨z0, z1, z2⟩, zf⟩ := cell3 HB.out.hz
  have hx : ∀ h, (⟨(40 :: q).toArray⟩ : ByteArray)[0]'h = 40 := fun _ => rfl
  have hy : (⟨(40 :: q).toArray⟩ : ByteArray).extract 1 (q.length + 1) = ⟨r.toArray⟩ := by
    rw [show q.length + 1 = (40 :: q : T).length from rfl, ext_drop, show (40 :: q : T).drop 1 = r from by have := cut_some C4.out; rw [this]; rfl]
  go_enter Try.func77, Try.ntmps77
  go_wp2_with ((first | (go_at_call 92; refine (rb_not C1.out _).mono ?_; rintro e w1 ⟨rfl, rfl⟩) | (go_at_call 92; refine (rb_not C2.out _).mono ?_; rintro e w1 ⟨rfl, rfl⟩) | (go_at_call 92; refine (rb_not C3.out _).mono ?_; rintro e w1 ⟨rfl, rfl⟩) | (go_at_call 92; refine (rb_yes C4.out _).mono ?_; rintro e w1 ⟨rfl, rfl⟩) | (go_at_call 77; refine (CH1.out _).mono ?_; rintro e w3 ⟨rfl, g⟩; have HN := Lib.hid ((HB.out.grow g).grow (gr_al w3 (.cells #[iv 0, iv 0, .slice none 0 0] 24))); clear g; clear HB z0 z1 z2 zf; have HB := HN; clear HN; obtain ⟨⟨z0, z1, z2⟩, zf⟩ := cell3 HB.out.hz)))
  have H6 := Lib.hid (set3 (a' := iv 0) (b' := iv 0) (c' := .slice none 0 0) HB.out.hz)
  exact bodyPost_ret (results_row_tmp (P := Try.prog) rfl _ _ (w.heap.size) _ _ _ _ rfl rfl H6.out rfl rfl rfl) rfl ⟨rfl, HB.out.out _ _ _⟩
attribute [local irreducible] Calls in
set_option maxRecDepth 100000 in
set_option maxHeartbeats 2000000 in
theorem rrf_2 (q : T) (hql : q.length ≤ 1000000) (c : Int) (hc : 0 ≤ c) (hc2 : c ≤ 200) (C1 : Hid (cut sInt (40 :: q) = none)) (C2 : Hid (cut sBool (40 :: q) = none)) (r : T) (C3 : Hid (cut sList (40 :: q) = none)) (C4 : Hid (cut [40] (40 :: q) = some r)) (t : PT) (m1 : Nat) (CH1 : Hid (∀ V, Calls Try.prog 77 #[tv r, iv (c + 1)] V (RRok t m1 V))) (hm1 : 0 < m1) (r1 : T) (D1 : Hid ((40 :: q : T).drop (1 + m1) = r1)) (hb1 : 1 + m1 ≤ q.length + 1) (C5 : Hid (cut sTo r1 = none)) (w : World) : Calls Try.prog 77 #[tv (40 :: q), iv c] w (RRno w) := by
  have HB := Lib.hid (RC.first w)
  obtain ⟨⟨z0, z1, z2⟩, zf⟩ := cell3 HB.out.hz
  have hx : ∀ h, (⟨(40 :: q).toArray⟩ : ByteArray)[0]'h = 40 := fun _ => rfl
  have hy : (⟨(40 :: q).toArray⟩ : ByteArray).extract 1 (q.length + 1) = ⟨r.toArray⟩ := by
    rw [show q.length + 1 = (40 :: q : T).length from rfl, ext_drop, show (40 :: q : T).drop 1 = r from by have := cut_some C4.out; rw [this]; rfl]
  have hy1 : (⟨(40 :: q).toArray⟩ : ByteArray).extract (1 + m1) (q.length + 1) = ⟨r1.toArray⟩ := by
    rw [show q.length + 1 = (40 :: q : T).length from rfl, ext_drop, D1.out]
  have i1 : ((1 : Int) + (m1 : Int)).toNat = 1 + m1 := by omega
  have i2 : (1 : Int) + (m1 : Int) ≤ (q.length : Int) + 1 := by omega
  go_enter Try.func77, Try.ntmps77
  go_wp2_with ((first | (go_at_call 92; refine (rb_not C1.out _).mono ?_; rintro e w1 ⟨rfl, rfl⟩) | (go_at_call 92; refine (rb_not C2.out _).mono ?_; rintro e w1 ⟨rfl, rfl⟩) | (go_at_call 92; refine (rb_not C3.out _).mono ?_; rintro e w1 ⟨rfl, rfl⟩) | (go_at_call 92; refine (rb_yes C4.out _).mono ?_; rintro e w1 ⟨rfl, rfl⟩) | (go_at_call 77; refine (CH1.out _).mono ?_; rintro e w3 ⟨g, v, rfl, ⟨x, rfl, hx9, hi, he⟩⟩; unfold Ty.v; have ML1 := Lib.hid (heap_lt HB.out.hz); have TX1 := Lib.hid (And.intro hx9 (And.intro hi he)); have GG1 := Lib.hid g; have HN := Lib.hid ((HB.out.grow g).grow (gr_al w3 (.cells #[iv x.kind, iv x.var, .slice x.A x.sub.length x.c] 24))); clear g hx9 hi he; have BX1 := Lib.hid (al_new w3 (.cells #[iv x.kind, iv x.var, .slice x.A x.sub.length x.c] 24)); clear HB z0 z1 z2 zf; have HB := HN; clear HN; obtain ⟨⟨z0, z1, z2⟩, zf⟩ := cell3 HB.out.hz) | (go_at_call 92; refine (rb_not C5.out _).mono ?_; rintro e w1 ⟨rfl, rfl⟩)))
  have H6 := Lib.hid (set3 (a' := iv 0) (b' := iv 0) (c' := .slice none 0 0) HB.out.hz)
  exact bodyPost_ret (results_row_tmp (P := Try.prog) rfl _ _ (w.heap.size) _ _ _ _ rfl rfl H6.out rfl rfl rfl) rfl ⟨rfl, HB.out.out _ _ _⟩
attribute [local irreducible] Calls in
set_option maxRecDepth 100000 in
set_option maxHeartbeats 2000000 in
theorem rrf_3 (q : T) (hql : q.length ≤ 1000000) (c : Int) (hc : 0 ≤ c) (hc2 : c ≤ 200) (C1 : Hid (cut sInt (40 :: q) = none)) (C2 : Hid (cut sBool (40 :: q) = none)) (r : T) (C3 : Hid (cut sList (40 :: q) = none)) (C4 : Hid (cut [40] (40 :: q) = some r)) (t : PT) (m1 : Nat) (CH1 : Hid (∀ V, Calls Try.prog 77 #[tv r, iv (c + 1)] V (RRok t m1 V))) (hm1 : 0 < m1) (r1 : T) (D1 : Hid ((40 :: q : T).drop (1 + m1) = r1)) (r2 : T) (C5 : Hid (cut sTo r1 = some r2)) (D2 : Hid ((40 :: q : T).drop (5 + m1) = r2)) (hb2 : 5 + m1 ≤ q.length + 1) (CH2 : Hid (∀ V, Calls Try.prog 77 #[tv r2, iv (c + 1)] V (RRno V)))  (w : World) : Calls Try.prog 77 #[tv (40 :: q), iv c] w (RRno w) := by
  have HB := Lib.hid (RC.first w)
  obtain ⟨⟨z0, z1, z2⟩, zf⟩ := cell3 HB.out.hz
  have hx : ∀ h, (⟨(40 :: q).toArray⟩ : ByteArray)[0]'h = 40 := fun _ => rfl
  have hy : (⟨(40 :: q).toArray⟩ : ByteArray).extract 1 (q.length + 1) = ⟨r.toArray⟩ := by
    rw [show q.length + 1 = (40 :: q : T).length from rfl, ext_drop, show (40 :: q : T).drop 1 = r from by have := cut_some C4.out; rw [this]; rfl]
  have hy1 : (⟨(40 :: q).toArray⟩ : ByteArray).extract (1 + m1) (q.length + 1) = ⟨r1.toArray⟩ := by
    rw [show q.length + 1 = (40 :: q : T).length from rfl, ext_drop, D1.out]
  have i1 : ((1 : Int) + (m1 : Int)).toNat = 1 + m1 := by omega
  have i2 : (1 : Int) + (m1 : Int) ≤ (q.length : Int) + 1 := by omega
  have hy2 : (⟨(40 :: q).toArray⟩ : ByteArray).extract (5 + m1) (q.length + 1) = ⟨r2.toArray⟩ := by
    rw [show q.length + 1 = (40 :: q : T).length from rfl, ext_drop, D2.out]
  have j1 : ((5 : Int) + (m1 : Int)).toNat = 5 + m1 := by omega
  have j2 : (5 : Int) + (m1 : Int) ≤ (q.length : Int) + 1 := by omega
  go_enter Try.func77, Try.ntmps77
  go_wp2_with ((first | (go_at_call 92; refine (rb_not C1.out _).mono ?_; rintro e w1 ⟨rfl, rfl⟩) | (go_at_call 92; refine (rb_not C2.out _).mono ?_; rintro e w1 ⟨rfl, rfl⟩) | (go_at_call 92; refine (rb_not C3.out _).mono ?_; rintro e w1 ⟨rfl, rfl⟩) | (go_at_call 92; refine (rb_yes C4.out _).mono ?_; rintro e w1 ⟨rfl, rfl⟩) | (go_at_call 77; refine (CH1.out _).mono ?_; rintro e w3 ⟨g, v, rfl, ⟨x, rfl, hx9, hi, he⟩⟩; unfold Ty.v; have ML1 := Lib.hid (heap_lt HB.out.hz); have TX1 := Lib.hid (And.intro hx9 (And.intro hi he)); have GG1 := Lib.hid g; have HN := Lib.hid ((HB.out.grow g).grow (gr_al w3 (.cells #[iv x.kind, iv x.var, .slice x.A x.sub.length x.c] 24))); clear g hx9 hi he; have BX1 := Lib.hid (al_new w3 (.cells #[iv x.kind, iv x.var, .slice x.A x.sub.length x.c] 24)); clear HB z0 z1 z2 zf; have HB := HN; clear HN; obtain ⟨⟨z0, z1, z2⟩, zf⟩ := cell3 HB.out.hz) | (go_at_call 92; refine (rb_yes C5.out _).mono ?_; rintro e w1 ⟨rfl, rfl⟩) | (go_at_call 77; refine (CH2.out _).mono ?_; rintro e w5 ⟨rfl, g⟩; have HN := Lib.hid ((HB.out.grow g).grow (gr_al w5 (.cells #[iv 0, iv 0, .slice none 0 0] 24))); clear g; clear HB z0 z1 z2 zf; have HB := HN; clear HN; obtain ⟨⟨z0, z1, z2⟩, zf⟩ := cell3 HB.out.hz)))
  have H6 := Lib.hid (set3 (a' := iv 0) (b' := iv 0) (c' := .slice none 0 0) HB.out.hz)
  exact bodyPost_ret (results_row_tmp (P := Try.prog) rfl _ _ (w.heap.size) _ _ _ _ rfl rfl H6.out rfl rfl rfl) rfl ⟨rfl, HB.out.out _ _ _⟩
attribute [local irreducible] Calls in
set_option maxRecDepth 100000 in
set_option maxHeartbeats 2000000 in
theorem rrf_4 (q : T) (hql : q.length ≤ 1000000) (c : Int) (hc : 0 ≤ c) (hc2 : c ≤ 200) (C1 : Hid (cut sInt (40 :: q) = none)) (C2 : Hid (cut sBool (40 :: q) = none)) (r : T) (C3 : Hid (cut sList (40 :: q) = none)) (C4 : Hid (cut [40] (40 :: q) = some r)) (t : PT) (m1 : Nat) (CH1 : Hid (∀ V, Calls Try.prog 77 #[tv r, iv (c + 1)] V (RRok t m1 V))) (hm1 : 0 < m1) (r1 : T) (D1 : Hid ((40 :: q : T).drop (1 + m1) = r1)) (r2 : T) (C5 : Hid (cut sTo r1 = some r2)) (D2 : Hid ((40 :: q : T).drop (5 + m1) = r2)) (hb2 : 5 + m1 ≤ q.length + 1) (u : PT) (m2 : Nat) (CH2 : Hid (∀ V, Calls Try.prog 77 #[tv r2, iv (c + 1)] V (RRok u m2 V))) (hm2 : 0 < m2) (r3 : T) (D3 : Hid ((40 :: q : T).drop (5 + m1 + m2) = r3)) (hb3 : 5 + m1 + m2 ≤ q.length + 1) (C6 : Hid (cut [41] r3 = none)) (w : World) : Calls Try.prog 77 #[tv (40 :: q), iv c] w (RRno w) := by
  have HB := Lib.hid (RC.first w)
  obtain ⟨⟨z0, z1, z2⟩, zf⟩ := cell3 HB.out.hz
  have hx : ∀ h, (⟨(40 :: q).toArray⟩ : ByteArray)[0]'h = 40 := fun _ => rfl
  have hy : (⟨(40 :: q).toArray⟩ : ByteArray).extract 1 (q.length + 1) = ⟨r.toArray⟩ := by
    rw [show q.length + 1 = (40 :: q : T).length from rfl, ext_drop, show (40 :: q : T).drop 1 = r from by have := cut_some C4.out; rw [this]; rfl]
  have hy1 : (⟨(40 :: q).toArray⟩ : ByteArray).extract (1 + m1) (q.length + 1) = ⟨r1.toArray⟩ := by
    rw [show q.length + 1 = (40 :: q : T).length from rfl, ext_drop, D1.out]
  have i1 : ((1 : Int) + (m1 : Int)).toNat = 1 + m1 := by omega
  have i2 : (1 : Int) + (m1 : Int) ≤ (q.length : Int) + 1 := by omega
  have hy2 : (⟨(40 :: q).toArray⟩ : ByteArray).extract (5 + m1) (q.length + 1) = ⟨r2.toArray⟩ := by
    rw [show q.length + 1 = (40 :: q : T).length from rfl, ext_drop, D2.out]
  have j1 : ((5 : Int) + (m1 : Int)).toNat = 5 + m1 := by omega
  have j2 : (5 : Int) + (m1 : Int) ≤ (q.length : Int) + 1 := by omega
  have hy3 : (⟨(40 :: q).toArray⟩ : ByteArray).extract (5 + m1 + m2) (q.length + 1) = ⟨r3.toArray⟩ := by
    rw [show q.length + 1 = (40 :: q : T).length from rfl, ext_drop, D3.out]
  have l1 : ((5 : Int) + (m1 : Int) + (m2 : Int)).toNat = 5 + m1 + m2 := by omega
  have l2 : (5 : Int) + (m1 : Int) + (m2 : Int) ≤ (q.length : Int) + 1 := by omega
  go_enter Try.func77, Try.ntmps77
  go_wp2_with ((first | (go_at_call 92; refine (rb_not C1.out _).mono ?_; rintro e w1 ⟨rfl, rfl⟩) | (go_at_call 92; refine (rb_not C2.out _).mono ?_; rintro e w1 ⟨rfl, rfl⟩) | (go_at_call 92; refine (rb_not C3.out _).mono ?_; rintro e w1 ⟨rfl, rfl⟩) | (go_at_call 92; refine (rb_yes C4.out _).mono ?_; rintro e w1 ⟨rfl, rfl⟩) | (go_at_call 77; refine (CH1.out _).mono ?_; rintro e w3 ⟨g, v, rfl, ⟨x, rfl, hx9, hi, he⟩⟩; unfold Ty.v; have ML1 := Lib.hid (heap_lt HB.out.hz); have TX1 := Lib.hid (And.intro hx9 (And.intro hi he)); have GG1 := Lib.hid g; have HN := Lib.hid ((HB.out.grow g).grow (gr_al w3 (.cells #[iv x.kind, iv x.var, .slice x.A x.sub.length x.c] 24))); clear g hx9 hi he; have BX1 := Lib.hid (al_new w3 (.cells #[iv x.kind, iv x.var, .slice x.A x.sub.length x.c] 24)); clear HB z0 z1 z2 zf; have HB := HN; clear HN; obtain ⟨⟨z0, z1, z2⟩, zf⟩ := cell3 HB.out.hz) | (go_at_call 92; refine (rb_yes C5.out _).mono ?_; rintro e w1 ⟨rfl, rfl⟩) | (go_at_call 77; refine (CH2.out _).mono ?_; rintro e w5 ⟨g, v, rfl, ⟨y, rfl, hx9, hi, he⟩⟩; unfold Ty.v; have ML2 := Lib.hid (heap_lt HB.out.hz); have TX2 := Lib.hid (And.intro hx9 (And.intro hi he)); have GG2 := Lib.hid g; have HN := Lib.hid ((HB.out.grow g).grow (gr_al w5 (.cells #[iv y.kind, iv y.var, .slice y.A y.sub.length y.c] 24))); clear g hx9 hi he; have BX2 := Lib.hid (al_new w5 (.cells #[iv y.kind, iv y.var, .slice y.A y.sub.length y.c] 24)); clear HB z0 z1 z2 zf; have HB := HN; clear HN; obtain ⟨⟨z0, z1, z2⟩, zf⟩ := cell3 HB.out.hz) | (go_at_call 92; refine (rb_not C6.out _).mono ?_; rintro e w1 ⟨rfl, rfl⟩)))
  have H6 := Lib.hid (set3 (a' := iv 0) (b' := iv 0) (c' := .slice none 0 0) HB.out.hz)
  exact bodyPost_ret (results_row_tmp (P := Try.prog) rfl _ _ (w.heap.size) _ _ _ _ rfl rfl H6.out rfl rfl rfl) rfl ⟨rfl, HB.out.out _ _ _⟩
attribute [local irreducible] Calls in
set_option maxRecDepth 100000 in
set_option maxHeartbeats 2000000 in
theorem rrf_5 (q : T) (hql : q.length ≤ 1000000) (c : Int) (hc : 0 ≤ c) (hc2 : c ≤ 200) (C1 : Hid (cut sInt (40 :: q) = none)) (C2 : Hid (cut sBool (40 :: q) = none)) (r : T) (C3 : Hid (cut sList (40 :: q) = none)) (C4 : Hid (cut [40] (40 :: q) = some r)) (t : PT) (m1 : Nat) (CH1 : Hid (∀ V, Calls Try.prog 77 #[tv r, iv (c + 1)] V (RRok t m1 V))) (hm1 : 0 < m1) (r1 : T) (D1 : Hid ((40 :: q : T).drop (1 + m1) = r1)) (r2 : T) (C5 : Hid (cut sTo r1 = some r2)) (D2 : Hid ((40 :: q : T).drop (5 + m1) = r2)) (hb2 : 5 + m1 ≤ q.length + 1) (u : PT) (m2 : Nat) (CH2 : Hid (∀ V, Calls Try.prog 77 #[tv r2, iv (c + 1)] V (RRok u m2 V))) (hm2 : 0 < m2) (r3 : T) (D3 : Hid ((40 :: q : T).drop (5 + m1 + m2) = r3)) (hb3 : 5 + m1 + m2 ≤ q.length + 1) (r4 : T) (C6 : Hid (cut [41] r3 = some r4)) (w : World) : Calls Try.prog 77 #[tv (40 :: q), iv c] w (RRok (.mk 4 0 [t, u]) (6 + m1 + m2) w) := by
  have HB := Lib.hid (RC.first w)
  obtain ⟨⟨z0, z1, z2⟩, zf⟩ := cell3 HB.out.hz
  have hx : ∀ h, (⟨(40 :: q).toArray⟩ : ByteArray)[0]'h = 40 := fun _ => rfl
  have hy : (⟨(40 :: q).toArray⟩ : ByteArray).extract 1 (q.length + 1) = ⟨r.toArray⟩ := by
    rw [show q.length + 1 = (40 :: q : T).length from rfl, ext_drop, show (40 :: q : T).drop 1 = r from by have := cut_some C4.out; rw [this]; rfl]
  have hy1 : (⟨(40 :: q).toArray⟩ : ByteArray).extract (1 + m1) (q.length + 1) = ⟨r1.toArray⟩ := by
    rw [show q.length + 1 = (40 :: q : T).length from rfl, ext_drop, D1.out]
  have i1 : ((1 : Int) + (m1 : Int)).toNat = 1 + m1 := by omega
  have i2 : (1 : Int) + (m1 : Int) ≤ (q.length : Int) + 1 := by omega
  have hy2 : (⟨(40 :: q).toArray⟩ : ByteArray).extract (5 + m1) (q.length + 1) = ⟨r2.toArray⟩ := by
    rw [show q.length + 1 = (40 :: q : T).length from rfl, ext_drop, D2.out]
  have j1 : ((5 : Int) + (m1 : Int)).toNat = 5 + m1 := by omega
  have j2 : (5 : Int) + (m1 : Int) ≤ (q.length : Int) + 1 := by omega
  have hy3 : (⟨(40 :: q).toArray⟩ : ByteArray).extract (5 + m1 + m2) (q.length + 1) = ⟨r3.toArray⟩ := by
    rw [show q.length + 1 = (40 :: q : T).length from rfl, ext_drop, D3.out]
  have l1 : ((5 : Int) + (m1 : Int) + (m2 : Int)).toNat = 5 + m1 + m2 := by omega
  have l2 : (5 : Int) + (m1 : Int) + (m2 : Int) ≤ (q.length : Int) + 1 := by omega
  go_enter Try.func77, Try.ntmps77
  go_wp2_with ((first | (go_at_call 92; refine (rb_not C1.out _).mono ?_; rintro e w1 ⟨rfl, rfl⟩) | (go_at_call 92; refine (rb_not C2.out _).mono ?_; rintro e w1 ⟨rfl, rfl⟩) | (go_at_call 92; refine (rb_not C3.out _).mono ?_; rintro e w1 ⟨rfl, rfl⟩) | (go_at_call 92; refine (rb_yes C4.out _).mono ?_; rintro e w1 ⟨rfl, rfl⟩) | (go_at_call 77; refine (CH1.out _).mono ?_; rintro e w3 ⟨g, v, rfl, ⟨x, rfl, hx9, hi, he⟩⟩; unfold Ty.v; have ML1 := Lib.hid (heap_lt HB.out.hz); have TX1 := Lib.hid (And.intro hx9 (And.intro hi he)); have GG1 := Lib.hid g; have HN := Lib.hid ((HB.out.grow g).grow (gr_al w3 (.cells #[iv x.kind, iv x.var, .slice x.A x.sub.length x.c] 24))); clear g hx9 hi he; have BX1 := Lib.hid (al_new w3 (.cells #[iv x.kind, iv x.var, .slice x.A x.sub.length x.c] 24)); clear HB z0 z1 z2 zf; have HB := HN; clear HN; obtain ⟨⟨z0, z1, z2⟩, zf⟩ := cell3 HB.out.hz) | (go_at_call 92; refine (rb_yes C5.out _).mono ?_; rintro e w1 ⟨rfl, rfl⟩) | (go_at_call 77; refine (CH2.out _).mono ?_; rintro e w5 ⟨g, v, rfl, ⟨y, rfl, hx9, hi, he⟩⟩; unfold Ty.v; have ML2 := Lib.hid (heap_lt HB.out.hz); have TX2 := Lib.hid (And.intro hx9 (And.intro hi he)); have GG2 := Lib.hid g; have HN := Lib.hid ((HB.out.grow g).grow (gr_al w5 (.cells #[iv y.kind, iv y.var, .slice y.A y.sub.length y.c] 24))); clear g hx9 hi he; have BX2 := Lib.hid (al_new w5 (.cells #[iv y.kind, iv y.var, .slice y.A y.sub.length y.c] 24)); clear HB z0 z1 z2 zf; have HB := HN; clear HN; obtain ⟨⟨z0, z1, z2⟩, zf⟩ := cell3 HB.out.hz) | (go_at_call 92; refine (rb_yes C6.out _).mono ?_; rintro e w1 ⟨rfl, rfl⟩; have XB := Lib.hid (gr_h (GG2.out.trans (gr_al w5 (.cells #[iv y.kind, iv y.var, .slice y.A y.sub.length y.c] 24))) BX1.out); obtain ⟨⟨x0, x1, x2⟩, -⟩ := cell3 XB.out; obtain ⟨⟨y0, y1, y2⟩, -⟩ := cell3 BX2.out; have HN := Lib.hid (HB.out.grow (gr_al _ (.cells #[iv x.kind, iv x.var, .slice x.A x.sub.length x.c, iv y.kind, iv y.var, .slice y.A y.sub.length y.c] 24))); clear HB z0 z1 z2 zf; have HB := HN; clear HN; obtain ⟨⟨z0, z1, z2⟩, zf⟩ := cell3 HB.out.hz)))
  have H6 := Lib.hid (set3 (a' := iv 4) (b' := iv 0) (c' := .slice (some ⟨w5.heap.size + 1, 0, none⟩) 2 2) HB.out.hz)
  have kA : Gr (w3.alloc (.cells #[iv x.kind, iv x.var, .slice x.A x.sub.length x.c] 24)) ((w5.alloc (.cells #[iv y.kind, iv y.var, .slice y.A y.sub.length y.c] 24)).alloc (.cells #[iv x.kind, iv x.var, .slice x.A x.sub.length x.c, iv y.kind, iv y.var, .slice y.A y.sub.length y.c] 24)) := GG2.out.trans ((gr_al w5 _).trans (gr_al _ _))
  have k2 := KP.gr (M := w.heap.size + 1) ((gr_al w3 (.cells #[iv x.kind, iv x.var, .slice x.A x.sub.length x.c] 24)).trans kA)
  have k5 := KP.gr (M := w3.heap.size + 1) ((gr_al w5 (.cells #[iv y.kind, iv y.var, .slice y.A y.sub.length y.c] 24)).trans (gr_al _ (.cells #[iv x.kind, iv x.var, .slice x.A x.sub.length x.c, iv y.kind, iv y.var, .slice y.A y.sub.length y.c] 24)))
  have hg := GG1.out.size
  have hg2 := GG2.out.size
  simp at hg hg2
  refine bodyPost_ret (results_row_tmp (P := Try.prog) rfl _ _ (w.heap.size) _ _ _ _ rfl rfl H6.out rfl rfl rfl) rfl ?_
  refine rrok_of (L := [x, y]) (K := w5.heap.size + 1) HB.out (al_at _ _ (by simp)) (by omega) (by simp) (fun z hz => ?_) (by rw [ers_cons, ers_cons, ers_nil, TX1.out.2.2, TX2.out.2.2]) rfl _ _ _ rfl
  simp only [List.mem_cons, List.not_mem_nil, or_false] at hz
  have es : ∀ (W : World) (o : Obj), (W.alloc o).heap.size = W.heap.size + 1 := fun W o => by simp
  have hi := TX1.out.2.1
  have hi2 := TX2.out.2.1
  simp only [es] at hi hi2
  rcases hz with rfl | rfl
  · exact ⟨w.heap.size + 1, by omega, k2.rd TX1.out.1 hi, hi⟩
  · exact ⟨w3.heap.size + 1, by omega, k5.rd TX2.out.1 hi2, hi2⟩
end Go.Proofs.Ytjlmhfdigoogfaa

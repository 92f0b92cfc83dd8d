/- Walks: text (73, 74). -/
import Derived.Test.YtjlmhfdigoogfaaTxB
namespace Go.Proofs.Ytjlmhfdigoogfaa
open Go.RowKit

theorem cat_eq (a b : T) : (⟨a.toArray⟩ : ByteArray) ++ ⟨b.toArray⟩ = ⟨(a ++ b).toArray⟩ := by
  apply ByteArray.ext
  simp
theorem enc_all : ∀ n : Fin 26, (Utf8.encode (97 + ((n : Nat) : Int))).data = #[UInt8.ofNat (97 + (n : Nat))] := by decide
theorem sub_all : ∀ n : Fin 26, ((⟨#[97, 98, 99, 100, 101, 102, 103, 104, 105, 106, 107, 108, 109, 110, 111, 112, 113, 114, 115, 116, 117, 118, 119, 120, 121, 122]⟩ : ByteArray).extract (n : Nat) ((n : Nat) + 1)).data = #[UInt8.ofNat (97 + (n : Nat))] := by decide
theorem enc_one {U : Int} (h : 0 ≤ U ∧ U ≤ 25) : Utf8.encode (97 + U) = ⟨[UInt8.ofNat (97 + U.toNat)].toArray⟩ := by
  obtain ⟨n, rfl⟩ := Int.eq_ofNat_of_zero_le h.1
  exact ByteArray.ext (enc_all ⟨n, by omega⟩)
theorem sub_one {U : Int} (h : 0 ≤ U ∧ U ≤ 25) : (⟨#[97, 98, 99, 100, 101, 102, 103, 104, 105, 106, 107, 108, 109, 110, 111, 112, 113, 114, 115, 116, 117, 118, 119, 120, 121, 122]⟩ : ByteArray).extract U.toNat (U + 1).toNat = ⟨[UInt8.ofNat (97 + U.toNat)].toArray⟩ := by
  obtain ⟨n, rfl⟩ := Int.eq_ofNat_of_zero_le h.1
  rw [show ((n : Int) + 1).toNat = n + 1 by omega, show ((n : Int)).toNat = n by omega]
  exact ByteArray.ext (sub_all ⟨n, by omega⟩)
theorem txt_len (t : PT) : Lt t → (txt t).length ≤ 7 * t.size := by
  induction t using PT.ind with
  | h k v s ih =>
    intro h
    obtain ⟨h1, h2⟩ := cke_ok h.c
    have hk := h1.k
    have hn := h1.n
    simp only [PT.kind, PT.sub] at hk hn h2
    have hs : ∀ x ∈ s, Lt x := fun x hx => ⟨h2 x hx, fun u hu => h.v u (vin_iff.2 (.inr ⟨x, hx, hu⟩))⟩
    obtain rfl | rfl | rfl | rfl | rfl : k = 1 ∨ k = 2 ∨ k = 3 ∨ k = 4 ∨ k = 5 := by omega
    · rw [txt_1, size_eq]; simp; omega
    · rw [txt_2, size_eq]; simp; omega
    · obtain ⟨x, rfl⟩ := List.length_eq_one_iff.1 hn
      have := ih x (by simp) (hs x (by simp))
      rw [txt_3, size_eq]; simp [PT.sub]; omega
    · obtain ⟨x, y, rfl⟩ := len2 hn
      have := ih x (by simp) (hs x (by simp))
      have := ih y (by simp) (hs y (by simp))
      rw [txt_4, size_eq]; simp [PT.sub]; omega
    · rw [txt_5, size_eq]; simp; omega
theorem lt_sub {x : PT} (h : Lt x) {y : PT} (hy : y ∈ x.sub) : Lt y := ⟨(cke_ok h.c).2 y hy, fun u hu => h.v u (vin_iff.2 (.inr ⟨y, hy, hu⟩))⟩
set_option maxRecDepth 100000 in
set_option maxHeartbeats 1000000 in
theorem text1_73 (U : Int) (s : Value) (w : World) : Calls Try.prog 73 #[.agg #[iv 1, iv U, s]] w fun e w' => e = .returned (tv sInt) ∧ Gr w w' := by
  have HB := Lib.hid (al_new w (.cells #[iv 1, iv U, s] 24))
  obtain ⟨⟨b0, b1, b2⟩, -⟩ := cell3 HB.out
  go_enter Try.func73, Try.ntmps73
  go_wp2
  go_ret
  exact ⟨rfl, gr_al _ _⟩
set_option maxRecDepth 100000 in
set_option maxHeartbeats 1000000 in
theorem text2_73 (U : Int) (s : Value) (w : World) : Calls Try.prog 73 #[.agg #[iv 2, iv U, s]] w fun e w' => e = .returned (tv sBool) ∧ Gr w w' := by
  have HB := Lib.hid (al_new w (.cells #[iv 2, iv U, s] 24))
  obtain ⟨⟨b0, b1, b2⟩, -⟩ := cell3 HB.out
  go_enter Try.func73, Try.ntmps73
  go_wp2
  go_ret
  exact ⟨rfl, gr_al _ _⟩
set_option maxRecDepth 100000 in
set_option maxHeartbeats 1000000 in
theorem text3_73 (U : Int) (A : Option Addr) (c : Nat) (p : Ty) (w : World) (hR : TRd w A c [p]) (hq : (txt p.er).length ≤ 1000000) (CL : ∀ V, Gr w V → Calls Try.prog 73 #[p.v] V fun e w' => e = .returned (tv (txt p.er)) ∧ Gr V w') : Calls Try.prog 73 #[.agg #[iv 3, iv U, .slice A 1 c]] w fun e w' => e = .returned (tv (sList ++ txt p.er ++ [41])) ∧ Gr w w' := by
  have HB := Lib.hid (al_new w (.cells #[iv 3, iv U, .slice A 1 c] 24))
  obtain ⟨⟨b0, b1, b2⟩, -⟩ := cell3 HB.out
  obtain ⟨a, a1, rfl, ha, hab, d0, d1, d2, -⟩ := (hR.gr (gr_al w (.cells #[iv 3, iv U, .slice A 1 c] 24))).at (k := 0) (by simp)
  have CH := Lib.hid (CL _ (gr_al w (.cells #[iv 3, iv U, .slice (some a) 1 c] 24)))
  obtain rfl : a = a1 := ha
  simp only [List.getElem_cons_zero] at d0 d1 d2
  unfold Ty.v at CH
  generalize txt p.er = q at *
  obtain ⟨r, hr⟩ : ∃ r, sList ++ q ++ [41] = r := ⟨_, rfl⟩
  rw [hr]
  have HR := Lib.hid hr
  clear CL hR hr
  go_enter Try.func73, Try.ntmps73
  go_wp2_with (go_at_call 73; refine CH.out.mono ?_; rintro e w5 ⟨rfl, g5⟩; have G5 := Lib.hid g5; clear g5)
  go_ret
  refine ⟨?_, (gr_al _ _).trans G5.out⟩
  show Ending.returned (.string (⟨sList.toArray⟩ ++ ⟨q.toArray⟩ ++ ⟨[41].toArray⟩)) = _
  rw [cat_eq, cat_eq, HR.out]
set_option maxRecDepth 100000 in
set_option maxHeartbeats 1000000 in
theorem text4_73 (U : Int) (A : Option Addr) (c : Nat) (p p' : Ty) (w : World) (hR : TRd w A c [p, p']) (hq : (txt p.er).length ≤ 1000000) (hq' : (txt p'.er).length ≤ 1000000) (CL : ∀ V, Gr w V → Calls Try.prog 73 #[p.v] V fun e w' => e = .returned (tv (txt p.er)) ∧ Gr V w') (CM : ∀ V, Gr w V → Calls Try.prog 73 #[p'.v] V fun e w' => e = .returned (tv (txt p'.er)) ∧ Gr V w') : Calls Try.prog 73 #[.agg #[iv 4, iv U, .slice A 2 c]] w fun e w' => e = .returned (tv ([40] ++ txt p.er ++ sTo ++ txt p'.er ++ [41])) ∧ Gr w w' := by
  have HB := Lib.hid (al_new w (.cells #[iv 4, iv U, .slice A 2 c] 24))
  have GB := Lib.hid (gr_al w (.cells #[iv 4, iv U, .slice A 2 c] 24))
  obtain ⟨⟨b0, b1, b2⟩, -⟩ := cell3 HB.out
  obtain ⟨a, a1, rfl, ha, hab, d0, d1, d2, -⟩ := (hR.gr GB.out).at (k := 0) (by simp)
  obtain ⟨a', a2, haa, ha2, hab2, f0, f1, f2, -⟩ := (hR.gr GB.out).at (k := 1) (by simp)
  cases haa
  obtain rfl : a = a1 := ha
  rw [Nat.one_mul] at ha2
  simp only [List.getElem_cons_zero, List.getElem_cons_succ] at d0 d1 d2 f0 f1 f2
  have CH := Lib.hid (fun V (g : Gr _ V) => CL V (GB.out.trans g))
  have CH2 := Lib.hid (fun V (g : Gr _ V) => CM V (GB.out.trans g))
  obtain ⟨w1, hw1⟩ : ∃ w1, w.alloc (.cells #[iv 4, iv U, .slice (some a) 2 c] 24) = w1 := ⟨_, rfl⟩
  obtain ⟨K, hK⟩ : ∃ K, w.heap.size = K := ⟨_, rfl⟩
  simp only [hw1, hK] at GB b0 b1 b2 d0 d1 d2 f0 f1 f2 CH CH2
  have KS := Lib.hid (fun (V : World) (g : Gr w1 V) => (⟨gr_c g b0, gr_c g b1, gr_c g b2, gr_c g d0, gr_c g d1, gr_c g d2, gr_c g f0, gr_c g f1, gr_c g f2⟩ : V.cell? ⟨K, 0, none⟩ = some (iv 4) ∧ V.cell? ⟨K, 1, none⟩ = some (iv U) ∧ V.cell? ⟨K, 2, none⟩ = some (.slice (some a) 2 c) ∧ V.cell? a = some (iv p.kind) ∧ V.cell? ⟨a.block, a.off + 1, none⟩ = some (iv p.var) ∧ V.cell? ⟨a.block, a.off + 2, none⟩ = some (.slice p.A p.sub.length p.c) ∧ V.cell? a2 = some (iv p'.kind) ∧ V.cell? ⟨a2.block, a2.off + 1, none⟩ = some (iv p'.var) ∧ V.cell? ⟨a2.block, a2.off + 2, none⟩ = some (.slice p'.A p'.sub.length p'.c)))
  have BA := Lib.hid (show K < w1.heap.size from by rw [← hw1, ← hK]; simp)
  unfold Ty.v at CH CH2
  generalize txt p.er = q at *
  generalize txt p'.er = q' at *
  obtain ⟨r, hr⟩ : ∃ r, [40] ++ q ++ sTo ++ q' ++ [41] = r := ⟨_, rfl⟩
  rw [hr]
  have HR := Lib.hid hr
  clear hr
  have HW := Lib.hid hw1
  have HK := Lib.hid hK
  clear CL CM hR HB hw1 hK hab hab2
  go_enter Try.func73, Try.ntmps73
  go_upto_region 9 with (fail)
  rw [HW.out, HK.out]
  have s1 : ∀ W : World, (Op.stringOp .add ⟨#[40]⟩ ⟨q.toArray⟩).run Try.prog W = .ok (.string (⟨#[40]⟩ ++ ⟨q.toArray⟩)) W := fun W => run_string_add_sum W _ _ (by simp only [ByteArray.size_mk', Array.size]; simp; omega)
  have s2 : ∀ W : World, (Op.stringOp .add (⟨#[40]⟩ ++ ⟨q.toArray⟩) ⟨#[32, 45, 62, 32]⟩).run Try.prog W = .ok (.string (⟨#[40]⟩ ++ ⟨q.toArray⟩ ++ ⟨#[32, 45, 62, 32]⟩)) W := fun W => run_string_add_sum W _ _ (by simp only [ByteArray.size_mk', ByteArray.size_append', Array.size]; simp; omega)
  have s3 : ∀ W : World, (Op.stringOp .add (⟨#[40]⟩ ++ ⟨q.toArray⟩ ++ ⟨#[32, 45, 62, 32]⟩) ⟨q'.toArray⟩).run Try.prog W = .ok (.string (⟨#[40]⟩ ++ ⟨q.toArray⟩ ++ ⟨#[32, 45, 62, 32]⟩ ++ ⟨q'.toArray⟩)) W := fun W => run_string_add_sum W _ _ (by simp only [ByteArray.size_mk', ByteArray.size_append', Array.size]; simp; omega)
  have s4 : ∀ W : World, (Op.stringOp .add (⟨#[40]⟩ ++ ⟨q.toArray⟩ ++ ⟨#[32, 45, 62, 32]⟩ ++ ⟨q'.toArray⟩) ⟨#[41]⟩).run Try.prog W = .ok (.string (⟨#[40]⟩ ++ ⟨q.toArray⟩ ++ ⟨#[32, 45, 62, 32]⟩ ++ ⟨q'.toArray⟩ ++ ⟨#[41]⟩)) W := fun W => run_string_add_sum W _ _ (by simp only [ByteArray.size_mk', ByteArray.size_append', Array.size]; simp; omega)
  go_region_held3 (fun V => V.cell? ⟨K, 0, none⟩ = some (iv 4) ∧ V.cell? ⟨K, 1, none⟩ = some (iv U) ∧ V.cell? ⟨K, 2, none⟩ = some (.slice (some a) 2 c) ∧ V.cell? a = some (iv p.kind) ∧ V.cell? ⟨a.block, a.off + 1, none⟩ = some (iv p.var) ∧ V.cell? ⟨a.block, a.off + 2, none⟩ = some (.slice p.A p.sub.length p.c) ∧ V.cell? a2 = some (iv p'.kind) ∧ V.cell? ⟨a2.block, a2.off + 1, none⟩ = some (iv p'.var) ∧ V.cell? ⟨a2.block, a2.off + 2, none⟩ = some (.slice p'.A p'.sub.length p'.c)) (first | with_reducible exact KS.out _ Z2.out | with_reducible exact KS.out _ Z1.out | with_reducible exact KS.out _ (gr_drew _) | with_reducible exact KS.out _ (gr_refl _) | go_keep) (first | (go_at_call 73; (with_reducible refine (CH.out _ (gr_drew _)).mono ?_); rintro e z1 ⟨rfl, g⟩; have Z1 := Lib.hid ((gr_drew w1).trans g); clear g) | (go_at_call 73; (with_reducible refine (CH2.out _ Z1.out).mono ?_); rintro e z2 ⟨rfl, g⟩; have Z2 := Lib.hid (Z1.out.trans g); clear g))
  go_wp2
  go_ret
  refine ⟨?_, GB.out.trans Z2.out⟩
  show Ending.returned (.string (⟨[40].toArray⟩ ++ ⟨q.toArray⟩ ++ ⟨sTo.toArray⟩ ++ ⟨q'.toArray⟩ ++ ⟨[41].toArray⟩)) = _
  rw [cat_eq, cat_eq, cat_eq, cat_eq, HR.out]
set_option maxRecDepth 100000 in
set_option maxHeartbeats 1000000 in
theorem text5_73 (U : Int) (s : Value) (w : World) (hU : 0 ≤ U ∧ U ≤ 25) : Calls Try.prog 73 #[.agg #[iv 5, iv U, s]] w fun e w' => e = .returned (tv [UInt8.ofNat (97 + U.toNat)]) ∧ Gr w w' := by
  have HB := Lib.hid (al_new w (.cells #[iv 5, iv U, s] 24))
  obtain ⟨⟨b0, b1, b2⟩, -⟩ := cell3 HB.out
  go_enter Try.func73, Try.ntmps73
  go_wp2
  go_ret
  refine ⟨?_, gr_al _ _⟩
  show Ending.returned (.string (Utf8.encode (97 + U))) = _
  rw [enc_one hU]
theorem text_73 (x : Ty) : ∀ w : World, x.Rd w → Lt x.er → x.er.size ≤ 100000 → Calls Try.prog 73 #[x.v] w fun e w' => e = .returned (tv (txt x.er)) ∧ Gr w w' := by
  induction x using Ty.ind with
  | h x ih =>
    intro w hx hl hz
    obtain ⟨K, U, A, c, s⟩ := x
    simp only [Ty.sub] at hx ih
    rw [Ty.er] at hl hz ⊢
    obtain ⟨h1, h2⟩ := cke_ok hl.c
    have hk := h1.k
    have hn := h1.n
    have hr := h1.r
    simp only [PT.kind, PT.sub, PT.var, ers_length] at hk hn hr
    rw [size_eq] at hz
    simp only [PT.sub] at hz
    have IH : ∀ y ∈ s, ∀ V, Gr w V → Calls Try.prog 73 #[y.v] V fun e w' => e = .returned (tv (txt y.er)) ∧ Gr V w' := fun y hy V g => ih y hy V ((hx.hs y hy).gr g) (lt_sub hl (by simp only [PT.sub, ers_map]; exact List.mem_map.2 ⟨y, hy, rfl⟩)) (by
      have := psz_mem (show y.er ∈ ers s by rw [ers_map]; exact List.mem_map.2 ⟨y, hy, rfl⟩)
      omega)
    have TL : ∀ y ∈ s, (txt y.er).length ≤ 1000000 := fun y hy => by
      have h3 := txt_len y.er (lt_sub hl (by simp only [PT.sub, ers_map]; exact List.mem_map.2 ⟨y, hy, rfl⟩))
      have := psz_mem (show y.er ∈ ers s by rw [ers_map]; exact List.mem_map.2 ⟨y, hy, rfl⟩)
      omega
    obtain rfl | rfl | rfl | rfl | rfl : K = 1 ∨ K = 2 ∨ K = 3 ∨ K = 4 ∨ K = 5 := by omega
    · rw [txt_1]
      exact text1_73 U _ w
    · rw [txt_2]
      exact text2_73 U _ w
    · obtain ⟨p, rfl⟩ := List.length_eq_one_iff.1 hn
      rw [ers_cons, ers_nil, txt_3]
      exact text3_73 U A c p w hx (TL p (by simp)) (IH p (by simp))
    · obtain ⟨p, q, rfl⟩ := len2 hn
      rw [ers_cons, ers_cons, ers_nil, txt_4]
      exact text4_73 U A c p q w hx (TL p (by simp)) (TL q (by simp)) (IH p (by simp)) (IH q (by simp))
    · rw [txt_5]
      exact text5_73 U _ w ⟨hr.1, hl.v U (vin_iff.2 (.inl ⟨rfl, rfl⟩))⟩
set_option maxRecDepth 100000 in
set_option maxHeartbeats 1000000 in
theorem text1_74 (U : Int) (s : Value) (w : World) : Calls Try.prog 74 #[.agg #[iv 1, iv U, s]] w fun e w' => e = .returned (tv sInt) ∧ Gr w w' := by
  have HB := Lib.hid (al_new w (.cells #[iv 1, iv U, s] 24))
  obtain ⟨⟨b0, b1, b2⟩, -⟩ := cell3 HB.out
  go_enter Try.func74, Try.ntmps74
  go_wp2
  go_ret
  exact ⟨rfl, gr_al _ _⟩
set_option maxRecDepth 100000 in
set_option maxHeartbeats 1000000 in
theorem text2_74 (U : Int) (s : Value) (w : World) : Calls Try.prog 74 #[.agg #[iv 2, iv U, s]] w fun e w' => e = .returned (tv sBool) ∧ Gr w w' := by
  have HB := Lib.hid (al_new w (.cells #[iv 2, iv U, s] 24))
  obtain ⟨⟨b0, b1, b2⟩, -⟩ := cell3 HB.out
  go_enter Try.func74, Try.ntmps74
  go_wp2
  go_ret
  exact ⟨rfl, gr_al _ _⟩
set_option maxRecDepth 100000 in
set_option maxHeartbeats 1000000 in
theorem text3_74 (U : Int) (A : Option Addr) (c : Nat) (p : Ty) (w : World) (hR : TRd w A c [p]) (hq : (txt p.er).length ≤ 1000000) (CL : ∀ V, Gr w V → Calls Try.prog 74 #[p.v] V fun e w' => e = .returned (tv (txt p.er)) ∧ Gr V w') : Calls Try.prog 74 #[.agg #[iv 3, iv U, .slice A 1 c]] w fun e w' => e = .returned (tv (sList ++ txt p.er ++ [41])) ∧ Gr w w' := by
  have HB := Lib.hid (al_new w (.cells #[iv 3, iv U, .slice A 1 c] 24))
  obtain ⟨⟨b0, b1, b2⟩, -⟩ := cell3 HB.out
  obtain ⟨a, a1, rfl, ha, hab, d0, d1, d2, -⟩ := (hR.gr (gr_al w (.cells #[iv 3, iv U, .slice A 1 c] 24))).at (k := 0) (by simp)
  have CH := Lib.hid (CL _ (gr_al w (.cells #[iv 3, iv U, .slice (some a) 1 c] 24)))
  obtain rfl : a = a1 := ha
  simp only [List.getElem_cons_zero] at d0 d1 d2
  unfold Ty.v at CH
  generalize txt p.er = q at *
  obtain ⟨r, hr⟩ : ∃ r, sList ++ q ++ [41] = r := ⟨_, rfl⟩
  rw [hr]
  have HR := Lib.hid hr
  clear CL hR hr
  go_enter Try.func74, Try.ntmps74
  go_wp2_with (go_at_call 74; refine CH.out.mono ?_; rintro e w5 ⟨rfl, g5⟩; have G5 := Lib.hid g5; clear g5)
  go_ret
  refine ⟨?_, (gr_al _ _).trans G5.out⟩
  show Ending.returned (.string (⟨sList.toArray⟩ ++ ⟨q.toArray⟩ ++ ⟨[41].toArray⟩)) = _
  rw [cat_eq, cat_eq, HR.out]
set_option maxRecDepth 100000 in
set_option maxHeartbeats 1000000 in
theorem text4_74 (U : Int) (A : Option Addr) (c : Nat) (p p' : Ty) (w : World) (hR : TRd w A c [p, p']) (hq : (txt p.er).length ≤ 1000000) (hq' : (txt p'.er).length ≤ 1000000) (CL : ∀ V, Gr w V → Calls Try.prog 74 #[p.v] V fun e w' => e = .returned (tv (txt p.er)) ∧ Gr V w') (CM : ∀ V, Gr w V → Calls Try.prog 74 #[p'.v] V fun e w' => e = .returned (tv (txt p'.er)) ∧ Gr V w') : Calls Try.prog 74 #[.agg #[iv 4, iv U, .slice A 2 c]] w fun e w' => e = .returned (tv ([40] ++ txt p.er ++ sTo ++ txt p'.er ++ [41])) ∧ Gr w w' := by
  have HB := Lib.hid (al_new w (.cells #[iv 4, iv U, .slice A 2 c] 24))
  have GB := Lib.hid (gr_al w (.cells #[iv 4, iv U, .slice A 2 c] 24))
  obtain ⟨⟨b0, b1, b2⟩, -⟩ := cell3 HB.out
  obtain ⟨a, a1, rfl, ha, hab, d0, d1, d2, -⟩ := (hR.gr GB.out).at (k := 0) (by simp)
  obtain ⟨a', a2, haa, ha2, hab2, f0, f1, f2, -⟩ := (hR.gr GB.out).at (k := 1) (by simp)
  cases haa
  obtain rfl : a = a1 := ha
  rw [Nat.one_mul] at ha2
  simp only [List.getElem_cons_zero, List.getElem_cons_succ] at d0 d1 d2 f0 f1 f2
  have CH := Lib.hid (fun V (g : Gr _ V) => CL V (GB.out.trans g))
  have CH2 := Lib.hid (fun V (g : Gr _ V) => CM V (GB.out.trans g))
  obtain ⟨w1, hw1⟩ : ∃ w1, w.alloc (.cells #[iv 4, iv U, .slice (some a) 2 c] 24) = w1 := ⟨_, rfl⟩
  obtain ⟨K, hK⟩ : ∃ K, w.heap.size = K := ⟨_, rfl⟩
  simp only [hw1, hK] at GB b0 b1 b2 d0 d1 d2 f0 f1 f2 CH CH2
  have KS := Lib.hid (fun (V : World) (g : Gr w1 V) => (⟨gr_c g b0, gr_c g b1, gr_c g b2, gr_c g d0, gr_c g d1, gr_c g d2, gr_c g f0, gr_c g f1, gr_c g f2⟩ : V.cell? ⟨K, 0, none⟩ = some (iv 4) ∧ V.cell? ⟨K, 1, none⟩ = some (iv U) ∧ V.cell? ⟨K, 2, none⟩ = some (.slice (some a) 2 c) ∧ V.cell? a = some (iv p.kind) ∧ V.cell? ⟨a.block, a.off + 1, none⟩ = some (iv p.var) ∧ V.cell? ⟨a.block, a.off + 2, none⟩ = some (.slice p.A p.sub.length p.c) ∧ V.cell? a2 = some (iv p'.kind) ∧ V.cell? ⟨a2.block, a2.off + 1, none⟩ = some (iv p'.var) ∧ V.cell? ⟨a2.block, a2.off + 2, none⟩ = some (.slice p'.A p'.sub.length p'.c)))
  have BA := Lib.hid (show K < w1.heap.size from by rw [← hw1, ← hK]; simp)
  unfold Ty.v at CH CH2
  generalize txt p.er = q at *
  generalize txt p'.er = q' at *
  obtain ⟨r, hr⟩ : ∃ r, [40] ++ q ++ sTo ++ q' ++ [41] = r := ⟨_, rfl⟩
  rw [hr]
  have HR := Lib.hid hr
  clear hr
  have HW := Lib.hid hw1
  have HK := Lib.hid hK
  clear CL CM hR HB hw1 hK hab hab2
  go_enter Try.func74, Try.ntmps74
  go_upto_region 9 with (fail)
  rw [HW.out, HK.out]
  have s1 : ∀ W : World, (Op.stringOp .add ⟨#[40]⟩ ⟨q.toArray⟩).run Try.prog W = .ok (.string (⟨#[40]⟩ ++ ⟨q.toArray⟩)) W := fun W => run_string_add_sum W _ _ (by simp only [ByteArray.size_mk', Array.size]; simp; omega)
  have s2 : ∀ W : World, (Op.stringOp .add (⟨#[40]⟩ ++ ⟨q.toArray⟩) ⟨#[32, 45, 62, 32]⟩).run Try.prog W = .ok (.string (⟨#[40]⟩ ++ ⟨q.toArray⟩ ++ ⟨#[32, 45, 62, 32]⟩)) W := fun W => run_string_add_sum W _ _ (by simp only [ByteArray.size_mk', ByteArray.size_append', Array.size]; simp; omega)
  have s3 : ∀ W : World, (Op.stringOp .add (⟨#[40]⟩ ++ ⟨q.toArray⟩ ++ ⟨#[32, 45, 62, 32]⟩) ⟨q'.toArray⟩).run Try.prog W = .ok (.string (⟨#[40]⟩ ++ ⟨q.toArray⟩ ++ ⟨#[32, 45, 62, 32]⟩ ++ ⟨q'.toArray⟩)) W := fun W => run_string_add_sum W _ _ (by simp only [ByteArray.size_mk', ByteArray.size_append', Array.size]; simp; omega)
  have s4 : ∀ W : World, (Op.stringOp .add (⟨#[40]⟩ ++ ⟨q.toArray⟩ ++ ⟨#[32, 45, 62, 32]⟩ ++ ⟨q'.toArray⟩) ⟨#[41]⟩).run Try.prog W = .ok (.string (⟨#[40]⟩ ++ ⟨q.toArray⟩ ++ ⟨#[32, 45, 62, 32]⟩ ++ ⟨q'.toArray⟩ ++ ⟨#[41]⟩)) W := fun W => run_string_add_sum W _ _ (by simp only [ByteArray.size_mk', ByteArray.size_append', Array.size]; simp; omega)
  go_region_held3 (fun V => V.cell? ⟨K, 0, none⟩ = some (iv 4) ∧ V.cell? ⟨K, 1, none⟩ = some (iv U) ∧ V.cell? ⟨K, 2, none⟩ = some (.slice (some a) 2 c) ∧ V.cell? a = some (iv p.kind) ∧ V.cell? ⟨a.block, a.off + 1, none⟩ = some (iv p.var) ∧ V.cell? ⟨a.block, a.off + 2, none⟩ = some (.slice p.A p.sub.length p.c) ∧ V.cell? a2 = some (iv p'.kind) ∧ V.cell? ⟨a2.block, a2.off + 1, none⟩ = some (iv p'.var) ∧ V.cell? ⟨a2.block, a2.off + 2, none⟩ = some (.slice p'.A p'.sub.length p'.c)) (first | with_reducible exact KS.out _ Z2.out | with_reducible exact KS.out _ Z1.out | with_reducible exact KS.out _ (gr_drew _) | with_reducible exact KS.out _ (gr_refl _) | go_keep) (first | (go_at_call 74; (with_reducible refine (CH.out _ (gr_drew _)).mono ?_); rintro e z1 ⟨rfl, g⟩; have Z1 := Lib.hid ((gr_drew w1).trans g); clear g) | (go_at_call 74; (with_reducible refine (CH2.out _ Z1.out).mono ?_); rintro e z2 ⟨rfl, g⟩; have Z2 := Lib.hid (Z1.out.trans g); clear g))
  go_wp2
  go_ret
  refine ⟨?_, GB.out.trans Z2.out⟩
  show Ending.returned (.string (⟨[40].toArray⟩ ++ ⟨q.toArray⟩ ++ ⟨sTo.toArray⟩ ++ ⟨q'.toArray⟩ ++ ⟨[41].toArray⟩)) = _
  rw [cat_eq, cat_eq, cat_eq, cat_eq, HR.out]
set_option maxRecDepth 100000 in
set_option maxHeartbeats 1000000 in
theorem text5_74 (U : Int) (s : Value) (w : World) (hU : 0 ≤ U ∧ U ≤ 25) : Calls Try.prog 74 #[.agg #[iv 5, iv U, s]] w fun e w' => e = .returned (tv [UInt8.ofNat (97 + U.toNat)]) ∧ Gr w w' := by
  have HB := Lib.hid (al_new w (.cells #[iv 5, iv U, s] 24))
  obtain ⟨⟨b0, b1, b2⟩, -⟩ := cell3 HB.out
  go_enter Try.func74, Try.ntmps74
  go_wp2
  go_ret
  refine ⟨?_, gr_al _ _⟩
  show Ending.returned (.string ((⟨#[97, 98, 99, 100, 101, 102, 103, 104, 105, 106, 107, 108, 109, 110, 111, 112, 113, 114, 115, 116, 117, 118, 119, 120, 121, 122]⟩ : ByteArray).extract U.toNat (U + 1).toNat)) = _
  rw [sub_one hU]
theorem text_74 (x : Ty) : ∀ w : World, x.Rd w → Lt x.er → x.er.size ≤ 100000 → Calls Try.prog 74 #[x.v] w fun e w' => e = .returned (tv (txt x.er)) ∧ Gr w w' := by
  induction x using Ty.ind with
  | h x ih =>
    intro w hx hl hz
    obtain ⟨K, U, A, c, s⟩ := x
    simp only [Ty.sub] at hx ih
    rw [Ty.er] at hl hz ⊢
    obtain ⟨h1, h2⟩ := cke_ok hl.c
    have hk := h1.k
    have hn := h1.n
    have hr := h1.r
    simp only [PT.kind, PT.sub, PT.var, ers_length] at hk hn hr
    rw [size_eq] at hz
    simp only [PT.sub] at hz
    have IH : ∀ y ∈ s, ∀ V, Gr w V → Calls Try.prog 74 #[y.v] V fun e w' => e = .returned (tv (txt y.er)) ∧ Gr V w' := fun y hy V g => ih y hy V ((hx.hs y hy).gr g) (lt_sub hl (by simp only [PT.sub, ers_map]; exact List.mem_map.2 ⟨y, hy, rfl⟩)) (by
      have := psz_mem (show y.er ∈ ers s by rw [ers_map]; exact List.mem_map.2 ⟨y, hy, rfl⟩)
      omega)
    have TL : ∀ y ∈ s, (txt y.er).length ≤ 1000000 := fun y hy => by
      have h3 := txt_len y.er (lt_sub hl (by simp only [PT.sub, ers_map]; exact List.mem_map.2 ⟨y, hy, rfl⟩))
      have := psz_mem (show y.er ∈ ers s by rw [ers_map]; exact List.mem_map.2 ⟨y, hy, rfl⟩)
      omega
    obtain rfl | rfl | rfl | rfl | rfl : K = 1 ∨ K = 2 ∨ K = 3 ∨ K = 4 ∨ K = 5 := by omega
    · rw [txt_1]
      exact text1_74 U _ w
    · rw [txt_2]
      exact text2_74 U _ w
    · obtain ⟨p, rfl⟩ := List.length_eq_one_iff.1 hn
      rw [ers_cons, ers_nil, txt_3]
      exact text3_74 U A c p w hx (TL p (by simp)) (IH p (by simp))
    · obtain ⟨p, q, rfl⟩ := len2 hn
      rw [ers_cons, ers_cons, ers_nil, txt_4]
      exact text4_74 U A c p q w hx (TL p (by simp)) (TL q (by simp)) (IH p (by simp)) (IH q (by simp))
    · rw [txt_5]
      exact text5_74 U _ w ⟨hr.1, hl.v U (vin_iff.2 (.inl ⟨rfl, rfl⟩))⟩
end Go.Proofs.Ytjlmhfdigoogfaa

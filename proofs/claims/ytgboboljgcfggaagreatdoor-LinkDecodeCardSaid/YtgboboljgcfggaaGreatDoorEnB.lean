/- Walk: a block is written. -/
import Derived.Test.YtgboboljgcfggaaGreatDoorEnA
import Derived.Test.YtgboboljgcfggaaGreatDoorEnP
namespace Go.Proofs.YtgboboljgcfggaaGreatDoor
open Go.RowKit

theorem WS.lt {w0 V : World} {acc : T} (h : WS w0 acc V) : w0.heap.size < V.heap.size := h.bu.elim (fun x => x.lt) (fun x => x.lt)
/-- What a call of the writer asks and leaves, at a number that is known by an equation. -/
theorem wnum_at (w0 V : World) (acc acc' : T) (n : Int) (h : WS w0 acc V) (hn : nOk n) (hl : acc.length ≤ 100000000000000) (e : acc' = acc ++ eN n) : Calls Tryz.prog 32 #[.pointer (some ⟨w0.heap.size, 0, none⟩), .int .i64 n] V (WrP w0 acc' V) := by rw [e]; exact wnum_any w0 V acc n h hn hl
attribute [local irreducible] Calls in
set_option maxRecDepth 100000 in
set_option maxHeartbeats 4000000 in
theorem wblock_any (w0 V : World) (acc : T) (x : Blk) (h : WS w0 acc V) (hr : RD 4 Ins.cs w0 x.A x.ins) (hb : BOk x.pb) (hnm : ∀ y ∈ x.ins, y.name.length ≤ 100) (hl : acc.length ≤ 90000000000000) :
    Calls Tryz.prog 33 #[.pointer (some ⟨w0.heap.size, 0, none⟩), .agg #[.int .i64 x.cap, .bool x.param, .slice x.A x.ins.length x.c]] V (WrP w0 (acc ++ eB x.pb) V) := by
  obtain ⟨cap, param, Ai, ci, L⟩ := x
  simp only at hr hnm ⊢
  obtain ⟨n, hn⟩ : ∃ n, L.length = n := ⟨_, rfl⟩
  obtain ⟨pv, hpv⟩ : ∃ pv : Int, pv = if param then 1 else 0 := ⟨_, rfl⟩
  have hnl : n ≤ 1000000 := by have h1 : L.length ≤ 1000000 := hb.l; omega
  obtain ⟨acc1, ha1⟩ : ∃ a, a = acc ++ eN cap := ⟨_, rfl⟩
  obtain ⟨acc2, ha2⟩ : ∃ a, a = acc1 ++ eN pv := ⟨_, rfl⟩
  obtain ⟨acc3, ha3⟩ : ∃ a, a = acc2 ++ eN n := ⟨_, rfl⟩
  have pok : nOk pv := by rw [hpv]; exact ⟨by split <;> omega, by split <;> omega⟩
  have l1 : acc1.length ≤ acc.length + 6 := by have := eN_len (show nOk cap from hb.cap); rw [ha1, List.length_append]; omega
  have l2 : acc2.length ≤ acc.length + 12 := by have := eN_len pok; rw [ha2, List.length_append]; omega
  have l3 : acc3.length ≤ acc.length + 18 := by have := eN_len (show nOk (n : Int) from ⟨by omega, by omega⟩); rw [ha3, List.length_append]; omega
  have HFIN := Lib.hid (show acc3 ++ eL eI L = acc ++ eB (Blk.pb ⟨cap, param, Ai, ci, L⟩) from by
    unfold eB Blk.pb
    simp only
    rw [ha3, ha2, ha1, hpv, hn]
    simp only [List.append_assoc])
  rw [← HFIN.out]
  have N1 := Lib.hid (fun V' (h' : WS w0 acc V') => wnum_at w0 V' acc acc1 cap h' hb.cap (by omega) ha1)
  have N2 := Lib.hid (fun V' (h' : WS w0 acc1 V') => wnum_at w0 V' acc1 acc2 pv h' pok (by omega) ha2)
  have N3 := Lib.hid (fun V' (h' : WS w0 acc2 V') => wnum_at w0 V' acc2 acc3 n h' ⟨by omega, by omega⟩ (by omega) ha3)
  have HBI := Lib.hid (show ∀ y ∈ L, IOk y from hb.i)
  have HNM := Lib.hid hnm
  have HR := Lib.hid hr
  have HN := Lib.hid hn
  have H0 := Lib.hid (h.go (gr_al V (.cells #[.int .i64 cap, .bool param, .slice Ai n ci] 69)))
  have GV := Lib.hid (gr_al V (.cells #[.int .i64 cap, .bool param, .slice Ai n ci] 69))
  have HX := Lib.hid (al_new V (.cells #[.int .i64 cap, .bool param, .slice Ai n ci] 69))
  have HK := Lib.hid h.lt
  have HPV := Lib.hid hpv
  rw [hn]
  clear h hb hnm hr hn ha1 ha2 ha3 hpv pok
  obtain ⟨kb, hkb⟩ : ∃ k, V.heap.size = k := ⟨_, rfl⟩
  go_enter Tryz.func33, Tryz.ntmps33
  go_upto_region 1 with fail
  rw [hkb] at HX HK
  have GS := Lib.hid (show kb < (V.alloc (.cells #[.int .i64 cap, .bool param, .slice Ai n ci] 69)).heap.size from by rw [← hkb]; simp)
  generalize V.alloc (.cells #[.int .i64 cap, .bool param, .slice Ai n ci] 69) = V0 at *
  have BX := Lib.hid (fun V' (k : OK5 w0 V0 V') => (show V'.cell? ⟨kb, 0, none⟩ = some (.int .i64 cap) ∧ V'.cell? ⟨kb, 1, none⟩ = some (.bool param) ∧ V'.cell? ⟨kb, 2, none⟩ = some (.slice Ai n ci) from by
    have h2 := ok5_h k (by decide) (by have := HK.out; omega) HX.out
    exact ⟨by rw [Lib.cell_of_heap h2]; rfl, by rw [Lib.cell_of_heap h2]; rfl, by rw [Lib.cell_of_heap h2]; rfl⟩))
  obtain ⟨b0, b1, b2⟩ := BX.out V0 (Lib.OthersKept.refl _ _ _)
  go_upto_region 2 with (go_at_call 32; refine (N1.out _ H0.out).mono ?_; rintro e V1 ⟨rfl, r1, k1⟩; have R1 := Lib.hid r1; have K1 := Lib.hid k1; clear r1 k1)
  clear b0 b1 b2
  obtain ⟨b0, b1, b2⟩ := BX.out V1 K1.out
  have KEY : Calls Tryz.prog 32 #[.pointer (some ⟨w0.heap.size, 0, none⟩), .int .i64 pv] V1 (WrP w0 acc2 V1) := N2.out _ R1.out
  have LOOP : ∀ Q : Prop, Q → Q := fun _ q => q
  clear LOOP
  cases param
  all_goals
    have e1 := HPV.out
    simp only [if_true, if_false, Bool.false_eq_true] at e1
    rw [e1] at KEY
    have KEY := Lib.hid KEY
    clear e1
    go_upto_region 5 with (go_at_call 32; refine (KEY.out).mono ?_; rintro e V2 ⟨rfl, r2, k2⟩; have R2 := Lib.hid r2; have K2 := Lib.hid (K1.out.trans k2); clear r2 k2)
    clear b0 b1 b2
    obtain ⟨b0, b1, b2⟩ := BX.out V2 K2.out
    go_upto_region 6 with (go_at_call 32; refine (N3.out _ R2.out).mono ?_; rintro e V3 ⟨rfl, r3, k3⟩; have R3 := Lib.hid r3; have K3 := Lib.hid (K2.out.trans k3); clear r3 k3)
    clear b0 b1 b2
    obtain ⟨b0, b1, b2⟩ := BX.out V3 K3.out
    go_upto_region 7 with fail
    clear b0 b1 b2
    go_loopw [24] (fun u V' => ∃ (j : Nat) (a : T), j ≤ n ∧ u = .int .i64 j ∧ a.length ≤ acc3.length + j * 124 ∧ Hid (WS w0 a V' ∧ a = acc3 ++ eL eI (L.take j) ∧ OK5 w0 V0 V')) (fun u _ => n - (intOf u).toNat)
    case atStart => exact ⟨0, acc3, Nat.zero_le _, rfl, by omega, Lib.hid ⟨R3.out, by simp [eL], K3.out⟩⟩
    case round =>
      obtain ⟨j, a, hj, rfl, hal, HW⟩ := hrel
      by_cases hlt : j < n
      · obtain ⟨y, hy⟩ : ∃ y, L[j]? = some y := ⟨_, List.getElem?_eq_getElem (by rw [HN.out]; exact hlt)⟩
        obtain ⟨ab, a1, hA, hb1, hbb, i0, i1, i2, i3⟩ := (HR.out.gr HW.out.1.gr).ins (k := j) (by rw [HN.out]; exact hlt)
        have hyi : L[j]'(by rw [HN.out]; exact hlt) = y := by rw [List.getElem?_eq_getElem (by rw [HN.out]; exact hlt)] at hy; exact Option.some.inj hy
        rw [hyi] at i0 i1 i2 i3
        have hym := List.mem_of_getElem? hy
        have HYO := Lib.hid (HBI.out y hym)
        have hyn := HNM.out y hym
        obtain ⟨yo, ya, yb, yn⟩ := y
        simp only at i0 i1 i2 i3 hyn
        obtain ⟨a2, ha2⟩ : ∃ z, z = a ++ eN yo := ⟨_, rfl⟩
        obtain ⟨a3, ha3⟩ : ∃ z, z = a2 ++ eA ya := ⟨_, rfl⟩
        obtain ⟨a4, ha4⟩ : ∃ z, z = a3 ++ eN yb := ⟨_, rfl⟩
        obtain ⟨a5, ha5⟩ : ∃ z, z = a4 ++ onePut yn := ⟨_, rfl⟩
        have q2 : a2.length ≤ a.length + 6 := by have := eN_len HYO.out.op; simp only at this; rw [ha2, List.length_append]; omega
        have q3 : a3.length ≤ a.length + 12 := by have := eA_len HYO.out.a; simp only at this; rw [ha3, List.length_append]; omega
        have q4 : a4.length ≤ a.length + 18 := by have := eN_len HYO.out.b; simp only at this; rw [ha4, List.length_append]; omega
        have q5 : a5.length ≤ a.length + 124 := by have := put_len hyn; rw [ha5, List.length_append]; omega
        have NEXT := Lib.hid (show a5 = acc3 ++ eL eI (L.take (j + 1)) from by
          rw [eL_take hy, ha5, ha4, ha3, ha2, HW.out.2.1]
          unfold eI
          simp only [List.append_assoc])
        have hjm : j * 124 ≤ 124000000 := by omega
        have M1 := Lib.hid (fun V' (h' : WS w0 a V') => show Calls Tryz.prog 32 #[.pointer (some ⟨w0.heap.size, 0, none⟩), .int .i64 yo] V' (WrP w0 a2 V') from by rw [ha2]; exact wnum_any w0 V' a yo h' HYO.out.op (by omega))
        have M2 := Lib.hid (fun V' (h' : WS w0 a2 V') => show Calls Tryz.prog 64 #[.pointer (some ⟨w0.heap.size, 0, none⟩), .int .i64 ya] V' (WrP w0 a3 V') from by rw [ha3]; exact wsig_any w0 V' a2 ya h' HYO.out.a (by omega))
        have M3 := Lib.hid (fun V' (h' : WS w0 a3 V') => show Calls Tryz.prog 32 #[.pointer (some ⟨w0.heap.size, 0, none⟩), .int .i64 yb] V' (WrP w0 a4 V') from by rw [ha4]; exact wnum_any w0 V' a3 yb h' HYO.out.b (by omega))
        have M4 := Lib.hid (fun V' (h' : WS w0 a4 V') => show Calls Tryz.prog 34 #[.pointer (some ⟨w0.heap.size, 0, none⟩), .string ⟨yn.toArray⟩] V' (WrP w0 a5 V') from by rw [ha5]; exact wtext_any w0 V' a4 yn h' (by omega) (by omega))
        subst hA
        clear hyi hy hym ha2 ha3 ha4 ha5 hyn
        go_upto_region 9 with fail
        have GB := Lib.hid (gr_al wr (.cells #[.int .i64 yo, .int .i64 ya, .int .i64 yb, .string ⟨yn.toArray⟩] 71))
        have HY := Lib.hid (al_new wr (.cells #[.int .i64 yo, .int .i64 ya, .int .i64 yb, .string ⟨yn.toArray⟩] 71))
        have HS := Lib.hid HW.out.1.lt
        obtain ⟨ky, hky⟩ : ∃ k, wr.heap.size = k := ⟨_, rfl⟩
        rw [hky] at HY HS ⊢
        clear i0 i1 i2 i3 hbb
        generalize wr.alloc (.cells #[.int .i64 yo, .int .i64 ya, .int .i64 yb, .string ⟨yn.toArray⟩] 71) = W1 at *
        have BY := Lib.hid (fun V' (k : OK5 w0 W1 V') => (show V'.cell? ⟨ky, 0, none⟩ = some (.int .i64 yo) ∧ V'.cell? ⟨ky, 1, none⟩ = some (.int .i64 ya) ∧ V'.cell? ⟨ky, 2, none⟩ = some (.int .i64 yb) ∧ V'.cell? ⟨ky, 3, none⟩ = some (.string ⟨yn.toArray⟩) from by
          have h2 := ok5_h k (by decide) (by have := HS.out; omega) HY.out
          exact ⟨by rw [Lib.cell_of_heap h2]; rfl, by rw [Lib.cell_of_heap h2]; rfl, by rw [Lib.cell_of_heap h2]; rfl, by rw [Lib.cell_of_heap h2]; rfl⟩))
        obtain ⟨i0, i1, i2, i3⟩ := BY.out W1 (Lib.OthersKept.refl _ _ _)
        go_upto_region 10 with (go_at_call 32; refine (M1.out _ (HW.out.1.go GB.out)).mono ?_; rintro e W2 ⟨rfl, r, k⟩; have S2 := Lib.hid r; have J2 := Lib.hid k; clear r k)
        clear i0 i1 i2 i3
        obtain ⟨i0, i1, i2, i3⟩ := BY.out W2 J2.out
        go_upto_region 11 with (go_at_call 64; refine (M2.out _ S2.out).mono ?_; rintro e W3 ⟨rfl, r, k⟩; have S3 := Lib.hid r; have J3 := Lib.hid (J2.out.trans k); clear r k)
        clear i0 i1 i2 i3
        obtain ⟨i0, i1, i2, i3⟩ := BY.out W3 J3.out
        go_upto_region 12 with (go_at_call 32; refine (M3.out _ S3.out).mono ?_; rintro e W4 ⟨rfl, r, k⟩; have S4 := Lib.hid r; have J4 := Lib.hid (J3.out.trans k); clear r k)
        clear i0 i1 i2 i3
        obtain ⟨i0, i1, i2, i3⟩ := BY.out W4 J4.out
        go_wp2_with (go_at_call 34; refine (M4.out _ S4.out).mono ?_; rintro e W5 ⟨rfl, r, k⟩; have S5 := Lib.hid r; have J5 := Lib.hid (J4.out.trans k); clear r k)
        exact ⟨⟨j + 1, a5, by omega, by simp, by omega, Lib.hid ⟨S5.out, NEXT.out, HW.out.2.2.trans ((ok5_gr GB.out).trans J5.out)⟩⟩, by simp [intOf]; omega⟩
      · obtain rfl : n = j := by omega
        go_wp2
        go_end0
        refine ⟨rfl, ?_, (ok5_gr GV.out).trans HW.out.2.2⟩
        have h2 := HW.out.2.1
        rw [List.take_of_length_le (Nat.le_of_eq HN.out)] at h2
        rw [← h2]
        exact HW.out.1
end Go.Proofs.YtgboboljgcfggaaGreatDoor

/- Walk: the reference's Start. -/
import Derived.Test.YtgboboljgcfggaaGreatDoorM7
namespace Go.Proofs.YtgboboljgcfggaaGreatDoor
open Go.RowKit Go.Maps

attribute [local irreducible] Calls in
set_option maxRecDepth 100000 in
set_option maxHeartbeats 4000000 in
theorem rstart_any (p : Prg) (n : Nam) (w : World) (hp : p.Rd w) (hl : p.Len) : Calls Tryz.prog 12 #[p.v, .agg #[.string ⟨n.pack.toArray⟩, .int .i64 n.id]] w fun e w' => e = .returned (.tuple #[iv (stR p n).1, iv (stR p n).2]) ∧ Gr w w' := by
  unfold Prg.v
  obtain ⟨ns, hns⟩ : ∃ m, p.ss.length = m := ⟨_, rfl⟩
  obtain ⟨ex, hex⟩ : ∃ e, errP p = e := ⟨_, rfl⟩
  have hnl := hl.s
  rw [hns] at hnl
  have CK := Lib.hid (fun V (g : Gr w V) => show Calls Tryz.prog 31 #[.agg #[.slice p.bA p.bs.length p.bc, .slice p.sA ns p.sc]] V (fun e w' => e = .returned (.int .i64 ex) ∧ Below V.heap.size V w') from by
    have h := rcheck_any p V (hp.below (below_of g)) hl.b hl.s hl.i hl.k
    unfold Prg.v at h
    rw [hns, hex] at h
    exact h)
  have HS := Lib.hid (fun V (g : Gr w V) => hp.s.gr g)
  have HNS := Lib.hid hns
  have HEX := Lib.hid hex
  rw [hns]
  clear hp hl hns hex
  have GW := Lib.hid ((gr_al w (.cells #[.slice p.bA p.bs.length p.bc, .slice p.sA ns p.sc] 26)).trans (gr_al _ (.cells #[.string ⟨n.pack.toArray⟩, .int .i64 n.id] 33)))
  have HB := Lib.hid (fun V (g : Gr ((w.alloc (.cells #[.slice p.bA p.bs.length p.bc, .slice p.sA ns p.sc] 26)).alloc (.cells #[.string ⟨n.pack.toArray⟩, .int .i64 n.id] 33)) V) => (show V.cell? ⟨w.heap.size, 0, none⟩ = some (.slice p.bA p.bs.length p.bc) ∧ V.cell? ⟨w.heap.size, 1, none⟩ = some (.slice p.sA ns p.sc) ∧ V.cell? ⟨w.heap.size + 1, 0, none⟩ = some (.string ⟨n.pack.toArray⟩) ∧ V.cell? ⟨w.heap.size + 1, 1, none⟩ = some (.int .i64 n.id) from by
    have h := gr_h g (gr_h (gr_al _ _) (al_new w (.cells #[.slice p.bA p.bs.length p.bc, .slice p.sA ns p.sc] 26)))
    have h2 := gr_h g (al_at (w.alloc (.cells #[.slice p.bA p.bs.length p.bc, .slice p.sA ns p.sc] 26)) (.cells #[.string ⟨n.pack.toArray⟩, .int .i64 n.id] 33) (A := w.heap.size + 1) (by simp))
    exact ⟨by rw [Lib.cell_of_heap h]; rfl, by rw [Lib.cell_of_heap h]; rfl, by rw [Lib.cell_of_heap h2]; rfl, by rw [Lib.cell_of_heap h2]; rfl⟩))
  go_enter Tryz.func12, Tryz.ntmps12
  go_upto_region 1 with (fail)
  generalize (w.alloc (.cells #[.slice p.bA p.bs.length p.bc, .slice p.sA ns p.sc] 26)).alloc (.cells #[.string ⟨n.pack.toArray⟩, .int .i64 n.id] 33) = W0 at *
  obtain ⟨p0, p1, n0, n1⟩ := HB.out _ (gr_refl _)
  by_cases h0 : ex = 0
  · have t1 : (ex != 0) = false := by simp [h0]
    have HX0 := Lib.hid (show errP p = 0 from HEX.out.trans h0)
    clear h0
    go_upto_region 3 with (go_at_call 31; refine (CK.out _ GW.out).mono ?_; rintro e W1 ⟨rfl, b1⟩; have G1 := Lib.hid (gr_of b1); clear b1)
    clear p0 p1 n0 n1
    obtain ⟨p0, p1, n0, n1⟩ := HB.out _ G1.out
    go_wp2
    go_loopw [6] (fun u V => ∃ k : Nat, k ≤ ns ∧ u = .int .i64 k ∧ Hid (Gr W0 V ∧ ∀ s ∈ p.ss.take k, (s.pack == n.pack && s.id == n.id) = false)) (fun u _ => ns - (intOf u).toNat)
    case atStart => exact ⟨0, Nat.zero_le _, rfl, Lib.hid ⟨G1.out, by simp⟩⟩
    case round =>
      clear p0 p1 n0 n1
      obtain ⟨k, hk, rfl, HR⟩ := hrel
      obtain ⟨p0, p1, n0, n1⟩ := HB.out _ HR.out.1
      by_cases hlt : k < ns
      · obtain ⟨s, hs⟩ : ∃ s, p.ss[k]? = some s := ⟨_, List.getElem?_eq_getElem (by rw [HNS.out]; exact hlt)⟩
        obtain ⟨a, a1, eA, ha, hab, y0, y1, y2⟩ := (HS.out _ (GW.out.trans HR.out.1)).stt (k := k) (by rw [HNS.out]; exact hlt)
        have hsi : p.ss[k]'(by rw [HNS.out]; exact hlt) = s := by rw [List.getElem?_eq_getElem (by rw [HNS.out]; exact hlt)] at hs; exact Option.some.inj hs
        rw [hsi] at y0 y1 y2
        rw [eA]
        have HSI := Lib.hid hs
        have FND := Lib.hid (show (s.pack == n.pack && s.id == n.id) = true → stR p n = (s.block, 0) from fun h => by
          unfold stR
          rw [if_neg (fun h2 => h2 HX0.out)]
          have h3 : p.ss.find? (fun s => s.pack == n.pack && s.id == n.id) = some s := by
            rw [← List.take_append_drop k p.ss, List.find?_append, List.find?_eq_none.2 (fun x hx => by rw [HR.out.2 x hx]; simp), Option.none_or]
            obtain ⟨hk', e⟩ := List.getElem?_eq_some_iff.1 hs
            rw [List.drop_eq_getElem_cons hk', e, List.find?_cons, h]
          rw [h3])
        have NXT := Lib.hid (show (s.pack == n.pack && s.id == n.id) = false → ∀ x ∈ p.ss.take (k + 1), (x.pack == n.pack && x.id == n.id) = false from fun h x hx => by
          rw [List.take_add_one, hs, List.mem_append] at hx
          rcases hx with hx | hx
          · exact HR.out.2 x hx
          · simp at hx; subst hx; exact h)
        clear hs hsi
        cases e1 : (s.pack == n.pack) with
        | false =>
          rw [e1] at FND NXT
          have NX := Lib.hid (NXT.out rfl)
          go_upto_region 6 with fail
          go_region
          all_goals go_wp2
          all_goals exact ⟨⟨k + 1, by omega, by simp, Lib.hid ⟨HR.out.1.trans (gr_drew _), NX.out⟩⟩, by simp [intOf]; omega⟩
        | true =>
          cases e2 : (s.id == n.id) with
          | false =>
            rw [e1, e2] at FND NXT
            have NX := Lib.hid (NXT.out rfl)
            go_upto_region 6 with fail
            go_region
            all_goals go_wp2
            all_goals exact ⟨⟨k + 1, by omega, by simp, Lib.hid ⟨HR.out.1.trans (gr_drew _), NX.out⟩⟩, by simp [intOf]; omega⟩
          | true =>
            rw [e1, e2] at FND NXT
            have FN := Lib.hid (FND.out rfl)
            go_upto_region 6 with fail
            go_region
            all_goals go_wp2
            all_goals go_ret2
            all_goals exact ⟨by rw [FN.out]; rfl, GW.out.trans (HR.out.1.trans (gr_drew _))⟩
      · obtain rfl : ns = k := by omega
        have FN := Lib.hid (show stR p n = (0, 8) from by
          unfold stR
          rw [if_neg (fun h2 => h2 HX0.out)]
          have h3 : p.ss.find? (fun s => s.pack == n.pack && s.id == n.id) = none := List.find?_eq_none.2 (fun x hx => by
            have h := HR.out.2
            rw [List.take_of_length_le (Nat.le_of_eq HNS.out)] at h
            rw [h x hx]; simp)
          rw [h3])
        go_wp2
        go_ret2
        exact ⟨by rw [FN.out]; rfl, GW.out.trans HR.out.1⟩
  · have t1 : (ex != 0) = true := by simpa using h0
    have HX0 := Lib.hid (show stR p n = (0, 1) from by unfold stR; rw [if_pos (by rw [HEX.out]; exact h0)])
    clear h0
    go_wp2_with (go_at_call 31; refine (CK.out _ GW.out).mono ?_; rintro e W1 ⟨rfl, b1⟩; have G1 := Lib.hid (gr_of b1); clear b1)
    go_ret2
    exact ⟨by rw [HX0.out]; rfl, GW.out.trans G1.out⟩
end Go.Proofs.YtgboboljgcfggaaGreatDoor

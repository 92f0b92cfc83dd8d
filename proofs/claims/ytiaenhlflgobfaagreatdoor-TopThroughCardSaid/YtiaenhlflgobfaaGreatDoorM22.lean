/- Walks and words: Gre, Smd. -/
import Derived.Test.YtiaenhlflgobfaaGreatDoorM1
import Derived.Test.YtiaenhlflgobfaaGreatDoorFre
import Derived.Test.YtiaenhlflgobfaaGreatDoorM11
import Derived.Deep.RegionHeld3
namespace Go.Proofs.YtiaenhlflgobfaaGreatDoor
open Go.RowKit
def RetB (w : World) (e : Ending) (w' : World) : Prop := ∃ b : Bool, e = .returned (.bool b) ∧ Gr w w'
def RetI (w : World) (e : Ending) (w' : World) : Prop := ∃ q : Int, e = .returned (iv q) ∧ Gr w w'
def RetG (L : List Mod) (w : World) (e : Ending) (w' : World) : Prop := ∃ b : Bool, e = .returned (.bool b) ∧ (b = false → L.length ≤ 4) ∧ Gr w w'
theorem retB {w w' : World} {b : Bool} (g : Gr w w') : RetB w (.returned (.bool b)) w' := ⟨b, rfl, g⟩
theorem retI {w w' : World} {q : Int} (g : Gr w w') : RetI w (.returned (iv q)) w' := ⟨q, rfl, g⟩
theorem retG {L : List Mod} {w w' : World} {b : Bool} (h : b = false → L.length ≤ 4) (g : Gr w w') : RetG L w (.returned (.bool b)) w' := ⟨b, rfl, h, g⟩
theorem rdX {w : World} {A : Option Addr} {L : List Ex} (h : RD 6 Ex.cs w A L) {k : Nat} {x : Ex} (hx : L[k]? = some x) : ∃ a a1 : Addr, A = some a ∧ a.add (k * 6) = a1 ∧ a1.block < w.heap.size ∧ w.cell? a1 = some (iv x.kind) ∧ w.cell? ⟨a1.block, a1.off + 1, none⟩ = some (tv x.name) ∧ w.cell? ⟨a1.block, a1.off + 2, none⟩ = some (tv x.more) ∧ w.cell? ⟨a1.block, a1.off + 3, none⟩ = some (iv x.int) ∧ w.cell? ⟨a1.block, a1.off + 4, none⟩ = some (iv x.den) ∧ w.cell? ⟨a1.block, a1.off + 5, none⟩ = some (.slice x.A x.sub.length x.c) := by
  obtain ⟨hk, rfl⟩ := List.getElem?_eq_some_iff.1 hx
  obtain ⟨a, e, hb, hc⟩ := h.at hk
  refine ⟨a, _, e, rfl, by rw [add_block]; exact hb, by simpa using hc 0 _ rfl, ?_, ?_, ?_, ?_, ?_⟩
  · rw [← fld_add _ 1 (by omega), add_add']; exact hc 1 _ rfl
  · rw [← fld_add _ 2 (by omega), add_add']; exact hc 2 _ rfl
  · rw [← fld_add _ 3 (by omega), add_add']; exact hc 3 _ rfl
  · rw [← fld_add _ 4 (by omega), add_add']; exact hc 4 _ rfl
  · rw [← fld_add _ 5 (by omega), add_add']; exact hc 5 _ rfl
set_option maxRecDepth 100000 in
set_option maxHeartbeats 4000000 in
attribute [local irreducible] Calls in
theorem nodesR_any (x : Ex) : ∀ w : World, x.Rd w → Calls Tryz.prog 74 #[x.v] w (RetI w) := by
  refine Ex.ind (P := fun x => ∀ w : World, x.Rd w → Calls Tryz.prog 74 #[x.v] w (RetI w)) (fun x ih w hx => ?_) x
  obtain ⟨W, hW⟩ : ∃ W, w.alloc (.cells #[iv x.kind, tv x.name, tv x.more, iv x.int, iv x.den, .slice x.A x.sub.length x.c] 43) = W := ⟨_, rfl⟩
  have GW := Lib.hid (show Gr w W by rw [← hW]; exact gr_al _ _)
  have CX := Lib.hid (fun V (g : Gr W V) => ex_box6 x w V (by rw [hW]; exact g))
  have HX := Lib.hid (fun V (g : Gr W V) => hx.gr (GW.out.trans g))
  have CA := Lib.hid (fun y (hy : y ∈ x.sub) V (g : Gr W V) => ih y hy V (((hx.gr (GW.out.trans g)).s.hs y hy)))
  have HW := Lib.hid hW
  obtain ⟨n, hn⟩ : ∃ n, x.sub.length = n := ⟨_, rfl⟩
  have HN := Lib.hid hn
  have hn9 : n ≤ 9223372036854775807 := by rw [← hn]; exact Nat.le_trans hx.s.rw.hc hx.s.rw.hm
  clear hx ih
  unfold Ex.v
  rw [hn] at hW CX ⊢
  clear hn
  go_enter Tryz.func74, Tryz.ntmps74
  go_upto_region 2 with fail
  (try rw [HW.out])
  (try clear hW)
  go_wp2
  go_loopw [3, 4] (fun t i V => ∃ q : Int, t = iv q ∧ ∃ j : Nat, j ≤ n ∧ i = iv j ∧ Hid (Gr W V)) (fun _ i _ => n - (intOf i).toNat)
  case atStart => exact ⟨1, by first | rfl | trivial, 0, by omega, by first | rfl | trivial, Lib.hid (gr_refl _)⟩
  case round =>
    obtain ⟨q, rfl, j, hj, rfl, HG⟩ := hrel
    obtain ⟨c0, c1, c2, c3, c4, c5⟩ := CX.out _ HG.out
    by_cases hlt : j < n
    · obtain ⟨y, hy⟩ : ∃ y, x.sub[j]? = some y := ⟨_, List.getElem?_eq_getElem (by rw [HN.out]; exact hlt)⟩
      obtain ⟨a, a1, hA, ha, hab, d0, d1, d2, d3, d4, d5⟩ := rdX (HX.out _ HG.out).s.r hy
      rw [hA] at c5
      have C1 := Lib.hid (fun V (g : Gr W V) => CA.out y (List.mem_of_getElem? hy) V g)
      unfold Ex.v at C1
      have hlt2 : (j : Int) < (n : Int) := by omega
      clear hA hy
      go_wp2_with (go_at_call 74; (with_reducible refine (C1.out _ HG.out).mono ?_); rintro e w5 ⟨q5, rfl, g5⟩; have G5 := Lib.hid (HG.out.trans g5); clear g5)
      exact ⟨⟨_, rfl, j + 1, by omega, by simp, G5⟩, by simp [intOf]; omega⟩
    · obtain rfl : j = n := by omega
      have hnj : ¬ (j : Int) < (j : Int) := by omega
      go_wp2
      go_ret
      exact retI (GW.out.trans HG.out)
set_option maxRecDepth 100000 in
set_option maxHeartbeats 4000000 in
attribute [local irreducible] Calls in
theorem longR_any (x : Ex) : ∀ w : World, x.Rd w → Calls Tryz.prog 75 #[x.v] w (RetB w) := by
  refine Ex.ind (P := fun x => ∀ w : World, x.Rd w → Calls Tryz.prog 75 #[x.v] w (RetB w)) (fun x ih w hx => ?_) x
  obtain ⟨W, hW⟩ : ∃ W, w.alloc (.cells #[iv x.kind, tv x.name, tv x.more, iv x.int, iv x.den, .slice x.A x.sub.length x.c] 43) = W := ⟨_, rfl⟩
  have GW := Lib.hid (show Gr w W by rw [← hW]; exact gr_al _ _)
  have CX := Lib.hid (fun V (g : Gr W V) => ex_box6 x w V (by rw [hW]; exact g))
  have HX := Lib.hid (fun V (g : Gr W V) => hx.gr (GW.out.trans g))
  have CA := Lib.hid (fun y (hy : y ∈ x.sub) V (g : Gr W V) => ih y hy V (((hx.gr (GW.out.trans g)).s.hs y hy)))
  have sn := hx.n
  have sm := hx.m
  unfold sOk at sn sm
  obtain ⟨n, hn⟩ : ∃ n, x.sub.length = n := ⟨_, rfl⟩
  have HN := Lib.hid hn
  have hn9 : n ≤ 9223372036854775807 := by rw [← hn]; exact Nat.le_trans hx.s.rw.hc hx.s.rw.hm
  clear hx ih
  unfold Ex.v
  rw [hn] at hW CX ⊢
  clear hn
  have lr : ∀ (V : World), Gr W V → True := fun _ _ => trivial
  clear lr
  by_cases hl : 100 < x.name.length
  · have hl2 : (100 : Int) < (x.name.length : Int) := by omega
    have HW := Lib.hid hW
    go_enter Tryz.func75, Tryz.ntmps75
    go_upto_region 1 with fail
    (try rw [HW.out])
    obtain ⟨c0, c1, c2, c3, c4, c5⟩ := CX.out _ (gr_refl _)
    go_wp2
    go_ret
    exact retB (GW.out)
  by_cases hl3 : 100 < x.more.length
  · have hl2 : ¬ (100 : Int) < (x.name.length : Int) := by omega
    have hl4 : (100 : Int) < (x.more.length : Int) := by omega
    have HW := Lib.hid hW
    go_enter Tryz.func75, Tryz.ntmps75
    go_upto_region 1 with fail
    (try rw [HW.out])
    obtain ⟨c0, c1, c2, c3, c4, c5⟩ := CX.out _ (gr_refl _)
    go_wp2
    go_ret
    exact retB (GW.out)
  have hl2 : ¬ (100 : Int) < (x.name.length : Int) := by omega
  have hl4 : ¬ (100 : Int) < (x.more.length : Int) := by omega
  have HW := Lib.hid hW
  go_enter Tryz.func75, Tryz.ntmps75
  go_upto_region 1 with fail
  (try rw [HW.out])
  obtain ⟨c0, c1, c2, c3, c4, c5⟩ := CX.out _ (gr_refl _)
  go_wp2
  clear c0 c1 c2 c3 c4 c5 hl hl2 hl3 hl4 hW
  go_loopw [3] (fun i V => ∃ j : Nat, j ≤ n ∧ i = iv j ∧ Hid (Gr W V)) (fun i _ => n - (intOf i).toNat)
  case atStart => exact ⟨0, by omega, by first | rfl | trivial, Lib.hid (gr_refl _)⟩
  case round =>
    obtain ⟨j, hj, rfl, HG⟩ := hrel
    obtain ⟨c0, c1, c2, c3, c4, c5⟩ := CX.out _ HG.out
    by_cases hlt : j < n
    · obtain ⟨y, hy⟩ : ∃ y, x.sub[j]? = some y := ⟨_, List.getElem?_eq_getElem (by rw [HN.out]; exact hlt)⟩
      obtain ⟨a, a1, hA, ha, hab, d0, d1, d2, d3, d4, d5⟩ := rdX (HX.out _ HG.out).s.r hy
      rw [hA] at c5
      have C1 := Lib.hid (fun V (g : Gr W V) => CA.out y (List.mem_of_getElem? hy) V g)
      unfold Ex.v at C1
      have hlt2 : (j : Int) < (n : Int) := by omega
      clear hA hy
      go_upto_region 7 with (go_at_call 75; (with_reducible refine (C1.out _ HG.out).mono ?_); rintro e w5 ⟨b5, rfl, g5⟩; have G5 := Lib.hid (HG.out.trans g5); clear g5; cases b5)
      · go_wp2
        exact ⟨⟨j + 1, by omega, by simp, G5⟩, by simp [intOf]; omega⟩
      · go_wp2
        go_ret
        exact retB (GW.out.trans G5.out)
    · obtain rfl : j = n := by omega
      have hnj : ¬ (j : Int) < (j : Int) := by omega
      go_wp2
      go_ret
      exact retB (GW.out.trans HG.out)
set_option maxRecDepth 100000 in
set_option maxHeartbeats 4000000 in
attribute [local irreducible] Calls in
theorem greatE_any (x : Ex) (w : World) (hx : x.Rd w) : Calls Tryz.prog 36 #[x.v] w (RetB w) := by
  obtain ⟨W, hW⟩ : ∃ W, w.alloc (.cells #[iv x.kind, tv x.name, tv x.more, iv x.int, iv x.den, .slice x.A x.sub.length x.c] 43) = W := ⟨_, rfl⟩
  have GW := Lib.hid (show Gr w W by rw [← hW]; exact gr_al _ _)
  have CX := Lib.hid (fun V (g : Gr W V) => ex_box6 x w V (by rw [hW]; exact g))
  have HX := Lib.hid (fun V (g : Gr W V) => hx.gr (GW.out.trans g))
  have C1 := Lib.hid (fun V (g : Gr W V) => nodesR_any x V (HX.out V g))
  have C2 := Lib.hid (fun V (g : Gr W V) => longR_any x V (HX.out V g))
  have HW := Lib.hid hW
  clear hx hW
  unfold Ex.v at C1 C2 ⊢
  obtain ⟨c0, c1, c2, c3, c4, c5⟩ := CX.out _ (gr_refl _)
  go_enter Tryz.func36, Tryz.ntmps36
  go_upto_region 1 with fail
  (try rw [HW.out])
  go_wp2_with (first
    | (go_at_call 74; (with_reducible refine (C1.out _ (gr_refl _)).mono ?_); rintro e w1 ⟨q, rfl, g1⟩; have G1 := Lib.hid g1; clear g1 c0 c1 c2 c3 c4 c5; obtain ⟨c0, c1, c2, c3, c4, c5⟩ := CX.out _ G1.out; by_cases hq : 40 < q)
    | (go_at_call 75; (with_reducible refine (C2.out _ G1.out).mono ?_); rintro e w2 ⟨b, rfl, g2⟩; have G2 := Lib.hid (G1.out.trans g2); clear g2; (try dsimp only)))
  all_goals go_ret
  · exact retB (GW.out.trans G1.out)
  · exact retB (GW.out.trans G2.out)
set_option maxRecDepth 100000 in
set_option maxHeartbeats 4000000 in
attribute [local irreducible] Calls in
theorem greatU_any (Ad : Option Addr) (c : Nat) (us : List T) (w : World) (h : SRd w Ad c us) : Calls Tryz.prog 34 #[.slice Ad us.length c] w (RetB w) := by
  obtain ⟨n, hn⟩ : ∃ n, us.length = n := ⟨_, rfl⟩
  have HN := Lib.hid hn
  have HU := Lib.hid (fun V (g : Gr w V) => h.gr g)
  rw [hn]
  clear h hn
  by_cases h10 : 10 < n
  · have h10' : (10 : Int) < (n : Int) := by omega
    go_enter Tryz.func34, Tryz.ntmps34
    go_wp2
    go_ret
    exact retB (gr_refl _)
  have h10' : ¬ (10 : Int) < (n : Int) := by omega
  go_enter Tryz.func34, Tryz.ntmps34
  go_wp2
  clear h10'
  go_loopw [3] (fun i V => ∃ j : Nat, j ≤ n ∧ i = iv j ∧ Hid (Gr w V)) (fun i _ => n - (intOf i).toNat)
  case atStart => exact ⟨0, by omega, by first | rfl | trivial, Lib.hid (gr_refl _)⟩
  case round =>
    obtain ⟨j, hj, rfl, HG⟩ := hrel
    by_cases hlt : j < n
    · obtain ⟨u, hu⟩ : ∃ u, us[j]? = some u := ⟨_, List.getElem?_eq_getElem (by rw [HN.out]; exact hlt)⟩
      obtain ⟨a, a1, rfl, ha, hab, d0⟩ := rdS (HU.out _ HG.out).r hu
      have hs := (HU.out _ HG.out).ok u (List.mem_of_getElem? hu)
      unfold sOk at hs
      have hlt2 : (j : Int) < (n : Int) := by omega
      clear hu
      by_cases hl : 120 < u.length
      · have hl2 : (120 : Int) < (u.length : Int) := by omega
        go_wp2
        go_ret
        exact retB (HG.out)
      · have hl2 : ¬ (120 : Int) < (u.length : Int) := by omega
        go_wp2
        exact ⟨⟨j + 1, by omega, by simp, HG⟩, by simp [intOf]; omega⟩
    · obtain rfl : j = n := by omega
      have hnj : ¬ (j : Int) < (j : Int) := by omega
      go_wp2
      go_ret
      exact retB (HG.out)
set_option maxRecDepth 100000 in
set_option maxHeartbeats 4000000 in
attribute [local irreducible] Calls in
theorem greatD_any (Ad : Option Addr) (c : Nat) (ds : List Dec) (w : World) (h : DRd w Ad c ds) : Calls Tryz.prog 15 #[.slice Ad ds.length c] w (RetB w) := by
  obtain ⟨n, hn⟩ : ∃ n, ds.length = n := ⟨_, rfl⟩
  have HN := Lib.hid hn
  have HD := Lib.hid (fun V (g : Gr w V) => h.gr g)
  have CE := Lib.hid (fun d (hd : d ∈ ds) V (g : Gr w V) => greatE_any d.body V ((h.d d hd).b.gr g))
  rw [hn]
  clear h hn
  by_cases h8 : 8 < n
  · have h8' : (8 : Int) < (n : Int) := by omega
    go_enter Tryz.func15, Tryz.ntmps15
    go_wp2
    go_ret
    exact retB (gr_refl _)
  have h8' : ¬ (8 : Int) < (n : Int) := by omega
  go_enter Tryz.func15, Tryz.ntmps15
  go_wp2
  clear h8'
  go_loopw [3, 4] (fun i _ V => ∃ j : Nat, j ≤ n ∧ i = iv j ∧ Hid (Gr w V)) (fun i _ _ => n - (intOf i).toNat)
  case atStart => exact ⟨0, by omega, by first | rfl | trivial, Lib.hid (gr_refl _)⟩
  case round =>
    obtain ⟨j, hj, rfl, HG⟩ := hrel
    by_cases hlt : j < n
    · obtain ⟨d, hd⟩ : ∃ d, ds[j]? = some d := ⟨_, List.getElem?_eq_getElem (by rw [HN.out]; exact hlt)⟩
      have HDJ := Lib.hid hd
      have C1 := Lib.hid (fun V (g : Gr w V) => CE.out d (List.mem_of_getElem? hd) V g)
      have HS := Lib.hid (fun V (g : Gr w V) => ((HD.out V g).d d (List.mem_of_getElem? hd)).n)
      unfold Ex.v at C1
      obtain ⟨a, a1, hA, ha, hab, d0, d1, d2, d3, d4, d5, d6, d7, d8, d9, d10⟩ := rdD (HD.out _ HG.out).r hd
      subst hA
      obtain ⟨m, hm⟩ : ∃ m, d.names.length = m := ⟨_, rfl⟩
      have HM := Lib.hid hm
      have hsl := (HS.out _ HG.out).rw.hc
      have hsm := (HS.out _ HG.out).rw.hm
      rw [hm] at d3 hsl
      have hlt2 : (j : Int) < (n : Int) := by omega
      clear hd hm
      by_cases h5 : 5 < m
      · have h5' : (5 : Int) < (m : Int) := by omega
        go_wp2
        go_ret
        exact retB (HG.out)
      have h5' : ¬ (5 : Int) < (m : Int) := by omega
      go_upto_region 8 with (go_at_call 36; (with_reducible refine (C1.out _ HG.out).mono ?_); rintro e w5 ⟨b5, rfl, g5⟩; have G5 := Lib.hid (HG.out.trans g5); clear g5; cases b5)
      rotate_left
      · go_wp2
        go_ret
        exact retB (G5.out)
      go_wp2
      clear d0 d1 d2 d3 d4 d5 d6 d7 d8 d9 d10 h5'
      go_loopw [4] (fun i V => ∃ k : Nat, k ≤ m ∧ i = iv k ∧ Hid (Gr w V)) (fun i _ => m - (intOf i).toNat)
      case atStart => exact ⟨0, by omega, by first | rfl | trivial, G5⟩
      case round =>
        obtain ⟨k, hk, rfl, HK⟩ := hrel
        obtain ⟨b, b1, hB, hb, hbb, d0, d1, d2, d3, d4, d5, d6, d7, d8, d9, d10⟩ := rdD (HD.out _ HK.out).r HDJ.out
        cases hB
        rw [hb] at ha
        subst ha
        rw [HM.out] at d3
        by_cases hkt : k < m
        · obtain ⟨s, hs⟩ : ∃ s, d.names[k]? = some s := ⟨_, List.getElem?_eq_getElem (by rw [HM.out]; exact hkt)⟩
          obtain ⟨f, f1, hF, hf, hfb, e0⟩ := rdS (HS.out _ HK.out).r hs
          rw [hF] at d3
          have hsk := (HS.out _ HK.out).ok s (List.mem_of_getElem? hs)
          unfold sOk at hsk
          have hkt2 : (k : Int) < (m : Int) := by omega
          clear hs hF
          by_cases hl : 100 < s.length
          · have hl2 : (100 : Int) < (s.length : Int) := by omega
            go_wp2
            go_ret
            exact retB (HK.out)
          · have hl2 : ¬ (100 : Int) < (s.length : Int) := by omega
            go_wp2
            exact ⟨⟨k + 1, by omega, by simp, HK⟩, by simp [intOf]; omega⟩
        · obtain rfl : k = m := by omega
          have hnk : ¬ (k : Int) < (k : Int) := by omega
          go_wp2
          exact ⟨⟨j + 1, by omega, by simp, HK⟩, by simp [intOf]; omega⟩
    · obtain rfl : j = n := by omega
      have hnj : ¬ (j : Int) < (j : Int) := by omega
      go_wp2
      go_ret
      exact retB (HG.out)
set_option maxRecDepth 100000 in
set_option maxHeartbeats 4000000 in
attribute [local irreducible] Calls in
theorem greatM_any (m : Mod) (w : World) (hm : m.Rd w) : Calls Tryz.prog 13 #[m.v] w (RetB w) := by
  obtain ⟨W, hW⟩ : ∃ W, w.alloc (.cells #[tv m.label, .slice m.uA m.uses.length m.uc, .slice m.dA m.decls.length m.dc] 39) = W := ⟨_, rfl⟩
  have GW := Lib.hid (show Gr w W by rw [← hW]; exact gr_al _ _)
  have CM := Lib.hid (fun V (g : Gr W V) => show V.cell? ⟨w.heap.size, 0, none⟩ = some (tv m.label) ∧ V.cell? ⟨w.heap.size, 1, none⟩ = some (.slice m.uA m.uses.length m.uc) ∧ V.cell? ⟨w.heap.size, 2, none⟩ = some (.slice m.dA m.decls.length m.dc) from by
    have h := gr_h g (show W.heap[w.heap.size]? = _ from by rw [← hW]; exact al_new _ _)
    refine ⟨?_, ?_, ?_⟩ <;> (rw [Lib.cell_of_heap h]; rfl))
  have C1 := Lib.hid (fun V (g : Gr W V) => greatU_any m.uA m.uc m.uses V (hm.u.gr (GW.out.trans g)))
  have C2 := Lib.hid (fun V (g : Gr W V) => greatD_any m.dA m.dc m.decls V (hm.d.gr (GW.out.trans g)))
  have sl := hm.l
  unfold sOk at sl
  have HW := Lib.hid hW
  clear hm hW
  unfold Mod.v
  obtain ⟨c0, c1, c2⟩ := CM.out _ (gr_refl _)
  by_cases hl : 120 < m.label.length
  · have hl2 : (120 : Int) < (m.label.length : Int) := by omega
    go_enter Tryz.func13, Tryz.ntmps13
    go_upto_region 1 with fail
    (try rw [HW.out])
    go_wp2
    go_ret
    exact retB (GW.out)
  have hl2 : ¬ (120 : Int) < (m.label.length : Int) := by omega
  go_enter Tryz.func13, Tryz.ntmps13
  go_upto_region 1 with fail
  (try rw [HW.out])
  go_wp2_with (first
    | (go_at_call 34; (with_reducible refine (C1.out _ (gr_refl _)).mono ?_); rintro e w1 ⟨b, rfl, g1⟩; have G1 := Lib.hid g1; clear g1 c0 c1 c2; obtain ⟨c0, c1, c2⟩ := CM.out _ G1.out; cases b)
    | (go_at_call 15; (with_reducible refine (C2.out _ G1.out).mono ?_); rintro e w2 ⟨b, rfl, g2⟩; have G2 := Lib.hid (G1.out.trans g2); clear g2; (try dsimp only)))
  all_goals go_ret
  · exact retB (GW.out.trans G2.out)
  · exact retB (GW.out.trans G1.out)
set_option maxRecDepth 100000 in
set_option maxHeartbeats 4000000 in
attribute [local irreducible] Calls in
theorem great_any (Ad : Option Addr) (c : Nat) (L : List Mod) (w : World) (h : MRd w Ad c L) : Calls Tryz.prog 6 #[.slice Ad L.length c] w (RetG L w) := by
  obtain ⟨n, hn⟩ : ∃ n, L.length = n := ⟨_, rfl⟩
  have HN := Lib.hid hn
  have HM := Lib.hid (fun V (g : Gr w V) => h.gr g)
  have hc := h.rw.hc
  have hcm := h.rw.hm
  rw [hn] at hc ⊢
  clear h hn
  go_enter Tryz.func6, Tryz.ntmps6
  go_wp2
  go_loopw [3] (fun i V => ∃ j : Nat, j ≤ n ∧ i = iv j ∧ Hid (Gr w V)) (fun i _ => n - (intOf i).toNat)
  case atStart => exact ⟨0, by omega, by first | rfl | trivial, Lib.hid (gr_refl _)⟩
  case round =>
    obtain ⟨j, hj, rfl, HG⟩ := hrel
    by_cases hlt : j < n
    · obtain ⟨m, hm⟩ : ∃ m, L[j]? = some m := ⟨_, List.getElem?_eq_getElem (by rw [HN.out]; exact hlt)⟩
      obtain ⟨a, a1, rfl, ha, hab, d0, d1, d2⟩ := rdM (HM.out _ HG.out).r hm
      have C1 := Lib.hid (fun V (g : Gr w V) => greatM_any m V ((HM.out V g).m m (List.mem_of_getElem? hm)))
      unfold Mod.v at C1
      have hlt2 : (j : Int) < (n : Int) := by omega
      clear hm
      go_upto_region 5 with (go_at_call 13; (with_reducible refine (C1.out _ HG.out).mono ?_); rintro e w5 ⟨b5, rfl, g5⟩; have G5 := Lib.hid (HG.out.trans g5); clear g5; cases b5)
      · go_wp2
        exact ⟨⟨j + 1, by omega, by simp, G5⟩, by simp [intOf]; omega⟩
      · go_wp2
        go_ret
        exact retG (fun h => by cases h) G5.out
    · obtain rfl : j = n := by omega
      have hnj : ¬ (j : Int) < (j : Int) := by omega
      by_cases h4 : 4 < j
      · have h4' : (4 : Int) < (j : Int) := by omega
        go_wp2
        go_ret
        exact retG (fun h => by cases h) HG.out
      · have h4' : ¬ (4 : Int) < (j : Int) := by omega
        have h4n : j ≤ 4 := by omega
        have HH := Lib.hid h4n
        go_wp2
        go_ret
        exact retG (fun _ => by have := HN.out; have := HH.out; omega) HG.out
end Go.Proofs.YtiaenhlflgobfaaGreatDoor
namespace Go.Proofs.YtiaenhlflgobfaaGreatDoor
open Go.RowKit
set_option maxRecDepth 100000 in
set_option maxHeartbeats 4000000 in
attribute [local irreducible] Calls in
theorem sameS_any (Aa : Option Addr) (c : Nat) (us : List T) (B : Option Addr) (d : Nat) (w : World) (hA : RD 1 scs w Aa us) (hB : RD 1 scs w B us) (hn : us.length ≤ 9223372036854775807) : Calls Tryz.prog 71 #[.slice Aa us.length c, .slice B us.length d] w fun e w' => e = .returned (.bool true) ∧ Gr w w' := by
  obtain ⟨n, hus⟩ : ∃ n, us.length = n := ⟨_, rfl⟩
  have HN := Lib.hid hus
  have HA := Lib.hid (fun V (g : Gr w V) => hA.gr g)
  have HB := Lib.hid (fun V (g : Gr w V) => hB.gr g)
  rw [hus] at hn ⊢
  clear hA hB hus
  go_enter Tryz.func71, Tryz.ntmps71
  go_wp2
  go_loopw [5] (fun i V => ∃ j : Nat, j ≤ n ∧ i = iv j ∧ Hid (Gr w V)) (fun i _ => n - (intOf i).toNat)
  case atStart => exact ⟨0, by omega, by first | rfl | trivial, Lib.hid (gr_refl _)⟩
  case round =>
    obtain ⟨j, hj, rfl, HG⟩ := hrel
    by_cases hlt : j < n
    · obtain ⟨u, hu⟩ : ∃ u, us[j]? = some u := ⟨_, List.getElem?_eq_getElem (by rw [HN.out]; exact hlt)⟩
      obtain ⟨a, a1, rfl, ha, hab, d0⟩ := rdS (HA.out _ HG.out) hu
      obtain ⟨b, b1, rfl, hb, hbb, e0⟩ := rdS (HB.out _ HG.out) hu
      have hlt2 : (j : Int) < (n : Int) := by omega
      clear hu
      go_upto_region 6 with fail
      go_big_quiet (fail)
      go_wp2
      exact ⟨⟨j + 1, by omega, by simp, Lib.hid (HG.out.trans (gr_drewN _ _))⟩, by simp [intOf]; omega⟩
    · obtain rfl : j = n := by omega
      have hnj : ¬ (j : Int) < (j : Int) := by omega
      go_wp2
      go_ret
      exact ⟨rfl, HG.out⟩
set_option maxRecDepth 100000 in
set_option maxHeartbeats 4000000 in
attribute [local irreducible] Calls in
theorem sameE_any (x : Ex) : ∀ (y : Ex) (w : World), x.Rd w → y.Rd w → x.er = y.er → Calls Tryz.prog 150 #[x.v, y.v] w fun e w' => e = .returned (.bool true) ∧ Gr w w' := by
  refine Ex.ind (P := fun x => ∀ (y : Ex) (w : World), x.Rd w → y.Rd w → x.er = y.er → Calls Tryz.prog 150 #[x.v, y.v] w fun e w' => e = .returned (.bool true) ∧ Gr w w') (fun x ih y w hx hy he => ?_) x
  rw [er_eq x, er_eq y] at he
  simp only [PE.mk.injEq] at he
  obtain ⟨h1, h2, h3, h4, h5, h6⟩ := he
  have hl : y.sub.length = x.sub.length := by have h := congrArg List.length h6; simpa using h.symm
  have HE := Lib.hid (fun (j : Nat) (p q : Ex) (hp : x.sub[j]? = some p) (hq : y.sub[j]? = some q) => show p.er = q.er from by
    have h : (ers x.sub)[j]? = (ers y.sub)[j]? := by rw [h6]
    rw [ers_map, ers_map, List.getElem?_map, List.getElem?_map, hp, hq] at h
    exact Option.some.inj h)
  obtain ⟨n, hn⟩ : ∃ n, x.sub.length = n := ⟨_, rfl⟩
  have HN := Lib.hid (And.intro hn (hl.trans hn))
  have hn9 : n ≤ 9223372036854775807 := by rw [← hn]; exact Nat.le_trans hx.s.rw.hc hx.s.rw.hm
  obtain ⟨W, hW⟩ : ∃ W, (w.alloc (.cells #[iv x.kind, tv x.name, tv x.more, iv x.int, iv x.den, .slice x.A x.sub.length x.c] 43)).alloc (.cells #[iv x.kind, tv x.name, tv x.more, iv x.int, iv x.den, .slice y.A x.sub.length y.c] 43) = W := ⟨_, rfl⟩
  have GW := Lib.hid (show Gr w W by rw [← hW]; exact (gr_al _ _).trans (gr_al _ _))
  have BX := Lib.hid (fun V (g : Gr W V) => show V.cell? ⟨w.heap.size, 0, none⟩ = some (iv x.kind) ∧ V.cell? ⟨w.heap.size, 1, none⟩ = some (tv x.name) ∧ V.cell? ⟨w.heap.size, 2, none⟩ = some (tv x.more) ∧ V.cell? ⟨w.heap.size, 3, none⟩ = some (iv x.int) ∧ V.cell? ⟨w.heap.size, 4, none⟩ = some (iv x.den) ∧ V.cell? ⟨w.heap.size, 5, none⟩ = some (.slice x.A x.sub.length x.c) from by
    have h := gr_h g (show W.heap[w.heap.size]? = some (.cells #[iv x.kind, tv x.name, tv x.more, iv x.int, iv x.den, .slice x.A x.sub.length x.c] 43 (0, 0)) from by rw [← hW]; exact gr_h (gr_al _ _) (al_new _ _))
    refine ⟨?_, ?_, ?_, ?_, ?_, ?_⟩ <;> (rw [Lib.cell_of_heap h]; rfl))
  have BY := Lib.hid (fun V (g : Gr W V) => show V.cell? ⟨w.heap.size + 1, 0, none⟩ = some (iv x.kind) ∧ V.cell? ⟨w.heap.size + 1, 1, none⟩ = some (tv x.name) ∧ V.cell? ⟨w.heap.size + 1, 2, none⟩ = some (tv x.more) ∧ V.cell? ⟨w.heap.size + 1, 3, none⟩ = some (iv x.int) ∧ V.cell? ⟨w.heap.size + 1, 4, none⟩ = some (iv x.den) ∧ V.cell? ⟨w.heap.size + 1, 5, none⟩ = some (.slice y.A x.sub.length y.c) from by
    have h := gr_h g (show W.heap[w.heap.size + 1]? = some (.cells #[iv x.kind, tv x.name, tv x.more, iv x.int, iv x.den, .slice y.A x.sub.length y.c] 43 (0, 0)) from by rw [← hW]; exact al_at _ _ (by simp))
    refine ⟨?_, ?_, ?_, ?_, ?_, ?_⟩ <;> (rw [Lib.cell_of_heap h]; rfl))
  have RX := Lib.hid (fun V (g : Gr W V) => (hx.gr (GW.out.trans g)).s.r)
  have RY := Lib.hid (fun V (g : Gr W V) => (hy.gr (GW.out.trans g)).s.r)
  have CA := Lib.hid (fun p (hp : p ∈ x.sub) q (hq : q ∈ y.sub) (e : p.er = q.er) V (g : Gr W V) => ih p hp q V (((hx.gr (GW.out.trans g)).s.hs p hp)) (((hy.gr (GW.out.trans g)).s.hs q hq)) e)
  have HW := Lib.hid hW
  unfold Ex.v
  rw [← h1, ← h2, ← h3, ← h4, ← h5, hl, hn]
  rw [hn] at BX BY
  clear hx hy ih h1 h2 h3 h4 h5 h6 hl
  go_enter Tryz.func150, Tryz.ntmps150
  go_upto_region 1 with fail
  (try rw [hn] at HW)
  (try rw [HW.out])
  clear hn hW
  obtain ⟨c0, c1, c2, c3, c4, c5⟩ := BX.out _ (gr_refl _)
  obtain ⟨d0, d1, d2, d3, d4, d5⟩ := BY.out _ (gr_refl _)
  go_wp2
  clear c0 c1 c2 c3 c4 c5 d0 d1 d2 d3 d4 d5
  go_loopw [5] (fun i V => ∃ j : Nat, j ≤ n ∧ i = iv j ∧ Hid (Gr W V)) (fun i _ => n - (intOf i).toNat)
  case atStart => exact ⟨0, by omega, by first | rfl | trivial, Lib.hid (gr_refl _)⟩
  case round =>
    obtain ⟨j, hj, rfl, HG⟩ := hrel
    by_cases hlt : j < n
    · obtain ⟨p, hp⟩ : ∃ p, x.sub[j]? = some p := ⟨_, List.getElem?_eq_getElem (by rw [HN.out.1]; exact hlt)⟩
      obtain ⟨q, hq⟩ : ∃ q, y.sub[j]? = some q := ⟨_, List.getElem?_eq_getElem (by rw [HN.out.2]; exact hlt)⟩
      obtain ⟨a, a1, hxA, ha, hab, -⟩ := rdX (RX.out _ HG.out) hp
      obtain ⟨b, b1, hyA, hb, hbb, -⟩ := rdX (RY.out _ HG.out) hq
      have C1 := Lib.hid (fun V (g : Gr W V) => CA.out p (List.mem_of_getElem? hp) q (List.mem_of_getElem? hq) (HE.out j p q hp hq) V g)
      unfold Ex.v at C1
      have XY := Lib.hid (fun V (g : Gr W V) => show (V.cell? ⟨w.heap.size, 5, none⟩ = some (.slice (some a) n x.c) ∧ V.cell? ⟨w.heap.size + 1, 5, none⟩ = some (.slice (some b) n y.c)) ∧ (V.cell? a1 = some (iv p.kind) ∧ V.cell? ⟨a1.block, a1.off + 1, none⟩ = some (tv p.name) ∧ V.cell? ⟨a1.block, a1.off + 2, none⟩ = some (tv p.more) ∧ V.cell? ⟨a1.block, a1.off + 3, none⟩ = some (iv p.int) ∧ V.cell? ⟨a1.block, a1.off + 4, none⟩ = some (iv p.den) ∧ V.cell? ⟨a1.block, a1.off + 5, none⟩ = some (.slice p.A p.sub.length p.c)) ∧ (V.cell? b1 = some (iv q.kind) ∧ V.cell? ⟨b1.block, b1.off + 1, none⟩ = some (tv q.name) ∧ V.cell? ⟨b1.block, b1.off + 2, none⟩ = some (tv q.more) ∧ V.cell? ⟨b1.block, b1.off + 3, none⟩ = some (iv q.int) ∧ V.cell? ⟨b1.block, b1.off + 4, none⟩ = some (iv q.den) ∧ V.cell? ⟨b1.block, b1.off + 5, none⟩ = some (.slice q.A q.sub.length q.c)) from by
        obtain ⟨c0, c1, c2, c3, c4, c5⟩ := BX.out _ g
        obtain ⟨d0, d1, d2, d3, d4, d5⟩ := BY.out _ g
        rw [hxA] at c5
        rw [hyA] at d5
        obtain ⟨a', a1', e1, e2, -, e3⟩ := rdX (RX.out _ g) hp
        obtain ⟨b', b1', f1, f2, -, f3⟩ := rdX (RY.out _ g) hq
        rw [hxA] at e1
        rw [hyA] at f1
        cases e1
        cases f1
        rw [ha] at e2
        rw [hb] at f2
        subst e2 f2
        exact ⟨⟨c5, d5⟩, e3, f3⟩)
      have hlt2 : (j : Int) < (n : Int) := by omega
      clear hp hq hxA hyA
      obtain ⟨⟨k0, k1⟩, ⟨c0, c1, c2, c3, c4, c5⟩, d0, d1, d2, d3, d4, d5⟩ := XY.out _ HG.out
      go_upto_region 6 with fail
      go_region_held3 (fun V => (V.cell? ⟨w.heap.size, 5, none⟩ = some (.slice (some a) n x.c) ∧ V.cell? ⟨w.heap.size + 1, 5, none⟩ = some (.slice (some b) n y.c)) ∧ (V.cell? a1 = some (iv p.kind) ∧ V.cell? ⟨a1.block, a1.off + 1, none⟩ = some (tv p.name) ∧ V.cell? ⟨a1.block, a1.off + 2, none⟩ = some (tv p.more) ∧ V.cell? ⟨a1.block, a1.off + 3, none⟩ = some (iv p.int) ∧ V.cell? ⟨a1.block, a1.off + 4, none⟩ = some (iv p.den) ∧ V.cell? ⟨a1.block, a1.off + 5, none⟩ = some (.slice p.A p.sub.length p.c)) ∧ (V.cell? b1 = some (iv q.kind) ∧ V.cell? ⟨b1.block, b1.off + 1, none⟩ = some (tv q.name) ∧ V.cell? ⟨b1.block, b1.off + 2, none⟩ = some (tv q.more) ∧ V.cell? ⟨b1.block, b1.off + 3, none⟩ = some (iv q.int) ∧ V.cell? ⟨b1.block, b1.off + 4, none⟩ = some (iv q.den) ∧ V.cell? ⟨b1.block, b1.off + 5, none⟩ = some (.slice q.A q.sub.length q.c)))
        (first | with_reducible exact XY.out _ (HG.out.trans (gr_drew _)) | with_reducible exact XY.out _ G5.out | go_keep)
        (first | (go_at_call 150; (with_reducible refine (C1.out _ (HG.out.trans (gr_drew _))).mono ?_); rintro e w5 ⟨rfl, g5⟩; have G5 := Lib.hid ((HG.out.trans (gr_drew _)).trans g5); clear g5))
      all_goals go_wp2
      all_goals exact ⟨⟨j + 1, by omega, by simp, G5⟩, by simp [intOf]; omega⟩
    · obtain rfl : j = n := by omega
      have hnj : ¬ (j : Int) < (j : Int) := by omega
      obtain ⟨c0, c1, c2, c3, c4, c5⟩ := BX.out _ HG.out
      obtain ⟨d0, d1, d2, d3, d4, d5⟩ := BY.out _ HG.out
      go_wp2
      go_ret
      exact ⟨rfl, GW.out.trans HG.out⟩
set_option maxRecDepth 100000 in
set_option maxHeartbeats 4000000 in
attribute [local irreducible] Calls in
theorem sameD_any (x y : Dec) (w : World) (hx : x.Rd w) (hy : y.Rd w) (he : x.er = y.er) : Calls Tryz.prog 114 #[x.v, y.v] w fun e w' => e = .returned (.bool true) ∧ Gr w w' := by
  unfold Dec.er at he
  simp only [PD.mk.injEq] at he
  obtain ⟨h1, h2, h3, h4, h5, h6⟩ := he
  have hb := h6
  rw [er_eq x.body, er_eq y.body] at hb
  simp only [PE.mk.injEq] at hb
  obtain ⟨k1, k2, k3, k4, k5, k6⟩ := hb
  have hl : y.body.sub.length = x.body.sub.length := by have h := congrArg List.length k6; simpa using h.symm
  have hn : y.names.length = x.names.length := by rw [h4]
  obtain ⟨W, hW⟩ : ∃ W, (w.alloc (.cells #[iv x.id, iv x.kind, .bool x.pub, .slice x.nA x.names.length x.nc, .bool x.doubt, iv x.body.kind, tv x.body.name, tv x.body.more, iv x.body.int, iv x.body.den, .slice x.body.A x.body.sub.length x.body.c] 45)).alloc (.cells #[iv x.id, iv x.kind, .bool x.pub, .slice y.nA x.names.length y.nc, .bool x.doubt, iv x.body.kind, tv x.body.name, tv x.body.more, iv x.body.int, iv x.body.den, .slice y.body.A x.body.sub.length y.body.c] 45) = W := ⟨_, rfl⟩
  have GW := Lib.hid (show Gr w W by rw [← hW]; exact (gr_al _ _).trans (gr_al _ _))
  have BX := Lib.hid (fun V (g : Gr W V) => show V.cell? ⟨w.heap.size, 0, none⟩ = some (iv x.id) ∧ V.cell? ⟨w.heap.size, 1, none⟩ = some (iv x.kind) ∧ V.cell? ⟨w.heap.size, 2, none⟩ = some (.bool x.pub) ∧ V.cell? ⟨w.heap.size, 3, none⟩ = some (.slice x.nA x.names.length x.nc) ∧ V.cell? ⟨w.heap.size, 4, none⟩ = some (.bool x.doubt) ∧ V.cell? ⟨w.heap.size, 5, none⟩ = some (iv x.body.kind) ∧ V.cell? ⟨w.heap.size, 6, none⟩ = some (tv x.body.name) ∧ V.cell? ⟨w.heap.size, 7, none⟩ = some (tv x.body.more) ∧ V.cell? ⟨w.heap.size, 8, none⟩ = some (iv x.body.int) ∧ V.cell? ⟨w.heap.size, 9, none⟩ = some (iv x.body.den) ∧ V.cell? ⟨w.heap.size, 10, none⟩ = some (.slice x.body.A x.body.sub.length x.body.c) from by
    have h := gr_h g (show W.heap[w.heap.size]? = some (.cells #[iv x.id, iv x.kind, .bool x.pub, .slice x.nA x.names.length x.nc, .bool x.doubt, iv x.body.kind, tv x.body.name, tv x.body.more, iv x.body.int, iv x.body.den, .slice x.body.A x.body.sub.length x.body.c] 45 (0, 0)) from by rw [← hW]; exact gr_h (gr_al _ _) (al_new _ _))
    refine ⟨?_, ?_, ?_, ?_, ?_, ?_, ?_, ?_, ?_, ?_, ?_⟩ <;> (rw [Lib.cell_of_heap h]; rfl))
  have BY := Lib.hid (fun V (g : Gr W V) => show V.cell? ⟨w.heap.size + 1, 0, none⟩ = some (iv x.id) ∧ V.cell? ⟨w.heap.size + 1, 1, none⟩ = some (iv x.kind) ∧ V.cell? ⟨w.heap.size + 1, 2, none⟩ = some (.bool x.pub) ∧ V.cell? ⟨w.heap.size + 1, 3, none⟩ = some (.slice y.nA x.names.length y.nc) ∧ V.cell? ⟨w.heap.size + 1, 4, none⟩ = some (.bool x.doubt) ∧ V.cell? ⟨w.heap.size + 1, 5, none⟩ = some (iv x.body.kind) ∧ V.cell? ⟨w.heap.size + 1, 6, none⟩ = some (tv x.body.name) ∧ V.cell? ⟨w.heap.size + 1, 7, none⟩ = some (tv x.body.more) ∧ V.cell? ⟨w.heap.size + 1, 8, none⟩ = some (iv x.body.int) ∧ V.cell? ⟨w.heap.size + 1, 9, none⟩ = some (iv x.body.den) ∧ V.cell? ⟨w.heap.size + 1, 10, none⟩ = some (.slice y.body.A x.body.sub.length y.body.c) from by
    have h := gr_h g (show W.heap[w.heap.size + 1]? = some (.cells #[iv x.id, iv x.kind, .bool x.pub, .slice y.nA x.names.length y.nc, .bool x.doubt, iv x.body.kind, tv x.body.name, tv x.body.more, iv x.body.int, iv x.body.den, .slice y.body.A x.body.sub.length y.body.c] 45 (0, 0)) from by rw [← hW]; exact al_at _ _ (by simp))
    refine ⟨?_, ?_, ?_, ?_, ?_, ?_, ?_, ?_, ?_, ?_, ?_⟩ <;> (rw [Lib.cell_of_heap h]; rfl))
  have C1 := Lib.hid (fun V (g : Gr W V) => sameS_any x.nA x.nc x.names y.nA y.nc V (hx.n.gr (GW.out.trans g)).r (by have h := (hy.n.gr (GW.out.trans g)).r; rw [← h4] at h; exact h) (Nat.le_trans hx.n.rw.hc hx.n.rw.hm))
  have C2 := Lib.hid (fun V (g : Gr W V) => show Calls Tryz.prog 150 #[.agg #[iv x.body.kind, tv x.body.name, tv x.body.more, iv x.body.int, iv x.body.den, .slice x.body.A x.body.sub.length x.body.c], .agg #[iv x.body.kind, tv x.body.name, tv x.body.more, iv x.body.int, iv x.body.den, .slice y.body.A x.body.sub.length y.body.c]] V (fun e w' => e = .returned (.bool true) ∧ Gr V w') from by
    have h := sameE_any x.body y.body V (hx.b.gr (GW.out.trans g)) (hy.b.gr (GW.out.trans g)) h6
    unfold Ex.v at h
    rw [← k1, ← k2, ← k3, ← k4, ← k5, hl] at h
    exact h)
  have HW := Lib.hid hW
  unfold Dec.v
  rw [← h1, ← h2, ← h3, ← h5, hn, ← k1, ← k2, ← k3, ← k4, ← k5, hl]
  clear hx hy h1 h2 h3 h4 h5 h6 k1 k2 k3 k4 k5 k6 hl hn
  go_enter Tryz.func114, Tryz.ntmps114
  go_upto_region 1 with fail
  (try rw [HW.out])
  clear hW
  obtain ⟨c0, c1, c2, c3, c4, c5, c6, c7, c8, c9, c10⟩ := BX.out _ (gr_refl _)
  obtain ⟨d0, d1, d2, d3, d4, d5, d6, d7, d8, d9, d10⟩ := BY.out _ (gr_refl _)
  go_wp2_with (first
    | (go_at_call 71; (with_reducible refine (C1.out _ (gr_refl _)).mono ?_); rintro e w1 ⟨rfl, g1⟩; have G1 := Lib.hid g1; clear g1 c0 c1 c2 c3 c4 c5 c6 c7 c8 c9 c10 d0 d1 d2 d3 d4 d5 d6 d7 d8 d9 d10; obtain ⟨c0, c1, c2, c3, c4, c5, c6, c7, c8, c9, c10⟩ := BX.out _ G1.out; obtain ⟨d0, d1, d2, d3, d4, d5, d6, d7, d8, d9, d10⟩ := BY.out _ G1.out)
    | (go_at_call 150; (with_reducible refine (C2.out _ G1.out).mono ?_); rintro e w2 ⟨rfl, g2⟩; have G2 := Lib.hid (G1.out.trans g2); clear g2; (try dsimp only)))
  go_ret
  exact ⟨rfl, GW.out.trans G2.out⟩
set_option maxRecDepth 100000 in
set_option maxHeartbeats 4000000 in
attribute [local irreducible] Calls in
theorem sameDs_any (Aa : Option Addr) (c : Nat) (L : List Dec) (B : Option Addr) (d : Nat) (M : List Dec) (w : World) (hA : DRd w Aa c L) (hB : DRd w B d M) (he : L.map Dec.er = M.map Dec.er) : Calls Tryz.prog 72 #[.slice Aa L.length c, .slice B M.length d] w fun e w' => e = .returned (.bool true) ∧ Gr w w' := by
  have hl : M.length = L.length := by have h := congrArg List.length he; simpa using h.symm
  obtain ⟨n, hn⟩ : ∃ n, L.length = n := ⟨_, rfl⟩
  have HN := Lib.hid (And.intro hn (hl.trans hn))
  have hn9 : n ≤ 9223372036854775807 := by rw [← hn]; exact Nat.le_trans hA.rw.hc hA.rw.hm
  have HE := Lib.hid (fun (j : Nat) (p q : Dec) (hp : L[j]? = some p) (hq : M[j]? = some q) => show p.er = q.er from by
    have h : (L.map Dec.er)[j]? = (M.map Dec.er)[j]? := by rw [he]
    rw [List.getElem?_map, List.getElem?_map, hp, hq] at h
    exact Option.some.inj h)
  have HA := Lib.hid (fun V (g : Gr w V) => hA.gr g)
  have HB := Lib.hid (fun V (g : Gr w V) => hB.gr g)
  rw [hl, hn]
  clear hA hB he hl hn
  go_enter Tryz.func72, Tryz.ntmps72
  go_wp2
  go_loopw [5] (fun i V => ∃ j : Nat, j ≤ n ∧ i = iv j ∧ Hid (Gr w V)) (fun i _ => n - (intOf i).toNat)
  case atStart => exact ⟨0, by omega, by first | rfl | trivial, Lib.hid (gr_refl _)⟩
  case round =>
    obtain ⟨j, hj, rfl, HG⟩ := hrel
    by_cases hlt : j < n
    · obtain ⟨p, hp⟩ : ∃ p, L[j]? = some p := ⟨_, List.getElem?_eq_getElem (by rw [HN.out.1]; exact hlt)⟩
      obtain ⟨q, hq⟩ : ∃ q, M[j]? = some q := ⟨_, List.getElem?_eq_getElem (by rw [HN.out.2]; exact hlt)⟩
      obtain ⟨a, a1, rfl, ha, hab, -⟩ := rdD (HA.out _ HG.out).r hp
      obtain ⟨b, b1, rfl, hb, hbb, -⟩ := rdD (HB.out _ HG.out).r hq
      have C1 := Lib.hid (fun V (g : Gr w V) => sameD_any p q V ((HA.out V g).d p (List.mem_of_getElem? hp)) ((HB.out V g).d q (List.mem_of_getElem? hq)) (HE.out j p q hp hq))
      unfold Dec.v at C1
      have XY := Lib.hid (fun V (g : Gr w V) => show (V.cell? a1 = some (iv p.id) ∧ V.cell? ⟨a1.block, a1.off + 1, none⟩ = some (iv p.kind) ∧ V.cell? ⟨a1.block, a1.off + 2, none⟩ = some (.bool p.pub) ∧ V.cell? ⟨a1.block, a1.off + 3, none⟩ = some (.slice p.nA p.names.length p.nc) ∧ V.cell? ⟨a1.block, a1.off + 4, none⟩ = some (.bool p.doubt) ∧ V.cell? ⟨a1.block, a1.off + 5, none⟩ = some (iv p.body.kind) ∧ V.cell? ⟨a1.block, a1.off + 6, none⟩ = some (tv p.body.name) ∧ V.cell? ⟨a1.block, a1.off + 7, none⟩ = some (tv p.body.more) ∧ V.cell? ⟨a1.block, a1.off + 8, none⟩ = some (iv p.body.int) ∧ V.cell? ⟨a1.block, a1.off + 9, none⟩ = some (iv p.body.den) ∧ V.cell? ⟨a1.block, a1.off + 10, none⟩ = some (.slice p.body.A p.body.sub.length p.body.c)) ∧ (V.cell? b1 = some (iv q.id) ∧ V.cell? ⟨b1.block, b1.off + 1, none⟩ = some (iv q.kind) ∧ V.cell? ⟨b1.block, b1.off + 2, none⟩ = some (.bool q.pub) ∧ V.cell? ⟨b1.block, b1.off + 3, none⟩ = some (.slice q.nA q.names.length q.nc) ∧ V.cell? ⟨b1.block, b1.off + 4, none⟩ = some (.bool q.doubt) ∧ V.cell? ⟨b1.block, b1.off + 5, none⟩ = some (iv q.body.kind) ∧ V.cell? ⟨b1.block, b1.off + 6, none⟩ = some (tv q.body.name) ∧ V.cell? ⟨b1.block, b1.off + 7, none⟩ = some (tv q.body.more) ∧ V.cell? ⟨b1.block, b1.off + 8, none⟩ = some (iv q.body.int) ∧ V.cell? ⟨b1.block, b1.off + 9, none⟩ = some (iv q.body.den) ∧ V.cell? ⟨b1.block, b1.off + 10, none⟩ = some (.slice q.body.A q.body.sub.length q.body.c)) from by
        obtain ⟨a', a1', e1, e2, -, e3⟩ := rdD (HA.out _ g).r hp
        obtain ⟨b', b1', f1, f2, -, f3⟩ := rdD (HB.out _ g).r hq
        cases e1
        cases f1
        rw [ha] at e2
        rw [hb] at f2
        subst e2 f2
        exact ⟨e3, f3⟩)
      have hlt2 : (j : Int) < (n : Int) := by omega
      clear hp hq
      obtain ⟨⟨c0, c1, c2, c3, c4, c5, c6, c7, c8, c9, c10⟩, d0, d1, d2, d3, d4, d5, d6, d7, d8, d9, d10⟩ := XY.out _ HG.out
      go_upto_region 6 with fail
      go_region_held3 (fun V => (V.cell? a1 = some (iv p.id) ∧ V.cell? ⟨a1.block, a1.off + 1, none⟩ = some (iv p.kind) ∧ V.cell? ⟨a1.block, a1.off + 2, none⟩ = some (.bool p.pub) ∧ V.cell? ⟨a1.block, a1.off + 3, none⟩ = some (.slice p.nA p.names.length p.nc) ∧ V.cell? ⟨a1.block, a1.off + 4, none⟩ = some (.bool p.doubt) ∧ V.cell? ⟨a1.block, a1.off + 5, none⟩ = some (iv p.body.kind) ∧ V.cell? ⟨a1.block, a1.off + 6, none⟩ = some (tv p.body.name) ∧ V.cell? ⟨a1.block, a1.off + 7, none⟩ = some (tv p.body.more) ∧ V.cell? ⟨a1.block, a1.off + 8, none⟩ = some (iv p.body.int) ∧ V.cell? ⟨a1.block, a1.off + 9, none⟩ = some (iv p.body.den) ∧ V.cell? ⟨a1.block, a1.off + 10, none⟩ = some (.slice p.body.A p.body.sub.length p.body.c)) ∧ (V.cell? b1 = some (iv q.id) ∧ V.cell? ⟨b1.block, b1.off + 1, none⟩ = some (iv q.kind) ∧ V.cell? ⟨b1.block, b1.off + 2, none⟩ = some (.bool q.pub) ∧ V.cell? ⟨b1.block, b1.off + 3, none⟩ = some (.slice q.nA q.names.length q.nc) ∧ V.cell? ⟨b1.block, b1.off + 4, none⟩ = some (.bool q.doubt) ∧ V.cell? ⟨b1.block, b1.off + 5, none⟩ = some (iv q.body.kind) ∧ V.cell? ⟨b1.block, b1.off + 6, none⟩ = some (tv q.body.name) ∧ V.cell? ⟨b1.block, b1.off + 7, none⟩ = some (tv q.body.more) ∧ V.cell? ⟨b1.block, b1.off + 8, none⟩ = some (iv q.body.int) ∧ V.cell? ⟨b1.block, b1.off + 9, none⟩ = some (iv q.body.den) ∧ V.cell? ⟨b1.block, b1.off + 10, none⟩ = some (.slice q.body.A q.body.sub.length q.body.c)))
        (first | with_reducible exact XY.out _ (HG.out.trans (gr_drew _)) | with_reducible exact XY.out _ G5.out | go_keep)
        (first | (go_at_call 114; (with_reducible refine (C1.out _ (HG.out.trans (gr_drew _))).mono ?_); rintro e w5 ⟨rfl, g5⟩; have G5 := Lib.hid ((HG.out.trans (gr_drew _)).trans g5); clear g5))
      all_goals go_wp2
      all_goals exact ⟨⟨j + 1, by omega, by simp, G5⟩, by simp [intOf]; omega⟩
    · obtain rfl : j = n := by omega
      have hnj : ¬ (j : Int) < (j : Int) := by omega
      go_wp2
      go_ret
      exact ⟨rfl, HG.out⟩
set_option maxRecDepth 100000 in
set_option maxHeartbeats 4000000 in
attribute [local irreducible] Calls in
theorem sameM_any (x y : Mod) (w : World) (hx : x.Rd w) (hy : y.Rd w) (he : x.er = y.er) : Calls Tryz.prog 33 #[x.v, y.v] w fun e w' => e = .returned (.bool true) ∧ Gr w w' := by
  unfold Mod.er at he
  simp only [PM.mk.injEq] at he
  obtain ⟨h1, h2, h3⟩ := he
  have hn : y.uses.length = x.uses.length := by rw [h2]
  obtain ⟨W, hW⟩ : ∃ W, (w.alloc (.cells #[tv x.label, .slice x.uA x.uses.length x.uc, .slice x.dA x.decls.length x.dc] 39)).alloc (.cells #[tv x.label, .slice y.uA x.uses.length y.uc, .slice y.dA y.decls.length y.dc] 39) = W := ⟨_, rfl⟩
  have GW := Lib.hid (show Gr w W by rw [← hW]; exact (gr_al _ _).trans (gr_al _ _))
  have BX := Lib.hid (fun V (g : Gr W V) => show V.cell? ⟨w.heap.size, 0, none⟩ = some (tv x.label) ∧ V.cell? ⟨w.heap.size, 1, none⟩ = some (.slice x.uA x.uses.length x.uc) ∧ V.cell? ⟨w.heap.size, 2, none⟩ = some (.slice x.dA x.decls.length x.dc) from by
    have h := gr_h g (show W.heap[w.heap.size]? = some (.cells #[tv x.label, .slice x.uA x.uses.length x.uc, .slice x.dA x.decls.length x.dc] 39 (0, 0)) from by rw [← hW]; exact gr_h (gr_al _ _) (al_new _ _))
    refine ⟨?_, ?_, ?_⟩ <;> (rw [Lib.cell_of_heap h]; rfl))
  have BY := Lib.hid (fun V (g : Gr W V) => show V.cell? ⟨w.heap.size + 1, 0, none⟩ = some (tv x.label) ∧ V.cell? ⟨w.heap.size + 1, 1, none⟩ = some (.slice y.uA x.uses.length y.uc) ∧ V.cell? ⟨w.heap.size + 1, 2, none⟩ = some (.slice y.dA y.decls.length y.dc) from by
    have h := gr_h g (show W.heap[w.heap.size + 1]? = some (.cells #[tv x.label, .slice y.uA x.uses.length y.uc, .slice y.dA y.decls.length y.dc] 39 (0, 0)) from by rw [← hW]; exact al_at _ _ (by simp))
    refine ⟨?_, ?_, ?_⟩ <;> (rw [Lib.cell_of_heap h]; rfl))
  have C1 := Lib.hid (fun V (g : Gr W V) => sameS_any x.uA x.uc x.uses y.uA y.uc V (hx.u.gr (GW.out.trans g)).r (by have h := (hy.u.gr (GW.out.trans g)).r; rw [← h2] at h; exact h) (Nat.le_trans hx.u.rw.hc hx.u.rw.hm))
  have C2 := Lib.hid (fun V (g : Gr W V) => sameDs_any x.dA x.dc x.decls y.dA y.dc y.decls V (hx.d.gr (GW.out.trans g)) (hy.d.gr (GW.out.trans g)) h3)
  have HW := Lib.hid hW
  unfold Mod.v
  rw [← h1, hn]
  clear hx hy h1 h2 h3 hn
  go_enter Tryz.func33, Tryz.ntmps33
  go_upto_region 1 with fail
  (try rw [HW.out])
  clear hW
  obtain ⟨c0, c1, c2⟩ := BX.out _ (gr_refl _)
  obtain ⟨d0, d1, d2⟩ := BY.out _ (gr_refl _)
  go_wp2_with (first
    | (go_at_call 71; (with_reducible refine (C1.out _ (gr_refl _)).mono ?_); rintro e w1 ⟨rfl, g1⟩; have G1 := Lib.hid g1; clear g1 c0 c1 c2 d0 d1 d2; obtain ⟨c0, c1, c2⟩ := BX.out _ G1.out; obtain ⟨d0, d1, d2⟩ := BY.out _ G1.out)
    | (go_at_call 72; (with_reducible refine (C2.out _ G1.out).mono ?_); rintro e w2 ⟨rfl, g2⟩; have G2 := Lib.hid (G1.out.trans g2); clear g2; (try dsimp only)))
  go_ret
  exact ⟨rfl, GW.out.trans G2.out⟩
set_option maxRecDepth 100000 in
set_option maxHeartbeats 4000000 in
attribute [local irreducible] Calls in
theorem sameMs_any (Aa : Option Addr) (c : Nat) (L : List Mod) (B : Option Addr) (d : Nat) (M : List Mod) (w : World) (hA : MRd w Aa c L) (hB : MRd w B d M) (he : L.map Mod.er = M.map Mod.er) : Calls Tryz.prog 12 #[.slice Aa L.length c, .slice B M.length d] w fun e w' => e = .returned (.bool true) ∧ Gr w w' := by
  have hl : M.length = L.length := by have h := congrArg List.length he; simpa using h.symm
  obtain ⟨n, hn⟩ : ∃ n, L.length = n := ⟨_, rfl⟩
  have HN := Lib.hid (And.intro hn (hl.trans hn))
  have hn9 : n ≤ 9223372036854775807 := by rw [← hn]; exact Nat.le_trans hA.rw.hc hA.rw.hm
  have HE := Lib.hid (fun (j : Nat) (p q : Mod) (hp : L[j]? = some p) (hq : M[j]? = some q) => show p.er = q.er from by
    have h : (L.map Mod.er)[j]? = (M.map Mod.er)[j]? := by rw [he]
    rw [List.getElem?_map, List.getElem?_map, hp, hq] at h
    exact Option.some.inj h)
  have HA := Lib.hid (fun V (g : Gr w V) => hA.gr g)
  have HB := Lib.hid (fun V (g : Gr w V) => hB.gr g)
  rw [hl, hn]
  clear hA hB he hl hn
  go_enter Tryz.func12, Tryz.ntmps12
  go_wp2
  go_loopw [5] (fun i V => ∃ j : Nat, j ≤ n ∧ i = iv j ∧ Hid (Gr w V)) (fun i _ => n - (intOf i).toNat)
  case atStart => exact ⟨0, by omega, by first | rfl | trivial, Lib.hid (gr_refl _)⟩
  case round =>
    obtain ⟨j, hj, rfl, HG⟩ := hrel
    by_cases hlt : j < n
    · obtain ⟨p, hp⟩ : ∃ p, L[j]? = some p := ⟨_, List.getElem?_eq_getElem (by rw [HN.out.1]; exact hlt)⟩
      obtain ⟨q, hq⟩ : ∃ q, M[j]? = some q := ⟨_, List.getElem?_eq_getElem (by rw [HN.out.2]; exact hlt)⟩
      obtain ⟨a, a1, rfl, ha, hab, -⟩ := rdM (HA.out _ HG.out).r hp
      obtain ⟨b, b1, rfl, hb, hbb, -⟩ := rdM (HB.out _ HG.out).r hq
      have C1 := Lib.hid (fun V (g : Gr w V) => sameM_any p q V ((HA.out V g).m p (List.mem_of_getElem? hp)) ((HB.out V g).m q (List.mem_of_getElem? hq)) (HE.out j p q hp hq))
      unfold Mod.v at C1
      have XY := Lib.hid (fun V (g : Gr w V) => show (V.cell? a1 = some (tv p.label) ∧ V.cell? ⟨a1.block, a1.off + 1, none⟩ = some (.slice p.uA p.uses.length p.uc) ∧ V.cell? ⟨a1.block, a1.off + 2, none⟩ = some (.slice p.dA p.decls.length p.dc)) ∧ (V.cell? b1 = some (tv q.label) ∧ V.cell? ⟨b1.block, b1.off + 1, none⟩ = some (.slice q.uA q.uses.length q.uc) ∧ V.cell? ⟨b1.block, b1.off + 2, none⟩ = some (.slice q.dA q.decls.length q.dc)) from by
        obtain ⟨a', a1', e1, e2, -, e3⟩ := rdM (HA.out _ g).r hp
        obtain ⟨b', b1', f1, f2, -, f3⟩ := rdM (HB.out _ g).r hq
        cases e1
        cases f1
        rw [ha] at e2
        rw [hb] at f2
        subst e2 f2
        exact ⟨e3, f3⟩)
      have hlt2 : (j : Int) < (n : Int) := by omega
      clear hp hq
      obtain ⟨⟨c0, c1, c2⟩, d0, d1, d2⟩ := XY.out _ HG.out
      go_upto_region 6 with fail
      go_region_held3 (fun V => (V.cell? a1 = some (tv p.label) ∧ V.cell? ⟨a1.block, a1.off + 1, none⟩ = some (.slice p.uA p.uses.length p.uc) ∧ V.cell? ⟨a1.block, a1.off + 2, none⟩ = some (.slice p.dA p.decls.length p.dc)) ∧ (V.cell? b1 = some (tv q.label) ∧ V.cell? ⟨b1.block, b1.off + 1, none⟩ = some (.slice q.uA q.uses.length q.uc) ∧ V.cell? ⟨b1.block, b1.off + 2, none⟩ = some (.slice q.dA q.decls.length q.dc)))
        (first | with_reducible exact XY.out _ (HG.out.trans (gr_drew _)) | with_reducible exact XY.out _ G5.out | go_keep)
        (first | (go_at_call 33; (with_reducible refine (C1.out _ (HG.out.trans (gr_drew _))).mono ?_); rintro e w5 ⟨rfl, g5⟩; have G5 := Lib.hid ((HG.out.trans (gr_drew _)).trans g5); clear g5))
      all_goals go_wp2
      all_goals exact ⟨⟨j + 1, by omega, by simp, G5⟩, by simp [intOf]; omega⟩
    · obtain rfl : j = n := by omega
      have hnj : ¬ (j : Int) < (j : Int) := by omega
      go_wp2
      go_ret
      exact ⟨rfl, HG.out⟩
end Go.Proofs.YtiaenhlflgobfaaGreatDoor

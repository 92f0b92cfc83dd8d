/- The walks and the words of the family link, part 5: Prm, CoF, CoG, LkB. -/
import Derived.Test.YtgboboljgcfggaaGreatDoorM4
import Derived.Deep.QuietTactic
namespace Go.Proofs.YtgboboljgcfggaaGreatDoor
open Go.RowKit Go.Maps Go.Shelf
attribute [local go_sem] Oper.semAt_some

theorem numF_keys : ∀ (i : Nat) (K : List Sp), (numF i K).map (·.1) = K
  | _, [] => rfl
  | i, s :: K => by rw [numF, List.map_cons, numF_keys (i + 1) K]
theorem key_of {K : List Sp} {u : Sp} (h : LK Sp.Key (numL K)) (hu : u ∈ K) : u.Key := by
  have h1 : u ∈ (numL K).map (·.1) := by unfold numL; rw [numF_keys]; exact hu
  obtain ⟨p, hp, rfl⟩ := List.mem_map.1 h1
  exact h.ok p hp
theorem spot_at {L : List Cod} {s : Sp} (h : SpOk (pls L) s) : ∃ (c : Cod) (sb : Nat) (b : Blk), L[s.code]? = some c ∧ s.block = (sb : Int) ∧ c.bs[sb]? = some b ∧ blkAt (pls L) s = b.pb := by
  obtain ⟨pc, h1, h2, h3⟩ := h
  unfold pls at h1
  rw [List.getElem?_map, Option.map_eq_some_iff] at h1
  obtain ⟨c, hc, rfl⟩ := h1
  simp [Cod.pl] at h3
  obtain ⟨sb, hsb⟩ : ∃ m : Nat, s.block = (m : Int) := ⟨s.block.toNat, by omega⟩
  refine ⟨c, sb, c.bs[sb]'(by omega), hc, hsb, List.getElem?_eq_getElem (by omega), ?_⟩
  unfold blkAt pls
  rw [List.getElem?_map, hc]
  simp only [Option.map_some, Cod.pl]
  rw [hsb, Int.toNat_natCast, List.getD_eq_getElem?_getD, List.getElem?_map, List.getElem?_eq_getElem (by omega)]
  rfl
set_option maxRecDepth 100000 in
set_option maxHeartbeats 8000000 in
theorem program_any (w : World) (Ad Ar Av : Option Addr) (cp cr cv kb m1 m2 base nk nr nc : Nat) (L : List Cod) (K : List Sp) (R : List Nam) (hL : CRd w Ad L) (hnc : L.length = nc) (h : LM kb m1 m2 base Ad cp nc (dlF 0 L) K (.slice Av nk cv) w) (hnk : K.length = nk) (ok : Okl L) (hil : ∀ c ∈ L, ∀ b ∈ c.bs, b.ins.length ≤ 100000) (kn : Kn (pls L) K)
    (cl : ∀ s ∈ K, ∀ x ∈ (blkAt (pls L) s).ins, ∀ t, tgt (pls L) s x = some t → ∃ u, t = some u ∧ u ∈ K) (hkl : nk ≤ 100000) (hR : RD 2 Nam.cs w Ar R) (hnr : R.length = nr) (hrl : nr ≤ 12) (hR2 : ∀ n ∈ R, n.Ok ∧ ∃ s, findC (pls L) 0 n.pack n.id = some s ∧ s ∈ K) :
    Calls Tryz.prog 44 #[.pointer (some ⟨kb, 0, none⟩), .slice Ar nr cr] w (PgP L K R w) := by
  have HL := Lib.hid (fun V (g : Gr w V) => hL.gr g)
  have HR := Lib.hid (fun V (g : Gr w V) => hR.gr g)
  have HM := Lib.hid (fun V (g : Gr w V) => h.gr g)
  have HN := Lib.hid hnk
  have HNR := Lib.hid hnr
  have HC := Lib.hid hnc
  have OK := Lib.hid ok
  have HI := Lib.hid hil
  have KN := Lib.hid kn
  have CL := Lib.hid cl
  have HR2 := Lib.hid hR2
  have HLW := Lib.hid hL
  have KB := Lib.hid (show kb < w.heap.size from heap_lt h.h)
  clear hL hR h hnk hnr hnc ok hil kn cl hR2
  refine (callsIn_wide (n := 5)).1 ?_
  refine callsIn_of_wp_marks Tryz.func44 rfl trivial ?_ rfl
  simp only [Tryz.ntmps44, List.size_toArray, List.length_cons, List.length_nil, Nat.reduceAdd, Nat.reduceSub, Array.replicate_succ, Array.replicate_zero, List.push_toArray, List.append_toArray, List.nil_append, List.cons_append]
  gi_upto_region 2 with (fail)
  obtain ⟨W0, hW0⟩ : ∃ W0, ((w.alloc (.cells #[.pointer (some ⟨kb, 0, none⟩)] 104)).alloc (.cells #[.slice none 0 0, .slice none 0 0] 26)).alloc (.cells #[.slice none 0 0, .slice none 0 0] 26) = W0 := ⟨_, rfl⟩
  have P0 := Lib.hid (show PgS w kb L K 0 (.slice none 0 0) [] [] W0 from by
    rw [← hW0]
    refine ⟨((gr_al _ _).trans (gr_al _ _)).trans (gr_al _ _), gr_h ((gr_al _ _).trans (gr_al _ _)) (al_new w _), gr_h (gr_al _ _) (al_at _ _ (by simp)), al_at _ _ (by simp), OR.nil, by simp, by simp, trivial⟩)
  rw [hW0]
  clear hW0
  obtain ⟨⟨q0, q1, q2, q3⟩, -⟩ := (HM.out _ P0.out.gr).hd
  obtain ⟨r0, -, -, -⟩ := P0.out.c
  gi_upto_region 3 with (fail)
  clear q0 q1 q2 q3 r0
  refine wpIn_loop (fun a' V => ∃ (i : Nat) (v1 : Value) (done : List Blk) (ds : List Deferred) (u7 u8 u9 u10 u19 u20 u21 u22 u23 u24 u25 u26 u27 u28 u29 u30 u31 u32 u33 u34 u35 u36 u37 u38 u39 u40 u41 u42 u43 u44 u45 u46 u47 u48 u49 u50 u51 u52 u53 u54 u55 u56 u57 u58 u59 u60 u61 u62 u63 u64 u65 u66 u67 : Value), i ≤ nk ∧ Hid (PgS w kb L K i v1 done ds V) ∧ a' = { tmps := #[.pointer (some ⟨kb, 0, none⟩), .slice Ar nr cr, .pointer (some ⟨w.heap.size, 0, none⟩), undef, .pointer (some ⟨w.heap.size + 1, 0, none⟩), .pointer (some ⟨w.heap.size + 1 + 1, 0, none⟩), undef, u7, u8, u9, u10, undef, undef, .pointer (some ⟨kb, 0, none⟩), .pointer (some ⟨kb, 0, none⟩), .pointer (some ⟨kb, 3, none⟩), .slice Av nk cv, .int .i64 nk, .int .i64 i, u19, u20, u21, u22, u23, u24, u25, u26, u27, u28, u29, u30, u31, u32, u33, u34, u35, u36, u37, u38, u39, u40, u41, u42, u43, u44, u45, u46, u47, u48, u49, u50, u51, u52, u53, u54, u55, u56, u57, u58, u59, u60, u61, u62, u63, u64, u65, u66, u67, undef, undef, undef, undef, undef, undef, undef, undef, undef, undef, undef, undef, undef, undef, undef, undef, undef, undef, undef, undef, undef, undef, undef, undef, undef, undef, undef, undef, undef, undef, undef, undef, undef], defers := ds }) (fun a' _ => nk - (intOf (a'.tmps.getD 18 undef)).toNat) ?_ ?_
  · exact ⟨0, .slice none 0 0, [], [], undef, undef, undef, undef, undef, undef, undef, undef, undef, undef, undef, undef, undef, undef, undef, undef, undef, undef, undef, undef, undef, undef, undef, undef, undef, undef, undef, undef, undef, undef, undef, undef, undef, undef, undef, undef, undef, undef, undef, undef, undef, undef, undef, undef, undef, undef, undef, undef, undef, undef, undef, undef, undef, Nat.zero_le _, P0, rfl⟩
  · rintro a' V ⟨i, v1, done, ds, u7, u8, u9, u10, u19, u20, u21, u22, u23, u24, u25, u26, u27, u28, u29, u30, u31, u32, u33, u34, u35, u36, u37, u38, u39, u40, u41, u42, u43, u44, u45, u46, u47, u48, u49, u50, u51, u52, u53, u54, u55, u56, u57, u58, u59, u60, u61, u62, u63, u64, u65, u66, u67, hi, HP, rfl⟩
    clear P0
    by_cases hlt : i < nk
    · obtain ⟨s, hs⟩ : ∃ s, K[i]? = some s := ⟨_, List.getElem?_eq_getElem (by rw [HN.out]; exact hlt)⟩
      have hsm := List.mem_of_getElem? hs
      obtain ⟨A0, c0, e0, hrd⟩ := (HM.out _ HP.out.gr).o.form elS.hn
      have e1 : Av = A0 := by cases e0; rfl
      subst e1
      obtain ⟨a, a1, rfl, ha, hab, y0, y1⟩ := hrd.sp (k := i) (by rw [HN.out]; exact hlt)
      have hsi : K[i]'(by rw [HN.out]; exact hlt) = s := by rw [List.getElem?_eq_getElem (by rw [HN.out]; exact hlt)] at hs; exact Option.some.inj hs
      obtain ⟨c, sb, b, hc, hsb, hb, hbp⟩ := spot_at (KN.out.ok s hsm)
      rw [hsi] at y0 y1
      rw [hsb] at y1
      have HS := Lib.hid (show K[i]? = some s from hs)
      have HSM := Lib.hid hsm
      have HCB := Lib.hid (show L[s.code]? = some c ∧ c.bs[sb]? = some b ∧ blkAt (pls L) s = b.pb ∧ s = ⟨s.code, (sb : Int)⟩ from ⟨hc, hb, hbp, by rw [← hsb]⟩)
      obtain ⟨sc, hsc⟩ : ∃ m : Nat, s.code = m := ⟨_, rfl⟩
      rw [hsc] at y0
      have HSC := Lib.hid hsc
      clear hs hsm e0 hrd hsi hc hsb hb hbp hsc
      gi_upto_region 5 with (fail)
      clear y0 y1
      obtain ⟨V1, hV1⟩ : ∃ V1, V.alloc (.cells #[.int .i64 sc, .int .i64 sb] 107) = V1 := ⟨_, rfl⟩
      have P1 := Lib.hid (show PgS w kb L K i v1 done ds V1 from by rw [← hV1]; exact HP.out.go (gr_al _ _))
      have S7 := Lib.hid (show V1.heap[V.heap.size]? = some (.cells #[.int .i64 sc, .int .i64 sb] 107 (0, 0)) from by rw [← hV1]; exact al_new _ _)
      have Z1 := Lib.hid (show V1.heap.size = V.heap.size + 1 ∧ w.heap.size + 3 ≤ V.heap.size from ⟨by rw [← hV1]; simp, by have := heap_lt HP.out.p; omega⟩)
      rw [hV1]
      obtain ⟨s7, hs7⟩ : ∃ m, V.heap.size = m := ⟨_, rfl⟩
      rw [hs7] at S7 Z1 ⊢
      clear hV1 HP hs7
      obtain ⟨⟨k0, k1, k2, k3⟩, -⟩ := (HM.out _ P1.out.gr).hd
      obtain ⟨r0, -, -, -⟩ := P1.out.c
      have x0 : V1.cell? ⟨s7, 0, none⟩ = some (.int .i64 sc) := by rw [Lib.cell_of_heap S7.out]; rfl
      have x1 : V1.cell? ⟨s7, 1, none⟩ = some (.int .i64 sb) := by rw [Lib.cell_of_heap S7.out]; rfl
      obtain ⟨hsc, ec⟩ := List.getElem?_eq_some_iff.1 (show L[sc]? = some c from by rw [← HSC.out]; exact HCB.out.1)
      obtain ⟨hsb, eb⟩ := List.getElem?_eq_some_iff.1 HCB.out.2.1
      have hcm : c ∈ L := List.mem_of_getElem? HCB.out.1
      have hbm : b ∈ c.bs := List.mem_of_getElem? HCB.out.2.1
      obtain ⟨d, d1, rfl, hd, hdb, y0, y1, y2⟩ := (HL.out _ P1.out.gr).rd.cod (k := sc) hsc
      obtain ⟨q, q1, eq, hq, hqb, z0, z1, z2⟩ := ((HL.out _ P1.out.gr).c c hcm).b.blk (k := sb) hsb
      rw [ec] at y0 y1 y2
      rw [eb] at z0 z1 z2
      rw [eq] at y1
      obtain ⟨nb, hnb⟩ : ∃ m, c.bs.length = m := ⟨_, rfl⟩
      obtain ⟨ni, hni⟩ : ∃ m, b.ins.length = m := ⟨_, rfl⟩
      rw [hnb] at y1 hsb
      rw [hni] at z2
      rw [HC.out] at hsc
      obtain ⟨bA, hbA⟩ : ∃ m, b.A = m := ⟨_, rfl⟩
      rw [hbA] at z2
      have HB := Lib.hid (show b.A = bA ∧ b.ins.length = ni ∧ c ∈ L ∧ b ∈ c.bs from ⟨hbA, hni, hcm, hbm⟩)
      clear hbA hni hcm hbm hnb ec eb eq
      obtain ⟨b8, hb8⟩ : ∃ m, V1.heap.size = m := ⟨_, rfl⟩
      have HB8 := Lib.hid hb8
      have GA := Lib.hid (gr_al V1 (.cells #[.int .i64 0, .bool false, .slice none 0 0] 69))
      have r0' := gr_c GA.out r0
      have k0' := gr_c GA.out k0
      have x0' := gr_c GA.out x0
      have x1' := gr_c GA.out x1
      have y1' := gr_c GA.out y1
      have z0' := gr_c GA.out z0
      have z1' := gr_c GA.out z1
      have z2' := gr_c GA.out z2
      refine wpIn_to { tmps := #[.pointer (some ⟨kb, 0, none⟩), .slice Ar nr cr, .pointer (some ⟨w.heap.size, 0, none⟩), undef, .pointer (some ⟨w.heap.size + 1, 0, none⟩), .pointer (some ⟨w.heap.size + 1 + 1, 0, none⟩), undef, .pointer (some ⟨s7, 0, none⟩), .pointer (some ⟨b8, 0, none⟩), u9, u10, undef, undef, .pointer (some ⟨kb, 0, none⟩), .pointer (some ⟨kb, 0, none⟩), .pointer (some ⟨kb, 3, none⟩), .slice (some a) nk cv, .int .i64 nk, .int .i64 i, .bool true, .pointer (some a1), .agg #[.int .i64 sc, .int .i64 sb], .pointer (some ⟨kb, 0, none⟩), .pointer (some ⟨kb, 0, none⟩), .pointer (some ⟨kb, 0, none⟩), .slice (some d) nc cp, .pointer (some ⟨s7, 0, none⟩), .int .i64 sc, .pointer (some d1), .pointer (some ⟨d1.block, d1.off + 1, none⟩), .slice (some q) nb c.bc, .pointer (some ⟨s7, 1, none⟩), .int .i64 sb, .pointer (some q1), .agg #[.int .i64 b.cap, .bool b.param, .slice bA ni b.c], u35, u36, u37, u38, u39, u40, u41, u42, u43, u44, u45, u46, u47, u48, u49, u50, u51, u52, u53, u54, u55, u56, u57, u58, u59, u60, u61, u62, u63, u64, u65, u66, u67, undef, undef, undef, undef, undef, undef, undef, undef, undef, undef, undef, undef, undef, undef, undef, undef, undef, undef, undef, undef, undef, undef, undef, undef, undef, undef, undef, undef, undef, undef, undef, undef, undef], defers := ds } ((V1.alloc (.cells #[.int .i64 b.cap, .bool b.param, .slice bA ni b.c] 69)).drew) (fun Q0 hQ => ?_) ?_
      · have HQ := Lib.hid hQ
        clear hQ
        go_region_law (fail)
        all_goals exact HQ.out
      · clear r0 k0 k1 k2 k3 x0 x1 y0 y1 y2 z0 z1 z2 r0' k0' x0' x1' y1' z0' z1' z2'
        have HCI := Lib.hid (show RD 4 Ins.cs V1 bA b.ins from by rw [← HB.out.1]; exact ((HL.out _ P1.out.gr).c c HB.out.2.2.1).i b HB.out.2.2.2)
        have G2 := Lib.hid (show Gr V1 ((V1.alloc (.cells #[.int .i64 b.cap, .bool b.param, .slice bA ni b.c] 69)).drew) from (gr_al _ _).trans (gr_drew _))
        have B8 := Lib.hid (show ((V1.alloc (.cells #[.int .i64 b.cap, .bool b.param, .slice bA ni b.c] 69)).drew).heap[b8]? = some (.cells #[.int .i64 b.cap, .bool b.param, .slice bA ni b.c] 69 (0, 0)) from by rw [← hb8]; exact al_new V1 _)
        have Z8 := Lib.hid (show ((V1.alloc (.cells #[.int .i64 b.cap, .bool b.param, .slice bA ni b.c] 69)).drew).heap.size = b8 + 1 from by rw [← hb8]; simp)
        generalize (V1.alloc (.cells #[.int .i64 b.cap, .bool b.param, .slice bA ni b.c] 69)).drew = V2 at *
        clear hb8 GA
        have hnl : ni ≤ 100000 := by have := HI.out c HB.out.2.2.1 b HB.out.2.2.2; rw [HB.out.2.1] at this; exact this
        have e2 : V2.cell? ⟨b8, 2, none⟩ = some (.slice bA ni b.c) := by rw [Lib.cell_of_heap B8.out]; rfl
        have CLN := Lib.hid (by have h := clone_any bA b.c b.ins V2 (HCI.out.gr G2.out) (by rw [HB.out.2.1]; exact hnl); rw [HB.out.2.1] at h; exact h)
        gi_upto_region 7 with (refine ⟨trivial, ?_⟩; gi_at_call 71; refine (callsIn_wide.2 CLN.out).mono ?_; rintro e V3 ⟨vc, rfl, oc, g3⟩; obtain ⟨Ac, cc, hvc, -⟩ := OR.form (cs := Ins.cs) (n := 4) (fun _ => rfl) oc; rw [HB.out.2.1] at hvc; subst hvc; have OC := Lib.hid oc; have G3 := Lib.hid g3; have e3 := gr_c g3 e2; have f3 := frz (gr_h g3 B8.out) 2; clear oc g3)
        have G4 := Lib.hid (show Gr V1 (V3.setCell ⟨b8, 2, none⟩ (.slice Ac ni cc)) from gr_cell (G2.out.trans G3.out) (by rw [HB8.out]; exact Nat.le_refl _) _)
        have B84 := Lib.hid (show (V3.setCell ⟨b8, 2, none⟩ (.slice Ac ni cc)).heap[b8]? = some (.cells #[.int .i64 b.cap, .bool b.param, .slice Ac ni cc] 69 (0, 0)) from by
          have h := gr_h G3.out B8.out
          simp [World.setCell, Array.getElem?_modify, h])
        have OC4 := Lib.hid (show OR 71 4 Ins.cs (V3.setCell ⟨b8, 2, none⟩ (.slice Ac ni cc)) (b8 + 1) (.slice Ac ni cc) b.ins from by
          have h := OC.out
          rw [Z8.out] at h
          refine h.kept (grown_set _ _ _) ?_
          cases hq : (Value.slice Ac ni cc).ownBlock with
          | none => exact .inl rfl
          | some j => right; intro e; cases e; have := (h.lt _ hq).1; omega)
        generalize V3.setCell ⟨b8, 2, none⟩ (.slice Ac ni cc) = V4 at *
        clear e2 e3 f3 OC G3 B8 Z8 G2 CLN HCI
        obtain ⟨r0, -, -, -⟩ := (P1.out.go G4.out).c
        have h7 := gr_h G4.out S7.out
        have x0 : V4.cell? ⟨s7, 0, none⟩ = some (.int .i64 sc) := by rw [Lib.cell_of_heap h7]; rfl
        have x1 : V4.cell? ⟨s7, 1, none⟩ = some (.int .i64 sb) := by rw [Lib.cell_of_heap h7]; rfl
        clear h7
        have RF := Lib.hid (refs_any kb sc sb V4)
        gi_wp2_with (refine ⟨trivial, ?_⟩; gi_at_call 43; refine (callsIn_wide.2 RF.out).mono ?_; rintro e V5 ⟨rfl, rfl⟩)
        clear r0 x0 x1 RF
        obtain ⟨b4, hb4⟩ : ∃ m, V4.heap.size = m := ⟨_, rfl⟩
        rw [hb4]
        obtain ⟨V6, hV6⟩ : ∃ V6, (V4.alloc (.cells #[.pointer (some ⟨kb, 0, none⟩)] 104)).alloc (.cells #[.int .i64 sc, .int .i64 sb] 107) = V6 := ⟨_, rfl⟩
        rw [hV6]
        have G46 := Lib.hid (show Gr V4 V6 from by rw [← hV6]; exact (gr_al _ _).trans (gr_al _ _))
        have BX := Lib.hid (show V6.heap[b4]? = some (.cells #[.pointer (some ⟨kb, 0, none⟩)] 104 (0, 0)) ∧ V6.heap[b4 + 1]? = some (.cells #[.int .i64 sc, .int .i64 sb] 107 (0, 0)) ∧ V6.heap.size = b4 + 2 ∧ b8 < b4 from by
          rw [← hV6, ← hb4]
          exact ⟨gr_h (gr_al _ _) (al_new V4 _), al_at _ _ (by simp), by simp, heap_lt B84.out⟩)
        have G6 := Lib.hid (show Gr V1 V6 from G4.out.trans G46.out)
        have B86 := Lib.hid (gr_h G46.out B84.out)
        have OC6 := Lib.hid (OC4.out.gr G46.out)
        have OB := Lib.hid (show ∀ j, (Value.slice Ac ni cc).ownBlock = some j → b8 + 1 ≤ j ∧ j < b4 from fun j hj => by have h := OC4.out.lt j hj; rw [hb4] at h; exact h)
        clear hV6 hb4 B84 OC4 G46
        have OB6 := Lib.hid (show ∀ j, (Value.slice Ac ni cc).ownBlock = some j → j < V6.heap.size from fun j hj => by have := (OB.out j hj).2; have := BX.out.2.2.1; omega)
        have GW := Lib.hid (show ∀ pre W, RgI V6 (b8 + 1) (.slice Ac ni cc) K b.ins pre W → Gr V1 W from fun pre W h => gr_opt G6.out h.g fun j hj => by have := (OB.out j hj).1; have := HB8.out; omega)
        have hsc0 : L[sc]? = some c := by rw [← HSC.out]; exact HCB.out.1
        have hseq : s = ⟨sc, (sb : Int)⟩ := by rw [← HSC.out]; exact HCB.out.2.2.2
        refine range_r (w0 := V1) (dl := dlF 0 L) (sc := sc) (sb := sb) (b1 := b4) (b2 := b4 + 1) (by omega) rfl rfl L (HL.out _ P1.out.gr) HC.out c hsc0 b HCB.out.2.1 (by have := HB.out.2.1; omega) (HM.out _ P1.out.gr).ld (Okl.get (L := L)) (OK.out.four HB.out.2.2.1 HB.out.2.2.2)
          (fun pre own W => (∀ k, ¬ own k) ∧ RgI V6 (b8 + 1) (.slice Ac ni cc) K b.ins pre W) (fun _ _ _ => False)
          (fun pre own W h => ⟨GW.out pre W h.2, h.2.g.size, ⟨h.2.old BX.out.1 (fun e => by have := (OB.out _ e).2; omega), h.2.old BX.out.2.1 (fun e => by have := (OB.out _ e).2; omega)⟩, ⟨(HM.out _ (P1.out.gr.trans (GW.out pre W h.2))).d, _, _, (HM.out _ (P1.out.gr.trans (GW.out pre W h.2))).h⟩, fun k hk => absurd hk (h.1 k)⟩)
          (fun pre own W W' h hb => ⟨h.1, h.2.kp OB6.out hb⟩) (fun _ _ _ _ h _ => h) ⟨fun _ h => h, World.grownBy.refl _ _, OC6.out⟩ ?_ ?_ (fun _ _ _ _ _ h _ => h.elim)
        · intro l pre own y W hI hsz _ hpost hl
          obtain ⟨j, t⟩ := y
          obtain ⟨post, hpost⟩ := hpost
          obtain ⟨x, hx, -, htg⟩ := trg_mem b.ins 0 j t (by rw [hpost]; simp)
          rw [Nat.sub_zero] at hx
          have hxm : x ∈ (blkAt (pls L) s).ins := by rw [HCB.out.2.2.1]; exact List.mem_of_getElem? hx
          obtain ⟨u, rfl, hu⟩ := CL.out s HSM.out x hxm t (by rw [hseq]; exact htg)
          have hj : j < ni := by rw [← HB.out.2.1]; exact (List.getElem?_eq_some_iff.1 hx).1
          have HU := Lib.hid hu
          have HI2 := Lib.hid hI
          have HSZ := Lib.hid hsz
          have HLL := Lib.hid hl
          clear hx hxm htg hpost hu hI hsz hl hsc0 hseq
          simp only [tgV]
          gi_wp2
          refine ⟨⟨fun k _ hk _ => Below.heap_alloc _ _ _ hk, by simp⟩, fun W₂ hb => ?_⟩
          have HBT := Lib.hid hb
          have H2 := Lib.hid (show RgI V6 (b8 + 1) (.slice Ac ni cc) K b.ins pre W₂ from (HI2.out.2.gr OB6.out (gr_al W _)).but OB6.out hb (by have := HLL.out; omega))
          have TB := Lib.hid (show W₂.heap[W.heap.size]? = some (.cells #[.int .i64 u.code, .int .i64 u.block, .bool true] 119 (0, 0)) from (hb.same _ (by have := HSZ.out; have := HLL.out; omega)).trans (al_new W _))
          clear hb
          have GV := Lib.hid (GW.out _ _ H2.out)
          obtain ⟨r0, -, -, -⟩ := (P1.out.go GV.out).c
          obtain ⟨⟨-, -, k2, -⟩, -⟩ := (HM.out _ (P1.out.gr.trans GV.out)).hd
          have hb8w := H2.out.old B86.out (fun e => by have := (OB.out _ e).1; omega)
          have e2 : W₂.cell? ⟨b8, 2, none⟩ = some (.slice Ac ni cc) := by rw [Lib.cell_of_heap hb8w]; rfl
          have t0 : W₂.cell? ⟨W.heap.size, 0, none⟩ = some (.int .i64 u.code) := by rw [Lib.cell_of_heap TB.out]; rfl
          have t1 : W₂.cell? ⟨W.heap.size, 1, none⟩ = some (.int .i64 u.block) := by rw [Lib.cell_of_heap TB.out]; rfl
          obtain ⟨g, rfl, ⟨x1, hx1⟩, ⟨x3, hx3⟩, fz⟩ := H2.out.cells HB.out.2.1 hj
          have f1 := fz (j * 4 + 1)
          have f3 := fz (j * 4 + 3)
          clear hb8w fz
          have lk1 : (Instr.lookup 110 (.map (some m2)) (.agg #[.int .i64 u.code, .int .i64 u.block]) false).run Tryz.prog W₂.drew = .ok (.int .i64 (K.idxOf u : Nat)) W₂.drew := by
            have hlm := HM.out W₂.drew ((P1.out.gr.trans GV.out).trans (gr_drew _))
            have h := (lookup_k ktS hlm.n hlm.ln Tryz.underlying110 (z := iv 0) (by kernel_rfl) (key_of hlm.ln HU.out)).1
            rw [numL_get, if_pos HU.out] at h
            exact h
          obtain ⟨ix, hix⟩ : ∃ m, K.idxOf u = m := ⟨_, rfl⟩
          rw [hix] at lk1
          have HIX := Lib.hid hix
          clear hix
          gi_upto_region 10 with (fail)
          refine wpIn_round_still_tail 10 (by kernel_rfl) (by kernel_rfl) (by kernel_rfl) ?_
          simp only [List.take_succ_cons, List.take_zero, List.drop_succ_cons, List.drop_zero]
          repeat still_step
          refine wpStill_nil ?_
          have HP2 := Lib.hid (show RgI V6 (b8 + 1) (.slice (some ⟨g, 0, none⟩) ni cc) K b.ins (pre ++ [(j, some u)]) ((W₂.setCell ⟨g, j * 4 + 1, none⟩ (.int .i64 ix)).drew.setCell ⟨g, j * 4 + 3, none⟩ (.string ⟨#[]⟩)) from by
            have h := (H2.out.gr OB6.out (gr_drew W₂)).put HB.out.2.1 hj u
            rw [HIX.out] at h
            exact h)
          have hgl := OB.out g rfl
          have HGL := Lib.hid hgl
          have hne : ¬ b8 = g := by omega
          clear hgl
          go_wp2
          gi_wp2
          intro _
          exact ⟨⟨fun k h1 h2 _ => (Below.heap_setCell _ _ _ _ (by show k ≠ g; have := HGL.out.2; have := BX.out.2.2.1; omega)).trans (Below.heap_setCell _ _ _ _ (by show k ≠ g; have := HGL.out.2; have := BX.out.2.2.1; omega)), by simp [World.setCell]⟩, own, fun k hk => .inl hk, HI2.out.1, HP2.out⟩
        · intro own W' hi _ hd
          obtain ⟨M, hM⟩ : ∃ M, b.ins.map (relab (pls L) K s) = M := ⟨_, rfl⟩
          have hall := relT_all (l := pls L) (K := K) (s := s) b.ins [] (fun x hx t ht => CL.out s HSM.out x (by rw [HCB.out.2.2.1]; exact hx) t ht)
          simp only [List.nil_append, List.length_nil] at hall
          rw [hM] at hall
          have OM := Lib.hid (show OR 71 4 Ins.cs W' (b8 + 1) (.slice Ac ni cc) M from by
            have h := hi.2.o
            rw [← hall, hseq]
            exact h)
          have HML := Lib.hid (show M.length = ni from by rw [← hM, List.length_map]; exact HB.out.2.1)
          have HMB := Lib.hid (show (⟨b.cap, b.param, M⟩ : PB) = blkP (pls L) K s from by unfold blkP; rw [HCB.out.2.2.1, ← hM]; rfl)
          have GX := Lib.hid (GW.out _ _ hi.2)
          have B8X := Lib.hid (hi.2.old B86.out (fun e => by have := (OB.out _ e).1; omega))
          have PX := Lib.hid (show PgS w kb L K i v1 done (⟨.collected V6.heap.size, #[]⟩ :: ds) W' from by
            have h := P1.out.go GX.out
            have z1 := Z1.out
            have z6 := G6.out.size
            exact ⟨h.gr, h.k, h.r, h.p, h.o, h.ins, h.e, h.mks.push (by omega) hd (fun hm => by have := heap_lt (P1.out.mks.lt _ hm); omega)⟩)
          have Z8 := Lib.hid (show w.heap.size + 3 ≤ b8 ∧ b8 < W'.heap.size ∧ b4 < W'.heap.size from by
            have := Z1.out; have := HB8.out; have := hi.2.g.size; have := BX.out.2.2; omega)
          have V1O := Lib.hid (show ∀ j, v1.ownBlock = some j → j < b8 from fun j hj => by have := (P1.out.o.lt j hj).2; have := HB8.out; omega)
          obtain ⟨A1, c1, e1, -⟩ := PX.out.o.form elB.hn
          obtain ⟨nd, hnd⟩ : ∃ n, done.length = n := ⟨_, rfl⟩
          have hdi : nd ≤ i := by have h := congrArg List.length PX.out.e; simp only [List.length_map, List.length_take] at h; omega
          have HND := Lib.hid hnd
          rw [hnd] at e1
          subst e1
          clear hi hd hall hM hnd hseq hsc0 OB6 GW OC6 G6 B86 BX P1 S7 Z1 G4
          generalize V6.heap.size = r6 at *
          gi_upto_region 12 with (fail)
          obtain ⟨-, p0, p1, pf⟩ := PX.out.c
          have f0 := pf 0
          have e0 : W'.cell? ⟨b8, 0, none⟩ = some (.int .i64 b.cap) := by rw [Lib.cell_of_heap B8X.out]; rfl
          have e1 : W'.cell? ⟨b8, 1, none⟩ = some (.bool b.param) := by rw [Lib.cell_of_heap B8X.out]; rfl
          have e2 : W'.cell? ⟨b8, 2, none⟩ = some (.slice Ac ni cc) := by rw [Lib.cell_of_heap B8X.out]; rfl
          clear pf
          have BRD := Lib.hid (show RD 3 Blk.cs (W'.alloc (.cells #[.int .i64 b.cap, .bool b.param, .slice Ac ni cc] 69)) (some ⟨W'.heap.size, 0, none⟩) [(⟨b.cap, b.param, Ac, cc, M⟩ : Blk)] from rd_cells (t := 69) elB.hn (by
            rw [al_new]
            show some (Obj.cells #[.int .i64 b.cap, .bool b.param, .slice Ac ni cc] 69 (0, 0)) = some (Obj.cells #[.int .i64 b.cap, .bool b.param, .slice Ac M.length cc] 69 (0, 0))
            rw [HML.out]))
          refine wpIn_wide.2 ?_
          have OWN := Lib.hid (show ∀ j, (Value.slice A1 nd c1).ownBlock = some j → w.heap.size + 3 ≤ j from fun j hj => (PX.out.o.lt j hj).1)
          go_wp2_with ((at_builtin; refine wpList_app elB rfl (.tmp 62) (.tmp 64) rfl (w.heap.size + 3) rfl (PX.out.o.gr (gr_al _ _)) (m := 1) (c := 1) rfl rfl BRD.out (by have := HND.out; simp; omega) (by have := Z8.out; simp; omega) ?_; intro v7 w7 o7 g7 h7; obtain ⟨A7, c7, rfl⟩ := blk_form HND.out o7; have O7 := Lib.hid o7; have G7 := Lib.hid g7; have H7 := Lib.hid h7; have hp7 := (g7.block (w.heap.size + 2) (by have := Z8.out; simp; omega) (fun e => by have := OWN.out _ e.symm; omega)).trans (gr_h (gr_al _ _) PX.out.p); have q7 : w7.cell? ⟨w.heap.size + 1 + 1, 0, none⟩ = some (.slice A1 nd c1) := (by rw [show w.heap.size + 1 + 1 = w.heap.size + 2 from rfl, Lib.cell_of_heap hp7]; rfl); have f7 : w7.frozen? ⟨w.heap.size + 1 + 1, 0, none⟩ = false := frz hp7 0; clear o7 g7 h7 hp7))
          gi_wp2
          have PN := Lib.hid (PX.out.put (gr_al W' _) O7.out G7.out H7.out (OM.out.form (cs := Ins.cs) (fun _ => rfl) |> fun ⟨A0, c0, e0, h0⟩ => by cases e0; exact h0.gr (gr_al _ _)) (by show M.length ≤ 100000; rw [HML.out]; exact hnl) (fun a0 e0 => by
            have h := OB.out a0.block (by show (Value.slice Ac ni cc).ownBlock = _; rw [show Ac = some a0 from e0]; rfl)
            have := Z8.out
            refine ⟨by omega, by simp; omega, fun e => ?_⟩
            have := V1O.out a0.block e.symm
            omega) HS.out HMB.out)
          refine ⟨⟨i + 1, _, _, _, _, _, _, _, _, _, _, _, _, _, _, _, _, _, _, _, _, _, _, _, _, _, _, _, _, _, _, _, _, _, _, _, _, _, _, _, _, _, _, _, _, _, _, _, _, _, _, _, _, _, _, _, _, by omega, PN, rfl⟩, ?_⟩
          simp [intOf]
          omega
    · obtain rfl : nk = i := by omega
      obtain ⟨A1, c1, e1, -⟩ := HP.out.o.form elB.hn
      obtain ⟨nd, hnd⟩ : ∃ n, done.length = n := ⟨_, rfl⟩
      have HND := Lib.hid hnd
      rw [hnd] at e1
      subst e1
      clear hnd
      have hVw := heap_lt HP.out.p
      have HVW := Lib.hid hVw
      clear hVw
      gi_upto_region 15 with (fail)
      gi_loopw [70] (fun u W => ∃ j : Nat, j ≤ nr ∧ u = .int .i64 j ∧ ∃ v2 : Value, Hid (SgS w V (.slice A1 nd c1) v2 ((R.take j).map (stN L K)) W)) (fun u _ => nr - (intOf u).toNat)
      case atStart => exact ⟨0, Nat.zero_le _, rfl, .slice none 0 0, Lib.hid ⟨World.grownBy.refl _ _, HP.out.p, OR.nil⟩⟩
      case round =>
        obtain ⟨j, hj, rfl, v2, HS⟩ := hrel
        by_cases hlt : j < nr
        · have GW := Lib.hid (HS.out.gw HP.out.gr)
          obtain ⟨a, a1, rfl, ha, hab, y0, y1⟩ := (HR.out _ GW.out).nam (k := j) (by rw [HNR.out]; exact hlt)
          obtain ⟨n, hn⟩ : ∃ n, R[j]? = some n := ⟨_, List.getElem?_eq_getElem (by rw [HNR.out]; exact hlt)⟩
          have hni : R[j]'(by rw [HNR.out]; exact hlt) = n := by rw [List.getElem?_eq_getElem (by rw [HNR.out]; exact hlt)] at hn; exact Option.some.inj hn
          rw [hni] at y0 y1
          have HNJ := Lib.hid hn
          obtain ⟨nok, s, hfs, hsk⟩ := HR2.out n (List.mem_of_getElem? hn)
          have HNO := Lib.hid nok
          have HFS := Lib.hid hfs
          have HSK := Lib.hid hsk
          clear hni hn nok hfs hsk
          gi_upto_region 17 with (fail)
          clear y0 y1
          obtain ⟨W1, hW1⟩ : ∃ W1, wr.alloc (.cells #[.string ⟨n.pack.toArray⟩, .int .i64 n.id] 33) = W1 := ⟨_, rfl⟩
          have S1 := Lib.hid (show SgS w V (.slice A1 nd c1) v2 ((R.take j).map (stN L K)) W1 from by rw [← hW1]; exact HS.out.go (gr_al _ _))
          have NB := Lib.hid (show W1.heap[wr.heap.size]? = some (.cells #[.string ⟨n.pack.toArray⟩, .int .i64 n.id] 33 (0, 0)) from by rw [← hW1]; exact al_new _ _)
          have KX := Lib.hid (show W1.heap[w.heap.size]? = some (.cells #[.pointer (some ⟨kb, 0, none⟩)] 104 (0, 0)) from (S1.out.g.block _ (heap_lt HP.out.k) (fun e => by have := Option.some.inj e; omega)).trans HP.out.k)
          rw [hW1]
          obtain ⟨n12, hn12⟩ : ∃ m, wr.heap.size = m := ⟨_, rfl⟩
          rw [hn12] at NB ⊢
          clear hW1 hn12 HS GW
          have GW := Lib.hid (S1.out.gw HP.out.gr)
          have hlen : ((R.take j).map (stN L K)).length = j := by rw [List.length_map, List.length_take, HNR.out]; omega
          have HLEN := Lib.hid hlen
          obtain ⟨A2, c2, rfl⟩ := stt_form hlen S1.out.o
          obtain ⟨-, p1, pf⟩ := S1.out.c
          have f1 := pf 1
          have r0 : W1.cell? ⟨w.heap.size, 0, none⟩ = some (.pointer (some ⟨kb, 0, none⟩)) := by rw [Lib.cell_of_heap KX.out]; rfl
          have x0 : W1.cell? ⟨n12, 0, none⟩ = some (.string ⟨n.pack.toArray⟩) := by rw [Lib.cell_of_heap NB.out]; rfl
          have x1 : W1.cell? ⟨n12, 1, none⟩ = some (.int .i64 n.id) := by rw [Lib.cell_of_heap NB.out]; rfl
          obtain ⟨⟨-, k1, k2, -⟩, -⟩ := (HM.out _ GW.out).hd
          have lkf1 : ∀ V', Gr w V' → (Instr.lookup 109 (.map (some m1)) (.agg #[.string ⟨n.pack.toArray⟩, .int .i64 n.id]) false).run Tryz.prog V' = .ok (.agg #[.int .i64 s.code, .int .i64 s.block]) V' := fun V' g => by
            have hlm := HM.out V' g
            have h := (lookup_k ktN hlm.d hlm.ld Tryz.underlying109 (z := .agg #[iv 0, iv 0]) (by kernel_rfl) HNO.out).1
            rw [show kget (dlF 0 L) n = some (Sp.v s) from by have h2 := Okl.get (L := L) n.pack n.id; rw [HFS.out] at h2; exact h2] at h
            exact h
          have lkf2 : ∀ V', Gr w V' → (Instr.lookup 110 (.map (some m2)) (.agg #[.int .i64 s.code, .int .i64 s.block]) false).run Tryz.prog V' = .ok (.int .i64 (K.idxOf s : Nat)) V' := fun V' g => by
            have hlm := HM.out V' g
            have h := (lookup_k ktS hlm.n hlm.ln Tryz.underlying110 (z := iv 0) (by kernel_rfl) (key_of hlm.ln HSK.out)).1
            rw [numL_get, if_pos HSK.out] at h
            exact h
          obtain ⟨ix, hix⟩ : ∃ m, K.idxOf s = m := ⟨_, rfl⟩
          rw [hix] at lkf2
          have HX := Lib.hid (show stN L K n = ⟨n.pack, n.id, (ix : Int)⟩ from by unfold stN stOf rootN; rw [HFS.out, ← hix])
          clear hix hlen pf
          refine wpIn_wide.2 ?_
          have GA := (gr_drew W1).trans (gr_al W1.drew (.cells #[.string ⟨n.pack.toArray⟩, .int .i64 n.id, .int .i64 ix] 79))
          have p1a := gr_c GA p1
          have r0a := gr_c GA r0
          have x0a := gr_c GA x0
          have x1a := gr_c GA x1
          have k1a := gr_c GA k1
          have k2a := gr_c GA k2
          have lk1 := lkf1 _ (GW.out.trans (gr_drew _))
          have lk2 := lkf2 _ (GW.out.trans (gr_drew _))
          have lk1a := lkf1 _ (GW.out.trans GA)
          have lk2a := lkf2 _ (GW.out.trans GA)
          clear lkf1 lkf2
          refine wp_phaseT [false, false, false, false, false, false, false, false, false, false, false, false, false, false, false, true] [[], [15]] [Value.pointer (some ⟨w.heap.size + 1 + 1, 1, none⟩), Value.slice A2 j c2, Value.agg #[.string ⟨n.pack.toArray⟩, .int .i64 n.id], Value.pointer (some ⟨kb, 0, none⟩), Value.pointer (some ⟨kb, 0, none⟩), Value.pointer (some ⟨kb, 2, none⟩), Value.map (some m2), Value.pointer (some ⟨kb, 0, none⟩), Value.pointer (some ⟨kb, 0, none⟩), Value.pointer (some ⟨kb, 1, none⟩), Value.map (some m1), Value.agg #[.string ⟨n.pack.toArray⟩, .int .i64 n.id], Value.agg #[.int .i64 s.code, .int .i64 s.block], Value.int .i64 ix, Value.agg #[.string ⟨n.pack.toArray⟩, .int .i64 n.id, .int .i64 ix], Value.slice (some ⟨W1.drew.heap.size, 0, none⟩) 1 1] [W1.drew, W1.drew.alloc (.cells #[.string ⟨n.pack.toArray⟩, .int .i64 n.id, .int .i64 ix] 79)] 1 16 (by decide) (by kernel_rfl) (by kernel_rfl) (by kernel_rfl) (by kernel_rfl) rfl (by kernel_rfl) (fun _ => by kernel_rfl) (fun _ => by kernel_rfl) rfl rfl ⟨?_, ?_, ?_, ?_, ?_, ?_, ?_, ?_, ?_, ?_, ?_, ?_, ?_, ?_, ?_, ?_, trivial⟩ rfl (by kernel_rfl) ?_
          · intro kk aa hk E
            have h5 : aa.eval (.tmp 5) = Value.pointer (some ⟨w.heap.size + 1 + 1, 0, none⟩) := (E 5 (by kernel_rfl)).trans (by kernel_rfl)
            exact obl_pure (by kernel_rfl) rfl hk fun w => op_faP rfl rfl h5
          · intro kk aa hk E
            have h74 : aa.eval (.tmp 74) = Value.pointer (some ⟨w.heap.size + 1 + 1, 1, none⟩) := (E 74 (by kernel_rfl)).trans (by kernel_rfl)
            refine obl_read (ks := [0, 1]) (by kernel_rfl) (by kernel_rfl) rfl hk ⟨?_, ?_, trivial⟩
            · intro w' hw; cases hw; exact op_ldP rfl (.inl rfl) rfl h74 p1
            · intro w' hw; cases hw; exact op_ldP rfl (.inl rfl) rfl h74 p1a
          · intro kk aa hk E
            have h12 : aa.eval (.tmp 12) = Value.pointer (some ⟨n12, 0, none⟩) := (E 12 (by kernel_rfl)).trans (by kernel_rfl)
            refine obl_read (ks := [0, 1]) (by kernel_rfl) (by kernel_rfl) rfl hk ⟨?_, ?_, trivial⟩
            · intro w' hw; cases hw; exact op_ldN rfl rfl h12 x0 x1
            · intro w' hw; cases hw; exact op_ldN rfl rfl h12 x0a x1a
          · intro kk aa hk E
            have h2 : aa.eval (.tmp 2) = Value.pointer (some ⟨w.heap.size, 0, none⟩) := (E 2 (by kernel_rfl)).trans (by kernel_rfl)
            refine obl_read (ks := [0, 1]) (by kernel_rfl) (by kernel_rfl) rfl hk ⟨?_, ?_, trivial⟩
            · intro w' hw; cases hw; exact op_ldP rfl (.inr (.inl rfl)) rfl h2 r0
            · intro w' hw; cases hw; exact op_ldP rfl (.inr (.inl rfl)) rfl h2 r0a
          · intro kk aa hk E
            have h77 : aa.eval (.tmp 77) = Value.pointer (some ⟨kb, 0, none⟩) := (E 77 (by kernel_rfl)).trans (by kernel_rfl)
            exact obl_pure (by kernel_rfl) rfl hk fun w => op_nil rfl rfl h77
          · intro kk aa hk E
            have h78 : aa.eval (.tmp 78) = Value.pointer (some ⟨kb, 0, none⟩) := (E 78 (by kernel_rfl)).trans (by kernel_rfl)
            exact obl_pure (by kernel_rfl) rfl hk fun w => op_faL rfl (.inr rfl) rfl h78
          · intro kk aa hk E
            have h79 : aa.eval (.tmp 79) = Value.pointer (some ⟨kb, 2, none⟩) := (E 79 (by kernel_rfl)).trans (by kernel_rfl)
            refine obl_read (ks := [0, 1]) (by kernel_rfl) (by kernel_rfl) rfl hk ⟨?_, ?_, trivial⟩
            · intro w' hw; cases hw; exact op_ldP rfl (.inr (.inr (.inr rfl))) rfl h79 k2
            · intro w' hw; cases hw; exact op_ldP rfl (.inr (.inr (.inr rfl))) rfl h79 k2a
          · intro kk aa hk E
            have h2 : aa.eval (.tmp 2) = Value.pointer (some ⟨w.heap.size, 0, none⟩) := (E 2 (by kernel_rfl)).trans (by kernel_rfl)
            refine obl_read (ks := [0, 1]) (by kernel_rfl) (by kernel_rfl) rfl hk ⟨?_, ?_, trivial⟩
            · intro w' hw; cases hw; exact op_ldP rfl (.inr (.inl rfl)) rfl h2 r0
            · intro w' hw; cases hw; exact op_ldP rfl (.inr (.inl rfl)) rfl h2 r0a
          · intro kk aa hk E
            have h81 : aa.eval (.tmp 81) = Value.pointer (some ⟨kb, 0, none⟩) := (E 81 (by kernel_rfl)).trans (by kernel_rfl)
            exact obl_pure (by kernel_rfl) rfl hk fun w => op_nil rfl rfl h81
          · intro kk aa hk E
            have h82 : aa.eval (.tmp 82) = Value.pointer (some ⟨kb, 0, none⟩) := (E 82 (by kernel_rfl)).trans (by kernel_rfl)
            exact obl_pure (by kernel_rfl) rfl hk fun w => op_faL rfl (.inl rfl) rfl h82
          · intro kk aa hk E
            have h83 : aa.eval (.tmp 83) = Value.pointer (some ⟨kb, 1, none⟩) := (E 83 (by kernel_rfl)).trans (by kernel_rfl)
            refine obl_read (ks := [0, 1]) (by kernel_rfl) (by kernel_rfl) rfl hk ⟨?_, ?_, trivial⟩
            · intro w' hw; cases hw; exact op_ldP rfl (.inr (.inr (.inl rfl))) rfl h83 k1
            · intro w' hw; cases hw; exact op_ldP rfl (.inr (.inr (.inl rfl))) rfl h83 k1a
          · intro kk aa hk E
            have h12 : aa.eval (.tmp 12) = Value.pointer (some ⟨n12, 0, none⟩) := (E 12 (by kernel_rfl)).trans (by kernel_rfl)
            refine obl_read (ks := [0, 1]) (by kernel_rfl) (by kernel_rfl) rfl hk ⟨?_, ?_, trivial⟩
            · intro w' hw; cases hw; exact op_ldN rfl rfl h12 x0 x1
            · intro w' hw; cases hw; exact op_ldN rfl rfl h12 x0a x1a
          · intro kk aa hk E
            have h84 : aa.eval (.tmp 84) = Value.map (some m1) := (E 84 (by kernel_rfl)).trans (by kernel_rfl)
            have h85 : aa.eval (.tmp 85) = Value.agg #[.string ⟨n.pack.toArray⟩, .int .i64 n.id] := (E 85 (by kernel_rfl)).trans (by kernel_rfl)
            refine obl_read (ks := [0, 1]) (by kernel_rfl) (by kernel_rfl) rfl hk ⟨?_, ?_, trivial⟩
            · intro w' hw; cases hw; exact op_lk rfl rfl h84 h85 lk1
            · intro w' hw; cases hw; exact op_lk rfl rfl h84 h85 lk1a
          · intro kk aa hk E
            have h80 : aa.eval (.tmp 80) = Value.map (some m2) := (E 80 (by kernel_rfl)).trans (by kernel_rfl)
            have h86 : aa.eval (.tmp 86) = Value.agg #[.int .i64 s.code, .int .i64 s.block] := (E 86 (by kernel_rfl)).trans (by kernel_rfl)
            refine obl_read (ks := [0, 1]) (by kernel_rfl) (by kernel_rfl) rfl hk ⟨?_, ?_, trivial⟩
            · intro w' hw; cases hw; exact op_lk rfl rfl h80 h86 lk2
            · intro w' hw; cases hw; exact op_lk rfl rfl h80 h86 lk2a
          · intro kk aa hk E
            have h76 : aa.eval (.tmp 76) = Value.agg #[.string ⟨n.pack.toArray⟩, .int .i64 n.id] := (E 76 (by kernel_rfl)).trans (by kernel_rfl)
            have h87 : aa.eval (.tmp 87) = Value.int .i64 ix := (E 87 (by kernel_rfl)).trans (by kernel_rfl)
            exact obl_pure (by kernel_rfl) rfl hk fun w => op_bd rfl rfl h76 h87 ⟨_, rfl⟩
          · intro kk aa hk E
            have h88 : aa.eval (.tmp 88) = Value.agg #[.string ⟨n.pack.toArray⟩, .int .i64 n.id, .int .i64 ix] := (E 88 (by kernel_rfl)).trans (by kernel_rfl)
            exact obl_write (ks := [0]) (by kernel_rfl) (by kernel_rfl) hk ⟨⟨1, _, _, by kernel_rfl, rfl, rfl, op_ns rfl rfl rfl h88⟩, trivial⟩
          intro af haf
          simp only [List.take_succ_cons, List.take_zero, finA, Act.put, List.setIfInBounds_toArray, List.set_cons_succ, List.set_cons_zero] at haf
          subst haf
          simp only [List.drop_succ_cons, List.drop_zero]
          have S2 := Lib.hid (S1.out.go (gr_drew W1))
          have F2 := Lib.hid (show W1.drew.cell? ⟨w.heap.size + 1 + 1, 1, none⟩ = some (.slice A2 j c2) from p1)
          clear r0 x0 x1 k1 k2 lk1 lk2 p1 f1 r0a x0a x1a k1a k2a lk1a lk2a p1a GA
          generalize W1.drew = W2 at *
          have BRD := Lib.hid (show RD 3 Stt.cs (W2.alloc (.cells #[.string ⟨n.pack.toArray⟩, .int .i64 n.id, .int .i64 ix] 79)) (some ⟨W2.heap.size, 0, none⟩) [stN L K n] from rd_cells (t := 79) elT.hn (by rw [HX.out]; exact al_new _ _))
          have OWN := Lib.hid (show ∀ q, (Value.slice A2 j c2).ownBlock = some q → V.heap.size ≤ q from fun q hq => (S2.out.o.lt q hq).1)
          have HVZ := Lib.hid (S2.out.g.size)
          go_wp2_with ((at_builtin; refine wpList_app elT rfl (.tmp 75) (.tmp 89) rfl V.heap.size rfl (S2.out.o.gr (gr_al _ _)) (m := 1) (c := 1) rfl rfl BRD.out (by have := HLEN.out; simp; omega) (by have := HVZ.out; simp; omega) ?_; intro v7 w7 o7 g7 h7; obtain ⟨A7, c7, rfl⟩ := stt_form (n := j + 1) (by rw [List.length_append, HLEN.out]; rfl) o7; have O7 := Lib.hid o7; have G7 := Lib.hid g7; have hp7 := (g7.block (w.heap.size + 2) (by have := HVZ.out; have := HVW.out; simp; omega) (fun e => by have := OWN.out _ e.symm; have := HVW.out; omega)).trans (gr_h (gr_al _ _) S2.out.p); have q7 : w7.cell? ⟨w.heap.size + 1 + 1, 1, none⟩ = some (.slice A2 j c2) := (by rw [show w.heap.size + 1 + 1 = w.heap.size + 2 from rfl, Lib.cell_of_heap hp7]; rfl); have f7 : w7.frozen? ⟨w.heap.size + 1 + 1, 1, none⟩ = false := frz hp7 1; clear o7 g7 h7 hp7))
          gi_wp2
          have SN := Lib.hid (show SgS w V (.slice A1 nd c1) (.slice A7 (j + 1) c7) ((R.take j).map (stN L K) ++ [stN L K n]) (w7.setCell ⟨w.heap.size + 2, 1, none⟩ (.slice A7 (j + 1) c7)) from SgS.put (S2.out.go (gr_al W2 (.cells #[.string ⟨n.pack.toArray⟩, .int .i64 n.id, .int .i64 ix] 79))) HVW.out O7.out G7.out)
          refine ⟨⟨j + 1, by omega, by simp, .slice A7 (j + 1) c7, ?_⟩, by simp [intOf]; omega⟩
          rw [List.take_add_one, HNJ.out, Option.toList_some, List.map_append, List.map_cons, List.map_nil]
          exact SN
        · obtain rfl : nr = j := by omega
          have hlen : ((R.take nr).map (stN L K)).length = nr := by rw [List.length_map, List.length_take, HNR.out]; omega
          have HLEN := Lib.hid hlen
          have GW := Lib.hid (HS.out.gw HP.out.gr)
          have MX := Lib.hid (show Mks (w.heap.size + 3) wr ds from HP.out.mks.keep fun q hq hr => (HS.out.g.block q (heap_lt hr) (fun e => by have := Option.some.inj e; omega)).trans hr)
          obtain ⟨A2, c2, rfl⟩ := stt_form hlen HS.out.o
          obtain ⟨-, p1, -⟩ := HS.out.c
          have SO := Lib.hid (sort_own V.heap.size _ _ wr HS.out.o (by rw [hlen]; exact hrl))
          clear hlen
          gi_upto_region 20 with (refine ⟨trivial, ?_⟩; gi_at_call 72; refine (callsIn_wide.2 SO.out).mono ?_; rintro e w1 ⟨rfl, M, m1, m2, o1, g1⟩; have HM1 := Lib.hid m1; have HM2 := Lib.hid m2; have S1 := Lib.hid (HS.out.row HVW.out o1 g1); clear m1 m2 o1 g1)
          obtain ⟨-, q1, -⟩ := S1.out.c
          have hml : M.length = nr := by rw [HM1.out.length_eq]; exact HLEN.out
          have CO := Lib.hid (compact_own V.heap.size _ M w1 S1.out.o (by omega))
          obtain ⟨n3, hn3⟩ : ∃ n, (cmpS M).length = n := ⟨_, rfl⟩
          have HN3 := Lib.hid hn3
          clear p1 hml hn3
          gi_upto_region 21 with (refine ⟨trivial, ?_⟩; gi_at_call 77; refine (callsIn_wide.2 CO.out).mono ?_; rintro e w2 ⟨v3, rfl, o3, g3⟩; obtain ⟨A3, c3, rfl⟩ := stt_form HN3.out o3; have hp3 := (g3.block (w.heap.size + 2) (heap_lt S1.out.p) (fun e => by have := (S1.out.o.lt _ e.symm).1; have := HVW.out; omega)).trans S1.out.p; have q3 : w2.cell? ⟨w.heap.size + 1 + 1, 1, none⟩ = some (.slice A2 nr c2) := (by rw [show w.heap.size + 1 + 1 = w.heap.size + 2 from rfl, Lib.cell_of_heap hp3]; rfl); have f3 : w2.frozen? ⟨w.heap.size + 1 + 1, 1, none⟩ = false := frz hp3 1; have S2 := Lib.hid (show SgS w V (.slice A1 nd c1) (.slice A3 n3 c3) (cmpS M) (w2.setCell ⟨w.heap.size + 2, 1, none⟩ (.slice A3 n3 c3)) from S1.out.put HVW.out o3 g3); clear o3 g3 hp3)
          have MX2 := Lib.hid (show Mks (w.heap.size + 3) (w2.setCell ⟨w.heap.size + 2, 1, none⟩ (.slice A3 n3 c3)) ds from HP.out.mks.keep fun q hq hr => (S2.out.g.block q (heap_lt hr) (fun e => by have := Option.some.inj e; omega)).trans hr)
          change Code.wpIn _ _ _ _ _ _ (w2.setCell ⟨w.heap.size + 2, 1, none⟩ (.slice A3 n3 c3))
          generalize w2.setCell ⟨w.heap.size + 2, 1, none⟩ (.slice A3 n3 c3) = W3 at *
          clear q1 q3 f3
          obtain ⟨s0, s1, -⟩ := S2.out.c
          have hr3 := (S2.out.g.block (w.heap.size + 1) (heap_lt HP.out.r) (fun e => by have := Option.some.inj e; omega)).trans HP.out.r
          have e0 : W3.cell? ⟨w.heap.size + 1, 0, none⟩ = some (.slice none 0 0) := by rw [Lib.cell_of_heap hr3]; rfl
          have e1 : W3.cell? ⟨w.heap.size + 1, 1, none⟩ = some (.slice none 0 0) := by rw [Lib.cell_of_heap hr3]; rfl
          have f0 := frz hr3 0
          have f1 := frz hr3 1
          have HR3 := Lib.hid hr3
          clear hr3
          gi_wp2
          have MX4 := MX2.out.keep (W' := (W3.setCell ⟨w.heap.size + 1, 0, none⟩ (.slice A1 nd c1)).setCell ⟨w.heap.size + 1, 1, none⟩ (.slice A3 n3 c3)) (fun q hq hr => (Below.heap_setCell _ _ _ _ (by show q ≠ w.heap.size + 1; omega)).trans ((Below.heap_setCell _ _ _ _ (by show q ≠ w.heap.size + 1; omega)).trans hr))
          refine leaves_mks ds _ MX4 fun W' hT => ?_
          have h4 := hT.low (w.heap.size + 1) (by omega)
          rw [set2c HR3.out] at h4
          refine ⟨_, results_prog rfl _ _ ⟨w.heap.size + 1, 0, none⟩ (.slice A1 nd c1) (.slice A3 n3 c3) rfl (by rw [Lib.cell_of_heap h4]; rfl) (by rw [Lib.cell_of_heap h4]; rfl), ⟨A1, c1, done, A3, c3, cmpS M⟩, ?_, ?_, ?_, ?_, ?_, ?_⟩
          · unfold Prg.v
            rw [HND.out, HN3.out]
          · have hb : RD 3 Blk.cs V A1 done := by
              obtain ⟨A0, c0, e0, hb⟩ := HP.out.o.form elB.hn
              cases e0
              exact hb
            have hss : RD 3 Stt.cs W3 A3 (cmpS M) := by
              obtain ⟨A0, c0, e0, hss⟩ := S2.out.o.form elT.hn
              cases e0
              exact hss
            have st : ∀ {α : Type} {m : Nat} {cs : α → List Value} {Aq : Option Addr} {Mq : List α}, RD m cs W3 Aq Mq → (∀ a, Aq = some a → w.heap.size + 3 ≤ a.block) → RD m cs W' Aq Mq := fun hR hA =>
              ((hR.but (grown_set (w := W3) (w.heap.size + 1) 0 (.slice A1 nd c1)) (fun a e e2 => by have := hA a e; have := Option.some.inj e2; omega)).but (grown_set (w := W3.setCell ⟨w.heap.size + 1, 0, none⟩ (.slice A1 nd c1)) (w.heap.size + 1) 1 (.slice A3 n3 c3)) (fun a e e2 => by have := hA a e; have := Option.some.inj e2; omega)).tk hT
            have sv : ∀ {α : Type} {m : Nat} {cs : α → List Value} {Aq : Option Addr} {Mq : List α}, RD m cs V Aq Mq → (∀ a, Aq = some a → w.heap.size + 3 ≤ a.block) → RD m cs W' Aq Mq := fun hR hA =>
              st (hR.but S2.out.g (fun a e e2 => by have := hA a e; have := Option.some.inj e2; omega)) hA
            refine ⟨sv hb fun a e => ?_, fun b hb2 => sv (HP.out.ins b hb2).1 fun a e => ((HP.out.ins b hb2).2.2 a e).1, st hss fun a e => ?_⟩
            · exact (HP.out.o.lt a.block (by rw [show A1 = some a from e]; rfl)).1
            · have := (S2.out.o.lt a.block (by rw [show A3 = some a from e]; rfl)).1
              have := HVW.out
              omega
          · rw [HP.out.e, List.take_of_length_le (Nat.le_of_eq HN.out)]
            rfl
          · have h := HM1.out
            rw [List.take_of_length_le (Nat.le_of_eq HNR.out)] at h
            exact sorted_ok h HM2.out
          · have g4 : Gr w ((W3.setCell ⟨w.heap.size + 1, 0, none⟩ (.slice A1 nd c1)).setCell ⟨w.heap.size + 1, 1, none⟩ (.slice A3 n3 c3)) := gr_cell (gr_cell (S2.out.gw HP.out.gr) (by omega) _) (by omega) _
            exact ⟨hT.os.trans g4.os, hT.tape.trans g4.tape, hT.output.trans g4.output, by rw [hT.size]; exact g4.size, fun k hk hn => (hT.low k (by omega)).trans (g4.block k hk hn)⟩
          · exact fun b hb => (HP.out.ins b hb).2.1
end Go.Proofs.YtgboboljgcfggaaGreatDoor
namespace Go.Proofs.YtgboboljgcfggaaGreatDoor
open Go.RowKit

attribute [local irreducible] Calls in
set_option maxRecDepth 100000 in
set_option maxHeartbeats 4000000 in
theorem check8_any (p : Cod) (w : World) (hp : p.Rd w) (hL : p.Lim) : Calls Tryz.prog 69 #[p.v] w fun e w' => e = .returned (.int .i64 (errC p)) ∧ Gr w w' := by
  obtain ⟨NB, hNB⟩ : ∃ n, p.bs.length = n := ⟨_, rfl⟩
  obtain ⟨ND, hND⟩ : ∃ n, p.ds.length = n := ⟨_, rfl⟩
  obtain ⟨bA, hbA⟩ : ∃ a, p.bA = a := ⟨_, rfl⟩
  obtain ⟨dA, hdA⟩ : ∃ a, p.dA = a := ⟨_, rfl⟩
  have hb9 : NB ≤ 9223372036854775807 := by rw [← hNB]; exact hL.b
  have hd9 : ND ≤ 9223372036854775807 := by rw [← hND]; exact hL.d
  have HB := Lib.hid (fun V (g : Gr w V) => show RD 3 Blk.cs V bA p.bs from by rw [← hbA]; exact (hp.gr g).b)
  have HD := Lib.hid (fun V (g : Gr w V) => show RD 3 Dcl.cs V dA p.ds from by rw [← hdA]; exact (hp.gr g).d)
  have CB := Lib.hid (fun V (g : Gr w V) (b : Blk) (hb : b ∈ p.bs) => show Calls Tryz.prog 95 #[.agg #[.string ⟨p.label.toArray⟩, .slice bA NB p.bc, .slice dA ND p.dc], .agg #[.int .i64 b.cap, .bool b.param, .slice b.A b.ins.length b.c]] V (fun e w' => e = .returned (.int .i64 (errB8 p.bs b)) ∧ Gr V w') from by
    have h := checkBlock8_any p b V (hp.gr g) ((hp.gr g).i b hb) (hL.i b hb) (hL.n b hb)
    unfold Cod.v Blk.v at h
    simp only [hNB, hND, hbA, hdA] at h
    exact h)
  have LB := Lib.hid (fun V => label_any p.label V hL.l)
  have GW := Lib.hid (show Gr w (w.alloc (.cells #[.string ⟨p.label.toArray⟩, .slice bA NB p.bc, .slice dA ND p.dc] 65)) from gr_al _ _)
  have HX := Lib.hid (fun V (g : Gr (w.alloc (.cells #[.string ⟨p.label.toArray⟩, .slice bA NB p.bc, .slice dA ND p.dc] 65)) V) => cells3 (gr_h g (al_new w (.cells #[.string ⟨p.label.toArray⟩, .slice bA NB p.bc, .slice dA ND p.dc] 65))))
  have EBI := Lib.hid (fun (k : Nat) (b : Blk) (hk : p.bs[k]? = some b) => show (p.bs.map (errB8 p.bs))[k]? = some (errB8 p.bs b) from by rw [List.getElem?_map, hk]; rfl)
  have EBL := Lib.hid (show (p.bs.map (errB8 p.bs)).length = NB from by rw [List.length_map, hNB])
  have EDI := Lib.hid (fun (k : Nat) (x : Dcl) (hk : p.ds[k]? = some x) => show ((List.range p.ds.length).map (errD p.bs p.ds))[k]? = some (if x.id < 1 ∨ 999999 < x.id then 2 else if ordD p.ds x k = false then 10 else if ¬ (x.kind = 1 ∨ x.kind = 2 ∨ x.kind = 3) then 9 else if plainB p.bs x.block = false then 2 else 0) from by
    rw [List.getElem?_map, List.getElem?_range (List.getElem?_eq_some_iff.1 hk).1]
    simp only [Option.map_some, errD, hk])
  have EDL := Lib.hid (show ((List.range p.ds.length).map (errD p.bs p.ds)).length = ND from by rw [List.length_map, List.length_range, hND])
  have EC := Lib.hid (show errC p = if lab p.label = false then 6 else if fe8 (p.bs.map (errB8 p.bs)) ≠ 0 then fe8 (p.bs.map (errB8 p.bs)) else fe8 ((List.range p.ds.length).map (errD p.bs p.ds)) from rfl)
  obtain ⟨EB, hEB⟩ : ∃ E, p.bs.map (errB8 p.bs) = E := ⟨_, rfl⟩
  obtain ⟨ED, hED⟩ : ∃ E, (List.range p.ds.length).map (errD p.bs p.ds) = E := ⟨_, rfl⟩
  simp only [hEB] at EBI EBL EC
  simp only [hED] at EDI EDL EC
  obtain ⟨r, hr⟩ : ∃ r, errC p = r := ⟨_, rfl⟩
  rw [hr] at EC ⊢
  obtain ⟨lb, hlb⟩ : ∃ b, lab p.label = b := ⟨_, rfl⟩
  rw [hlb] at EC
  simp only [hlb] at LB
  have HNB := Lib.hid hNB
  have HND := Lib.hid hND
  unfold Cod.v
  rw [hNB, hND, hbA, hdA]
  obtain ⟨x0, x1, x2⟩ := HX.out _ (gr_refl _)
  clear hp hL hNB hND hbA hdA hEB hED hr hlb
  cases lb with
  | false =>
    have e6 := EC.out
    rw [if_pos rfl] at e6
    subst e6
    clear HB HD CB EBI EDI
    go_enter Tryz.func69, Tryz.ntmps69
    go_wp2_with (first | (go_at_call 52; (with_reducible refine (LB.out _).mono ?_); rintro e w1 ⟨rfl, k1⟩; have G1 := Lib.hid (gr_of k1); clear k1))
    go_ret
    exact ⟨rfl, GW.out.trans G1.out⟩
  | true =>
    have e6 := EC.out
    rw [if_neg (by simp)] at e6
    have E6 := Lib.hid e6
    clear e6 EC
    go_enter Tryz.func69, Tryz.ntmps69
    go_upto_region 3 with (first | (go_at_call 52; (with_reducible refine (LB.out _).mono ?_); rintro e w1 ⟨rfl, k1⟩; have G1 := Lib.hid (gr_of k1); clear k1))
    clear x0 x1 x2
    obtain ⟨x0, x1, x2⟩ := HX.out _ G1.out
    have G0 := Lib.hid (gr_refl w1)
    go_wp2
    go_loopw [15] (fun i V => ∃ k : Nat, k ≤ NB ∧ i = .int .i64 k ∧ Hid (Gr w1 V ∧ fe8 (EB.take k) = 0)) (fun i _ => NB - (intOf i).toNat)
    case atStart => exact ⟨0, Nat.zero_le _, rfl, Lib.hid ⟨G0.out, rfl⟩⟩
    case round =>
      obtain ⟨k, hk, rfl, HK⟩ := hrel
      obtain ⟨gk, hfe⟩ := HK.out
      have GK := Lib.hid gk
      have FE := Lib.hid hfe
      clear gk hfe HK x0 x1 x2
      obtain ⟨x0, x1, x2⟩ := HX.out _ (G1.out.trans GK.out)
      by_cases hlt : k < NB
      · obtain ⟨a, a1, eA, ha, hab, y0, y1, y2⟩ := (HB.out _ (GW.out.trans (G1.out.trans GK.out))).blk (k := k) (by rw [HNB.out]; exact hlt)
        obtain rfl := eA
        obtain ⟨b, hb⟩ : ∃ x, p.bs[k]'(by rw [HNB.out]; exact hlt) = x := ⟨_, rfl⟩
        have HXI := Lib.hid (show p.bs[k]? = some b from by rw [List.getElem?_eq_getElem (by rw [HNB.out]; exact hlt), hb])
        rw [hb] at y0 y1 y2
        obtain ⟨z, hz⟩ : ∃ z, errB8 p.bs b = z := ⟨_, rfl⟩
        have CX := Lib.hid (fun V (g : Gr wr V) => CB.out V ((GW.out.trans (G1.out.trans GK.out)).trans g) b (List.mem_of_getElem? HXI.out))
        simp only [hz] at CX
        have FA := Lib.hid (show (z ≠ 0 → fe8 EB = z) ∧ (z = 0 → fe8 (EB.take (k + 1)) = 0) from fe8_fail (by rw [EBI.out k b HXI.out, hz]) FE.out)
        clear hb hz
        go_upto_region 6 with (fail)
        have HI := Lib.hid (fun V (g : Gr (wr.alloc (.cells #[.int .i64 b.cap, .bool b.param, .slice b.A b.ins.length b.c] 69)) V) => cells3 (gr_h g (al_new wr (.cells #[.int .i64 b.cap, .bool b.param, .slice b.A b.ins.length b.c] 69))))
        have G7 := Lib.hid (gr_al wr (.cells #[.int .i64 b.cap, .bool b.param, .slice b.A b.ins.length b.c] 69))
        obtain ⟨q, hq⟩ : ∃ q, wr.heap.size = q := ⟨_, rfl⟩
        rw [hq] at HI ⊢
        clear hq
        generalize World.alloc wr _ = W7 at *
        clear x0 x1 x2 y0 y1 y2
        obtain ⟨x0, x1, x2⟩ := HX.out _ (G1.out.trans (GK.out.trans G7.out))
        obtain ⟨i0, i1, i2⟩ := HI.out _ (gr_refl _)
        by_cases hz0 : z = 0
        · subst hz0
          go_wp2_with (first | (go_at_call 95; (with_reducible refine (CX.out _ G7.out).mono ?_); rintro e w6 ⟨rfl, g6⟩; have G6 := Lib.hid (G7.out.trans g6); clear g6))
          exact ⟨⟨k + 1, hlt, by simp, Lib.hid ⟨GK.out.trans G6.out, FA.out.2 trivial⟩⟩, by simp [intOf]; omega⟩
        · have hb0 : (z != 0) = true := by simpa using hz0
          have hfin : r = z := E6.out.trans (by rw [if_pos (by rw [FA.out.1 hz0]; exact hz0)]; exact FA.out.1 hz0)
          subst hfin
          clear hz0
          go_wp2_with (first | (go_at_call 95; (with_reducible refine (CX.out _ G7.out).mono ?_); rintro e w6 ⟨rfl, g6⟩; have G6 := Lib.hid (G7.out.trans g6); clear g6))
          go_ret
          exact ⟨rfl, (GW.out.trans (G1.out.trans GK.out)).trans G6.out⟩
      · obtain rfl : NB = k := by omega
        have h0 := FE.out
        rw [List.take_of_length_le (by rw [EBL.out]; exact Nat.le_refl _)] at h0
        have e7 := E6.out
        rw [if_neg (by rw [h0]; simp)] at e7
        have E7 := Lib.hid e7
        have G8 := Lib.hid (G1.out.trans GK.out)
        obtain ⟨w8, rfl⟩ : ∃ x, x = wr := ⟨_, rfl⟩
        have G00 := Lib.hid (gr_refl w8)
        clear h0 e7 E6 FE EBI EBL CB hk hlt G0 GK
        go_wp2
        go_loopw [29] (fun i V => ∃ k : Nat, k ≤ ND ∧ i = .int .i64 k ∧ Hid (Gr w8 V ∧ fe8 (ED.take k) = 0)) (fun i _ => ND - (intOf i).toNat)
        case atStart => exact ⟨0, Nat.zero_le _, rfl, Lib.hid ⟨G00.out, rfl⟩⟩
        case round =>
          obtain ⟨k, hk, rfl, HK⟩ := hrel
          obtain ⟨gk, hfe⟩ := HK.out
          have GK := Lib.hid gk
          have FE := Lib.hid hfe
          clear gk hfe HK x0 x1 x2
          obtain ⟨x0, x1, x2⟩ := HX.out _ (G8.out.trans GK.out)
          by_cases hlt : k < ND
          · obtain ⟨a, a1, eA, ha, hab, y0, y1, y2⟩ := (HD.out _ (GW.out.trans (G8.out.trans GK.out))).dcl (k := k) (by rw [HND.out]; exact hlt)
            obtain rfl := eA
            obtain ⟨d, hd⟩ : ∃ x, p.ds[k]'(by rw [HND.out]; exact hlt) = x := ⟨_, rfl⟩
            have HXI := Lib.hid (show p.ds[k]? = some d from by rw [List.getElem?_eq_getElem (by rw [HND.out]; exact hlt), hd])
            rw [hd] at y0 y1 y2
            have FA := Lib.hid (show (∀ v : Int, v ≠ 0 → (if d.id < 1 ∨ 999999 < d.id then 2 else if ordD p.ds d k = false then 10 else if ¬ (d.kind = 1 ∨ d.kind = 2 ∨ d.kind = 3) then 9 else if plainB p.bs d.block = false then 2 else 0 : Int) = v → fe8 ED = v) ∧ ((if d.id < 1 ∨ 999999 < d.id then 2 else if ordD p.ds d k = false then 10 else if ¬ (d.kind = 1 ∨ d.kind = 2 ∨ d.kind = 3) then 9 else if plainB p.bs d.block = false then 2 else 0 : Int) = 0 → fe8 (ED.take (k + 1)) = 0) from by
              have h := fe8_fail (EDI.out k d HXI.out) FE.out
              exact ⟨fun v hv e => (h.1 (by rw [e]; exact hv)).trans e, h.2⟩)
            obtain ⟨di, hdi⟩ : ∃ z, d.id = z := ⟨_, rfl⟩
            obtain ⟨dk, hdk⟩ : ∃ z, d.kind = z := ⟨_, rfl⟩
            obtain ⟨db, hdb⟩ : ∃ z, d.block = z := ⟨_, rfl⟩
            have HOR := Lib.hid (show ∀ (j : Nat) (q : Dcl), k = j + 1 → p.ds[j]? = some q → ordD p.ds d k = decide (q.id < di) from fun j q hj hq => by rw [hj, ordD, hq, ← hdi])
            have HO0 := Lib.hid (show k = 0 → ordD p.ds d k = true from fun h => by rw [h]; rfl)
            rw [hdi] at y0
            rw [hdk] at y1
            rw [hdb] at y2
            simp only [hdi, hdk, hdb] at FA
            obtain ⟨od, hod⟩ : ∃ b, ordD p.ds d k = b := ⟨_, rfl⟩
            simp only [hod] at FA HOR HO0
            clear hd hdi hdk hdb hod
            go_upto_region 13 with (fail)
            have HI := Lib.hid (fun V (g : Gr (wr.alloc (.cells #[.int .i64 di, .int .i64 dk, .int .i64 db] 126)) V) => cells3 (gr_h g (al_new wr (.cells #[.int .i64 di, .int .i64 dk, .int .i64 db] 126))))
            have GZ := Lib.hid (GK.out.trans (gr_al wr (.cells #[.int .i64 di, .int .i64 dk, .int .i64 db] 126)))
            obtain ⟨q, hq⟩ : ∃ q, wr.heap.size = q := ⟨_, rfl⟩
            rw [hq] at HI ⊢
            clear hq
            generalize World.alloc wr _ = W7 at *
            clear x0 x1 x2 y0 y1 y2
            obtain ⟨x0, x1, x2⟩ := HX.out _ (G8.out.trans GZ.out)
            obtain ⟨i0, i1, i2⟩ := HI.out _ (gr_refl _)
            by_cases hid : di < 1 ∨ 999999 < di
            · have hfin : r = 2 := E7.out.trans (FA.out.1 2 (by simp) (by rw [if_pos hid]))
              subst hfin
              clear E7 FA
              by_cases h1 : di < 1
              · clear hid
                go_wp2
                go_ret
                exact ⟨rfl, (GW.out.trans G8.out).trans GZ.out⟩
              · have h2 : 999999 < di := hid.resolve_left h1
                clear hid
                go_wp2
                go_ret
                exact ⟨rfl, (GW.out.trans G8.out).trans GZ.out⟩
            · have n1 : ¬ di < 1 := fun h => hid (.inl h)
              have n2 : ¬ 999999 < di := fun h => hid (.inr h)
              rcases Nat.eq_zero_or_pos k with rfl | hk0
              · obtain rfl := HO0.out rfl
                go_upto_region 15 with (fail)
                go_quiet (fail)
                generalize hW8 : World.drewN W7 _ = W8
                have G78 := Lib.hid (show Gr W7 W8 from by rw [← hW8]; exact gr_drewN _ _)
                clear hW8 x0 x1 x2 i0 i1 i2
                obtain ⟨x0, x1, x2⟩ := HX.out _ (G8.out.trans (GZ.out.trans G78.out))
                obtain ⟨i0, i1, i2⟩ := HI.out _ G78.out
                have GZ := Lib.hid (GZ.out.trans G78.out)
                by_cases hkd : dk = 1 ∨ dk = 2 ∨ dk = 3
                · have FA2 := Lib.hid (show plainB p.bs db = false → fe8 ED = 2 from fun h => FA.out.1 2 (by simp) (by rw [if_neg hid, if_neg (by simp), if_neg (fun h => h hkd), if_pos h]))
                  have FA0 := Lib.hid (show plainB p.bs db = true → fe8 (ED.take (0 + 1)) = 0 from fun h => FA.out.2 (by rw [if_neg hid, if_neg (by simp), if_neg (fun h => h hkd), if_neg (by rw [h]; simp)]))
                  clear FA
                  rcases hkd with rfl | rfl | rfl
                  · go_upto_region 19 with (fail)
                    by_cases hb0 : db < 0
                    · have hfin : r = 2 := E7.out.trans (FA2.out (plainB_neg hb0))
                      subst hfin
                      clear E7 FA2
                      go_wp2
                      go_ret
                      exact ⟨rfl, (GW.out.trans G8.out).trans GZ.out⟩
                    · obtain ⟨M, rfl⟩ : ∃ M : Nat, db = M := ⟨db.toNat, by omega⟩
                      by_cases hbN : M < NB
                      · obtain ⟨a5, a6, eA5, ha5, hab5, z0, z1, -⟩ := (HB.out _ ((GW.out.trans G8.out).trans GZ.out)).blk (k := M) (by rw [HNB.out]; exact hbN)
                        obtain rfl := eA5
                        have EPL := Lib.hid (plainB_at (bs := p.bs) (M := M) (by rw [HNB.out]; exact hbN))
                        obtain ⟨cp, hcp⟩ : ∃ z, (p.bs[M]'(by rw [HNB.out]; exact hbN)).cap = z := ⟨_, rfl⟩
                        obtain ⟨pr, hpr⟩ : ∃ z, (p.bs[M]'(by rw [HNB.out]; exact hbN)).param = z := ⟨_, rfl⟩
                        rw [hcp] at z0 EPL
                        rw [hpr] at z1 EPL
                        have hMN : (M : Int) < (NB : Int) := by omega
                        clear hcp hpr hb0
                        by_cases hc0 : cp = 0
                        · subst hc0
                          cases pr with
                          | true =>
                            have hfin : r = 2 := E7.out.trans (FA2.out (by rw [EPL.out]; rfl))
                            subst hfin
                            clear E7 FA2 EPL
                            go_wp2
                            go_ret
                            exact ⟨rfl, (GW.out.trans G8.out).trans GZ.out⟩
                          | false =>
                            have hok := FA0.out (by rw [EPL.out]; rfl)
                            have HOK := Lib.hid hok
                            clear hok E7 FA2 EPL FA0
                            go_wp2
                            exact ⟨⟨0 + 1, hlt, by simp, Lib.hid ⟨GZ.out, HOK.out⟩⟩, by simp [intOf]; omega⟩
                        · have hcb : (cp != 0) = true := by simpa using hc0
                          have hfin : r = 2 := E7.out.trans (FA2.out (by rw [EPL.out]; simp [hc0]))
                          subst hfin
                          clear hc0 E7 FA2 EPL
                          go_wp2
                          go_ret
                          exact ⟨rfl, (GW.out.trans G8.out).trans GZ.out⟩
                      · have hfin : r = 2 := E7.out.trans (FA2.out (plainB_big (by rw [HNB.out]; omega)))
                        have hMN : ¬ (M : Int) < (NB : Int) := by omega
                        subst hfin
                        clear E7 FA2
                        go_wp2
                        go_ret
                        exact ⟨rfl, (GW.out.trans G8.out).trans GZ.out⟩
                  · go_upto_region 19 with (fail)
                    by_cases hb0 : db < 0
                    · have hfin : r = 2 := E7.out.trans (FA2.out (plainB_neg hb0))
                      subst hfin
                      clear E7 FA2
                      go_wp2
                      go_ret
                      exact ⟨rfl, (GW.out.trans G8.out).trans GZ.out⟩
                    · obtain ⟨M, rfl⟩ : ∃ M : Nat, db = M := ⟨db.toNat, by omega⟩
                      by_cases hbN : M < NB
                      · obtain ⟨a5, a6, eA5, ha5, hab5, z0, z1, -⟩ := (HB.out _ ((GW.out.trans G8.out).trans GZ.out)).blk (k := M) (by rw [HNB.out]; exact hbN)
                        obtain rfl := eA5
                        have EPL := Lib.hid (plainB_at (bs := p.bs) (M := M) (by rw [HNB.out]; exact hbN))
                        obtain ⟨cp, hcp⟩ : ∃ z, (p.bs[M]'(by rw [HNB.out]; exact hbN)).cap = z := ⟨_, rfl⟩
                        obtain ⟨pr, hpr⟩ : ∃ z, (p.bs[M]'(by rw [HNB.out]; exact hbN)).param = z := ⟨_, rfl⟩
                        rw [hcp] at z0 EPL
                        rw [hpr] at z1 EPL
                        have hMN : (M : Int) < (NB : Int) := by omega
                        clear hcp hpr hb0
                        by_cases hc0 : cp = 0
                        · subst hc0
                          cases pr with
                          | true =>
                            have hfin : r = 2 := E7.out.trans (FA2.out (by rw [EPL.out]; rfl))
                            subst hfin
                            clear E7 FA2 EPL
                            go_wp2
                            go_ret
                            exact ⟨rfl, (GW.out.trans G8.out).trans GZ.out⟩
                          | false =>
                            have hok := FA0.out (by rw [EPL.out]; rfl)
                            have HOK := Lib.hid hok
                            clear hok E7 FA2 EPL FA0
                            go_wp2
                            exact ⟨⟨0 + 1, hlt, by simp, Lib.hid ⟨GZ.out, HOK.out⟩⟩, by simp [intOf]; omega⟩
                        · have hcb : (cp != 0) = true := by simpa using hc0
                          have hfin : r = 2 := E7.out.trans (FA2.out (by rw [EPL.out]; simp [hc0]))
                          subst hfin
                          clear hc0 E7 FA2 EPL
                          go_wp2
                          go_ret
                          exact ⟨rfl, (GW.out.trans G8.out).trans GZ.out⟩
                      · have hfin : r = 2 := E7.out.trans (FA2.out (plainB_big (by rw [HNB.out]; omega)))
                        have hMN : ¬ (M : Int) < (NB : Int) := by omega
                        subst hfin
                        clear E7 FA2
                        go_wp2
                        go_ret
                        exact ⟨rfl, (GW.out.trans G8.out).trans GZ.out⟩
                  · go_upto_region 19 with (fail)
                    by_cases hb0 : db < 0
                    · have hfin : r = 2 := E7.out.trans (FA2.out (plainB_neg hb0))
                      subst hfin
                      clear E7 FA2
                      go_wp2
                      go_ret
                      exact ⟨rfl, (GW.out.trans G8.out).trans GZ.out⟩
                    · obtain ⟨M, rfl⟩ : ∃ M : Nat, db = M := ⟨db.toNat, by omega⟩
                      by_cases hbN : M < NB
                      · obtain ⟨a5, a6, eA5, ha5, hab5, z0, z1, -⟩ := (HB.out _ ((GW.out.trans G8.out).trans GZ.out)).blk (k := M) (by rw [HNB.out]; exact hbN)
                        obtain rfl := eA5
                        have EPL := Lib.hid (plainB_at (bs := p.bs) (M := M) (by rw [HNB.out]; exact hbN))
                        obtain ⟨cp, hcp⟩ : ∃ z, (p.bs[M]'(by rw [HNB.out]; exact hbN)).cap = z := ⟨_, rfl⟩
                        obtain ⟨pr, hpr⟩ : ∃ z, (p.bs[M]'(by rw [HNB.out]; exact hbN)).param = z := ⟨_, rfl⟩
                        rw [hcp] at z0 EPL
                        rw [hpr] at z1 EPL
                        have hMN : (M : Int) < (NB : Int) := by omega
                        clear hcp hpr hb0
                        by_cases hc0 : cp = 0
                        · subst hc0
                          cases pr with
                          | true =>
                            have hfin : r = 2 := E7.out.trans (FA2.out (by rw [EPL.out]; rfl))
                            subst hfin
                            clear E7 FA2 EPL
                            go_wp2
                            go_ret
                            exact ⟨rfl, (GW.out.trans G8.out).trans GZ.out⟩
                          | false =>
                            have hok := FA0.out (by rw [EPL.out]; rfl)
                            have HOK := Lib.hid hok
                            clear hok E7 FA2 EPL FA0
                            go_wp2
                            exact ⟨⟨0 + 1, hlt, by simp, Lib.hid ⟨GZ.out, HOK.out⟩⟩, by simp [intOf]; omega⟩
                        · have hcb : (cp != 0) = true := by simpa using hc0
                          have hfin : r = 2 := E7.out.trans (FA2.out (by rw [EPL.out]; simp [hc0]))
                          subst hfin
                          clear hc0 E7 FA2 EPL
                          go_wp2
                          go_ret
                          exact ⟨rfl, (GW.out.trans G8.out).trans GZ.out⟩
                      · have hfin : r = 2 := E7.out.trans (FA2.out (plainB_big (by rw [HNB.out]; omega)))
                        have hMN : ¬ (M : Int) < (NB : Int) := by omega
                        subst hfin
                        clear E7 FA2
                        go_wp2
                        go_ret
                        exact ⟨rfl, (GW.out.trans G8.out).trans GZ.out⟩
                · have hfin : r = 9 := E7.out.trans (FA.out.1 9 (by simp) (by rw [if_neg hid, if_neg (by simp), if_pos hkd]))
                  have k1 : (dk != 1) = true := by simp; intro e; exact hkd (.inl e)
                  have k2 : (dk != 2) = true := by simp; intro e; exact hkd (.inr (.inl e))
                  have k3 : (dk != 3) = true := by simp; intro e; exact hkd (.inr (.inr e))
                  subst hfin
                  clear E7 FA hkd hid
                  go_wp2
                  go_ret
                  exact ⟨rfl, (GW.out.trans G8.out).trans GZ.out⟩
              · obtain ⟨j, hkj⟩ : ∃ j, k = j + 1 := ⟨k - 1, by omega⟩
                have HKJ := Lib.hid hkj
                obtain ⟨a7, a8, eA7, ha7, hab7, v0, -⟩ := (HD.out _ (GW.out.trans (G8.out.trans GZ.out))).dcl (k := j) (by rw [HND.out]; omega)
                have hp2 := HOR.out j _ hkj (List.getElem?_eq_getElem (by rw [HND.out]; omega))
                obtain ⟨qi, hqi⟩ : ∃ z, (p.ds[j]'(by rw [HND.out]; omega)).id = z := ⟨_, rfl⟩
                rw [hqi] at hp2 v0
                obtain rfl := Option.some.inj eA7
                have hgt : (0 : Int) < (k : Int) := by omega
                have hjj : ((k : Int) - 1) = ((j : Nat) : Int) := by omega
                have hjl : ((j : Nat) : Int) < (ND : Int) := by omega
                clear hkj hqi
                by_cases hord : qi < di
                · have hle : ¬ di ≤ qi := by omega
                  obtain rfl : od = true := by rw [hp2]; exact decide_eq_true hord
                  clear hp2 hord
                  go_upto_region 15 with (fail)
                  go_quiet (fail)
                  generalize hW8 : World.drewN W7 _ = W8
                  have G78 := Lib.hid (show Gr W7 W8 from by rw [← hW8]; exact gr_drewN _ _)
                  clear hW8 x0 x1 x2 i0 i1 i2
                  obtain ⟨x0, x1, x2⟩ := HX.out _ (G8.out.trans (GZ.out.trans G78.out))
                  obtain ⟨i0, i1, i2⟩ := HI.out _ G78.out
                  have GZ := Lib.hid (GZ.out.trans G78.out)
                  by_cases hkd : dk = 1 ∨ dk = 2 ∨ dk = 3
                  · have FA2 := Lib.hid (show plainB p.bs db = false → fe8 ED = 2 from fun h => FA.out.1 2 (by simp) (by rw [if_neg hid, if_neg (by simp), if_neg (fun h => h hkd), if_pos h]))
                    have FA0 := Lib.hid (show plainB p.bs db = true → fe8 (ED.take (k + 1)) = 0 from fun h => FA.out.2 (by rw [if_neg hid, if_neg (by simp), if_neg (fun h => h hkd), if_neg (by rw [h]; simp)]))
                    clear FA
                    rcases hkd with rfl | rfl | rfl
                    · go_upto_region 19 with (fail)
                      by_cases hb0 : db < 0
                      · have hfin : r = 2 := E7.out.trans (FA2.out (plainB_neg hb0))
                        subst hfin
                        clear E7 FA2
                        go_wp2
                        go_ret
                        exact ⟨rfl, (GW.out.trans G8.out).trans GZ.out⟩
                      · obtain ⟨M, rfl⟩ : ∃ M : Nat, db = M := ⟨db.toNat, by omega⟩
                        by_cases hbN : M < NB
                        · obtain ⟨a5, a6, eA5, ha5, hab5, z0, z1, -⟩ := (HB.out _ ((GW.out.trans G8.out).trans GZ.out)).blk (k := M) (by rw [HNB.out]; exact hbN)
                          obtain rfl := eA5
                          have EPL := Lib.hid (plainB_at (bs := p.bs) (M := M) (by rw [HNB.out]; exact hbN))
                          obtain ⟨cp, hcp⟩ : ∃ z, (p.bs[M]'(by rw [HNB.out]; exact hbN)).cap = z := ⟨_, rfl⟩
                          obtain ⟨pr, hpr⟩ : ∃ z, (p.bs[M]'(by rw [HNB.out]; exact hbN)).param = z := ⟨_, rfl⟩
                          rw [hcp] at z0 EPL
                          rw [hpr] at z1 EPL
                          have hMN : (M : Int) < (NB : Int) := by omega
                          clear hcp hpr hb0
                          by_cases hc0 : cp = 0
                          · subst hc0
                            cases pr with
                            | true =>
                              have hfin : r = 2 := E7.out.trans (FA2.out (by rw [EPL.out]; rfl))
                              subst hfin
                              clear E7 FA2 EPL
                              go_wp2
                              go_ret
                              exact ⟨rfl, (GW.out.trans G8.out).trans GZ.out⟩
                            | false =>
                              have hok := FA0.out (by rw [EPL.out]; rfl)
                              have HOK := Lib.hid hok
                              clear hok E7 FA2 EPL FA0
                              go_wp2
                              exact ⟨⟨k + 1, hlt, by simp, Lib.hid ⟨GZ.out, HOK.out⟩⟩, by simp [intOf]; omega⟩
                          · have hcb : (cp != 0) = true := by simpa using hc0
                            have hfin : r = 2 := E7.out.trans (FA2.out (by rw [EPL.out]; simp [hc0]))
                            subst hfin
                            clear hc0 E7 FA2 EPL
                            go_wp2
                            go_ret
                            exact ⟨rfl, (GW.out.trans G8.out).trans GZ.out⟩
                        · have hfin : r = 2 := E7.out.trans (FA2.out (plainB_big (by rw [HNB.out]; omega)))
                          have hMN : ¬ (M : Int) < (NB : Int) := by omega
                          subst hfin
                          clear E7 FA2
                          go_wp2
                          go_ret
                          exact ⟨rfl, (GW.out.trans G8.out).trans GZ.out⟩
                    · go_upto_region 19 with (fail)
                      by_cases hb0 : db < 0
                      · have hfin : r = 2 := E7.out.trans (FA2.out (plainB_neg hb0))
                        subst hfin
                        clear E7 FA2
                        go_wp2
                        go_ret
                        exact ⟨rfl, (GW.out.trans G8.out).trans GZ.out⟩
                      · obtain ⟨M, rfl⟩ : ∃ M : Nat, db = M := ⟨db.toNat, by omega⟩
                        by_cases hbN : M < NB
                        · obtain ⟨a5, a6, eA5, ha5, hab5, z0, z1, -⟩ := (HB.out _ ((GW.out.trans G8.out).trans GZ.out)).blk (k := M) (by rw [HNB.out]; exact hbN)
                          obtain rfl := eA5
                          have EPL := Lib.hid (plainB_at (bs := p.bs) (M := M) (by rw [HNB.out]; exact hbN))
                          obtain ⟨cp, hcp⟩ : ∃ z, (p.bs[M]'(by rw [HNB.out]; exact hbN)).cap = z := ⟨_, rfl⟩
                          obtain ⟨pr, hpr⟩ : ∃ z, (p.bs[M]'(by rw [HNB.out]; exact hbN)).param = z := ⟨_, rfl⟩
                          rw [hcp] at z0 EPL
                          rw [hpr] at z1 EPL
                          have hMN : (M : Int) < (NB : Int) := by omega
                          clear hcp hpr hb0
                          by_cases hc0 : cp = 0
                          · subst hc0
                            cases pr with
                            | true =>
                              have hfin : r = 2 := E7.out.trans (FA2.out (by rw [EPL.out]; rfl))
                              subst hfin
                              clear E7 FA2 EPL
                              go_wp2
                              go_ret
                              exact ⟨rfl, (GW.out.trans G8.out).trans GZ.out⟩
                            | false =>
                              have hok := FA0.out (by rw [EPL.out]; rfl)
                              have HOK := Lib.hid hok
                              clear hok E7 FA2 EPL FA0
                              go_wp2
                              exact ⟨⟨k + 1, hlt, by simp, Lib.hid ⟨GZ.out, HOK.out⟩⟩, by simp [intOf]; omega⟩
                          · have hcb : (cp != 0) = true := by simpa using hc0
                            have hfin : r = 2 := E7.out.trans (FA2.out (by rw [EPL.out]; simp [hc0]))
                            subst hfin
                            clear hc0 E7 FA2 EPL
                            go_wp2
                            go_ret
                            exact ⟨rfl, (GW.out.trans G8.out).trans GZ.out⟩
                        · have hfin : r = 2 := E7.out.trans (FA2.out (plainB_big (by rw [HNB.out]; omega)))
                          have hMN : ¬ (M : Int) < (NB : Int) := by omega
                          subst hfin
                          clear E7 FA2
                          go_wp2
                          go_ret
                          exact ⟨rfl, (GW.out.trans G8.out).trans GZ.out⟩
                    · go_upto_region 19 with (fail)
                      by_cases hb0 : db < 0
                      · have hfin : r = 2 := E7.out.trans (FA2.out (plainB_neg hb0))
                        subst hfin
                        clear E7 FA2
                        go_wp2
                        go_ret
                        exact ⟨rfl, (GW.out.trans G8.out).trans GZ.out⟩
                      · obtain ⟨M, rfl⟩ : ∃ M : Nat, db = M := ⟨db.toNat, by omega⟩
                        by_cases hbN : M < NB
                        · obtain ⟨a5, a6, eA5, ha5, hab5, z0, z1, -⟩ := (HB.out _ ((GW.out.trans G8.out).trans GZ.out)).blk (k := M) (by rw [HNB.out]; exact hbN)
                          obtain rfl := eA5
                          have EPL := Lib.hid (plainB_at (bs := p.bs) (M := M) (by rw [HNB.out]; exact hbN))
                          obtain ⟨cp, hcp⟩ : ∃ z, (p.bs[M]'(by rw [HNB.out]; exact hbN)).cap = z := ⟨_, rfl⟩
                          obtain ⟨pr, hpr⟩ : ∃ z, (p.bs[M]'(by rw [HNB.out]; exact hbN)).param = z := ⟨_, rfl⟩
                          rw [hcp] at z0 EPL
                          rw [hpr] at z1 EPL
                          have hMN : (M : Int) < (NB : Int) := by omega
                          clear hcp hpr hb0
                          by_cases hc0 : cp = 0
                          · subst hc0
                            cases pr with
                            | true =>
                              have hfin : r = 2 := E7.out.trans (FA2.out (by rw [EPL.out]; rfl))
                              subst hfin
                              clear E7 FA2 EPL
                              go_wp2
                              go_ret
                              exact ⟨rfl, (GW.out.trans G8.out).trans GZ.out⟩
                            | false =>
                              have hok := FA0.out (by rw [EPL.out]; rfl)
                              have HOK := Lib.hid hok
                              clear hok E7 FA2 EPL FA0
                              go_wp2
                              exact ⟨⟨k + 1, hlt, by simp, Lib.hid ⟨GZ.out, HOK.out⟩⟩, by simp [intOf]; omega⟩
                          · have hcb : (cp != 0) = true := by simpa using hc0
                            have hfin : r = 2 := E7.out.trans (FA2.out (by rw [EPL.out]; simp [hc0]))
                            subst hfin
                            clear hc0 E7 FA2 EPL
                            go_wp2
                            go_ret
                            exact ⟨rfl, (GW.out.trans G8.out).trans GZ.out⟩
                        · have hfin : r = 2 := E7.out.trans (FA2.out (plainB_big (by rw [HNB.out]; omega)))
                          have hMN : ¬ (M : Int) < (NB : Int) := by omega
                          subst hfin
                          clear E7 FA2
                          go_wp2
                          go_ret
                          exact ⟨rfl, (GW.out.trans G8.out).trans GZ.out⟩
                  · have hfin : r = 9 := E7.out.trans (FA.out.1 9 (by simp) (by rw [if_neg hid, if_neg (by simp), if_pos hkd]))
                    have k1 : (dk != 1) = true := by simp; intro e; exact hkd (.inl e)
                    have k2 : (dk != 2) = true := by simp; intro e; exact hkd (.inr (.inl e))
                    have k3 : (dk != 3) = true := by simp; intro e; exact hkd (.inr (.inr e))
                    subst hfin
                    clear E7 FA hkd hid
                    go_wp2
                    go_ret
                    exact ⟨rfl, (GW.out.trans G8.out).trans GZ.out⟩
                · obtain rfl : od = false := by rw [hp2]; exact decide_eq_false hord
                  clear hp2
                  have hfin : r = 10 := E7.out.trans (FA.out.1 10 (by simp) (by rw [if_neg hid, if_pos rfl]))
                  have hle : di ≤ qi := by omega
                  subst hfin
                  clear E7 FA hid
                  go_upto_region 15 with (fail)
                  go_quiet (fail)
                  go_wp2
                  go_ret
                  exact ⟨rfl, ((GW.out.trans G8.out).trans GZ.out).trans (gr_drewN _ _)⟩
          · obtain rfl : ND = k := by omega
            have h0 := FE.out
            rw [List.take_of_length_le (by rw [EDL.out]; exact Nat.le_refl _), ← E7.out] at h0
            subst h0
            go_wp2
            go_ret
            exact ⟨rfl, GW.out.trans (G8.out.trans GK.out)⟩
end Go.Proofs.YtgboboljgcfggaaGreatDoor
namespace Go.Proofs.YtgboboljgcfggaaGreatDoor
open Go.RowKit

end Go.Proofs.YtgboboljgcfggaaGreatDoor
namespace Go.Proofs.YtgboboljgcfggaaGreatDoor
open Go.RowKit Go.Maps

/-- The labels that were met, as a map. -/
def metL (L : List Cod) : MK T := L.map fun c => (c.label, .bool true)
theorem metL_snoc (L : List Cod) (c : Cod) : metL (L ++ [c]) = metL L ++ [(c.label, .bool true)] := by simp [metL]
theorem metL_get (L : List Cod) (t : T) : (kget (metL L) t).getD (.bool false) = .bool (decide (t ∈ L.map Cod.label)) := by
  unfold kget
  induction L with
  | nil => simp [metL, fndK]
  | cons c L ih =>
    unfold metL at ih ⊢
    rw [List.map_cons, fndK]
    by_cases h : t = c.label
    · simp [h]
    · rw [if_neg h]
      simp only [List.map_cons, List.mem_cons, h, false_or]
      rw [← ih]
      have sh : ∀ (l : MK T) (i j : Nat), (fndK t l i).map (·.2) = (fndK t l j).map (·.2) := by
        intro l
        induction l with
        | nil => intro i j; rfl
        | cons p l ihl => intro i j; simp only [fndK]; split; rfl; exact ihl _ _
      rw [sh _ _ 0]
theorem metL_no {L : List Cod} {t : T} (h : t ∉ L.map Cod.label) : fndK t (metL L) 0 = none := by
  refine fndK_mem.2 fun p hp e => h ?_
  unfold metL at hp
  obtain ⟨c, hc, rfl⟩ := List.mem_map.1 hp
  rw [← e]
  exact List.mem_map.2 ⟨c, hc, rfl⟩
theorem errK_at {L : List Cod} {k : Nat} {c : Cod} (h : L[k]? = some c) : ((List.range L.length).map (errK L))[k]? = some (if errC c ≠ 0 then errC c else if c.label ∈ (L.take k).map Cod.label then 7 else 0) := by
  rw [List.getElem?_map, List.getElem?_range (List.getElem?_eq_some_iff.1 h).1]
  simp only [Option.map_some, errK, h]
/-- What is kept while codes are checked. -/
structure MK1 (w : World) (mb : Nat) (L : List Cod) (k : Nat) (V : World) : Prop where
  gr : Gr w V
  ge : w.heap.size ≤ mb
  m : MP (fun t : T => tv t) V mb (metL (L.take k))
  lk : LK (fun t : T => t.length ≤ maxLen) (metL (L.take k))
theorem MK1.grow {w : World} {mb : Nat} {L : List Cod} {k : Nat} {V U : World} (h : MK1 w mb L k V) (g : Gr V U) : MK1 w mb L k U := ⟨h.gr.trans g, h.ge, h.m.keep (g.block _ h.m.lt (by simp)), h.lk⟩
theorem MK1.put {w : World} {mb : Nat} {L : List Cod} {k : Nat} {V : World} (h : MK1 w mb L k V) {c : Cod} (hc : L[k]? = some c) (hl : c.label.length ≤ maxLen) (hn : c.label ∉ (L.take k).map Cod.label) : MK1 w mb L (k + 1) (setM (fun t : T => tv t) V mb (metL (L.take k) ++ [(c.label, .bool true)])) := by
  have e : metL (L.take (k + 1)) = metL (L.take k) ++ [(c.label, .bool true)] := by rw [List.take_add_one, hc, Option.toList_some, metL_snoc]
  refine ⟨⟨h.gr.os, h.gr.tape, h.gr.output, by rw [setM_size]; exact h.gr.size, fun j hj hn => (setM_other (by have := h.ge; omega)).trans (h.gr.block j hj hn)⟩, h.ge, by rw [e]; exact h.m.set, by rw [e]; exact h.lk.snoc hl (metL_no hn) _⟩
attribute [local irreducible] Calls in
set_option maxRecDepth 100000 in
set_option maxHeartbeats 2000000 in
theorem checkCodes_any (Ad : Option Addr) (cp : Nat) (L : List Cod) (w : World) (hL : CRd w Ad L) (hl : L.length ≤ 9223372036854775807) (hi : ∀ x ∈ L, x.Lim) : Calls Tryz.prog 40 #[.slice Ad L.length cp] w fun e w' => e = .returned (.int .i64 (errL L)) ∧ Gr w w' := by
  have HC := Lib.hid (fun V (g : Gr w V) => (hL.gr g).rd)
  have CK := Lib.hid (fun V (g : Gr w V) (x : Cod) (hx : x ∈ L) => show Calls Tryz.prog 69 #[.agg #[.string ⟨x.label.toArray⟩, .slice x.bA x.bs.length x.bc, .slice x.dA x.ds.length x.dc]] V (fun e w' => e = .returned (.int .i64 (errC x)) ∧ Gr V w') from check8_any x V ((hL.gr g).c x hx) (hi x hx))
  have HLM := Lib.hid hi
  have EK := Lib.hid (fun k x (h : L[k]? = some x) => errK_at h)
  have EL := Lib.hid (show ((List.range L.length).map (errK L)).length = L.length from by rw [List.length_map, List.length_range])
  obtain ⟨r, hr⟩ : ∃ r, errL L = r := ⟨_, rfl⟩
  have ER := Lib.hid (show r = fe8 ((List.range L.length).map (errK L)) from by rw [← hr]; rfl)
  obtain ⟨E, hE⟩ : ∃ E, (List.range L.length).map (errK L) = E := ⟨_, rfl⟩
  simp only [hE] at EK EL ER
  rw [hr]
  obtain ⟨n, hn⟩ : ∃ n, L.length = n := ⟨_, rfl⟩
  have HN := Lib.hid hn
  rw [hn] at hl EL ⊢
  have M0 := Lib.hid (show MK1 w w.heap.size L 0 (w.alloc (.map #[] 0)) from ⟨gr_al _ _, Nat.le_refl _, MP.made _ w, LK.nil⟩)
  clear hL hi hE hr hn
  obtain ⟨mb, hmb⟩ : ∃ m, w.heap.size = m := ⟨_, rfl⟩
  have hmm := @run_makeMap Tryz.prog
  go_enter Tryz.func40, Tryz.ntmps40
  go_wp2
  clear hmm
  rw [hmb] at M0
  clear hmb
  go_loopw [10] (fun i V => ∃ k : Nat, k ≤ n ∧ i = .int .i64 k ∧ Hid (MK1 w mb L k V ∧ fe8 (E.take k) = 0)) (fun i _ => n - (intOf i).toNat)
  case atStart => exact ⟨0, Nat.zero_le _, rfl, Lib.hid ⟨M0.out, rfl⟩⟩
  case round =>
    clear M0
    obtain ⟨k, hk, rfl, HK⟩ := hrel
    obtain ⟨gm, hfe⟩ := HK.out
    have GM := Lib.hid gm
    have FE := Lib.hid hfe
    clear gm hfe HK
    by_cases hlt : k < n
    · obtain ⟨a, a1, eA, ha, hab, y0, y1, y2⟩ := (HC.out _ GM.out.gr).cod (k := k) (by rw [HN.out]; exact hlt)
      obtain rfl := eA
      obtain ⟨x, hx⟩ : ∃ x, L[k]'(by rw [HN.out]; exact hlt) = x := ⟨_, rfl⟩
      have HXI := Lib.hid (show L[k]? = some x from by rw [List.getElem?_eq_getElem (by rw [HN.out]; exact hlt), hx])
      rw [hx] at y0 y1 y2
      have CX := Lib.hid (fun V (g : Gr wr V) => CK.out V (GM.out.gr.trans g) x (List.mem_of_getElem? HXI.out))
      have FA := Lib.hid (fe8_fail (EK.out k x HXI.out) FE.out)
      have HLX := Lib.hid (show x.label.length ≤ maxLen from by have := (HLM.out x (List.mem_of_getElem? HXI.out)).l; unfold maxLen; omega)
      have HGM := Lib.hid (metL_get (L.take k) x.label)
      obtain ⟨z, hz⟩ : ∃ z, errC x = z := ⟨_, rfl⟩
      simp only [hz] at CX FA
      obtain ⟨bm, hbm⟩ : ∃ b, decide (x.label ∈ (L.take k).map Cod.label) = b := ⟨_, rfl⟩
      rw [hbm] at HGM
      have HBM := Lib.hid hbm
      clear hx hz hbm
      go_upto_region 5 with (fail)
      have HI := Lib.hid (fun V (g : Gr (wr.alloc (.cells #[.string ⟨x.label.toArray⟩, .slice x.bA x.bs.length x.bc, .slice x.dA x.ds.length x.dc] 65)) V) => cells3 (gr_h g (al_new wr (.cells #[.string ⟨x.label.toArray⟩, .slice x.bA x.bs.length x.bc, .slice x.dA x.ds.length x.dc] 65))))
      have G7 := Lib.hid (gr_al wr (.cells #[.string ⟨x.label.toArray⟩, .slice x.bA x.bs.length x.bc, .slice x.dA x.ds.length x.dc] 65))
      obtain ⟨q, hq⟩ : ∃ q, wr.heap.size = q := ⟨_, rfl⟩
      rw [hq] at HI ⊢
      clear hq
      generalize World.alloc wr _ = W7 at *
      clear y0 y1 y2 ha hab
      obtain ⟨i0, i1, i2⟩ := HI.out _ (gr_refl _)
      by_cases hz0 : z = 0
      · subst hz0
        go_upto_region 8 with (first | (go_at_call 69; (with_reducible refine (CX.out _ G7.out).mono ?_); rintro e w6 ⟨rfl, g6⟩; have G6 := Lib.hid g6; clear g6))
        have GM6 := Lib.hid (GM.out.grow (G7.out.trans G6.out))
        clear i0 i1 i2
        obtain ⟨i0, i1, i2⟩ := HI.out _ G6.out
        have lk := (lookup_k ktT GM6.out.m GM6.out.lk Tryz.underlying146 (z := .bool false) (by kernel_rfl) HLX.out).1
        rw [HGM.out] at lk
        cases bm with
        | true =>
          have hfin : r = 7 := ER.out.trans (by have h := FA.out.1; rw [if_neg (by simp), if_pos (of_decide_eq_true HBM.out)] at h; exact h (by decide))
          subst hfin
          clear FA ER
          go_wp2
          go_ret
          exact ⟨rfl, GM6.out.gr⟩
        | false =>
          have hno := of_decide_eq_false HBM.out
          have hok : fe8 (E.take (k + 1)) = 0 := by have h := FA.out.2; rw [if_neg (by simp), if_neg hno] at h; exact h rfl
          have HOK := Lib.hid hok
          have HP := Lib.hid (GM6.out.put HXI.out HLX.out hno)
          have up := update_k ktT GM6.out.m GM6.out.lk Tryz.underlying146 HLX.out (metL_no hno) (.bool true)
          clear hno hok FA
          go_wp2
          exact ⟨⟨k + 1, hlt, by simp, Lib.hid ⟨HP.out, HOK.out⟩⟩, by simp [intOf]; omega⟩
      · have hb0 : (z != 0) = true := by simpa using hz0
        have hfin : r = z := ER.out.trans (by have h := FA.out.1; rw [if_pos hz0] at h; exact h hz0)
        subst hfin
        clear hz0 FA ER
        go_wp2_with (first | (go_at_call 69; (with_reducible refine (CX.out _ G7.out).mono ?_); rintro e w6 ⟨rfl, g6⟩; have G6 := Lib.hid g6; clear g6))
        go_ret
        exact ⟨rfl, GM.out.gr.trans (G7.out.trans G6.out)⟩
    · obtain rfl : n = k := by omega
      have h0 := FE.out
      rw [List.take_of_length_le (by rw [EL.out]; exact Nat.le_refl _), ← ER.out] at h0
      subst h0
      go_wp2
      go_ret
      exact ⟨rfl, GM.out.gr⟩
end Go.Proofs.YtgboboljgcfggaaGreatDoor

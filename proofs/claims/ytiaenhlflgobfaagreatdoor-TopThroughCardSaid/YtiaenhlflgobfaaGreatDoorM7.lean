/- Walks and words: FrF, FrG. -/
import Derived.Test.YtiaenhlflgobfaaGreatDoorFre
import Derived.Deep.RegionLaw
import Derived.Deep.RegionHeldLaw
namespace Go.Proofs.YtiaenhlflgobfaaGreatDoor
open Go.RowKit
theorem ckN_len {e : PE} {a b c : Int} (h : shp e.kind = some (a, b, c)) (h0 : ckN e = 0) : (e.sub.length : Int) = c := by
  rw [ckN_of h] at h0
  split at h0
  · cases h0
  · rename_i h1
    exact Classical.byContradiction fun k => h1 (.inr (.inr (.inr (.inr k))))
theorem or_lower {α : Type} {e : TypeId} {n : Nat} {cs : α → List Value} {w : World} {b b' : Nat} {v : Value} {L : List α} (h : OR e n cs w b v L) (hb : b' ≤ b) : OR e n cs w b' v L := by
  refine ⟨h.1, ?_⟩
  rcases h.2 with h1 | ⟨g, cap, cur, e1, hg, rest⟩
  · exact .inl h1
  · exact .inr ⟨g, cap, cur, e1, Nat.le_trans hb hg, rest⟩
set_option maxRecDepth 100000 in
set_option maxHeartbeats 4000000 in
attribute [local irreducible] Calls in
theorem free_fun (nm mo : T) (i4 i5 : Int) (a : Addr) (xc : Nat) (y : Ex) (ih : AFP y) : AFP (.mk 6 nm mo i4 i5 (some a) xc [y]) := by
  intro w0 w bA bc B mb K hx g0 hmb hv hB hb hne hm hl
  obtain ⟨W, hW⟩ : ∃ W, w.alloc (.cells #[iv 6, tv nm, tv mo, iv i4, iv i5, .slice (some a) 1 xc] 43) = W := ⟨_, rfl⟩
  have GX : Gr w W := by rw [← hW]; exact gr_al _ _
  have CB := Lib.hid (fun V (g : Gr W V) => show V.cell? ⟨w.heap.size, 0, none⟩ = some (iv 6) ∧ V.cell? ⟨w.heap.size, 1, none⟩ = some (tv nm) ∧ V.cell? ⟨w.heap.size, 2, none⟩ = some (tv mo) ∧ V.cell? ⟨w.heap.size, 5, none⟩ = some (.slice (some a) 1 xc) ∧ w.heap.size < V.heap.size from by
    have h := gr_h g (by rw [← hW]; exact al_new w (.cells #[iv 6, tv nm, tv mo, iv i4, iv i5, .slice (some a) 1 xc] 43))
    exact ⟨by rw [Lib.cell_of_heap h]; rfl, by rw [Lib.cell_of_heap h]; rfl, by rw [Lib.cell_of_heap h]; rfl, by rw [Lib.cell_of_heap h]; rfl, heap_lt h⟩)
  have GZ := fun V (g : Gr W V) => show Gr w0 V from (g0.trans GX).trans g
  have hy : y ∈ (Ex.mk 6 nm mo i4 i5 (some a) xc [y]).sub := by simp [Ex.sub]
  have YA := Lib.hid (fun V (g : Gr W V) => show V.cell? a = some (iv y.kind) ∧ V.cell? ⟨a.block, a.off + 1, none⟩ = some (tv y.name) ∧ V.cell? ⟨a.block, a.off + 2, none⟩ = some (tv y.more) ∧ V.cell? ⟨a.block, a.off + 3, none⟩ = some (iv y.int) ∧ V.cell? ⟨a.block, a.off + 4, none⟩ = some (iv y.den) ∧ V.cell? ⟨a.block, a.off + 5, none⟩ = some (.slice y.A y.sub.length y.c) ∧ a.block < V.heap.size from by
    obtain ⟨b, b1, eb, e1, q0, q1, q2, q3, q4, q5, q6, -⟩ := XRd.at (hx.gr (GZ V g)).s (k := 0) (by simp [Ex.sub])
    have eb : some a = some b := eb
    cases eb
    rw [Nat.zero_mul, add_zero'] at e1
    subst e1
    exact ⟨q1, q2, q3, q4, q5, q6, q0⟩)
  have FR : (Ex.mk 6 nm mo i4 i5 (some a) xc [y]).er.fr B K = y.er.fr (B ++ [nm]) K := by
    rw [fr_eq, er_kind, er_name, er_more, er_sub]
    simp only [Ex.kind, Ex.name, Ex.more, Ex.sub, ers_cons, ers_nil]
    rw [if_neg (by decide), frs_cons, frs_nil]
    simp [bnd]
  have CY := Lib.hid (fun V (g : Gr W V) (v : Value) (base : Nat) (hbase : w.heap.size ≤ base) (h1 : OR 9 1 scs V base v (B ++ [nm])) => show ∃ vA vc, v = .slice vA (B.length + 1) vc ∧ Calls Tryz.prog 183 #[y.v, .slice vA (B.length + 1) vc, .map (some mb)] V (AFE y.er (B ++ [nm]) K mb V) from by
    obtain ⟨vA, vc, ev, hr, h2, h3, h4, h5⟩ := h1.form2 scs_len
    have hlen : (B ++ [nm]).length = B.length + 1 := by simp
    rw [hlen] at ev h2
    refine ⟨vA, vc, ev, ?_⟩
    have h := ih w0 V vA vc (B ++ [nm]) mb K (XRd.hs hx.s y hy) (GZ V g) hmb (fun q hq => hv q ((nd_sub hy).1 q hq)) (by have := (nd_sub hy).2; simp; omega) ⟨⟨by rw [hlen]; exact h2, h3, h4, hr⟩, fun s hs => by
      rcases List.mem_append.1 hs with hs | hs
      · exact hb.ok s hs
      · rw [List.mem_singleton.1 hs]; exact hx.n⟩ (fun q hq => by have := (h5 q hq).1; have := hm.lt; omega) (gr_h (GX.trans g) hm) hl
    rw [hlen] at h
    exact h)
  have CL := Lib.hid (fun V (g : Gr W V) => cloneS_any bA bc B V (hb.r.gr (GX.trans g)) (by omega))
  have BL := Lib.hid (show B.length ≤ 1000 by omega)
  have WS := Lib.hid (show w.heap.size + 1 = W.heap.size by rw [← hW]; simp)
  have GXH := Lib.hid GX
  unfold AFE
  rw [FR]
  unfold AFE at CY
  unfold Ex.v at CY
  show Calls Tryz.prog 183 #[.agg #[iv 6, tv nm, tv mo, iv i4, iv i5, .slice (some a) 1 xc], .slice bA B.length bc, .map (some mb)] w _
  clear FR hv hB hb hne hm hl ih hx g0 hmb hy GZ GX
  obtain ⟨n, hn⟩ : ∃ n, B.length = n := ⟨_, rfl⟩
  have HN := Lib.hid hn
  rw [hn] at CY CL BL ⊢
  clear hn
  obtain ⟨c0, c1, c2, c5, cb⟩ := CB.out _ (gr_refl _)
  obtain ⟨d0, d1, d2, d3, d4, d5, hab⟩ := YA.out _ (gr_refl _)
  go_enter Tryz.func183, Tryz.ntmps183
  go_upto_region 1 with fail
  clear hW
  go_upto_region 6 with fail
  clear c0 c1 c2 c5 cb d0 d1 d2 d3 d4 d5 hab
  obtain ⟨x0, x1, x2, x5, xb⟩ := CB.out _ (gr_refl _)
  obtain ⟨y0, y1, y2, y3, y4, y5, yb⟩ := YA.out _ (gr_refl _)
  obtain ⟨x10, x11, x12, x15, x1b⟩ := CB.out _ (gr_al W (.cells #[tv nm] 9))
  obtain ⟨y10, y11, y12, y13, y14, y15, y1b⟩ := YA.out _ (gr_al W (.cells #[tv nm] 9))
  go_region_law (first
    | (refine step_app elS rfl (.tmp 27) (.tmp 30) rfl W.heap.size (v := v1) (L := B) rfl (by first | exact O1.out | exact O1.out.alloc _) (A := some ⟨_, 0, none⟩) (M := [nm]) (m := 1) (c := 1) rfl rfl (rd_cells (t := 9) elS.hn (by first | exact al_new _ _ | exact gr_h GC.out (al_new _ _))) (by have := BL.out; have := HN.out; simp; omega) (by have := G1.out.size; first | omega | (simp; omega)) ?_
       intro v7 w7 o7 g7 b7
       have G7 := Lib.hid (show Gr W w7 from OR.grow (by first | exact G1.out | exact G1.out.trans (gr_al _ _)) (by first | exact O1.out | exact O1.out.alloc _) (Nat.le_refl _) g7)
       obtain ⟨vA, vc, rfl, CC⟩ := CY.out w7 G7.out v7 W.heap.size (by have := WS.out; omega) o7
       have CC := Lib.hid CC
       obtain ⟨x70, x71, x72, x75, x7b⟩ := CB.out _ G7.out
       obtain ⟨y70, y71, y72, y73, y74, y75, y7b⟩ := YA.out _ G7.out
       clear o7 g7 b7)
    | (go_simp; go_at_call 26; refine (CL.out _ (by first | exact gr_drew _ | exact (gr_al _ _).trans (gr_drew _))).mono ?_; rintro e w1 ⟨v1, rfl, o1, g1⟩
       have O1 := Lib.hid (or_lower o1 (b' := W.heap.size) (by simp))
       have G1 := Lib.hid (show Gr W w1 from by first | exact (gr_drew _).trans g1 | exact ((gr_al _ _).trans (gr_drew _)).trans g1)
       have GC := Lib.hid g1
       obtain ⟨x30, x31, x32, x35, x3b⟩ := CB.out _ G1.out
       obtain ⟨y30, y31, y32, y33, y34, y35, y3b⟩ := YA.out _ G1.out
       obtain ⟨x40, x41, x42, x45, x4b⟩ := CB.out _ (G1.out.trans (gr_al w1 (.cells #[tv nm] 9)))
       obtain ⟨y40, y41, y42, y43, y44, y45, y4b⟩ := YA.out _ (G1.out.trans (gr_al w1 (.cells #[tv nm] 9)))
       clear o1 g1)
    | (go_simp; go_at_call 183; refine CC.out.mono ?_; rintro e w8 ⟨⟨r8, rfl⟩, g8, m8, l8⟩; have M8 := Lib.hid (And.intro g8 (And.intro m8 l8)); clear g8 m8 l8))
  all_goals go_wp2
  all_goals (first | go_end0 | refine bodyPost_ret (results_none rfl _ _ _) rfl ?_)
  all_goals exact ⟨⟨_, rfl⟩, (World.grownBy.but (GXH.out.trans G7.out) _).trans M8.out.1, M8.out.2.1, M8.out.2.2⟩
end Go.Proofs.YtiaenhlflgobfaaGreatDoor
namespace Go.Proofs.YtiaenhlflgobfaaGreatDoor
open Go.RowKit
set_option maxRecDepth 100000 in
set_option maxHeartbeats 4000000 in
attribute [local irreducible] Calls in
theorem free_let (nm mo : T) (i4 i5 : Int) (a : Addr) (xc : Nat) (y0 z : Ex) (ih0 : AFP y0) (ih : AFP z) : AFP (.mk 8 nm mo i4 i5 (some a) xc [y0, z]) := by
  intro w0 w bA bc B mb K hx g0 hmb hv hB hb hne hm hl
  obtain ⟨XI, hXI⟩ : ∃ x, Ex.mk 8 nm mo i4 i5 (some a) xc [y0, z] = x := ⟨_, rfl⟩
  have SU : XI.sub = [y0, z] := by rw [← hXI]; rfl
  have SA : XI.A = some a := by rw [← hXI]; rfl
  have SN : XI.name = nm ∧ XI.more = mo := by rw [← hXI]; exact ⟨rfl, rfl⟩
  obtain ⟨W, hW⟩ : ∃ W, w.alloc (.cells #[iv 8, tv nm, tv mo, iv i4, iv i5, .slice (some a) 2 xc] 43) = W := ⟨_, rfl⟩
  have GX : Gr w W := by rw [← hW]; exact gr_al _ _
  have BX : w.heap.size < W.heap.size := by rw [← hW]; simp
  have LM := hm.lt
  have CB := Lib.hid (fun V (g : W.grownBy V (some mb)) => show V.cell? ⟨w.heap.size, 0, none⟩ = some (iv 8) ∧ V.cell? ⟨w.heap.size, 1, none⟩ = some (tv nm) ∧ V.cell? ⟨w.heap.size, 2, none⟩ = some (tv mo) ∧ V.cell? ⟨w.heap.size, 5, none⟩ = some (.slice (some a) 2 xc) ∧ w.heap.size < V.heap.size from by
    have h0 : W.heap[w.heap.size]? = some (.cells #[iv 8, tv nm, tv mo, iv i4, iv i5, .slice (some a) 2 xc] 43) := by rw [← hW]; exact al_new w _
    have h : V.heap[w.heap.size]? = some (.cells #[iv 8, tv nm, tv mo, iv i4, iv i5, .slice (some a) 2 xc] 43) := (g.block _ BX (by intro h; have := Option.some.inj h; omega)).trans h0
    exact ⟨by rw [Lib.cell_of_heap h]; rfl, by rw [Lib.cell_of_heap h]; rfl, by rw [Lib.cell_of_heap h]; rfl, by rw [Lib.cell_of_heap h]; rfl, heap_lt h⟩)
  have GZ := fun V (g : W.grownBy V (some mb)) => show Gr w0 V from grown_new (g0.trans GX) g (fun k h => by cases h; exact hmb)
  have Yy0 := Lib.hid (fun V (g : W.grownBy V (some mb)) => show V.cell? a = some (iv y0.kind) ∧ V.cell? ⟨a.block, a.off + 1, none⟩ = some (tv y0.name) ∧ V.cell? ⟨a.block, a.off + 2, none⟩ = some (tv y0.more) ∧ V.cell? ⟨a.block, a.off + 3, none⟩ = some (iv y0.int) ∧ V.cell? ⟨a.block, a.off + 4, none⟩ = some (iv y0.den) ∧ V.cell? ⟨a.block, a.off + 5, none⟩ = some (.slice y0.A y0.sub.length y0.c) ∧ a.block < V.heap.size from by
    have hs := (hx.gr (GZ V g)).s
    rw [hXI, SU] at hs
    rw [SA] at hs
    obtain ⟨b, b1, eb, e1, q0, q1, q2, q3, q4, q5, q6, -⟩ := XRd.at hs (k := 0) (by simp)
    cases eb
    rw [Nat.zero_mul, add_zero'] at e1
    subst e1
    exact ⟨q1, q2, q3, q4, q5, q6, q0⟩)
  have Yz := Lib.hid (fun V (g : W.grownBy V (some mb)) => show V.cell? ⟨a.block, a.off + 6, none⟩ = some (iv z.kind) ∧ V.cell? ⟨a.block, a.off + 7, none⟩ = some (tv z.name) ∧ V.cell? ⟨a.block, a.off + 8, none⟩ = some (tv z.more) ∧ V.cell? ⟨a.block, a.off + 9, none⟩ = some (iv z.int) ∧ V.cell? ⟨a.block, a.off + 10, none⟩ = some (iv z.den) ∧ V.cell? ⟨a.block, a.off + 11, none⟩ = some (.slice z.A z.sub.length z.c) ∧ a.block < V.heap.size from by
    have hs := (hx.gr (GZ V g)).s
    rw [hXI, SU] at hs
    rw [SA] at hs
    obtain ⟨b, b1, eb, e1, q0, q1, q2, q3, q4, q5, q6, -⟩ := XRd.at hs (k := 1) (by simp)
    cases eb
    rw [show a.add (1 * 6) = ⟨a.block, a.off + 6, none⟩ from fld_add _ _ (by omega)] at e1
    subst e1
    exact ⟨q1, q2, q3, q4, q5, q6, q0⟩)
  have FR : XI.er.fr B K = z.er.fr (B ++ [nm]) (y0.er.fr B K) := by
    rw [← hXI, fr_eq, er_kind, er_name, er_more, er_sub]
    simp only [Ex.kind, Ex.name, Ex.more, Ex.sub, ers_cons, ers_nil]
    rw [if_neg (by decide)]
    repeat rw [frs_cons]
    rw [frs_nil]
    simp [bnd]
  rw [hXI] at hx hv hB ⊢
  have hxs := hx.s
  rw [SU] at hxs
  have Cy0 := Lib.hid (fun V (g : W.grownBy V (some mb)) K' (h1 : MP tv V mb (fmap K')) (h2 : LK sOk (fmap K')) => ih0 w0 V bA bc B mb K' (XRd.hs hxs y0 (by simp)) (GZ V g) hmb (fun q hq => hv q ((nd_sub (x := XI) (y := y0) (by rw [SU]; simp)).1 q hq)) (by have := (nd_sub (x := XI) (y := y0) (by rw [SU]; simp)).2; omega) ((hb.gr GX).but g (fun a e => by have := hne a e; simpa using this)) hne h1 h2)
  have CY := Lib.hid (fun V (g : W.grownBy V (some mb)) (K' : List T) (h1 : MP tv V mb (fmap K')) (h2 : LK sOk (fmap K')) (v : Value) (base : Nat) (hbase : w.heap.size ≤ base) (h3 : OR 9 1 scs V base v (B ++ [nm])) => show ∃ vA vc, v = .slice vA (B.length + 1) vc ∧ Calls Tryz.prog 183 #[z.v, .slice vA (B.length + 1) vc, .map (some mb)] V (AFE z.er (B ++ [nm]) K' mb V) from by
    obtain ⟨vA, vc, ev, hr, h2', h3', h4, h5⟩ := h3.form2 scs_len
    have hlen : (B ++ [nm]).length = B.length + 1 := by simp
    rw [hlen] at ev h2'
    refine ⟨vA, vc, ev, ?_⟩
    have hsn := SN
    have hxn : sOk nm ∧ sOk mo := by rw [← SN.1, ← SN.2]; exact ⟨hx.n, hx.m⟩
    have h := ih w0 V vA vc (B ++ [nm]) mb K' (XRd.hs hxs z (by simp)) (GZ V g) hmb (fun q hq => hv q ((nd_sub (x := XI) (y := z) (by rw [SU]; simp)).1 q hq)) (by have := (nd_sub (x := XI) (y := z) (by rw [SU]; simp)).2; simp; omega) ⟨⟨by rw [hlen]; exact h2', h3', h4, hr⟩, fun s hs => by
      rcases List.mem_append.1 hs with hs | hs
      · exact hb.ok s hs
      · simp only [List.mem_cons, List.not_mem_nil, or_false] at hs
        first | (rcases hs with rfl | rfl; exact hxn.1; exact hxn.2) | (rw [hs]; exact hxn.1)⟩ (fun q hq => by have := (h5 q hq).1; omega) h1 h2
    rw [hlen] at h
    exact h)
  have CL := Lib.hid (fun V (g : W.grownBy V (some mb)) => cloneS_any bA bc B V (((hb.gr GX).but g (fun a e => by have := hne a e; simpa using this)).r) (by omega))
  have BL := Lib.hid (show B.length ≤ 1000 by omega)
  have WS := Lib.hid (show w.heap.size + 1 = W.heap.size by rw [← hW]; simp)
  have GXH := Lib.hid GX
  have M0 := Lib.hid (And.intro (gr_h GX hm) hl)
  have LT := Lib.hid LM
  unfold AFE
  rw [FR]
  unfold AFE at CY Cy0
  unfold Ex.v at CY Cy0
  rw [← hXI]
  show Calls Tryz.prog 183 #[.agg #[iv 8, tv nm, tv mo, iv i4, iv i5, .slice (some a) 2 xc], .slice bA B.length bc, .map (some mb)] w _
  clear hXI SU SA SN FR hv hB hb hne hm hl ih ih0 hx hxs g0 hmb GZ GX BX LM
  obtain ⟨n, hn⟩ : ∃ n, B.length = n := ⟨_, rfl⟩
  have HN := Lib.hid hn
  rw [hn] at CY Cy0 CL BL ⊢
  clear hn
  obtain ⟨c0, c1, c2, c5, cb⟩ := CB.out _ (World.grownBy.refl _ _)
  obtain ⟨dy00, dy01, dy02, dy03, dy04, dy05, dy0b⟩ := Yy0.out _ (World.grownBy.refl _ _)
  go_enter Tryz.func183, Tryz.ntmps183
  go_upto_region 1 with fail
  clear hW
  go_upto_region 8 with fail
  have K0 := Lib.hid (Cy0.out _ (World.grownBy.refl _ _) _ M0.out.1 M0.out.2)
  go_upto_region 9 with (go_at_call 183; (with_reducible refine K0.out.mono ?_); rintro e u0 ⟨⟨r0, rfl⟩, g, m, l⟩; have GB0 := Lib.hid (show W.grownBy u0 (some mb) ∧ MP tv u0 mb (fmap (y0.er.fr B K)) ∧ LK sOk (fmap (y0.er.fr B K)) from ⟨g, m, l⟩); clear g m l)
  clear c0 c1 c2 c5 cb dy00 dy01 dy02 dy03 dy04 dy05 dy0b K0
  have GB := Lib.hid GB0.out.1
  have LTW := Lib.hid (show w.heap.size < u0.heap.size from (CB.out _ GB.out).2.2.2.2)
  have CB2 := Lib.hid (fun V (g : Gr u0 V) => CB.out V (GB.out.trans (World.grownBy.but g _)))
  have YA := Lib.hid (fun V (g : Gr u0 V) => Yz.out V (GB.out.trans (World.grownBy.but g _)))
  have CB0 := CB
  have YZ0 := Yz
  have CL2 := Lib.hid (fun V (g : Gr u0 V) => CL.out V (GB.out.trans (World.grownBy.but g _)))
  have CY2 := Lib.hid (fun V (g : Gr u0 V) => CY.out V (GB.out.trans (World.grownBy.but g _)) _ (gr_h g GB0.out.2.1) GB0.out.2.2)
  clear CB CL CY Yy0 Cy0 Yz GB0 WS M0
  have WS := LTW
  have CBG := Lib.hid (fun V (g : u0.grownBy V (some mb)) => CB0.out V (GB.out.trans g))
  have YAG := Lib.hid (fun V (g : u0.grownBy V (some mb)) => YZ0.out V (GB.out.trans g))
  clear CB0 YZ0
  have CB := CB2
  have CL := CL2
  have CY := CY2
  clear CB2 CL2 CY2
  obtain ⟨W0, hW0⟩ : ∃ V, W = V := ⟨_, rfl⟩
  rw [hW0] at GB GXH
  clear hW0
  clear LT
  generalize u0 = W at *
  have SS := Lib.hid (fun V (g : W.grownBy V (some mb)) => show V.cell? ⟨w.heap.size, 1, none⟩ = some (tv nm) ∧ V.cell? ⟨w.heap.size, 2, none⟩ = some (tv mo) ∧ V.cell? ⟨w.heap.size, 5, none⟩ = some (.slice (some a) 2 xc) ∧ V.cell? ⟨a.block, a.off + 6, none⟩ = some (iv z.kind) ∧ V.cell? ⟨a.block, a.off + 7, none⟩ = some (tv z.name) ∧ V.cell? ⟨a.block, a.off + 8, none⟩ = some (tv z.more) ∧ V.cell? ⟨a.block, a.off + 9, none⟩ = some (iv z.int) ∧ V.cell? ⟨a.block, a.off + 10, none⟩ = some (iv z.den) ∧ V.cell? ⟨a.block, a.off + 11, none⟩ = some (.slice z.A z.sub.length z.c) from by
    obtain ⟨-, p1, p2, p3, -⟩ := CBG.out V g
    obtain ⟨q0, q1, q2, q3, q4, q5, -⟩ := YAG.out V g
    exact ⟨p1, p2, p3, q0, q1, q2, q3, q4, q5⟩)
  clear CB YA CBG YAG
  go_region_held_law (fun V => V.cell? ⟨w.heap.size, 1, none⟩ = some (tv nm) ∧ V.cell? ⟨w.heap.size, 2, none⟩ = some (tv mo) ∧ V.cell? ⟨w.heap.size, 5, none⟩ = some (.slice (some a) 2 xc) ∧ V.cell? ⟨a.block, a.off + 6, none⟩ = some (iv z.kind) ∧ V.cell? ⟨a.block, a.off + 7, none⟩ = some (tv z.name) ∧ V.cell? ⟨a.block, a.off + 8, none⟩ = some (tv z.more) ∧ V.cell? ⟨a.block, a.off + 9, none⟩ = some (iv z.int) ∧ V.cell? ⟨a.block, a.off + 10, none⟩ = some (iv z.den) ∧ V.cell? ⟨a.block, a.off + 11, none⟩ = some (.slice z.A z.sub.length z.c))
    (first
      | exact SS.out _ ((World.grownBy.but G7.out _).trans M8.out.1)
      | exact SS.out _ (World.grownBy.but G7.out _)
      | exact SS.out _ (World.grownBy.but (G1.out.trans (gr_al _ _)) _)
      | exact SS.out _ (World.grownBy.but G1.out _)
      | exact SS.out _ (World.grownBy.but ((gr_drew _).trans (gr_al _ _)) _)
      | exact SS.out _ (World.grownBy.but (gr_drew _) _))
    (first
    | (refine step_app elS rfl (.tmp 48) (.tmp 51) rfl W.heap.size (v := v1) (L := B) rfl (by first | exact O1.out | exact O1.out.alloc _) (A := some ⟨_, 0, none⟩) (M := [nm]) (m := 1) (c := 1) rfl rfl (rd_cells (t := 9) elS.hn (by first | exact al_new _ _ | exact gr_h GC.out (al_new _ _))) (by have := BL.out; have := HN.out; simp; omega) (by have := G1.out.size; first | omega | (simp; omega)) ?_
       intro v7 w7 o7 g7 b7
       have G7 := Lib.hid (show Gr W w7 from OR.grow (by first | exact G1.out | exact G1.out.trans (gr_al _ _)) (by first | exact O1.out | exact O1.out.alloc _) (Nat.le_refl _) g7)
       obtain ⟨vA, vc, rfl, CC⟩ := CY.out w7 G7.out v7 W.heap.size (by have := WS.out; omega) o7
       have CC := Lib.hid CC
       clear o7 g7 b7)
    | (go_simp; go_at_call 26; refine (CL.out _ (by first | exact gr_drew _ | exact (gr_drew _).trans (gr_al _ _))).mono ?_; rintro e w1 ⟨v1, rfl, o1, g1⟩
       have O1 := Lib.hid (or_lower o1 (b' := W.heap.size) (by simp))
       have G1 := Lib.hid (show Gr W w1 from by first | exact (gr_drew _).trans g1 | exact ((gr_drew _).trans (gr_al _ _)).trans g1)
       have GC := Lib.hid g1
       clear o1 g1)
    | (go_simp; go_at_call 183; refine CC.out.mono ?_; rintro e w8 ⟨⟨r8, rfl⟩, g8, m8, l8⟩; have M8 := Lib.hid (And.intro g8 (And.intro m8 l8)); clear g8 m8 l8))
  all_goals go_wp2
  all_goals (first | go_end0 | refine bodyPost_ret (results_none rfl _ _ _) rfl ?_)
  all_goals exact ⟨⟨_, rfl⟩, ((World.grownBy.but GXH.out _).trans (GB.out.trans (World.grownBy.but G7.out _))).trans M8.out.1, M8.out.2.1, M8.out.2.2⟩
set_option maxRecDepth 100000 in
set_option maxHeartbeats 4000000 in
attribute [local irreducible] Calls in
theorem free_case (nm mo : T) (i4 i5 : Int) (a : Addr) (xc : Nat) (y0 y1 z : Ex) (ih0 : AFP y0) (ih1 : AFP y1) (ih : AFP z) : AFP (.mk 13 nm mo i4 i5 (some a) xc [y0, y1, z]) := by
  intro w0 w bA bc B mb K hx g0 hmb hv hB hb hne hm hl
  obtain ⟨XI, hXI⟩ : ∃ x, Ex.mk 13 nm mo i4 i5 (some a) xc [y0, y1, z] = x := ⟨_, rfl⟩
  have SU : XI.sub = [y0, y1, z] := by rw [← hXI]; rfl
  have SA : XI.A = some a := by rw [← hXI]; rfl
  have SN : XI.name = nm ∧ XI.more = mo := by rw [← hXI]; exact ⟨rfl, rfl⟩
  obtain ⟨W, hW⟩ : ∃ W, w.alloc (.cells #[iv 13, tv nm, tv mo, iv i4, iv i5, .slice (some a) 3 xc] 43) = W := ⟨_, rfl⟩
  have GX : Gr w W := by rw [← hW]; exact gr_al _ _
  have BX : w.heap.size < W.heap.size := by rw [← hW]; simp
  have LM := hm.lt
  have CB := Lib.hid (fun V (g : W.grownBy V (some mb)) => show V.cell? ⟨w.heap.size, 0, none⟩ = some (iv 13) ∧ V.cell? ⟨w.heap.size, 1, none⟩ = some (tv nm) ∧ V.cell? ⟨w.heap.size, 2, none⟩ = some (tv mo) ∧ V.cell? ⟨w.heap.size, 5, none⟩ = some (.slice (some a) 3 xc) ∧ w.heap.size < V.heap.size from by
    have h0 : W.heap[w.heap.size]? = some (.cells #[iv 13, tv nm, tv mo, iv i4, iv i5, .slice (some a) 3 xc] 43) := by rw [← hW]; exact al_new w _
    have h : V.heap[w.heap.size]? = some (.cells #[iv 13, tv nm, tv mo, iv i4, iv i5, .slice (some a) 3 xc] 43) := (g.block _ BX (by intro h; have := Option.some.inj h; omega)).trans h0
    exact ⟨by rw [Lib.cell_of_heap h]; rfl, by rw [Lib.cell_of_heap h]; rfl, by rw [Lib.cell_of_heap h]; rfl, by rw [Lib.cell_of_heap h]; rfl, heap_lt h⟩)
  have GZ := fun V (g : W.grownBy V (some mb)) => show Gr w0 V from grown_new (g0.trans GX) g (fun k h => by cases h; exact hmb)
  have Yy0 := Lib.hid (fun V (g : W.grownBy V (some mb)) => show V.cell? a = some (iv y0.kind) ∧ V.cell? ⟨a.block, a.off + 1, none⟩ = some (tv y0.name) ∧ V.cell? ⟨a.block, a.off + 2, none⟩ = some (tv y0.more) ∧ V.cell? ⟨a.block, a.off + 3, none⟩ = some (iv y0.int) ∧ V.cell? ⟨a.block, a.off + 4, none⟩ = some (iv y0.den) ∧ V.cell? ⟨a.block, a.off + 5, none⟩ = some (.slice y0.A y0.sub.length y0.c) ∧ a.block < V.heap.size from by
    have hs := (hx.gr (GZ V g)).s
    rw [hXI, SU] at hs
    rw [SA] at hs
    obtain ⟨b, b1, eb, e1, q0, q1, q2, q3, q4, q5, q6, -⟩ := XRd.at hs (k := 0) (by simp)
    cases eb
    rw [Nat.zero_mul, add_zero'] at e1
    subst e1
    exact ⟨q1, q2, q3, q4, q5, q6, q0⟩)
  have Yy1 := Lib.hid (fun V (g : W.grownBy V (some mb)) => show V.cell? ⟨a.block, a.off + 6, none⟩ = some (iv y1.kind) ∧ V.cell? ⟨a.block, a.off + 7, none⟩ = some (tv y1.name) ∧ V.cell? ⟨a.block, a.off + 8, none⟩ = some (tv y1.more) ∧ V.cell? ⟨a.block, a.off + 9, none⟩ = some (iv y1.int) ∧ V.cell? ⟨a.block, a.off + 10, none⟩ = some (iv y1.den) ∧ V.cell? ⟨a.block, a.off + 11, none⟩ = some (.slice y1.A y1.sub.length y1.c) ∧ a.block < V.heap.size from by
    have hs := (hx.gr (GZ V g)).s
    rw [hXI, SU] at hs
    rw [SA] at hs
    obtain ⟨b, b1, eb, e1, q0, q1, q2, q3, q4, q5, q6, -⟩ := XRd.at hs (k := 1) (by simp)
    cases eb
    rw [show a.add (1 * 6) = ⟨a.block, a.off + 6, none⟩ from fld_add _ _ (by omega)] at e1
    subst e1
    exact ⟨q1, q2, q3, q4, q5, q6, q0⟩)
  have Yz := Lib.hid (fun V (g : W.grownBy V (some mb)) => show V.cell? ⟨a.block, a.off + 12, none⟩ = some (iv z.kind) ∧ V.cell? ⟨a.block, a.off + 13, none⟩ = some (tv z.name) ∧ V.cell? ⟨a.block, a.off + 14, none⟩ = some (tv z.more) ∧ V.cell? ⟨a.block, a.off + 15, none⟩ = some (iv z.int) ∧ V.cell? ⟨a.block, a.off + 16, none⟩ = some (iv z.den) ∧ V.cell? ⟨a.block, a.off + 17, none⟩ = some (.slice z.A z.sub.length z.c) ∧ a.block < V.heap.size from by
    have hs := (hx.gr (GZ V g)).s
    rw [hXI, SU] at hs
    rw [SA] at hs
    obtain ⟨b, b1, eb, e1, q0, q1, q2, q3, q4, q5, q6, -⟩ := XRd.at hs (k := 2) (by simp)
    cases eb
    rw [show a.add (2 * 6) = ⟨a.block, a.off + 12, none⟩ from fld_add _ _ (by omega)] at e1
    subst e1
    exact ⟨q1, q2, q3, q4, q5, q6, q0⟩)
  have FR : XI.er.fr B K = z.er.fr (B ++ [nm, mo]) (y1.er.fr B (y0.er.fr B K)) := by
    rw [← hXI, fr_eq, er_kind, er_name, er_more, er_sub]
    simp only [Ex.kind, Ex.name, Ex.more, Ex.sub, ers_cons, ers_nil]
    rw [if_neg (by decide)]
    repeat rw [frs_cons]
    rw [frs_nil]
    simp [bnd]
  rw [hXI] at hx hv hB ⊢
  have hxs := hx.s
  rw [SU] at hxs
  have Cy0 := Lib.hid (fun V (g : W.grownBy V (some mb)) K' (h1 : MP tv V mb (fmap K')) (h2 : LK sOk (fmap K')) => ih0 w0 V bA bc B mb K' (XRd.hs hxs y0 (by simp)) (GZ V g) hmb (fun q hq => hv q ((nd_sub (x := XI) (y := y0) (by rw [SU]; simp)).1 q hq)) (by have := (nd_sub (x := XI) (y := y0) (by rw [SU]; simp)).2; omega) ((hb.gr GX).but g (fun a e => by have := hne a e; simpa using this)) hne h1 h2)
  have Cy1 := Lib.hid (fun V (g : W.grownBy V (some mb)) K' (h1 : MP tv V mb (fmap K')) (h2 : LK sOk (fmap K')) => ih1 w0 V bA bc B mb K' (XRd.hs hxs y1 (by simp)) (GZ V g) hmb (fun q hq => hv q ((nd_sub (x := XI) (y := y1) (by rw [SU]; simp)).1 q hq)) (by have := (nd_sub (x := XI) (y := y1) (by rw [SU]; simp)).2; omega) ((hb.gr GX).but g (fun a e => by have := hne a e; simpa using this)) hne h1 h2)
  have CY := Lib.hid (fun V (g : W.grownBy V (some mb)) (K' : List T) (h1 : MP tv V mb (fmap K')) (h2 : LK sOk (fmap K')) (v : Value) (base : Nat) (hbase : w.heap.size ≤ base) (h3 : OR 9 1 scs V base v (B ++ [nm, mo])) => show ∃ vA vc, v = .slice vA (B.length + 2) vc ∧ Calls Tryz.prog 183 #[z.v, .slice vA (B.length + 2) vc, .map (some mb)] V (AFE z.er (B ++ [nm, mo]) K' mb V) from by
    obtain ⟨vA, vc, ev, hr, h2', h3', h4, h5⟩ := h3.form2 scs_len
    have hlen : (B ++ [nm, mo]).length = B.length + 2 := by simp
    rw [hlen] at ev h2'
    refine ⟨vA, vc, ev, ?_⟩
    have hsn := SN
    have hxn : sOk nm ∧ sOk mo := by rw [← SN.1, ← SN.2]; exact ⟨hx.n, hx.m⟩
    have h := ih w0 V vA vc (B ++ [nm, mo]) mb K' (XRd.hs hxs z (by simp)) (GZ V g) hmb (fun q hq => hv q ((nd_sub (x := XI) (y := z) (by rw [SU]; simp)).1 q hq)) (by have := (nd_sub (x := XI) (y := z) (by rw [SU]; simp)).2; simp; omega) ⟨⟨by rw [hlen]; exact h2', h3', h4, hr⟩, fun s hs => by
      rcases List.mem_append.1 hs with hs | hs
      · exact hb.ok s hs
      · simp only [List.mem_cons, List.not_mem_nil, or_false] at hs
        first | (rcases hs with rfl | rfl; exact hxn.1; exact hxn.2) | (rw [hs]; exact hxn.1)⟩ (fun q hq => by have := (h5 q hq).1; omega) h1 h2
    rw [hlen] at h
    exact h)
  have CL := Lib.hid (fun V (g : W.grownBy V (some mb)) => cloneS_any bA bc B V (((hb.gr GX).but g (fun a e => by have := hne a e; simpa using this)).r) (by omega))
  have BL := Lib.hid (show B.length ≤ 1000 by omega)
  have WS := Lib.hid (show w.heap.size + 1 = W.heap.size by rw [← hW]; simp)
  have GXH := Lib.hid GX
  have M0 := Lib.hid (And.intro (gr_h GX hm) hl)
  have LT := Lib.hid LM
  unfold AFE
  rw [FR]
  unfold AFE at CY Cy0 Cy1
  unfold Ex.v at CY Cy0 Cy1
  rw [← hXI]
  show Calls Tryz.prog 183 #[.agg #[iv 13, tv nm, tv mo, iv i4, iv i5, .slice (some a) 3 xc], .slice bA B.length bc, .map (some mb)] w _
  clear hXI SU SA SN FR hv hB hb hne hm hl ih ih0 ih1 hx hxs g0 hmb GZ GX BX LM
  obtain ⟨n, hn⟩ : ∃ n, B.length = n := ⟨_, rfl⟩
  have HN := Lib.hid hn
  rw [hn] at CY Cy0 Cy1 CL BL ⊢
  clear hn
  obtain ⟨c0, c1, c2, c5, cb⟩ := CB.out _ (World.grownBy.refl _ _)
  obtain ⟨dy00, dy01, dy02, dy03, dy04, dy05, dy0b⟩ := Yy0.out _ (World.grownBy.refl _ _)
  go_enter Tryz.func183, Tryz.ntmps183
  go_upto_region 1 with fail
  clear hW
  go_upto_region 11 with fail
  have K0 := Lib.hid (Cy0.out _ (World.grownBy.refl _ _) _ M0.out.1 M0.out.2)
  go_upto_region 12 with (go_at_call 183; (with_reducible refine K0.out.mono ?_); rintro e u0 ⟨⟨r0, rfl⟩, g, m, l⟩; have GB0 := Lib.hid (show W.grownBy u0 (some mb) ∧ MP tv u0 mb (fmap (y0.er.fr B K)) ∧ LK sOk (fmap (y0.er.fr B K)) from ⟨g, m, l⟩); clear g m l)
  clear c0 c1 c2 c5 cb dy00 dy01 dy02 dy03 dy04 dy05 dy0b K0
  obtain ⟨c0, c1, c2, c5, cb⟩ := CB.out _ GB0.out.1
  obtain ⟨dy10, dy11, dy12, dy13, dy14, dy15, dy1b⟩ := Yy1.out _ GB0.out.1
  have K1 := Lib.hid (Cy1.out _ GB0.out.1 _ GB0.out.2.1 GB0.out.2.2)
  go_upto_region 13 with (go_at_call 183; (with_reducible refine K1.out.mono ?_); rintro e u1 ⟨⟨r1, rfl⟩, g, m, l⟩; have GB1 := Lib.hid (show W.grownBy u1 (some mb) ∧ MP tv u1 mb (fmap (y1.er.fr B (y0.er.fr B K))) ∧ LK sOk (fmap (y1.er.fr B (y0.er.fr B K))) from ⟨GB0.out.1.trans g, m, l⟩); clear g m l)
  clear c0 c1 c2 c5 cb dy10 dy11 dy12 dy13 dy14 dy15 dy1b K1
  have GB := Lib.hid GB1.out.1
  have LTW := Lib.hid (show w.heap.size < u1.heap.size from (CB.out _ GB.out).2.2.2.2)
  have CB2 := Lib.hid (fun V (g : Gr u1 V) => CB.out V (GB.out.trans (World.grownBy.but g _)))
  have YA := Lib.hid (fun V (g : Gr u1 V) => Yz.out V (GB.out.trans (World.grownBy.but g _)))
  have CB0 := CB
  have YZ0 := Yz
  have CL2 := Lib.hid (fun V (g : Gr u1 V) => CL.out V (GB.out.trans (World.grownBy.but g _)))
  have CY2 := Lib.hid (fun V (g : Gr u1 V) => CY.out V (GB.out.trans (World.grownBy.but g _)) _ (gr_h g GB1.out.2.1) GB1.out.2.2)
  clear CB CL CY Yy0 Cy0 Yy1 Cy1 Yz GB0 GB1 WS M0
  have WS := LTW
  have CBG := Lib.hid (fun V (g : u1.grownBy V (some mb)) => CB0.out V (GB.out.trans g))
  have YAG := Lib.hid (fun V (g : u1.grownBy V (some mb)) => YZ0.out V (GB.out.trans g))
  clear CB0 YZ0
  have CB := CB2
  have CL := CL2
  have CY := CY2
  clear CB2 CL2 CY2
  obtain ⟨W0, hW0⟩ : ∃ V, W = V := ⟨_, rfl⟩
  rw [hW0] at GB GXH
  clear hW0
  clear LT
  generalize u1 = W at *
  have SS := Lib.hid (fun V (g : W.grownBy V (some mb)) => show V.cell? ⟨w.heap.size, 1, none⟩ = some (tv nm) ∧ V.cell? ⟨w.heap.size, 2, none⟩ = some (tv mo) ∧ V.cell? ⟨w.heap.size, 5, none⟩ = some (.slice (some a) 3 xc) ∧ V.cell? ⟨a.block, a.off + 12, none⟩ = some (iv z.kind) ∧ V.cell? ⟨a.block, a.off + 13, none⟩ = some (tv z.name) ∧ V.cell? ⟨a.block, a.off + 14, none⟩ = some (tv z.more) ∧ V.cell? ⟨a.block, a.off + 15, none⟩ = some (iv z.int) ∧ V.cell? ⟨a.block, a.off + 16, none⟩ = some (iv z.den) ∧ V.cell? ⟨a.block, a.off + 17, none⟩ = some (.slice z.A z.sub.length z.c) from by
    obtain ⟨-, p1, p2, p3, -⟩ := CBG.out V g
    obtain ⟨q0, q1, q2, q3, q4, q5, -⟩ := YAG.out V g
    exact ⟨p1, p2, p3, q0, q1, q2, q3, q4, q5⟩)
  clear CB YA CBG YAG
  go_region_held_law (fun V => V.cell? ⟨w.heap.size, 1, none⟩ = some (tv nm) ∧ V.cell? ⟨w.heap.size, 2, none⟩ = some (tv mo) ∧ V.cell? ⟨w.heap.size, 5, none⟩ = some (.slice (some a) 3 xc) ∧ V.cell? ⟨a.block, a.off + 12, none⟩ = some (iv z.kind) ∧ V.cell? ⟨a.block, a.off + 13, none⟩ = some (tv z.name) ∧ V.cell? ⟨a.block, a.off + 14, none⟩ = some (tv z.more) ∧ V.cell? ⟨a.block, a.off + 15, none⟩ = some (iv z.int) ∧ V.cell? ⟨a.block, a.off + 16, none⟩ = some (iv z.den) ∧ V.cell? ⟨a.block, a.off + 17, none⟩ = some (.slice z.A z.sub.length z.c))
    (first
      | exact SS.out _ ((World.grownBy.but G7.out _).trans M8.out.1)
      | exact SS.out _ (World.grownBy.but G7.out _)
      | exact SS.out _ (World.grownBy.but (G1.out.trans (gr_al _ _)) _)
      | exact SS.out _ (World.grownBy.but G1.out _)
      | exact SS.out _ (World.grownBy.but ((gr_drew _).trans (gr_al _ _)) _)
      | exact SS.out _ (World.grownBy.but (gr_drew _) _))
    (first
    | (refine step_app elS rfl (.tmp 76) (.tmp 81) rfl W.heap.size (v := v1) (L := B) rfl (by first | exact O1.out | exact O1.out.alloc _) (A := some ⟨_, 0, none⟩) (M := [nm, mo]) (m := 2) (c := 2) rfl rfl (rd_cells (t := 9) elS.hn (by first | exact al_new _ _ | exact gr_h GC.out (al_new _ _))) (by have := BL.out; have := HN.out; simp; omega) (by have := G1.out.size; first | omega | (simp; omega)) ?_
       intro v7 w7 o7 g7 b7
       have G7 := Lib.hid (show Gr W w7 from OR.grow (by first | exact G1.out | exact G1.out.trans (gr_al _ _)) (by first | exact O1.out | exact O1.out.alloc _) (Nat.le_refl _) g7)
       obtain ⟨vA, vc, rfl, CC⟩ := CY.out w7 G7.out v7 W.heap.size (by have := WS.out; omega) o7
       have CC := Lib.hid CC
       clear o7 g7 b7)
    | (go_simp; go_at_call 26; refine (CL.out _ (by first | exact gr_drew _ | exact (gr_drew _).trans (gr_al _ _))).mono ?_; rintro e w1 ⟨v1, rfl, o1, g1⟩
       have O1 := Lib.hid (or_lower o1 (b' := W.heap.size) (by simp))
       have G1 := Lib.hid (show Gr W w1 from by first | exact (gr_drew _).trans g1 | exact ((gr_drew _).trans (gr_al _ _)).trans g1)
       have GC := Lib.hid g1
       clear o1 g1)
    | (go_simp; go_at_call 183; refine CC.out.mono ?_; rintro e w8 ⟨⟨r8, rfl⟩, g8, m8, l8⟩; have M8 := Lib.hid (And.intro g8 (And.intro m8 l8)); clear g8 m8 l8))
  all_goals go_wp2
  all_goals (first | go_end0 | refine bodyPost_ret (results_none rfl _ _ _) rfl ?_)
  all_goals exact ⟨⟨_, rfl⟩, ((World.grownBy.but GXH.out _).trans (GB.out.trans (World.grownBy.but G7.out _))).trans M8.out.1, M8.out.2.1, M8.out.2.2⟩
theorem nd_self (e : PE) : e ∈ nd e := by rw [nd_eq]; exact List.mem_cons_self
theorem ers_len (l : List Ex) : (ers l).length = l.length := by rw [ers_map, List.length_map]
theorem addFree_any (x : Ex) : AFP x := by
  refine Ex.ind (P := AFP) (fun x ih => ?_) x
  by_cases h3 : x.kind = 3
  · exact free_var x h3
  by_cases h6 : x.kind = 6
  · intro w0 w bA bc B mb K hx g0 hmb hv hB hb hne hm hl
    have hlen := ckN_len (e := x.er) (by rw [er_kind, h6]; rfl) (hv _ (nd_self _))
    rw [er_sub, ers_len] at hlen
    cases x with
    | mk k nm mo i4 i5 A xc l =>
      have h6' : k = 6 := h6
      subst h6'
      match l, hlen, ih, hx with
      | [y], _, ih, hx =>
        obtain ⟨a, a1, ea, -⟩ := XRd.at hx.s (k := 0) (by simp [Ex.sub])
        have ea : A = some a := ea
        subst ea
        exact free_fun nm mo i4 i5 a xc y (ih y (by simp [Ex.sub])) w0 w bA bc B mb K hx g0 hmb hv hB hb hne hm hl
      | [], h, _, _ => exact absurd h (by simp [Ex.sub])
      | _ :: _ :: _, h, _, _ => exact absurd h (by simp [Ex.sub]; omega)
  by_cases h8 : x.kind = 8
  · intro w0 w bA bc B mb K hx g0 hmb hv hB hb hne hm hl
    have hlen := ckN_len (e := x.er) (by rw [er_kind, h8]; rfl) (hv _ (nd_self _))
    rw [er_sub, ers_len] at hlen
    cases x with
    | mk k nm mo i4 i5 A xc l =>
      have h8' : k = 8 := h8
      subst h8'
      match l, hlen, ih, hx with
      | [y, z], _, ih, hx =>
        obtain ⟨a, a1, ea, -⟩ := XRd.at hx.s (k := 0) (by simp [Ex.sub])
        have ea : A = some a := ea
        subst ea
        exact free_let nm mo i4 i5 a xc y z (ih y (by simp [Ex.sub])) (ih z (by simp [Ex.sub])) w0 w bA bc B mb K hx g0 hmb hv hB hb hne hm hl
      | [], h, _, _ => exact absurd h (by simp [Ex.sub])
      | [_], h, _, _ => exact absurd h (by simp [Ex.sub])
      | _ :: _ :: _ :: _, h, _, _ => exact absurd h (by simp [Ex.sub]; omega)
  by_cases h13 : x.kind = 13
  · intro w0 w bA bc B mb K hx g0 hmb hv hB hb hne hm hl
    have hlen := ckN_len (e := x.er) (by rw [er_kind, h13]; rfl) (hv _ (nd_self _))
    rw [er_sub, ers_len] at hlen
    cases x with
    | mk k nm mo i4 i5 A xc l =>
      have h13' : k = 13 := h13
      subst h13'
      match l, hlen, ih, hx with
      | [x, y, z], _, ih, hx =>
        obtain ⟨a, a1, ea, -⟩ := XRd.at hx.s (k := 0) (by simp [Ex.sub])
        have ea : A = some a := ea
        subst ea
        exact free_case nm mo i4 i5 a xc x y z (ih x (by simp [Ex.sub])) (ih y (by simp [Ex.sub])) (ih z (by simp [Ex.sub])) w0 w bA bc B mb K hx g0 hmb hv hB hb hne hm hl
      | [], h, _, _ => exact absurd h (by simp [Ex.sub])
      | [_], h, _, _ => exact absurd h (by simp [Ex.sub])
      | [_, _], h, _, _ => exact absurd h (by simp [Ex.sub])
      | _ :: _ :: _ :: _ :: _, h, _, _ => exact absurd h (by simp [Ex.sub]; omega)
  exact free_rest x h3 h6 h8 h13 ih
end Go.Proofs.YtiaenhlflgobfaaGreatDoor

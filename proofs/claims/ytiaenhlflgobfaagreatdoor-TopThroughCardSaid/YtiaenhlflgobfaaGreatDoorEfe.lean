/- Walk: the effect of the edits that change or remove declarations. -/
import Derived.Test.YtiaenhlflgobfaaGreatDoorM15
namespace Go.Proofs.YtiaenhlflgobfaaGreatDoor
open Go.RowKit
set_option maxRecDepth 100000 in
set_option maxHeartbeats 4000000 in
attribute [local irreducible] Calls in
theorem eff106_63 (w : World) (B M : Nat) (V : World) (v : Value) (pre post : List Mod) (m : Mod) (gg nn cap : Nat) (e : Edt) (cb : Nat) (x : Dec) (o d : Dec) (p1 p2 : List Dec) (h : AS w B M V v (pre ++ m :: post)) (hv : v = .slice (some ⟨gg, 0, none⟩) nn cap) (hM : M ≤ 100000) (he : e.Rd w) (hK : e.kind = 7) (ho : e.old = [o]) (hs : Asc Dec.id m.decls) (hd : m.decls = p1 ++ d :: p2) (hid : d.id = o.id) (hm : (d.ment 7).er = o.er) (hb : (d.body.er.pre 1).length ≤ 400) (hx : e.new = [x]) (hcb : V.heap[cb]? = some (.cells #[.func (.func 63) #[] #[]] 125 (0, 0))) :
    Calls Tryz.prog 106 #[.pointer (some ⟨gg, pre.length * 3, none⟩), e.v, .pointer (some ⟨cb, 0, none⟩)] V fun y V' => y = .returned (iv 0) ∧ ∃ m', m'.er = { m.er with decls := (p1 ++ ({ d with nA := x.nA, nc := x.nc, names := x.names } : Dec) :: p2).map Dec.er } ∧ AS w B (M + 1) V' v (pre ++ m' :: post) ∧ Fr B V V' := by
  have hm0 : m ∈ pre ++ m :: post := by simp
  have hgv := (h.hdr hv).1
  have mc := h.c m hm0
  obtain ⟨gd, hgd⟩ : ∃ gd, m.dA = some ⟨gd, 0, none⟩ := by
    obtain ⟨A, c, e1, -, -, -, -, hA⟩ := (h.d m hm0).form2 elD.hn
    obtain ⟨e2, -, e3⟩ := Value.slice.inj e1
    cases hA2 : m.dA with
    | none =>
      rcases (h.d m hm0).2 with ⟨-, h1⟩ | ⟨g', cap', cur, e4, -⟩
      · rw [hd] at h1; simp at h1
      · rw [hA2] at e4; cases e4
    | some a => exact ⟨_, congrArg some (hA a (by rw [← e2, hA2])).2.2⟩
  have hpos : pos Dec.id m.decls o.id = p1.length := by rw [hd, ← hid]; exact pos_mid (by rw [← hd]; exact hs)
  have hhas : hasK Dec.id m.decls o.id = true := by rw [hd, ← hid]; exact hasK_mid (by rw [← hd]; exact hs)
  obtain ⟨W, hW⟩ : ∃ W, V.alloc (.cells #[iv e.kind, tv e.pack, tv e.text, .slice e.oA e.old.length e.oc, .slice e.nA e.new.length e.nc] 32) = W := ⟨_, rfl⟩
  obtain ⟨W1, hW1⟩ : ∃ W1, W.alloc (.cells #[iv o.id, iv o.kind, .bool o.pub, .slice o.nA o.names.length o.nc, .bool o.doubt, iv o.body.kind, tv o.body.name, tv o.body.more, iv o.body.int, iv o.body.den, .slice o.body.A o.body.sub.length o.body.c] 45) = W1 := ⟨_, rfl⟩
  have GW0 := Lib.hid (show Gr V W by rw [← hW]; exact gr_al _ _)
  have GW := Lib.hid (show Gr V W1 by rw [← hW1]; exact GW0.out.trans (gr_al _ _))
  have CB := Lib.hid (fun V' (g : Gr W V') => edtCells (V := V') (b := V.heap.size) (e := e) (gr_h g (by rw [← hW]; exact al_new _ _)))
  have OB := Lib.hid (fun V' (g : Gr W1 V') => decCells (d := o) (V := V') (b := W.heap.size) (gr_h g (by rw [← hW1]; exact al_new _ _)))
  have HD := Lib.hid (fun V' (g : Gr W1 V') => (h.gr (GW.out.trans g)).hdr hv)
  have dr := h.d m hm0
  rw [hgd, hd] at dr
  have DB := Lib.hid (fun V' (g : Gr W1 V') => And.intro (row_cell (dr.gr (GW.out.trans g)) 0 (u := iv d.id) rfl) (And.intro (row_cell (dr.gr (GW.out.trans g)) 1 (u := iv d.kind) rfl) (And.intro (row_cell (dr.gr (GW.out.trans g)) 2 (u := .bool d.pub) rfl) (And.intro (row_cell (dr.gr (GW.out.trans g)) 3 (u := .slice d.nA d.names.length d.nc) rfl) (And.intro (row_cell (dr.gr (GW.out.trans g)) 4 (u := .bool d.doubt) rfl) (And.intro (row_cell (dr.gr (GW.out.trans g)) 5 (u := iv d.body.kind) rfl) (And.intro (row_cell (dr.gr (GW.out.trans g)) 6 (u := tv d.body.name) rfl) (And.intro (row_cell (dr.gr (GW.out.trans g)) 7 (u := tv d.body.more) rfl) (And.intro (row_cell (dr.gr (GW.out.trans g)) 8 (u := iv d.body.int) rfl) (And.intro (row_cell (dr.gr (GW.out.trans g)) 9 (u := iv d.body.den) rfl) (row_cell (dr.gr (GW.out.trans g)) 10 (u := .slice d.body.A d.body.sub.length d.body.c) rfl)))))))))))
  have hdr : d.Rd w ∧ 1 ≤ d.id ∧ d.id ≤ 999999 := mc.ds d (by rw [hd]; simp)
  have heo := he.o
  rw [ho] at heo
  have hor : o.Rd w := heo.d o (by simp)
  have C1 := Lib.hid (fun V' (g : Gr W1 V') => findDecl_any m.dA m.dc m.decls o.id V' (((h.gr (GW.out.trans g))).rd hm0) (by have := mc.nd; omega) hs (by rw [← hid]; have := hdr.2; omega) (fun y hy => by have := (mc.ds y hy).2; omega))
  rw [hpos, hhas] at C1
  have C2 := Lib.hid (fun V' (_ : Gr W1 V') => mentioned_any 7 d V')
  have C3 := Lib.hid (fun V' (g : Gr W1 V') => equalDecl_any (d.ment 7) o V' (ment_rd 7 (hdr.1.gr (h.g.trans (GW.out.trans g)))) (hor.gr (h.g.trans (GW.out.trans g))) (by
    have h1 := ment_small 7 (d := d.er) hb
    rw [← ment_er] at h1
    exact h1))
  rw [decide_eq_true hm] at C3
  obtain ⟨vO, hvO⟩ : ∃ v, (d.ment 7).v = v := ⟨_, rfl⟩
  rw [hvO] at C2 C3
  obtain ⟨b, b1, eb, hb1, hbb, d0, d1, d2, d3, d4, d5, d6, d7, d8, d9, d10⟩ := rdD (heo.gr (h.g.trans GW0.out)).r (k := 0) (x := o) rfl
  rw [Nat.zero_mul, add_zero'] at hb1
  subst hb1
  have hen := he.n
  rw [hx] at hen
  have hxr : x.Rd w := hen.d x (by simp)
  obtain ⟨bx, bx1, ebx, hbx1, hbbx, -⟩ := rdD hen.r (k := 0) (x := x) rfl
  rw [Nat.zero_mul, add_zero'] at hbx1
  subst hbx1
  have XB := Lib.hid (fun V' (g : Gr W1 V') => show V'.cell? bx = some (iv x.id) ∧ V'.cell? ⟨bx.block, bx.off + 1, none⟩ = some (iv x.kind) ∧ V'.cell? ⟨bx.block, bx.off + 2, none⟩ = some (.bool x.pub) ∧ V'.cell? ⟨bx.block, bx.off + 3, none⟩ = some (.slice x.nA x.names.length x.nc) ∧ V'.cell? ⟨bx.block, bx.off + 4, none⟩ = some (.bool x.doubt) ∧ V'.cell? ⟨bx.block, bx.off + 5, none⟩ = some (iv x.body.kind) ∧ V'.cell? ⟨bx.block, bx.off + 6, none⟩ = some (tv x.body.name) ∧ V'.cell? ⟨bx.block, bx.off + 7, none⟩ = some (tv x.body.more) ∧ V'.cell? ⟨bx.block, bx.off + 8, none⟩ = some (iv x.body.int) ∧ V'.cell? ⟨bx.block, bx.off + 9, none⟩ = some (iv x.body.den) ∧ V'.cell? ⟨bx.block, bx.off + 10, none⟩ = some (.slice x.body.A x.body.sub.length x.body.c) from by
    have h5 := (he.n.gr (h.g.trans (GW.out.trans g))).r
    rw [hx] at h5
    obtain ⟨c, c1, ec, hc1, hcb', x0, x1, x2, x3, x4, x5, x6, x7, x8, x9, x10⟩ := rdD h5 (k := 0) (x := x) rfl
    rw [ebx] at ec
    cases ec
    rw [Nat.zero_mul, add_zero'] at hc1
    subst hc1
    exact ⟨x0, x1, x2, x3, x4, x5, x6, x7, x8, x9, x10⟩)
  have CP := Lib.hid (fun V' (g : Gr W1 V') => show V'.cell? ⟨cb, 0, none⟩ = some (.func (.func 63) #[] #[]) from by rw [Lib.cell_of_heap (gr_h (GW.out.trans g) hcb)]; rfl)
  have hdl : m.decls.length = (p1 ++ d :: p2).length := by rw [hd]
  have C4 := Lib.hid (fun V' (g : Gr W1 V') => set63 B V' gd m.decls.length m.dc p1 p2 d x (by rw [hdl]; exact dr.gr (GW.out.trans g)))
  have gdB : B ≤ gd := (dr.lt gd rfl).1
  have NEB := Lib.hid (show cb ≠ gd ∧ gg ≠ gd ∧ V.heap.size ≠ gd ∧ bx.block ≠ gd from by
    obtain ⟨-, q1, q2⟩ := dr.typ (k := gd) rfl
    refine ⟨fun e1 => ?_, fun e1 => ?_, ?_, ?_⟩
    · rw [e1, q2] at hcb; cases hcb
    · obtain ⟨-, q3, q4⟩ := h.o.typ (k := gg) (by rw [hv]; rfl)
      rw [e1, q2] at q4; cases q4
    · have := (dr.lt gd rfl).2; omega
    · have := h.wb; omega)
  have FN := Lib.hid (fun V1 V2 (g1 : Gr V V1) (o' : OR 45 11 Dec.cs V2 B (.slice (some ⟨gd, 0, none⟩) m.decls.length m.dc) (p1 ++ ({ d with nA := x.nA, nc := x.nc, names := x.names } : Dec) :: p2)) (g2 : V1.grownBy V2 (some gd)) => show (∃ m', m'.er = { m.er with decls := (p1 ++ ({ d with nA := x.nA, nc := x.nc, names := x.names } : Dec) :: p2).map Dec.er } ∧ AS w B (M + 1) V2 v (pre ++ m' :: post)) ∧ Fr B V V2 from by
    obtain ⟨e1, e2⟩ := h.setE (ds := p1 ++ ({ d with nA := x.nA, nc := x.nc, names := x.names } : Dec) :: p2) g1 (by rw [hd]; simp) (by rw [hgd]; exact o') (by rw [hgd]; exact g2) (fun y hy => by
      rcases List.mem_append.1 hy with hy | hy
      · exact mc.ds y (by rw [hd]; simp [hy])
      · rcases List.mem_cons.1 hy with rfl | hy
        · obtain ⟨q1, q2⟩ := mc.ds d (by rw [hd]; simp)
          exact ⟨⟨hxr.n, q1.b⟩, q2⟩
        · exact mc.ds y (by rw [hd]; simp [hy]))
    exact ⟨⟨_, rfl, e1.up⟩, e2⟩)
  unfold Dec.v at C2 C3
  unfold Edt.v
  have HW := Lib.hid hW
  have HW1 := Lib.hid hW1
  rw [ho, eb, hK] at CB HW ⊢
  simp only [List.length_cons, List.length_nil, Nat.zero_add] at CB HW ⊢
  obtain ⟨q, hq⟩ : ∃ q, p1.length * 11 = q := ⟨_, rfl⟩
  obtain ⟨P, hP⟩ : ∃ P, p1.length = P := ⟨_, rfl⟩
  obtain ⟨g3, hg3⟩ : ∃ g3, pre.length * 3 = g3 := ⟨_, rfl⟩
  obtain ⟨un, hun⟩ : ∃ un, m.decls.length = un := ⟨_, rfl⟩
  have hPu : P < un := by rw [← hun, hd, ← hP]; simp
  have hPq : P * 11 = q := by rw [← hP]; exact hq
  have hu9 : un ≤ 100000 := by have := mc.nd; omega
  simp only [hq] at DB
  simp only [Nat.add_zero] at DB
  simp only [hgd, hun, hP] at C1
  simp only [hgd, hun, hg3] at HD
  rw [hg3]
  rw [hx, ebx] at CB HW ⊢
  simp only [List.length_cons, List.length_nil, Nat.zero_add] at CB HW ⊢
  simp only [hun, hq] at C4
  simp only [hun] at FN
  obtain ⟨DS, hDS⟩ : ∃ DS, p1 ++ ({ d with nA := x.nA, nc := x.nc, names := x.names } : Dec) :: p2 = DS := ⟨_, rfl⟩
  simp only [hDS] at C4 FN ⊢
  unfold Dec.v at C4
  clear hDS hcb hen hxr hbbx hdl gdB hx ebx
  clear h hv he ho hs hd hid hm hb mc hm0 hgd hpos hhas hW hW1 hdr heo hor hvO dr hq hP hg3 hun hbb eb hK
  go_enter Tryz.func106, Tryz.ntmps106
  go_upto_region 1 with fail
  rw [HW.out]
  obtain ⟨c0, c1, c2, c3, c4⟩ := CB.out _ (gr_refl _)
  go_upto_region 2 with fail
  rw [HW1.out]
  clear d0 d1 d2 d3 d4 d5 d6 d7 d8 d9 d10 c0 c1 c2 c3 c4
  have GWW := Lib.hid (show Gr W W1 by rw [← HW1.out]; exact gr_al _ _)
  have SS := Lib.hid (fun V' (g : Gr W1 V') => And.intro (HD.out _ g).2.2.2.1 (OB.out _ g).1)
  go_region_held3 (fun V' => V'.cell? ⟨gg, g3 + 2, none⟩ = some (.slice (some ⟨gd, 0, none⟩) un m.dc) ∧ V'.cell? ⟨W.heap.size, 0, none⟩ = some (iv o.id))
    (first | with_reducible exact SS.out _ G1.out | with_reducible exact SS.out _ (gr_drew _) | go_keep)
    (first | (go_at_call 60; (with_reducible refine (C1.out _ (gr_drew _)).mono ?_); rintro y w1 ⟨rfl, g1⟩; have G1 := Lib.hid ((gr_drew _).trans g1); clear g1))
  have S5 := Lib.hid (fun V' (g : Gr W1 V') => And.intro (CB.out _ (GWW.out.trans g)).1 (And.intro (HD.out _ g).2.2.2.1 (And.intro (DB.out _ g) (OB.out _ g))))
  go_upto_region 5 with fail
  go_region_held3 (fun V' => V'.cell? ⟨V.heap.size, 0, none⟩ = some (iv 7) ∧ V'.cell? ⟨gg, g3 + 2, none⟩ = some (.slice (some ⟨gd, 0, none⟩) un m.dc) ∧ (V'.cell? ⟨gd, q, none⟩ = some (iv d.id) ∧ V'.cell? ⟨gd, q + 1, none⟩ = some (iv d.kind) ∧ V'.cell? ⟨gd, q + 2, none⟩ = some (.bool d.pub) ∧ V'.cell? ⟨gd, q + 3, none⟩ = some (.slice d.nA d.names.length d.nc) ∧ V'.cell? ⟨gd, q + 4, none⟩ = some (.bool d.doubt) ∧ V'.cell? ⟨gd, q + 5, none⟩ = some (iv d.body.kind) ∧ V'.cell? ⟨gd, q + 6, none⟩ = some (tv d.body.name) ∧ V'.cell? ⟨gd, q + 7, none⟩ = some (tv d.body.more) ∧ V'.cell? ⟨gd, q + 8, none⟩ = some (iv d.body.int) ∧ V'.cell? ⟨gd, q + 9, none⟩ = some (iv d.body.den) ∧ V'.cell? ⟨gd, q + 10, none⟩ = some (.slice d.body.A d.body.sub.length d.body.c)) ∧ (V'.cell? ⟨W.heap.size, 0, none⟩ = some (iv o.id) ∧ V'.cell? ⟨W.heap.size, 1, none⟩ = some (iv o.kind) ∧ V'.cell? ⟨W.heap.size, 2, none⟩ = some (.bool o.pub) ∧ V'.cell? ⟨W.heap.size, 3, none⟩ = some (.slice o.nA o.names.length o.nc) ∧ V'.cell? ⟨W.heap.size, 4, none⟩ = some (.bool o.doubt) ∧ V'.cell? ⟨W.heap.size, 5, none⟩ = some (iv o.body.kind) ∧ V'.cell? ⟨W.heap.size, 6, none⟩ = some (tv o.body.name) ∧ V'.cell? ⟨W.heap.size, 7, none⟩ = some (tv o.body.more) ∧ V'.cell? ⟨W.heap.size, 8, none⟩ = some (iv o.body.int) ∧ V'.cell? ⟨W.heap.size, 9, none⟩ = some (iv o.body.den) ∧ V'.cell? ⟨W.heap.size, 10, none⟩ = some (.slice o.body.A o.body.sub.length o.body.c)))
    (first | with_reducible exact S5.out _ G3.out | with_reducible exact S5.out _ G2.out | with_reducible exact S5.out _ (G1.out.trans (gr_drew _)) | go_keep)
    (first
      | (go_at_call 51; (with_reducible refine (C2.out _ (G1.out.trans (gr_drew _))).mono ?_); rintro y w2 ⟨rfl, g2⟩; have G2 := Lib.hid ((G1.out.trans (gr_drew _)).trans g2); clear g2)
      | (go_at_call 52; (with_reducible refine (C3.out _ G2.out).mono ?_); rintro y w3 ⟨rfl, g3'⟩; have G3 := Lib.hid (G2.out.trans g3'); clear g3'))
  obtain ⟨e0, e1, -⟩ := S5.out _ G3.out
  have SX := Lib.hid (fun V' (g : Gr W1 V') => show V'.cell? ⟨cb, 0, none⟩ = some (.func (.func 63) #[] #[]) ∧ V'.cell? ⟨gg, g3 + 2, none⟩ = some (.slice (some ⟨gd, 0, none⟩) un m.dc) ∧ V'.cell? ⟨V.heap.size, 4, none⟩ = some (.slice (some bx) 1 e.nc) ∧ (V'.cell? bx = some (iv x.id) ∧ V'.cell? ⟨bx.block, bx.off + 1, none⟩ = some (iv x.kind) ∧ V'.cell? ⟨bx.block, bx.off + 2, none⟩ = some (.bool x.pub) ∧ V'.cell? ⟨bx.block, bx.off + 3, none⟩ = some (.slice x.nA x.names.length x.nc) ∧ V'.cell? ⟨bx.block, bx.off + 4, none⟩ = some (.bool x.doubt) ∧ V'.cell? ⟨bx.block, bx.off + 5, none⟩ = some (iv x.body.kind) ∧ V'.cell? ⟨bx.block, bx.off + 6, none⟩ = some (tv x.body.name) ∧ V'.cell? ⟨bx.block, bx.off + 7, none⟩ = some (tv x.body.more) ∧ V'.cell? ⟨bx.block, bx.off + 8, none⟩ = some (iv x.body.int) ∧ V'.cell? ⟨bx.block, bx.off + 9, none⟩ = some (iv x.body.den) ∧ V'.cell? ⟨bx.block, bx.off + 10, none⟩ = some (.slice x.body.A x.body.sub.length x.body.c)) from ⟨CP.out _ g, (HD.out _ g).2.2.2.1, (CB.out _ (GWW.out.trans g)).2.2.2.2, XB.out _ g⟩)
  have SY := Lib.hid (fun V' V'' (g : Gr W1 V') (g' : V'.grownBy V'' (some gd)) => show V''.cell? ⟨cb, 0, none⟩ = some (.func (.func 63) #[] #[]) ∧ V''.cell? ⟨gg, g3 + 2, none⟩ = some (.slice (some ⟨gd, 0, none⟩) un m.dc) ∧ V''.cell? ⟨V.heap.size, 4, none⟩ = some (.slice (some bx) 1 e.nc) ∧ (V''.cell? bx = some (iv x.id) ∧ V''.cell? ⟨bx.block, bx.off + 1, none⟩ = some (iv x.kind) ∧ V''.cell? ⟨bx.block, bx.off + 2, none⟩ = some (.bool x.pub) ∧ V''.cell? ⟨bx.block, bx.off + 3, none⟩ = some (.slice x.nA x.names.length x.nc) ∧ V''.cell? ⟨bx.block, bx.off + 4, none⟩ = some (.bool x.doubt) ∧ V''.cell? ⟨bx.block, bx.off + 5, none⟩ = some (iv x.body.kind) ∧ V''.cell? ⟨bx.block, bx.off + 6, none⟩ = some (tv x.body.name) ∧ V''.cell? ⟨bx.block, bx.off + 7, none⟩ = some (tv x.body.more) ∧ V''.cell? ⟨bx.block, bx.off + 8, none⟩ = some (iv x.body.int) ∧ V''.cell? ⟨bx.block, bx.off + 9, none⟩ = some (iv x.body.den) ∧ V''.cell? ⟨bx.block, bx.off + 10, none⟩ = some (.slice x.body.A x.body.sub.length x.body.c)) from by
    obtain ⟨n1, n2, n3, n4⟩ := NEB.out
    obtain ⟨t1, t2, t3, t4, t5, t6, t7, t8, t9, t10, t11, t12, t13, t14⟩ := SX.out _ g
    have k1 : ∀ (a : Addr) (u : Value), a.block ≠ gd → V'.cell? a = some u → V''.cell? a = some u := fun a u hne hc => g'.cell hc (by simp only [ne_eq, Option.some.injEq]; exact hne)
    exact ⟨k1 _ _ n1 t1, k1 _ _ n2 t2, k1 _ _ n3 t3, k1 _ _ n4 t4, k1 _ _ n4 t5, k1 _ _ n4 t6, k1 _ _ n4 t7, k1 _ _ n4 t8, k1 _ _ n4 t9, k1 _ _ n4 t10, k1 _ _ n4 t11, k1 _ _ n4 t12, k1 _ _ n4 t13, k1 _ _ n4 t14⟩)
  go_upto_region 10 with fail
  go_region_held3 (fun V' => V'.cell? ⟨cb, 0, none⟩ = some (.func (.func 63) #[] #[]) ∧ V'.cell? ⟨gg, g3 + 2, none⟩ = some (.slice (some ⟨gd, 0, none⟩) un m.dc) ∧ V'.cell? ⟨V.heap.size, 4, none⟩ = some (.slice (some bx) 1 e.nc) ∧ (V'.cell? bx = some (iv x.id) ∧ V'.cell? ⟨bx.block, bx.off + 1, none⟩ = some (iv x.kind) ∧ V'.cell? ⟨bx.block, bx.off + 2, none⟩ = some (.bool x.pub) ∧ V'.cell? ⟨bx.block, bx.off + 3, none⟩ = some (.slice x.nA x.names.length x.nc) ∧ V'.cell? ⟨bx.block, bx.off + 4, none⟩ = some (.bool x.doubt) ∧ V'.cell? ⟨bx.block, bx.off + 5, none⟩ = some (iv x.body.kind) ∧ V'.cell? ⟨bx.block, bx.off + 6, none⟩ = some (tv x.body.name) ∧ V'.cell? ⟨bx.block, bx.off + 7, none⟩ = some (tv x.body.more) ∧ V'.cell? ⟨bx.block, bx.off + 8, none⟩ = some (iv x.body.int) ∧ V'.cell? ⟨bx.block, bx.off + 9, none⟩ = some (iv x.body.den) ∧ V'.cell? ⟨bx.block, bx.off + 10, none⟩ = some (.slice x.body.A x.body.sub.length x.body.c)))
    (first | with_reducible exact SY.out _ _ (G3.out.trans (gr_drew _)) G6.out | with_reducible exact SX.out _ (G3.out.trans (gr_drew _)) | go_keep)
    (first | (go_at_call 63; (with_reducible refine (C4.out _ (G3.out.trans (gr_drew _))).mono ?_); rintro y w6 ⟨⟨r, rfl⟩, o6, g6⟩; have G6 := Lib.hid g6; have AS6 := Lib.hid (FN.out _ w6 (GW.out.trans (G3.out.trans (gr_drew _))) o6 g6); clear o6 g6))
  go_wp2
  go_ret
  obtain ⟨⟨m', e1, e2⟩, e3⟩ := AS6.out
  exact ⟨rfl, m', e1, e2, e3⟩
end Go.Proofs.YtiaenhlflgobfaaGreatDoor

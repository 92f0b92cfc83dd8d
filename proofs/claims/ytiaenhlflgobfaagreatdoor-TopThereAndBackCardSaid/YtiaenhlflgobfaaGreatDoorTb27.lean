/- Words. -/
import Derived.Test.YtiaenhlflgobfaaGreatDoorTb26
namespace Go.Proofs.YtiaenhlflgobfaaGreatDoor
open Go.RowKit
theorem Zj {V : World} {b : Nat} {d : Dec} (h : V.heap[b]? = some (.cells #[iv d.id,iv d.kind,.bool d.pub,.slice d.nA d.names.length d.nc,.bool d.doubt,iv d.body.kind,tv d.body.name,tv d.body.more,iv d.body.int,iv d.body.den,.slice d.body.A d.body.sub.length d.body.c] 45 (0,0))) : V.cell? ⟨b,0,none⟩ = some (iv d.id) ∧ V.cell? ⟨b,1,none⟩ = some (iv d.kind) ∧ V.cell? ⟨b,2,none⟩ = some (.bool d.pub) ∧ V.cell? ⟨b,3,none⟩ = some (.slice d.nA d.names.length d.nc) ∧ V.cell? ⟨b,4,none⟩ = some (.bool d.doubt) ∧ V.cell? ⟨b,5,none⟩ = some (iv d.body.kind) ∧ V.cell? ⟨b,6,none⟩ = some (tv d.body.name) ∧ V.cell? ⟨b,7,none⟩ = some (tv d.body.more) ∧ V.cell? ⟨b,8,none⟩ = some (iv d.body.int) ∧ V.cell? ⟨b,9,none⟩ = some (iv d.body.den) ∧ V.cell? ⟨b,10,none⟩ = some (.slice d.body.A d.body.sub.length d.body.c):=by
 refine ⟨?_,?_,?_,?_,?_,?_,?_,?_,?_,?_,?_⟩ <;> (rw [Lib.cell_of_heap h];rfl)
theorem decEr (x y : Dec) : x.er = y.er ↔ x.id = y.id ∧ eqHd x.er y.er = true ∧ x.names = y.names ∧ x.body.er = y.body.er:=by
 unfold eqHd Dec.er
 simp only [PD.mk.injEq,Bool.and_eq_true,decide_eq_true_eq,beq_iff_eq]
 constructor
 ·rintro ⟨h1,h2,h3,h4,h5,h6⟩;exact ⟨h1,⟨⟨h2,h3⟩,h5⟩,h4,h6⟩
 ·rintro ⟨h1,⟨⟨h2,h3⟩,h5⟩,h4,h6⟩;exact ⟨h1,h2,h3,h4,h5,h6⟩
set_option maxRecDepth 100000 in
set_option maxHeartbeats 4000000 in
attribute [local irreducible] Calls in
theorem Zf (x y : Dec) (w : World) (hx : x.Rd w) (hy : y.Rd w) (hs : (x.body.er.pre 1).length ≤ 400) : Calls Tryz.prog 52 #[x.v,y.v] w fun e w' => e = .returned (.bool (decide (x.er = y.er))) ∧ Gr w w':=by
 obtain ⟨W,hW⟩ : ∃ W,(w.alloc (.cells #[iv x.id,iv x.kind,.bool x.pub,.slice x.nA x.names.length x.nc,.bool x.doubt,iv x.body.kind,tv x.body.name,tv x.body.more,iv x.body.int,iv x.body.den,.slice x.body.A x.body.sub.length x.body.c] 45)).alloc (.cells #[iv y.id,iv y.kind,.bool y.pub,.slice y.nA y.names.length y.nc,.bool y.doubt,iv y.body.kind,tv y.body.name,tv y.body.more,iv y.body.int,iv y.body.den,.slice y.body.A y.body.sub.length y.body.c] 45) = W:=⟨_,rfl⟩
 have GW:=Qo0 (show Gr w W by rw [← hW];exact (Qa _ _).trans (Qa _ _))
 have BX:=Qo0 (fun V (g : Gr W V) => Zj (d:=x) (V:=V) (b:=w.heap.size) (Qe g (by rw [← hW];exact Qe (Qa _ _) (Qd _ _))))
 have BY:=Qo0 (fun V (g : Gr W V) => Zj (d:=y) (V:=V) (b:=w.heap.size + 1) (Qe g (by rw [← hW];exact Qr _ _ (by simp))))
 have C1:=Qo0 (fun V (_ : Gr W V) => Qef x y V)
 have C2:=Qo0 (fun V (g : Gr W V) => Qiu x.nA x.nc x.names y.nA y.nc y.names V (hx.n.gr (GW.out.trans g)) (hy.n.gr (GW.out.trans g)))
 have C3:=Qo0 (fun V (g : Gr W V) => Qeg x.body y.body V (hx.b.gr (GW.out.trans g)) (hy.b.gr (GW.out.trans g)) hs)
 obtain ⟨r,hr⟩ : ∃ r,decide (x.er = y.er) = r:=⟨_,rfl⟩
 have HR:=Qo0 (show (r = true ↔ x.id = y.id ∧ eqHd x.er y.er = true ∧ x.names = y.names ∧ x.body.er = y.body.er) from by rw [← hr,decide_eq_true_iff];exact decEr x y)
 rw [hr]
 have HW:=Qo0 hW
 clear hx hy hs hr hW
 unfold Dec.v at C1 ⊢
 unfold Ex.v at C3
 obtain ⟨b1,hb1⟩ : ∃ b,eqHd x.er y.er = b:=⟨_,rfl⟩
 obtain ⟨b2,hb2⟩ : ∃ b,decide (x.names = y.names) = b:=⟨_,rfl⟩
 obtain ⟨b3,hb3⟩ : ∃ b,decide (x.body.er = y.body.er) = b:=⟨_,rfl⟩
 rw [hb1] at C1 HR
 simp only [hb2] at C2
 simp only [hb3] at C3
 have HB:=Qo0 (And.intro (show b2 = true ↔ x.names = y.names by rw [← hb2];simp) (show b3 = true ↔ x.body.er = y.body.er by rw [← hb3];simp))
 clear hb1 hb2 hb3
 go_enter Tryz.func52,Tryz.ntmps52
 go_upto_region 1 with fail
 rw [HW.out]
 have GP:=Qc W
 obtain ⟨c0,c1,c2,c3,c4,c5,c6,c7,c8,c9,c10⟩:=BX.out _ GP
 obtain ⟨d0,d1,d2,d3,d4,d5,d6,d7,d8,d9,d10⟩:=BY.out _ GP
 clear GP HW
 by_cases hid : x.id = y.id
 case neg =>
  have p1 : (x.id == y.id) = false:=by simpa using hid
  have hr : r = false:=by cases r with
   | true => exact absurd (HR.out.1 rfl).1 hid
   | false => rfl
  clear hid
  go_wp2
  go_ret
  exact ⟨by rw [hr];rfl,GW.out⟩
 have HID:=Qo0 hid
 have p1 : (x.id == y.id) = true:=by simpa using hid
 clear hid
 cases b1 with
 | false =>
   have hr : r = false:=by cases r with
    | true => exact absurd (HR.out.1 rfl).2.1 (by simp)
    | false => rfl
   clear HR
   go_wp2_with ((go_at_call 95;(with_reducible refine (C1.out _ (Qc _)).mono ?_);rintro e w1 ⟨rfl,g1⟩;clear c0 d0 c1 d1 c2 d2 c3 d3 c4 d4 c5 d5 c6 d6 c7 d7 c8 d8 c9 d9 c10 d10;have G1:=Qo0 (show Gr W w1 from g1);clear g1;have GP:=G1.out;obtain ⟨c0,c1,c2,c3,c4,c5,c6,c7,c8,c9,c10⟩:=BX.out _ GP;obtain ⟨d0,d1,d2,d3,d4,d5,d6,d7,d8,d9,d10⟩:=BY.out _ GP;clear GP;(try dsimp only)))
   go_ret
   exact ⟨by rw [hr];rfl,GW.out.trans G1.out⟩
 | true =>
   cases b2 with
   | false =>
     have hr : r = false:=by cases r with
      | true => exact absurd (HB.out.1.2 (HR.out.1 rfl).2.2.1) (by simp)
      | false => rfl
     clear HR HB
     go_wp2_with (first | (go_at_call 95;(with_reducible refine (C1.out _ (Qc _)).mono ?_);rintro e w1 ⟨rfl,g1⟩;clear c0 d0 c1 d1 c2 d2 c3 d3 c4 d4 c5 d5 c6 d6 c7 d7 c8 d8 c9 d9 c10 d10;have G1:=Qo0 (show Gr W w1 from g1);clear g1;have GP:=G1.out;obtain ⟨c0,c1,c2,c3,c4,c5,c6,c7,c8,c9,c10⟩:=BX.out _ GP;obtain ⟨d0,d1,d2,d3,d4,d5,d6,d7,d8,d9,d10⟩:=BY.out _ GP;clear GP;(try dsimp only)) | (go_at_call 96;(with_reducible refine (C2.out _ G1.out).mono ?_);rintro e w2 ⟨rfl,g2⟩;clear c0 d0 c1 d1 c2 d2 c3 d3 c4 d4 c5 d5 c6 d6 c7 d7 c8 d8 c9 d9 c10 d10;have G2:=Qo0 (show Gr W w2 from G1.out.trans g2);clear g2;have GP:=G2.out;obtain ⟨c0,c1,c2,c3,c4,c5,c6,c7,c8,c9,c10⟩:=BX.out _ GP;obtain ⟨d0,d1,d2,d3,d4,d5,d6,d7,d8,d9,d10⟩:=BY.out _ GP;clear GP;(try dsimp only)))
     go_ret
     exact ⟨by rw [hr];rfl,GW.out.trans G2.out⟩
   | true =>
     have hr : r = b3:=by
      cases b3 with
      | true => exact HR.out.2 ⟨HID.out,rfl,HB.out.1.1 rfl,HB.out.2.1 rfl⟩
      | false => cases r with
        | true => exact absurd (HB.out.2.2 (HR.out.1 rfl).2.2.2) (by simp)
        | false => rfl
     clear HR HB
     go_wp2_with (first | (go_at_call 95;(with_reducible refine (C1.out _ (Qc _)).mono ?_);rintro e w1 ⟨rfl,g1⟩;clear c0 d0 c1 d1 c2 d2 c3 d3 c4 d4 c5 d5 c6 d6 c7 d7 c8 d8 c9 d9 c10 d10;have G1:=Qo0 (show Gr W w1 from g1);clear g1;have GP:=G1.out;obtain ⟨c0,c1,c2,c3,c4,c5,c6,c7,c8,c9,c10⟩:=BX.out _ GP;obtain ⟨d0,d1,d2,d3,d4,d5,d6,d7,d8,d9,d10⟩:=BY.out _ GP;clear GP;(try dsimp only)) | (go_at_call 96;(with_reducible refine (C2.out _ G1.out).mono ?_);rintro e w2 ⟨rfl,g2⟩;clear c0 d0 c1 d1 c2 d2 c3 d3 c4 d4 c5 d5 c6 d6 c7 d7 c8 d8 c9 d9 c10 d10;have G2:=Qo0 (show Gr W w2 from G1.out.trans g2);clear g2;have GP:=G2.out;obtain ⟨c0,c1,c2,c3,c4,c5,c6,c7,c8,c9,c10⟩:=BX.out _ GP;obtain ⟨d0,d1,d2,d3,d4,d5,d6,d7,d8,d9,d10⟩:=BY.out _ GP;clear GP;(try dsimp only)) | (go_at_call 97;(with_reducible refine (C3.out _ G2.out).mono ?_);rintro e w3 ⟨rfl,g3⟩;clear c0 d0 c1 d1 c2 d2 c3 d3 c4 d4 c5 d5 c6 d6 c7 d7 c8 d8 c9 d9 c10 d10;have G3:=Qo0 (show Gr W w3 from G2.out.trans g3);clear g3;have GP:=G3.out;obtain ⟨c0,c1,c2,c3,c4,c5,c6,c7,c8,c9,c10⟩:=BX.out _ GP;obtain ⟨d0,d1,d2,d3,d4,d5,d6,d7,d8,d9,d10⟩:=BY.out _ GP;clear GP;(try dsimp only)))
     go_ret
     exact ⟨by rw [hr];rfl,GW.out.trans G3.out⟩
end Go.Proofs.YtiaenhlflgobfaaGreatDoor

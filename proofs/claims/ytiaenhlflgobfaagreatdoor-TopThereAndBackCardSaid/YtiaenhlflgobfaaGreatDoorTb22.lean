/- Words. -/
import Derived.Test.YtiaenhlflgobfaaGreatDoorTb21
import Derived.Deep.RegionLaw
import Derived.Deep.RegionHeldLaw
namespace Go.Proofs.YtiaenhlflgobfaaGreatDoor
open Go.RowKit
set_option maxRecDepth 100000 in
set_option maxHeartbeats 4000000 in
attribute [local irreducible] Calls in
theorem Qn3 (nm mo : T) (i4 i5 : Int) (a : Addr) (xc : Nat) (y0 z : Ex) (ih0 : AFP y0) (ih : AFP z) : AFP (.mk 8 nm mo i4 i5 (some a) xc [y0,z]):=by
 intro w0 w bA bc B mb K hx g0 hmb hv hB hb hne hm hl
 obtain ⟨XI,hXI⟩ : ∃ x,Ex.mk 8 nm mo i4 i5 (some a) xc [y0,z] = x:=⟨_,rfl⟩
 have SU : XI.sub = [y0,z]:=by rw [← hXI];rfl
 have SA : XI.A = some a:=by rw [← hXI];rfl
 have SN : XI.name = nm ∧ XI.more = mo:=by rw [← hXI];exact ⟨rfl,rfl⟩
 obtain ⟨W,hW⟩ : ∃ W,w.alloc (.cells #[iv 8,tv nm,tv mo,iv i4,iv i5,.slice (some a) 2 xc] 43) = W:=⟨_,rfl⟩
 have GX : Gr w W:=by rw [← hW];exact Qa _ _
 have BX : w.heap.size < W.heap.size:=by rw [← hW];simp
 have LM:=hm.lt
 have CB:=Qo0 (fun V (g : W.grownBy V (some mb)) => show V.cell? ⟨w.heap.size,0,none⟩ = some (iv 8) ∧ V.cell? ⟨w.heap.size,1,none⟩ = some (tv nm) ∧ V.cell? ⟨w.heap.size,2,none⟩ = some (tv mo) ∧ V.cell? ⟨w.heap.size,5,none⟩ = some (.slice (some a) 2 xc) ∧ w.heap.size < V.heap.size from by
  have h0 : W.heap[w.heap.size]? = some (.cells #[iv 8,tv nm,tv mo,iv i4,iv i5,.slice (some a) 2 xc] 43):=by rw [← hW];exact Qd w _
  have h : V.heap[w.heap.size]? = some (.cells #[iv 8,tv nm,tv mo,iv i4,iv i5,.slice (some a) 2 xc] 43):=(g.block _ BX (by intro h;have:=Option.some.inj h;omega)).trans h0
  exact ⟨by rw [Lib.cell_of_heap h];rfl,by rw [Lib.cell_of_heap h];rfl,by rw [Lib.cell_of_heap h];rfl,by rw [Lib.cell_of_heap h];rfl,Qn h⟩)
 have GZ:=fun V (g : W.grownBy V (some mb)) => show Gr w0 V from Zq (g0.trans GX) g (fun k h => by cases h;exact hmb)
 have Yy0:=Qo0 (fun V (g : W.grownBy V (some mb)) => show V.cell? a = some (iv y0.kind) ∧ V.cell? ⟨a.block,a.off + 1,none⟩ = some (tv y0.name) ∧ V.cell? ⟨a.block,a.off + 2,none⟩ = some (tv y0.more) ∧ V.cell? ⟨a.block,a.off + 3,none⟩ = some (iv y0.int) ∧ V.cell? ⟨a.block,a.off + 4,none⟩ = some (iv y0.den) ∧ V.cell? ⟨a.block,a.off + 5,none⟩ = some (.slice y0.A y0.sub.length y0.c) ∧ a.block < V.heap.size from by
  have hs:=(hx.gr (GZ V g)).s
  rw [hXI,SU] at hs
  rw [SA] at hs
  obtain ⟨b,b1,eb,e1,q0,q1,q2,q3,q4,q5,q6,-⟩:=XRd.at hs (k:=0) (by simp)
  cases eb
  rw [Nat.zero_mul,add_zero'] at e1
  subst e1
  exact ⟨q1,q2,q3,q4,q5,q6,q0⟩)
 have Yz:=Qo0 (fun V (g : W.grownBy V (some mb)) => show V.cell? ⟨a.block,a.off + 6,none⟩ = some (iv z.kind) ∧ V.cell? ⟨a.block,a.off + 7,none⟩ = some (tv z.name) ∧ V.cell? ⟨a.block,a.off + 8,none⟩ = some (tv z.more) ∧ V.cell? ⟨a.block,a.off + 9,none⟩ = some (iv z.int) ∧ V.cell? ⟨a.block,a.off + 10,none⟩ = some (iv z.den) ∧ V.cell? ⟨a.block,a.off + 11,none⟩ = some (.slice z.A z.sub.length z.c) ∧ a.block < V.heap.size from by
  have hs:=(hx.gr (GZ V g)).s
  rw [hXI,SU] at hs
  rw [SA] at hs
  obtain ⟨b,b1,eb,e1,q0,q1,q2,q3,q4,q5,q6,-⟩:=XRd.at hs (k:=1) (by simp)
  cases eb
  rw [show a.add (1 * 6) = ⟨a.block,a.off + 6,none⟩ from Qh _ _ (by omega)] at e1
  subst e1
  exact ⟨q1,q2,q3,q4,q5,q6,q0⟩)
 have FR : XI.er.fr B K = z.er.fr (B ++ [nm]) (y0.er.fr B K):=by
  rw [← hXI,Qhg,Zk,Yb,Xa,Yn]
  simp only [Ex.kind,Ex.name,Ex.more,Ex.sub,ers_cons,ers_nil]
  rw [if_neg (by decide)]
  repeat rw [Qa1]
  rw [Qca]
  simp [bnd]
 rw [hXI] at hx hv hB ⊢
 have hxs:=hx.s
 rw [SU] at hxs
 have Cy0:=Qo0 (fun V (g : W.grownBy V (some mb)) K' (h1 : MP tv V mb (Q1 K')) (h2 : LK sOk (Q1 K')) => ih0 w0 V bA bc B mb K' (XRd.hs hxs y0 (by simp)) (GZ V g) hmb (fun q hq => hv q ((Yg (x:=XI) (y:=y0) (by rw [SU];simp)).1 q hq)) (by have:=(Yg (x:=XI) (y:=y0) (by rw [SU];simp)).2;omega) ((hb.gr GX).but g (fun a e => by have:=hne a e;simpa using this)) hne h1 h2)
 have CY:=Qo0 (fun V (g : W.grownBy V (some mb)) (K' : List T) (h1 : MP tv V mb (Q1 K')) (h2 : LK sOk (Q1 K')) (v : Value) (base : Nat) (hbase : w.heap.size ≤ base) (h3 : OR 9 1 scs V base v (B ++ [nm])) => show ∃ vA vc,v = .slice vA (B.length + 1) vc ∧ Calls Tryz.prog 183 #[z.v,.slice vA (B.length + 1) vc,.map (some mb)] V (AFE z.er (B ++ [nm]) K' mb V) from by
  obtain ⟨vA,vc,ev,hr,h2',h3',h4,h5⟩:=h3.form2 Yy
  have hlen : (B ++ [nm]).length = B.length + 1:=by simp
  rw [hlen] at ev h2'
  refine ⟨vA,vc,ev,?_⟩
  have hsn:=SN
  have hxn : sOk nm ∧ sOk mo:=by rw [← SN.1,← SN.2];exact ⟨hx.n,hx.m⟩
  have h:=ih w0 V vA vc (B ++ [nm]) mb K' (XRd.hs hxs z (by simp)) (GZ V g) hmb (fun q hq => hv q ((Yg (x:=XI) (y:=z) (by rw [SU];simp)).1 q hq)) (by have:=(Yg (x:=XI) (y:=z) (by rw [SU];simp)).2;simp;omega) ⟨⟨by rw [hlen];exact h2',h3',h4,hr⟩,fun s hs => by
   rcases List.mem_append.1 hs with hs | hs
   ·exact hb.ok s hs
   ·simp only [List.mem_cons,List.not_mem_nil,or_false] at hs
    first | (rcases hs with rfl | rfl;exact hxn.1;exact hxn.2) | (rw [hs];exact hxn.1)⟩ (fun q hq => by have:=(h5 q hq).1;omega) h1 h2
  rw [hlen] at h
  exact h)
 have CL:=Qo0 (fun V (g : W.grownBy V (some mb)) => Qaj bA bc B V (((hb.gr GX).but g (fun a e => by have:=hne a e;simpa using this)).r) (by omega))
 have BL:=Qo0 (show B.length ≤ 1000 by omega)
 have WS:=Qo0 (show w.heap.size + 1 = W.heap.size by rw [← hW];simp)
 have GXH:=Qo0 GX
 have M0:=Qo0 (And.intro (Qe GX hm) hl)
 have LT:=Qo0 LM
 unfold AFE
 rw [FR]
 unfold AFE at CY Cy0
 unfold Ex.v at CY Cy0
 rw [← hXI]
 show Calls Tryz.prog 183 #[.agg #[iv 8,tv nm,tv mo,iv i4,iv i5,.slice (some a) 2 xc],.slice bA B.length bc,.map (some mb)] w _
 clear hXI SU SA SN FR hv hB hb hne hm hl ih ih0 hx hxs g0 hmb GZ GX BX LM
 obtain ⟨n,hn⟩ : ∃ n,B.length = n:=⟨_,rfl⟩
 have HN:=Qo0 hn
 rw [hn] at CY Cy0 CL BL ⊢
 clear hn
 obtain ⟨c0,c1,c2,c5,cb⟩:=CB.out _ (World.grownBy.refl _ _)
 obtain ⟨dy00,dy01,dy02,dy03,dy04,dy05,dy0b⟩:=Yy0.out _ (World.grownBy.refl _ _)
 go_enter Tryz.func183,Tryz.ntmps183
 go_upto_region 1 with fail
 clear hW
 go_upto_region 8 with fail
 have K0:=Qo0 (Cy0.out _ (World.grownBy.refl _ _) _ M0.out.1 M0.out.2)
 go_upto_region 9 with (go_at_call 183;(with_reducible refine K0.out.mono ?_);rintro e u0 ⟨⟨r0,rfl⟩,g,m,l⟩;have GB0:=Qo0 (show W.grownBy u0 (some mb) ∧ MP tv u0 mb (Q1 (y0.er.fr B K)) ∧ LK sOk (Q1 (y0.er.fr B K)) from ⟨g,m,l⟩);clear g m l)
 clear c0 c1 c2 c5 cb dy00 dy01 dy02 dy03 dy04 dy05 dy0b K0
 have GB:=Qo0 GB0.out.1
 have LTW:=Qo0 (show w.heap.size < u0.heap.size from (CB.out _ GB.out).2.2.2.2)
 have CB2:=Qo0 (fun V (g : Gr u0 V) => CB.out V (GB.out.trans (World.grownBy.but g _)))
 have YA:=Qo0 (fun V (g : Gr u0 V) => Yz.out V (GB.out.trans (World.grownBy.but g _)))
 have CB0:=CB
 have YZ0:=Yz
 have CL2:=Qo0 (fun V (g : Gr u0 V) => CL.out V (GB.out.trans (World.grownBy.but g _)))
 have CY2:=Qo0 (fun V (g : Gr u0 V) => CY.out V (GB.out.trans (World.grownBy.but g _)) _ (Qe g GB0.out.2.1) GB0.out.2.2)
 clear CB CL CY Yy0 Cy0 Yz GB0 WS M0
 have WS:=LTW
 have CBG:=Qo0 (fun V (g : u0.grownBy V (some mb)) => CB0.out V (GB.out.trans g))
 have YAG:=Qo0 (fun V (g : u0.grownBy V (some mb)) => YZ0.out V (GB.out.trans g))
 clear CB0 YZ0
 have CB:=CB2
 have CL:=CL2
 have CY:=CY2
 clear CB2 CL2 CY2
 obtain ⟨W0,hW0⟩ : ∃ V,W = V:=⟨_,rfl⟩
 rw [hW0] at GB GXH
 clear hW0
 clear LT
 generalize u0 = W at *
 have SS:=Qo0 (fun V (g : W.grownBy V (some mb)) => show V.cell? ⟨w.heap.size,1,none⟩ = some (tv nm) ∧ V.cell? ⟨w.heap.size,2,none⟩ = some (tv mo) ∧ V.cell? ⟨w.heap.size,5,none⟩ = some (.slice (some a) 2 xc) ∧ V.cell? ⟨a.block,a.off + 6,none⟩ = some (iv z.kind) ∧ V.cell? ⟨a.block,a.off + 7,none⟩ = some (tv z.name) ∧ V.cell? ⟨a.block,a.off + 8,none⟩ = some (tv z.more) ∧ V.cell? ⟨a.block,a.off + 9,none⟩ = some (iv z.int) ∧ V.cell? ⟨a.block,a.off + 10,none⟩ = some (iv z.den) ∧ V.cell? ⟨a.block,a.off + 11,none⟩ = some (.slice z.A z.sub.length z.c) from by
  obtain ⟨-,p1,p2,p3,-⟩:=CBG.out V g
  obtain ⟨q0,q1,q2,q3,q4,q5,-⟩:=YAG.out V g
  exact ⟨p1,p2,p3,q0,q1,q2,q3,q4,q5⟩)
 clear CB YA CBG YAG
 go_region_held_law (fun V => V.cell? ⟨w.heap.size,1,none⟩ = some (tv nm) ∧ V.cell? ⟨w.heap.size,2,none⟩ = some (tv mo) ∧ V.cell? ⟨w.heap.size,5,none⟩ = some (.slice (some a) 2 xc) ∧ V.cell? ⟨a.block,a.off + 6,none⟩ = some (iv z.kind) ∧ V.cell? ⟨a.block,a.off + 7,none⟩ = some (tv z.name) ∧ V.cell? ⟨a.block,a.off + 8,none⟩ = some (tv z.more) ∧ V.cell? ⟨a.block,a.off + 9,none⟩ = some (iv z.int) ∧ V.cell? ⟨a.block,a.off + 10,none⟩ = some (iv z.den) ∧ V.cell? ⟨a.block,a.off + 11,none⟩ = some (.slice z.A z.sub.length z.c))
  (first
    | exact SS.out _ ((World.grownBy.but G7.out _).trans M8.out.1)
    | exact SS.out _ (World.grownBy.but G7.out _)
    | exact SS.out _ (World.grownBy.but (G1.out.trans (Qa _ _)) _)
    | exact SS.out _ (World.grownBy.but G1.out _)
    | exact SS.out _ (World.grownBy.but ((Qb _).trans (Qa _ _)) _)
    | exact SS.out _ (World.grownBy.but (Qb _) _))
  (first
  | (refine Xq elS rfl (.tmp 48) (.tmp 51) rfl W.heap.size (v:=v1) (L:=B) rfl (by first | exact O1.out | exact O1.out.alloc _) (A:=some ⟨_,0,none⟩) (M:=[nm]) (m:=1) (c:=1) rfl rfl (Qj (t:=9) elS.hn (by first | exact Qd _ _ | exact Qe GC.out (Qd _ _))) (by have:=BL.out;have:=HN.out;simp;omega) (by have:=G1.out.size;first | omega | (simp;omega)) ?_
     intro v7 w7 o7 g7 b7
     have G7:=Qo0 (show Gr W w7 from OR.grow (by first | exact G1.out | exact G1.out.trans (Qa _ _)) (by first | exact O1.out | exact O1.out.alloc _) (Nat.le_refl _) g7)
     obtain ⟨vA,vc,rfl,CC⟩:=CY.out w7 G7.out v7 W.heap.size (by have:=WS.out;omega) o7
     have CC:=Qo0 CC
     clear o7 g7 b7)
  | (go_simp;go_at_call 26;refine (CL.out _ (by first | exact Qb _ | exact (Qb _).trans (Qa _ _))).mono ?_;rintro e w1 ⟨v1,rfl,o1,g1⟩
     have O1:=Qo0 (Xr o1 (b':=W.heap.size) (by simp))
     have G1:=Qo0 (show Gr W w1 from by first | exact (Qb _).trans g1 | exact ((Qb _).trans (Qa _ _)).trans g1)
     have GC:=Qo0 g1
     clear o1 g1)
  | (go_simp;go_at_call 183;refine CC.out.mono ?_;rintro e w8 ⟨⟨r8,rfl⟩,g8,m8,l8⟩;have M8:=Qo0 (And.intro g8 (And.intro m8 l8));clear g8 m8 l8))
 all_goals go_wp2
 all_goals (first | go_end0 | refine bodyPost_ret (results_none rfl _ _ _) rfl ?_)
 all_goals exact ⟨⟨_,rfl⟩,((World.grownBy.but GXH.out _).trans (GB.out.trans (World.grownBy.but G7.out _))).trans M8.out.1,M8.out.2.1,M8.out.2.2⟩
set_option maxRecDepth 100000 in
set_option maxHeartbeats 4000000 in
attribute [local irreducible] Calls in
theorem Qlw (nm mo : T) (i4 i5 : Int) (a : Addr) (xc : Nat) (y0 y1 z : Ex) (ih0 : AFP y0) (ih1 : AFP y1) (ih : AFP z) : AFP (.mk 13 nm mo i4 i5 (some a) xc [y0,y1,z]):=by
 intro w0 w bA bc B mb K hx g0 hmb hv hB hb hne hm hl
 obtain ⟨XI,hXI⟩ : ∃ x,Ex.mk 13 nm mo i4 i5 (some a) xc [y0,y1,z] = x:=⟨_,rfl⟩
 have SU : XI.sub = [y0,y1,z]:=by rw [← hXI];rfl
 have SA : XI.A = some a:=by rw [← hXI];rfl
 have SN : XI.name = nm ∧ XI.more = mo:=by rw [← hXI];exact ⟨rfl,rfl⟩
 obtain ⟨W,hW⟩ : ∃ W,w.alloc (.cells #[iv 13,tv nm,tv mo,iv i4,iv i5,.slice (some a) 3 xc] 43) = W:=⟨_,rfl⟩
 have GX : Gr w W:=by rw [← hW];exact Qa _ _
 have BX : w.heap.size < W.heap.size:=by rw [← hW];simp
 have LM:=hm.lt
 have CB:=Qo0 (fun V (g : W.grownBy V (some mb)) => show V.cell? ⟨w.heap.size,0,none⟩ = some (iv 13) ∧ V.cell? ⟨w.heap.size,1,none⟩ = some (tv nm) ∧ V.cell? ⟨w.heap.size,2,none⟩ = some (tv mo) ∧ V.cell? ⟨w.heap.size,5,none⟩ = some (.slice (some a) 3 xc) ∧ w.heap.size < V.heap.size from by
  have h0 : W.heap[w.heap.size]? = some (.cells #[iv 13,tv nm,tv mo,iv i4,iv i5,.slice (some a) 3 xc] 43):=by rw [← hW];exact Qd w _
  have h : V.heap[w.heap.size]? = some (.cells #[iv 13,tv nm,tv mo,iv i4,iv i5,.slice (some a) 3 xc] 43):=(g.block _ BX (by intro h;have:=Option.some.inj h;omega)).trans h0
  exact ⟨by rw [Lib.cell_of_heap h];rfl,by rw [Lib.cell_of_heap h];rfl,by rw [Lib.cell_of_heap h];rfl,by rw [Lib.cell_of_heap h];rfl,Qn h⟩)
 have GZ:=fun V (g : W.grownBy V (some mb)) => show Gr w0 V from Zq (g0.trans GX) g (fun k h => by cases h;exact hmb)
 have Yy0:=Qo0 (fun V (g : W.grownBy V (some mb)) => show V.cell? a = some (iv y0.kind) ∧ V.cell? ⟨a.block,a.off + 1,none⟩ = some (tv y0.name) ∧ V.cell? ⟨a.block,a.off + 2,none⟩ = some (tv y0.more) ∧ V.cell? ⟨a.block,a.off + 3,none⟩ = some (iv y0.int) ∧ V.cell? ⟨a.block,a.off + 4,none⟩ = some (iv y0.den) ∧ V.cell? ⟨a.block,a.off + 5,none⟩ = some (.slice y0.A y0.sub.length y0.c) ∧ a.block < V.heap.size from by
  have hs:=(hx.gr (GZ V g)).s
  rw [hXI,SU] at hs
  rw [SA] at hs
  obtain ⟨b,b1,eb,e1,q0,q1,q2,q3,q4,q5,q6,-⟩:=XRd.at hs (k:=0) (by simp)
  cases eb
  rw [Nat.zero_mul,add_zero'] at e1
  subst e1
  exact ⟨q1,q2,q3,q4,q5,q6,q0⟩)
 have Yy1:=Qo0 (fun V (g : W.grownBy V (some mb)) => show V.cell? ⟨a.block,a.off + 6,none⟩ = some (iv y1.kind) ∧ V.cell? ⟨a.block,a.off + 7,none⟩ = some (tv y1.name) ∧ V.cell? ⟨a.block,a.off + 8,none⟩ = some (tv y1.more) ∧ V.cell? ⟨a.block,a.off + 9,none⟩ = some (iv y1.int) ∧ V.cell? ⟨a.block,a.off + 10,none⟩ = some (iv y1.den) ∧ V.cell? ⟨a.block,a.off + 11,none⟩ = some (.slice y1.A y1.sub.length y1.c) ∧ a.block < V.heap.size from by
  have hs:=(hx.gr (GZ V g)).s
  rw [hXI,SU] at hs
  rw [SA] at hs
  obtain ⟨b,b1,eb,e1,q0,q1,q2,q3,q4,q5,q6,-⟩:=XRd.at hs (k:=1) (by simp)
  cases eb
  rw [show a.add (1 * 6) = ⟨a.block,a.off + 6,none⟩ from Qh _ _ (by omega)] at e1
  subst e1
  exact ⟨q1,q2,q3,q4,q5,q6,q0⟩)
 have Yz:=Qo0 (fun V (g : W.grownBy V (some mb)) => show V.cell? ⟨a.block,a.off + 12,none⟩ = some (iv z.kind) ∧ V.cell? ⟨a.block,a.off + 13,none⟩ = some (tv z.name) ∧ V.cell? ⟨a.block,a.off + 14,none⟩ = some (tv z.more) ∧ V.cell? ⟨a.block,a.off + 15,none⟩ = some (iv z.int) ∧ V.cell? ⟨a.block,a.off + 16,none⟩ = some (iv z.den) ∧ V.cell? ⟨a.block,a.off + 17,none⟩ = some (.slice z.A z.sub.length z.c) ∧ a.block < V.heap.size from by
  have hs:=(hx.gr (GZ V g)).s
  rw [hXI,SU] at hs
  rw [SA] at hs
  obtain ⟨b,b1,eb,e1,q0,q1,q2,q3,q4,q5,q6,-⟩:=XRd.at hs (k:=2) (by simp)
  cases eb
  rw [show a.add (2 * 6) = ⟨a.block,a.off + 12,none⟩ from Qh _ _ (by omega)] at e1
  subst e1
  exact ⟨q1,q2,q3,q4,q5,q6,q0⟩)
 have FR : XI.er.fr B K = z.er.fr (B ++ [nm,mo]) (y1.er.fr B (y0.er.fr B K)):=by
  rw [← hXI,Qhg,Zk,Yb,Xa,Yn]
  simp only [Ex.kind,Ex.name,Ex.more,Ex.sub,ers_cons,ers_nil]
  rw [if_neg (by decide)]
  repeat rw [Qa1]
  rw [Qca]
  simp [bnd]
 rw [hXI] at hx hv hB ⊢
 have hxs:=hx.s
 rw [SU] at hxs
 have Cy0:=Qo0 (fun V (g : W.grownBy V (some mb)) K' (h1 : MP tv V mb (Q1 K')) (h2 : LK sOk (Q1 K')) => ih0 w0 V bA bc B mb K' (XRd.hs hxs y0 (by simp)) (GZ V g) hmb (fun q hq => hv q ((Yg (x:=XI) (y:=y0) (by rw [SU];simp)).1 q hq)) (by have:=(Yg (x:=XI) (y:=y0) (by rw [SU];simp)).2;omega) ((hb.gr GX).but g (fun a e => by have:=hne a e;simpa using this)) hne h1 h2)
 have Cy1:=Qo0 (fun V (g : W.grownBy V (some mb)) K' (h1 : MP tv V mb (Q1 K')) (h2 : LK sOk (Q1 K')) => ih1 w0 V bA bc B mb K' (XRd.hs hxs y1 (by simp)) (GZ V g) hmb (fun q hq => hv q ((Yg (x:=XI) (y:=y1) (by rw [SU];simp)).1 q hq)) (by have:=(Yg (x:=XI) (y:=y1) (by rw [SU];simp)).2;omega) ((hb.gr GX).but g (fun a e => by have:=hne a e;simpa using this)) hne h1 h2)
 have CY:=Qo0 (fun V (g : W.grownBy V (some mb)) (K' : List T) (h1 : MP tv V mb (Q1 K')) (h2 : LK sOk (Q1 K')) (v : Value) (base : Nat) (hbase : w.heap.size ≤ base) (h3 : OR 9 1 scs V base v (B ++ [nm,mo])) => show ∃ vA vc,v = .slice vA (B.length + 2) vc ∧ Calls Tryz.prog 183 #[z.v,.slice vA (B.length + 2) vc,.map (some mb)] V (AFE z.er (B ++ [nm,mo]) K' mb V) from by
  obtain ⟨vA,vc,ev,hr,h2',h3',h4,h5⟩:=h3.form2 Yy
  have hlen : (B ++ [nm,mo]).length = B.length + 2:=by simp
  rw [hlen] at ev h2'
  refine ⟨vA,vc,ev,?_⟩
  have hsn:=SN
  have hxn : sOk nm ∧ sOk mo:=by rw [← SN.1,← SN.2];exact ⟨hx.n,hx.m⟩
  have h:=ih w0 V vA vc (B ++ [nm,mo]) mb K' (XRd.hs hxs z (by simp)) (GZ V g) hmb (fun q hq => hv q ((Yg (x:=XI) (y:=z) (by rw [SU];simp)).1 q hq)) (by have:=(Yg (x:=XI) (y:=z) (by rw [SU];simp)).2;simp;omega) ⟨⟨by rw [hlen];exact h2',h3',h4,hr⟩,fun s hs => by
   rcases List.mem_append.1 hs with hs | hs
   ·exact hb.ok s hs
   ·simp only [List.mem_cons,List.not_mem_nil,or_false] at hs
    first | (rcases hs with rfl | rfl;exact hxn.1;exact hxn.2) | (rw [hs];exact hxn.1)⟩ (fun q hq => by have:=(h5 q hq).1;omega) h1 h2
  rw [hlen] at h
  exact h)
 have CL:=Qo0 (fun V (g : W.grownBy V (some mb)) => Qaj bA bc B V (((hb.gr GX).but g (fun a e => by have:=hne a e;simpa using this)).r) (by omega))
 have BL:=Qo0 (show B.length ≤ 1000 by omega)
 have WS:=Qo0 (show w.heap.size + 1 = W.heap.size by rw [← hW];simp)
 have GXH:=Qo0 GX
 have M0:=Qo0 (And.intro (Qe GX hm) hl)
 have LT:=Qo0 LM
 unfold AFE
 rw [FR]
 unfold AFE at CY Cy0 Cy1
 unfold Ex.v at CY Cy0 Cy1
 rw [← hXI]
 show Calls Tryz.prog 183 #[.agg #[iv 13,tv nm,tv mo,iv i4,iv i5,.slice (some a) 3 xc],.slice bA B.length bc,.map (some mb)] w _
 clear hXI SU SA SN FR hv hB hb hne hm hl ih ih0 ih1 hx hxs g0 hmb GZ GX BX LM
 obtain ⟨n,hn⟩ : ∃ n,B.length = n:=⟨_,rfl⟩
 have HN:=Qo0 hn
 rw [hn] at CY Cy0 Cy1 CL BL ⊢
 clear hn
 obtain ⟨c0,c1,c2,c5,cb⟩:=CB.out _ (World.grownBy.refl _ _)
 obtain ⟨dy00,dy01,dy02,dy03,dy04,dy05,dy0b⟩:=Yy0.out _ (World.grownBy.refl _ _)
 go_enter Tryz.func183,Tryz.ntmps183
 go_upto_region 1 with fail
 clear hW
 go_upto_region 11 with fail
 have K0:=Qo0 (Cy0.out _ (World.grownBy.refl _ _) _ M0.out.1 M0.out.2)
 go_upto_region 12 with (go_at_call 183;(with_reducible refine K0.out.mono ?_);rintro e u0 ⟨⟨r0,rfl⟩,g,m,l⟩;have GB0:=Qo0 (show W.grownBy u0 (some mb) ∧ MP tv u0 mb (Q1 (y0.er.fr B K)) ∧ LK sOk (Q1 (y0.er.fr B K)) from ⟨g,m,l⟩);clear g m l)
 clear c0 c1 c2 c5 cb dy00 dy01 dy02 dy03 dy04 dy05 dy0b K0
 obtain ⟨c0,c1,c2,c5,cb⟩:=CB.out _ GB0.out.1
 obtain ⟨dy10,dy11,dy12,dy13,dy14,dy15,dy1b⟩:=Yy1.out _ GB0.out.1
 have K1:=Qo0 (Cy1.out _ GB0.out.1 _ GB0.out.2.1 GB0.out.2.2)
 go_upto_region 13 with (go_at_call 183;(with_reducible refine K1.out.mono ?_);rintro e u1 ⟨⟨r1,rfl⟩,g,m,l⟩;have GB1:=Qo0 (show W.grownBy u1 (some mb) ∧ MP tv u1 mb (Q1 (y1.er.fr B (y0.er.fr B K))) ∧ LK sOk (Q1 (y1.er.fr B (y0.er.fr B K))) from ⟨GB0.out.1.trans g,m,l⟩);clear g m l)
 clear c0 c1 c2 c5 cb dy10 dy11 dy12 dy13 dy14 dy15 dy1b K1
 have GB:=Qo0 GB1.out.1
 have LTW:=Qo0 (show w.heap.size < u1.heap.size from (CB.out _ GB.out).2.2.2.2)
 have CB2:=Qo0 (fun V (g : Gr u1 V) => CB.out V (GB.out.trans (World.grownBy.but g _)))
 have YA:=Qo0 (fun V (g : Gr u1 V) => Yz.out V (GB.out.trans (World.grownBy.but g _)))
 have CB0:=CB
 have YZ0:=Yz
 have CL2:=Qo0 (fun V (g : Gr u1 V) => CL.out V (GB.out.trans (World.grownBy.but g _)))
 have CY2:=Qo0 (fun V (g : Gr u1 V) => CY.out V (GB.out.trans (World.grownBy.but g _)) _ (Qe g GB1.out.2.1) GB1.out.2.2)
 clear CB CL CY Yy0 Cy0 Yy1 Cy1 Yz GB0 GB1 WS M0
 have WS:=LTW
 have CBG:=Qo0 (fun V (g : u1.grownBy V (some mb)) => CB0.out V (GB.out.trans g))
 have YAG:=Qo0 (fun V (g : u1.grownBy V (some mb)) => YZ0.out V (GB.out.trans g))
 clear CB0 YZ0
 have CB:=CB2
 have CL:=CL2
 have CY:=CY2
 clear CB2 CL2 CY2
 obtain ⟨W0,hW0⟩ : ∃ V,W = V:=⟨_,rfl⟩
 rw [hW0] at GB GXH
 clear hW0
 clear LT
 generalize u1 = W at *
 have SS:=Qo0 (fun V (g : W.grownBy V (some mb)) => show V.cell? ⟨w.heap.size,1,none⟩ = some (tv nm) ∧ V.cell? ⟨w.heap.size,2,none⟩ = some (tv mo) ∧ V.cell? ⟨w.heap.size,5,none⟩ = some (.slice (some a) 3 xc) ∧ V.cell? ⟨a.block,a.off + 12,none⟩ = some (iv z.kind) ∧ V.cell? ⟨a.block,a.off + 13,none⟩ = some (tv z.name) ∧ V.cell? ⟨a.block,a.off + 14,none⟩ = some (tv z.more) ∧ V.cell? ⟨a.block,a.off + 15,none⟩ = some (iv z.int) ∧ V.cell? ⟨a.block,a.off + 16,none⟩ = some (iv z.den) ∧ V.cell? ⟨a.block,a.off + 17,none⟩ = some (.slice z.A z.sub.length z.c) from by
  obtain ⟨-,p1,p2,p3,-⟩:=CBG.out V g
  obtain ⟨q0,q1,q2,q3,q4,q5,-⟩:=YAG.out V g
  exact ⟨p1,p2,p3,q0,q1,q2,q3,q4,q5⟩)
 clear CB YA CBG YAG
 go_region_held_law (fun V => V.cell? ⟨w.heap.size,1,none⟩ = some (tv nm) ∧ V.cell? ⟨w.heap.size,2,none⟩ = some (tv mo) ∧ V.cell? ⟨w.heap.size,5,none⟩ = some (.slice (some a) 3 xc) ∧ V.cell? ⟨a.block,a.off + 12,none⟩ = some (iv z.kind) ∧ V.cell? ⟨a.block,a.off + 13,none⟩ = some (tv z.name) ∧ V.cell? ⟨a.block,a.off + 14,none⟩ = some (tv z.more) ∧ V.cell? ⟨a.block,a.off + 15,none⟩ = some (iv z.int) ∧ V.cell? ⟨a.block,a.off + 16,none⟩ = some (iv z.den) ∧ V.cell? ⟨a.block,a.off + 17,none⟩ = some (.slice z.A z.sub.length z.c))
  (first
    | exact SS.out _ ((World.grownBy.but G7.out _).trans M8.out.1)
    | exact SS.out _ (World.grownBy.but G7.out _)
    | exact SS.out _ (World.grownBy.but (G1.out.trans (Qa _ _)) _)
    | exact SS.out _ (World.grownBy.but G1.out _)
    | exact SS.out _ (World.grownBy.but ((Qb _).trans (Qa _ _)) _)
    | exact SS.out _ (World.grownBy.but (Qb _) _))
  (first
  | (refine Xq elS rfl (.tmp 76) (.tmp 81) rfl W.heap.size (v:=v1) (L:=B) rfl (by first | exact O1.out | exact O1.out.alloc _) (A:=some ⟨_,0,none⟩) (M:=[nm,mo]) (m:=2) (c:=2) rfl rfl (Qj (t:=9) elS.hn (by first | exact Qd _ _ | exact Qe GC.out (Qd _ _))) (by have:=BL.out;have:=HN.out;simp;omega) (by have:=G1.out.size;first | omega | (simp;omega)) ?_
     intro v7 w7 o7 g7 b7
     have G7:=Qo0 (show Gr W w7 from OR.grow (by first | exact G1.out | exact G1.out.trans (Qa _ _)) (by first | exact O1.out | exact O1.out.alloc _) (Nat.le_refl _) g7)
     obtain ⟨vA,vc,rfl,CC⟩:=CY.out w7 G7.out v7 W.heap.size (by have:=WS.out;omega) o7
     have CC:=Qo0 CC
     clear o7 g7 b7)
  | (go_simp;go_at_call 26;refine (CL.out _ (by first | exact Qb _ | exact (Qb _).trans (Qa _ _))).mono ?_;rintro e w1 ⟨v1,rfl,o1,g1⟩
     have O1:=Qo0 (Xr o1 (b':=W.heap.size) (by simp))
     have G1:=Qo0 (show Gr W w1 from by first | exact (Qb _).trans g1 | exact ((Qb _).trans (Qa _ _)).trans g1)
     have GC:=Qo0 g1
     clear o1 g1)
  | (go_simp;go_at_call 183;refine CC.out.mono ?_;rintro e w8 ⟨⟨r8,rfl⟩,g8,m8,l8⟩;have M8:=Qo0 (And.intro g8 (And.intro m8 l8));clear g8 m8 l8))
 all_goals go_wp2
 all_goals (first | go_end0 | refine bodyPost_ret (results_none rfl _ _ _) rfl ?_)
 all_goals exact ⟨⟨_,rfl⟩,((World.grownBy.but GXH.out _).trans (GB.out.trans (World.grownBy.but G7.out _))).trans M8.out.1,M8.out.2.1,M8.out.2.2⟩
theorem Qfp (e : PE) : e ∈ nd e:=by rw [nd_eq];exact List.mem_cons_self
theorem Qfy (l : List Ex) : (ers l).length = l.length:=by rw [Ym,List.length_map]
theorem Qh0 (x : Ex) : AFP x:=by
 refine Ex.ind (P:=AFP) (fun x ih => ?_) x
 by_cases h3 : x.kind = 3
 ·exact Qn2 x h3
 by_cases h6 : x.kind = 6
 ·intro w0 w bA bc B mb K hx g0 hmb hv hB hb hne hm hl
  have hlen:=Qf6 (e:=x.er) (by rw [Zk,h6];rfl) (hv _ (Qfp _))
  rw [Yn,Qfy] at hlen
  cases x with
  | mk k nm mo i4 i5 A xc l =>
    have h6' : k = 6:=h6
    subst h6'
    match l,hlen,ih,hx with
    | [y],_,ih,hx =>
      obtain ⟨a,a1,ea,-⟩:=XRd.at hx.s (k:=0) (by simp [Ex.sub])
      have ea : A = some a:=ea
      subst ea
      exact Qn4 nm mo i4 i5 a xc y (ih y (by simp [Ex.sub])) w0 w bA bc B mb K hx g0 hmb hv hB hb hne hm hl
    | [],h,_,_ => exact absurd h (by simp [Ex.sub])
    | _ :: _ :: _,h,_,_ => exact absurd h (by simp [Ex.sub];omega)
 by_cases h8 : x.kind = 8
 ·intro w0 w bA bc B mb K hx g0 hmb hv hB hb hne hm hl
  have hlen:=Qf6 (e:=x.er) (by rw [Zk,h8];rfl) (hv _ (Qfp _))
  rw [Yn,Qfy] at hlen
  cases x with
  | mk k nm mo i4 i5 A xc l =>
    have h8' : k = 8:=h8
    subst h8'
    match l,hlen,ih,hx with
    | [y,z],_,ih,hx =>
      obtain ⟨a,a1,ea,-⟩:=XRd.at hx.s (k:=0) (by simp [Ex.sub])
      have ea : A = some a:=ea
      subst ea
      exact Qn3 nm mo i4 i5 a xc y z (ih y (by simp [Ex.sub])) (ih z (by simp [Ex.sub])) w0 w bA bc B mb K hx g0 hmb hv hB hb hne hm hl
    | [],h,_,_ => exact absurd h (by simp [Ex.sub])
    | [_],h,_,_ => exact absurd h (by simp [Ex.sub])
    | _ :: _ :: _ :: _,h,_,_ => exact absurd h (by simp [Ex.sub];omega)
 by_cases h13 : x.kind = 13
 ·intro w0 w bA bc B mb K hx g0 hmb hv hB hb hne hm hl
  have hlen:=Qf6 (e:=x.er) (by rw [Zk,h13];rfl) (hv _ (Qfp _))
  rw [Yn,Qfy] at hlen
  cases x with
  | mk k nm mo i4 i5 A xc l =>
    have h13' : k = 13:=h13
    subst h13'
    match l,hlen,ih,hx with
    | [x,y,z],_,ih,hx =>
      obtain ⟨a,a1,ea,-⟩:=XRd.at hx.s (k:=0) (by simp [Ex.sub])
      have ea : A = some a:=ea
      subst ea
      exact Qlw nm mo i4 i5 a xc x y z (ih x (by simp [Ex.sub])) (ih y (by simp [Ex.sub])) (ih z (by simp [Ex.sub])) w0 w bA bc B mb K hx g0 hmb hv hB hb hne hm hl
    | [],h,_,_ => exact absurd h (by simp [Ex.sub])
    | [_],h,_,_ => exact absurd h (by simp [Ex.sub])
    | [_,_],h,_,_ => exact absurd h (by simp [Ex.sub])
    | _ :: _ :: _ :: _ :: _,h,_,_ => exact absurd h (by simp [Ex.sub];omega)
 exact Qlv x h3 h6 h8 h13 ih
end Go.Proofs.YtiaenhlflgobfaaGreatDoor

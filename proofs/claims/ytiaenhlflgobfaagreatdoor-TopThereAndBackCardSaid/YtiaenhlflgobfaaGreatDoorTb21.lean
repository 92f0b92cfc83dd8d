/- Words. -/
import Derived.Test.YtiaenhlflgobfaaGreatDoorTb19
import Derived.Deep.RegionLaw
namespace Go.Proofs.YtiaenhlflgobfaaGreatDoor
open Go.RowKit
theorem Qf6 {e : PE} {a b c : Int} (h : shp e.kind = some (a,b,c)) (h0 : ckN e = 0) : (e.sub.length : Int) = c:=by
 rw [ckN_of h] at h0
 split at h0
 ·cases h0
 ·rename_i h1
  exact Classical.byContradiction fun k => h1 (.inr (.inr (.inr (.inr k))))
theorem Xr {α : Type} {e : TypeId} {n : Nat} {cs : α → List Value} {w : World} {b b' : Nat} {v : Value} {L : List α} (h : OR e n cs w b v L) (hb : b' ≤ b) : OR e n cs w b' v L:=by
 refine ⟨h.1,?_⟩
 rcases h.2 with h1 | ⟨g,cap,cur,e1,hg,rest⟩
 ·exact .inl h1
 ·exact .inr ⟨g,cap,cur,e1,Nat.le_trans hb hg,rest⟩
set_option maxRecDepth 100000 in
set_option maxHeartbeats 4000000 in
attribute [local irreducible] Calls in
theorem Qn4 (nm mo : T) (i4 i5 : Int) (a : Addr) (xc : Nat) (y : Ex) (ih : AFP y) : AFP (.mk 6 nm mo i4 i5 (some a) xc [y]):=by
 intro w0 w bA bc B mb K hx g0 hmb hv hB hb hne hm hl
 obtain ⟨W,hW⟩ : ∃ W,w.alloc (.cells #[iv 6,tv nm,tv mo,iv i4,iv i5,.slice (some a) 1 xc] 43) = W:=⟨_,rfl⟩
 have GX : Gr w W:=by rw [← hW];exact Qa _ _
 have CB:=Qo0 (fun V (g : Gr W V) => show V.cell? ⟨w.heap.size,0,none⟩ = some (iv 6) ∧ V.cell? ⟨w.heap.size,1,none⟩ = some (tv nm) ∧ V.cell? ⟨w.heap.size,2,none⟩ = some (tv mo) ∧ V.cell? ⟨w.heap.size,5,none⟩ = some (.slice (some a) 1 xc) ∧ w.heap.size < V.heap.size from by
  have h:=Qe g (by rw [← hW];exact Qd w (.cells #[iv 6,tv nm,tv mo,iv i4,iv i5,.slice (some a) 1 xc] 43))
  exact ⟨by rw [Lib.cell_of_heap h];rfl,by rw [Lib.cell_of_heap h];rfl,by rw [Lib.cell_of_heap h];rfl,by rw [Lib.cell_of_heap h];rfl,Qn h⟩)
 have GZ:=fun V (g : Gr W V) => show Gr w0 V from (g0.trans GX).trans g
 have hy : y ∈ (Ex.mk 6 nm mo i4 i5 (some a) xc [y]).sub:=by simp [Ex.sub]
 have YA:=Qo0 (fun V (g : Gr W V) => show V.cell? a = some (iv y.kind) ∧ V.cell? ⟨a.block,a.off + 1,none⟩ = some (tv y.name) ∧ V.cell? ⟨a.block,a.off + 2,none⟩ = some (tv y.more) ∧ V.cell? ⟨a.block,a.off + 3,none⟩ = some (iv y.int) ∧ V.cell? ⟨a.block,a.off + 4,none⟩ = some (iv y.den) ∧ V.cell? ⟨a.block,a.off + 5,none⟩ = some (.slice y.A y.sub.length y.c) ∧ a.block < V.heap.size from by
  obtain ⟨b,b1,eb,e1,q0,q1,q2,q3,q4,q5,q6,-⟩:=XRd.at (hx.gr (GZ V g)).s (k:=0) (by simp [Ex.sub])
  have eb : some a = some b:=eb
  cases eb
  rw [Nat.zero_mul,add_zero'] at e1
  subst e1
  exact ⟨q1,q2,q3,q4,q5,q6,q0⟩)
 have FR : (Ex.mk 6 nm mo i4 i5 (some a) xc [y]).er.fr B K = y.er.fr (B ++ [nm]) K:=by
  rw [Qhg,Zk,Yb,Xa,Yn]
  simp only [Ex.kind,Ex.name,Ex.more,Ex.sub,ers_cons,ers_nil]
  rw [if_neg (by decide),Qa1,Qca]
  simp [bnd]
 have CY:=Qo0 (fun V (g : Gr W V) (v : Value) (base : Nat) (hbase : w.heap.size ≤ base) (h1 : OR 9 1 scs V base v (B ++ [nm])) => show ∃ vA vc,v = .slice vA (B.length + 1) vc ∧ Calls Tryz.prog 183 #[y.v,.slice vA (B.length + 1) vc,.map (some mb)] V (AFE y.er (B ++ [nm]) K mb V) from by
  obtain ⟨vA,vc,ev,hr,h2,h3,h4,h5⟩:=h1.form2 Yy
  have hlen : (B ++ [nm]).length = B.length + 1:=by simp
  rw [hlen] at ev h2
  refine ⟨vA,vc,ev,?_⟩
  have h:=ih w0 V vA vc (B ++ [nm]) mb K (XRd.hs hx.s y hy) (GZ V g) hmb (fun q hq => hv q ((Yg hy).1 q hq)) (by have:=(Yg hy).2;simp;omega) ⟨⟨by rw [hlen];exact h2,h3,h4,hr⟩,fun s hs => by
   rcases List.mem_append.1 hs with hs | hs
   ·exact hb.ok s hs
   ·rw [List.mem_singleton.1 hs];exact hx.n⟩ (fun q hq => by have:=(h5 q hq).1;have:=hm.lt;omega) (Qe (GX.trans g) hm) hl
  rw [hlen] at h
  exact h)
 have CL:=Qo0 (fun V (g : Gr W V) => Qaj bA bc B V (hb.r.gr (GX.trans g)) (by omega))
 have BL:=Qo0 (show B.length ≤ 1000 by omega)
 have WS:=Qo0 (show w.heap.size + 1 = W.heap.size by rw [← hW];simp)
 have GXH:=Qo0 GX
 unfold AFE
 rw [FR]
 unfold AFE at CY
 unfold Ex.v at CY
 show Calls Tryz.prog 183 #[.agg #[iv 6,tv nm,tv mo,iv i4,iv i5,.slice (some a) 1 xc],.slice bA B.length bc,.map (some mb)] w _
 clear FR hv hB hb hne hm hl ih hx g0 hmb hy GZ GX
 obtain ⟨n,hn⟩ : ∃ n,B.length = n:=⟨_,rfl⟩
 have HN:=Qo0 hn
 rw [hn] at CY CL BL ⊢
 clear hn
 obtain ⟨c0,c1,c2,c5,cb⟩:=CB.out _ (Qc _)
 obtain ⟨d0,d1,d2,d3,d4,d5,hab⟩:=YA.out _ (Qc _)
 go_enter Tryz.func183,Tryz.ntmps183
 go_upto_region 1 with fail
 clear hW
 go_upto_region 6 with fail
 clear c0 c1 c2 c5 cb d0 d1 d2 d3 d4 d5 hab
 obtain ⟨x0,x1,x2,x5,xb⟩:=CB.out _ (Qc _)
 obtain ⟨y0,y1,y2,y3,y4,y5,yb⟩:=YA.out _ (Qc _)
 obtain ⟨x10,x11,x12,x15,x1b⟩:=CB.out _ (Qa W (.cells #[tv nm] 9))
 obtain ⟨y10,y11,y12,y13,y14,y15,y1b⟩:=YA.out _ (Qa W (.cells #[tv nm] 9))
 go_region_law (first
  | (refine Xq elS rfl (.tmp 27) (.tmp 30) rfl W.heap.size (v:=v1) (L:=B) rfl (by first | exact O1.out | exact O1.out.alloc _) (A:=some ⟨_,0,none⟩) (M:=[nm]) (m:=1) (c:=1) rfl rfl (Qj (t:=9) elS.hn (by first | exact Qd _ _ | exact Qe GC.out (Qd _ _))) (by have:=BL.out;have:=HN.out;simp;omega) (by have:=G1.out.size;first | omega | (simp;omega)) ?_
     intro v7 w7 o7 g7 b7
     have G7:=Qo0 (show Gr W w7 from OR.grow (by first | exact G1.out | exact G1.out.trans (Qa _ _)) (by first | exact O1.out | exact O1.out.alloc _) (Nat.le_refl _) g7)
     obtain ⟨vA,vc,rfl,CC⟩:=CY.out w7 G7.out v7 W.heap.size (by have:=WS.out;omega) o7
     have CC:=Qo0 CC
     obtain ⟨x70,x71,x72,x75,x7b⟩:=CB.out _ G7.out
     obtain ⟨y70,y71,y72,y73,y74,y75,y7b⟩:=YA.out _ G7.out
     clear o7 g7 b7)
  | (go_simp;go_at_call 26;refine (CL.out _ (by first | exact Qb _ | exact (Qa _ _).trans (Qb _))).mono ?_;rintro e w1 ⟨v1,rfl,o1,g1⟩
     have O1:=Qo0 (Xr o1 (b':=W.heap.size) (by simp))
     have G1:=Qo0 (show Gr W w1 from by first | exact (Qb _).trans g1 | exact ((Qa _ _).trans (Qb _)).trans g1)
     have GC:=Qo0 g1
     obtain ⟨x30,x31,x32,x35,x3b⟩:=CB.out _ G1.out
     obtain ⟨y30,y31,y32,y33,y34,y35,y3b⟩:=YA.out _ G1.out
     obtain ⟨x40,x41,x42,x45,x4b⟩:=CB.out _ (G1.out.trans (Qa w1 (.cells #[tv nm] 9)))
     obtain ⟨y40,y41,y42,y43,y44,y45,y4b⟩:=YA.out _ (G1.out.trans (Qa w1 (.cells #[tv nm] 9)))
     clear o1 g1)
  | (go_simp;go_at_call 183;refine CC.out.mono ?_;rintro e w8 ⟨⟨r8,rfl⟩,g8,m8,l8⟩;have M8:=Qo0 (And.intro g8 (And.intro m8 l8));clear g8 m8 l8))
 all_goals go_wp2
 all_goals (first | go_end0 | refine bodyPost_ret (results_none rfl _ _ _) rfl ?_)
 all_goals exact ⟨⟨_,rfl⟩,(World.grownBy.but (GXH.out.trans G7.out) _).trans M8.out.1,M8.out.2.1,M8.out.2.2⟩
end Go.Proofs.YtiaenhlflgobfaaGreatDoor

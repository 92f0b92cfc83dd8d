/- Walks and words: Vis, VisA. -/
import Derived.Test.YtiaenhlflgobfaaGreatDoorTb5
import Derived.Test.YtiaenhlflgobfaaGreatDoorTb9
import Derived.Test.YtiaenhlflgobfaaGreatDoorTb13
namespace Go.Proofs.YtiaenhlflgobfaaGreatDoor
open Go.RowKit
mutual
def Ex.vis : Ex → List Ex
 | .mk k n m i e A c s => .mk k n m i e A c s :: Z6 s
def Z6 : List Ex → List Ex
 | [] => []
 | x :: l => Z6 l ++ x.vis
end
theorem Qas (x : Ex) : x.vis = x :: Z6 x.sub:=by cases x;simp [Ex.vis,Ex.sub]
theorem Qat (l m : List Ex) : Z6 (l ++ m) = Z6 m ++ Z6 l:=by
 induction l with
 | nil => simp [Z6]
 | cons x l ih => simp [Z6,ih]
theorem X8 (l : List Ex) (x : Ex) : Z6 (l ++ [x]) = x.vis ++ Z6 l:=by rw [Qat];simp [Z6]
mutual
theorem Qfe (p : PE → Bool) (d : Nat) : ∀ x : Ex,x.vis.any (fun y => p y.er) = (x.er.pre d).any fun q => p q.2
 | .mk k n m i e A c s => by
   have h:=Qgk p (d + 1) s
   rw [Ex.vis,Ex.er,PE.pre,List.any_cons,List.any_cons,h]
   simp [Ex.er]
theorem Qgk (p : PE → Bool) (d : Nat) : ∀ l : List Ex,(Z6 l).any (fun y => p y.er) = (Qbt d (ers l)).any fun q => p q.2
 | [] => by simp [Z6]
 | x :: l => by
   rw [Z6,ers_cons,pres_cons,List.any_append,List.any_append,Qfe p d x,Qgk p d l,Bool.or_comm]
end
mutual
theorem Qfd (d : Nat) : ∀ x : Ex,x.vis.length = (x.er.pre d).length
 | .mk k n m i e A c s => by
   have h:=Qgj (d + 1) s
   rw [Ex.vis,Ex.er,PE.pre,List.length_cons,List.length_cons,h]
theorem Qgj (d : Nat) : ∀ l : List Ex,(Z6 l).length = (Qbt d (ers l)).length
 | [] => by simp [Z6]
 | x :: l => by
   rw [Z6,ers_cons,pres_cons,List.length_append,List.length_append,Qfd d x,Qgj d l,Nat.add_comm]
end
theorem Qff (l : List Ex) : l.length ≤ (Z6 l).length:=by
 induction l with
 | nil => simp
 | cons x l ih => rw [Z6,List.length_append,Qas,List.length_cons,List.length_cons];omega
end Go.Proofs.YtiaenhlflgobfaaGreatDoor
namespace Go.Proofs.YtiaenhlflgobfaaGreatDoor
open Go.RowKit
theorem Zq {w V V' : World} {b : Option Nat} {row : Option Nat} (g : w.grownBy V b) (h : V.grownBy V' row) (hr : ∀ k,row = some k → w.heap.size ≤ k) : w.grownBy V' b :=
 ⟨h.os.trans g.os,h.tape.trans g.tape,h.output.trans g.output,Nat.le_trans g.size h.size,fun k hk hne => (h.block k (Nat.lt_of_lt_of_le hk g.size) (fun e => by have:=hr k e.symm;omega)).trans (g.block k hk hne)⟩
theorem Yj {w V : World} {b : Option Nat} (g : w.grownBy V b) (o : Obj) : w.grownBy (V.alloc o) b:=Zq g (World.grownBy_alloc V o none) (fun k h => by cases h)
structure VS (x : Ex) (w0 w : World) (B bF : Nat) (p : PE → Bool) (m : Nat) (v : Value) (V : World) (g cap : Nat) (St pre : List Ex) : Prop where
 ev : v = .slice (some ⟨g,0,none⟩) St.length cap
 o : OR 43 6 Ex.cs V B v St
 gb : w.grownBy V (some bF)
 fb : V.heap[bF]? = some (.cells #[.bool false] 4 (0,0))
 no : ∀ y ∈ pre,p y.er = false
 e : pre ++ Z6 St = x.vis
 t : ∀ y ∈ St,y.Rd w0
 em : m = (Z6 St).length
set_option maxRecDepth 100000 in
set_option maxHeartbeats 4000000 in
attribute [local irreducible] Calls in
theorem Qeo (x : Ex) (w0 w : World) (bA bF : Nat) (p : PE → Bool) (hx : x.Rd w0) (g0 : Gr w0 w) (hb0 : w0.heap.size ≤ bF) (hn : (x.er.pre 1).length ≤ 400) (h0 : w.heap[bF]? = some (.cells #[.bool false] 4 (0,0)))
 (H : ∀ V (y : Ex),w.grownBy V (some bF) → V.heap[bF]? = some (.cells #[.bool false] 4 (0,0)) → y.Rd w0 → Calls Tryz.prog 182 #[y.v,.pointer (some ⟨bA,0,none⟩),.pointer (some ⟨bF,0,none⟩)] V fun e w' => e = .returned (.bool (!p y.er)) ∧ V.grownBy w' (some bF) ∧ w'.heap[bF]? = some (.cells #[.bool (p y.er)] 4 (0,0))) :
 Calls Tryz.prog 152 #[x.v,.func (.func 182) #[] #[.pointer (some ⟨bA,0,none⟩),.pointer (some ⟨bF,0,none⟩)]] w fun e w' => (∃ r,e = .returned r) ∧ w.grownBy w' (some bF) ∧ w'.heap[bF]? = some (.cells #[.bool (x.vis.any fun y => p y.er)] 4 (0,0)):=by
 have HH:=Qo0 H
 have VL:=Qo0 (show x.vis.length ≤ 400 by rw [Qfd 1];exact hn)
 have bl:=Qn h0
 have BX:=Qo0 (Qa w (.cells #[iv x.kind,tv x.name,tv x.more,iv x.int,iv x.den,.slice x.A x.sub.length x.c] 43))
 have CX:=Qo0 (Qd w (.cells #[iv x.kind,tv x.name,tv x.more,iv x.int,iv x.den,.slice x.A x.sub.length x.c] 43))
 have S0:=Qo0 (show VS x w0 w (w.heap.size + 1) bF p (Z6 [x]).length (.slice (some ⟨w.heap.size + 1,0,none⟩) 1 1) ((w.alloc (.cells #[iv x.kind,tv x.name,tv x.more,iv x.int,iv x.den,.slice x.A x.sub.length x.c] 43)).alloc (.cells #[iv x.kind,tv x.name,tv x.more,iv x.int,iv x.den,.slice x.A x.sub.length x.c] 43)) (w.heap.size + 1) 1 [x] [] from
  ⟨rfl,by have h:=OR.one (e:=43) (cs:=Ex.cs) (w:=w.alloc (.cells #[iv x.kind,tv x.name,tv x.more,iv x.int,iv x.den,.slice x.A x.sub.length x.c] 43)) (base:=w.heap.size + 1) Ex.cs_len x (b:=#[iv x.kind,tv x.name,tv x.more,iv x.int,iv x.den,.slice x.A x.sub.length x.c]) (by simp) rfl;simpa using h,
   Yj (Yj (World.grownBy.refl w _) _) _,Qe ((Qa _ _).trans (Qa _ _)) h0,by simp,by simp [Z6],fun y hy => by rw [List.mem_singleton.1 hy];exact hx,rfl⟩)
 obtain ⟨c0,c1,c2,c3,c4,c5⟩ : (w.alloc (.cells #[iv x.kind,tv x.name,tv x.more,iv x.int,iv x.den,.slice x.A x.sub.length x.c] 43)).cell? ⟨w.heap.size,0,none⟩ = some (iv x.kind) ∧ (w.alloc (.cells #[iv x.kind,tv x.name,tv x.more,iv x.int,iv x.den,.slice x.A x.sub.length x.c] 43)).cell? ⟨w.heap.size,1,none⟩ = some (tv x.name) ∧ (w.alloc (.cells #[iv x.kind,tv x.name,tv x.more,iv x.int,iv x.den,.slice x.A x.sub.length x.c] 43)).cell? ⟨w.heap.size,2,none⟩ = some (tv x.more) ∧ (w.alloc (.cells #[iv x.kind,tv x.name,tv x.more,iv x.int,iv x.den,.slice x.A x.sub.length x.c] 43)).cell? ⟨w.heap.size,3,none⟩ = some (iv x.int) ∧ (w.alloc (.cells #[iv x.kind,tv x.name,tv x.more,iv x.int,iv x.den,.slice x.A x.sub.length x.c] 43)).cell? ⟨w.heap.size,4,none⟩ = some (iv x.den) ∧ (w.alloc (.cells #[iv x.kind,tv x.name,tv x.more,iv x.int,iv x.den,.slice x.A x.sub.length x.c] 43)).cell? ⟨w.heap.size,5,none⟩ = some (.slice x.A x.sub.length x.c):=by
  refine ⟨?_,?_,?_,?_,?_,?_⟩ <;> (rw [Lib.cell_of_heap CX.out];rfl)
 obtain ⟨mu,hmu⟩:=Qco (fun m (v : Value) (V : World) => ∃ g cap St pre,VS x w0 w (w.heap.size + 1) bF p m v V g cap St pre)
 have MU:=Qo0 hmu
 clear H hx hn h0 hmu
 unfold Ex.v
 go_enter Tryz.func152,Tryz.ntmps152
 go_wp2
 clear c0 c1 c2 c3 c4 c5
 have GZ:=Qo0 (fun V (g : w.grownBy V (some bF)) => show Gr w0 V from Zq g0 g (fun k h => by cases h;exact hb0))
 clear g0 hb0
 go_loopw [4,5] (fun v _ V => ∃ m g cap St pre,Hid (VS x w0 w (w.heap.size + 1) bF p m v V g cap St pre)) (fun v _ V => mu v V)
 case atStart => exact ⟨_,_,_,_,_,S0⟩
 case round =>
  obtain ⟨m0,gg0,cap0,St0,pre0,hS0⟩:=hrel
  obtain ⟨⟨g,cap,St,pre,hS⟩,hmin⟩:=MU.out _ _ ⟨m0,gg0,cap0,St0,pre0,hS0.out⟩
  obtain ⟨q,hq⟩ : ∃ q,mu u4 wr = q:=⟨_,rfl⟩
  rw [hq] at hS
  have HQ:=Qo0 hq
  obtain rfl:=hS.ev
  clear hS0 hmin S0 hq
  rcases Qbr St with rfl | ⟨St,y,rfl⟩
  ·have FF:=Qo0 (show wr.heap[bF]? = some (.cells #[.bool (x.vis.any fun y => p y.er)] 4 (0,0)) by
    have h1:=hS.e
    simp only [Z6,List.append_nil] at h1
    rw [← h1,show (pre.any fun y => p y.er) = false from by rw [List.any_eq_false];intro y hy;rw [hS.no y hy];simp]
    exact hS.fb)
   have GB:=Qo0 hS.gb
   clear hS
   go_wp2
   first | go_end0 | refine bodyPost_ret (results_none rfl _ _ _) rfl ?_
   exact ⟨⟨_,rfl⟩,GB.out,FF.out⟩
  ·have hvl : (Z6 (St ++ [y])).length ≤ 400:=by
    have h1:=congrArg List.length hS.e
    rw [List.length_append] at h1
    have:=VL.out
    omega
   have hk : St.length ≤ 400:=by have:=Qff (St ++ [y]);simp at this;omega
   obtain ⟨A0,c0',e0,hr0⟩:=hS.o.form Ex.cs_len
   obtain ⟨rfl,-,-⟩:=Value.slice.inj e0
   obtain ⟨a,a1,ea,e1,hb1,d0,d1,d2,d3,d4,d5⟩ : ∃ a a1 : Addr,some (⟨g,0,none⟩ : Addr) = some a ∧ a.add (St.length * 6) = a1 ∧ a1.block < wr.heap.size ∧ wr.cell? a1 = some (iv y.kind) ∧ wr.cell? ⟨a1.block,a1.off + 1,none⟩ = some (tv y.name) ∧ wr.cell? ⟨a1.block,a1.off + 2,none⟩ = some (tv y.more) ∧ wr.cell? ⟨a1.block,a1.off + 3,none⟩ = some (iv y.int) ∧ wr.cell? ⟨a1.block,a1.off + 4,none⟩ = some (iv y.den) ∧ wr.cell? ⟨a1.block,a1.off + 5,none⟩ = some (.slice y.A y.sub.length y.c):=by
    have hkk : St.length < (St ++ [y]).length:=by simp
    obtain ⟨a,e,hb,hc⟩:=hr0.at hkk
    have hy : (St ++ [y])[St.length]'hkk = y:=by simp
    rw [hy] at hc
    refine ⟨a,_,e,rfl,by rw [add_block];exact hb,by simpa using hc 0 _ rfl,?_,?_,?_,?_,?_⟩
    ·rw [← Qh _ 1 (by omega),add_add'];exact hc 1 _ rfl
    ·rw [← Qh _ 2 (by omega),add_add'];exact hc 2 _ rfl
    ·rw [← Qh _ 3 (by omega),add_add'];exact hc 3 _ rfl
    ·rw [← Qh _ 4 (by omega),add_add'];exact hc 4 _ rfl
    ·rw [← Qh _ 5 (by omega),add_add'];exact hc 5 _ rfl
   cases ea
   obtain ⟨k,hkk⟩ : ∃ k,St.length = k:=⟨_,rfl⟩
   have hl : (St ++ [y]).length = k + 1:=by simp [hkk]
   have gb:=hS.o.lt g rfl
   rw [hl] at hS HQ ⊢
   rw [hkk] at hk e1
   obtain rfl : (⟨g,k * 6,none⟩ : Addr) = a1:=by
    rw [← e1]
    by_cases h : k * 6 = 0
    ·rw [h,add_zero']
    ·rw [Qh _ _ h];simp
   dsimp only at d1 d2 d3 d4 d5
   clear e1
   have kc : k + 1 ≤ cap:=by
    rcases hS.o.2 with ⟨h1,_⟩ | ⟨g',cap',cur,e1,hg,hh,hnc,_⟩
    ·cases h1
    ·have e2:=(Value.slice.inj e1).2.2
     omega
   have kc' : k ≤ cap:=by omega
   have HK:=Qo0 hkk
   have ww : IntKind.i64.wrap (((k + 1 : Nat) : Int) - 1) = k:=by rw [IntWalk.i64_in _ ⟨by omega,by omega⟩];omega
   have OS:=Qo0 (show OR 43 6 Ex.cs wr (w.heap.size + 1) (.slice (some ⟨g,0,none⟩) k cap) St from by
    have h:=hS.o
    rw [← HK.out] at h ⊢
    exact OR.short Ex.cs_len h)
   have HS:=Qo0 hS
   have GB:=Qo0 gb
   have HL:=Qo0 (show (Z6 (St ++ [y])).length = q ∧ (Z6 St).length ≤ 400 ∧ y.vis.length ≤ 400 from ⟨hS.em.symm,by rw [X8] at hvl;simp at hvl;omega,by rw [X8] at hvl;simp at hvl;omega⟩)
   have YR:=Qo0 (hS.t y (by simp))
   have CY:=Qo0 (HH.out (wr.alloc (.cells #[iv y.kind,tv y.name,tv y.more,iv y.int,iv y.den,.slice y.A y.sub.length y.c] 43)) y (Yj hS.gb _) (Qe (Qa _ _) hS.fb) (hS.t y (by simp)))
   have RY:=Qo0 (fun V (h : w.grownBy V (some bF)) => (YR.out.gr (GZ.out V h)).s)
   have PY:=Qo0 (show ∃ post,x.vis = pre ++ y :: post from ⟨Z6 y.sub ++ Z6 St,by have h:=HS.out.e;rw [X8,Qas] at h;rw [← h];simp⟩)
   unfold Ex.v at CY
   clear hS hkk hl gb hvl hr0 hb1
   obtain ⟨b,hbp⟩ : ∃ b,p y.er = b:=⟨_,rfl⟩
   rw [hbp] at CY
   have HBP:=Qo0 hbp
   clear hbp
   have lb:=bl
   have GT:=Qo0 (fun V (h : (wr.alloc (.cells #[iv y.kind,tv y.name,tv y.more,iv y.int,iv y.den,.slice y.A y.sub.length y.c] 43)).grownBy V (some bF)) => show w.grownBy V (some bF) from ⟨h.os.trans (Yj HS.out.gb _).os,h.tape.trans (Yj HS.out.gb _).tape,h.output.trans (Yj HS.out.gb _).output,Nat.le_trans (Yj HS.out.gb _).size h.size,fun j hj hne => (h.block j (Nat.lt_of_lt_of_le hj (Yj HS.out.gb _).size) hne).trans ((Yj HS.out.gb (.cells #[iv y.kind,tv y.name,tv y.more,iv y.int,iv y.den,.slice y.A y.sub.length y.c] 43)).block j hj hne)⟩)
   cases b with
   | true =>
     go_wp2_with (go_at_call 182;(with_reducible refine CY.out.mono ?_);rintro e w6 ⟨rfl,g6,f6⟩;have G6:=Qo0 (And.intro g6 f6);clear g6 f6)
     first | go_end0 | refine bodyPost_ret (results_none rfl _ _ _) rfl ?_
     refine ⟨⟨_,rfl⟩,?_,?_⟩
     ·exact GT.out _ G6.out.1
     ·rw [G6.out.2,show (x.vis.any fun y => p y.er) = true from by
       obtain ⟨post,e0⟩:=PY.out
       rw [List.any_eq_true]
       exact ⟨y,by rw [e0];simp,HBP.out⟩]
   | false =>
     have D5:=Qo0 (fun V (h : (wr.alloc (.cells #[iv y.kind,tv y.name,tv y.more,iv y.int,iv y.den,.slice y.A y.sub.length y.c] 43)).grownBy V (some bF)) => show V.cell? ⟨wr.heap.size,5,none⟩ = some (.slice y.A y.sub.length y.c) from h.cell (by rw [Lib.cell_of_heap (Qd _ _)];rfl) (by have:=HS.out.gb.size;simp;omega))
     have OK6:=Qo0 (fun V (h : (wr.alloc (.cells #[iv y.kind,tv y.name,tv y.more,iv y.int,iv y.den,.slice y.A y.sub.length y.c] 43)).grownBy V (some bF)) => show OR 43 6 Ex.cs V (w.heap.size + 1) (.slice (some ⟨g,0,none⟩) k cap) St from (OS.out.alloc _).kept h (.inr (by have:=GB.out;simp only [Value.ownBlock,ne_eq,Option.some.injEq];omega)))
     have SZ:=Qo0 (show w.heap.size ≤ wr.heap.size from HS.out.gb.size)
     go_wp2_with (first
      | (go_at_call 182;(with_reducible refine CY.out.mono ?_);rintro e w6 ⟨rfl,g6,f6⟩;have G6:=Qo0 (And.intro g6 f6);have d6:=D5.out _ g6;clear g6 f6)
      | (at_builtin;refine Qf elE rfl (.tmp 26) (.tmp 28) rfl (w.heap.size + 1) (v:=.slice (some ⟨g,0,none⟩) k cap) rfl (OK6.out _ G6.out.1) (M:=y.sub) rfl rfl (RY.out _ (GT.out _ G6.out.1)).r (by have h1:=HL.out.2.2;rw [Qas] at h1;have h2:=Qff y.sub;have h3:=HK.out;simp at h1;omega) (by have h1:=G6.out.1.size;have h2:=SZ.out;simp at h1;omega) ?_;intro v7 w7 o7 g7 b7;have B7:=Qo0 b7;have O7:=Qo0 o7;have G7:=Qo0 g7;clear o7 g7 b7))
     obtain ⟨g8,c8,hv8⟩ : ∃ g8 c8,v7 = .slice (some ⟨g8,0,none⟩) (St ++ y.sub).length c8:=by
      rcases O7.out.2 with ⟨e0,_⟩ | ⟨g',cap',cur,e1,_⟩
      ·have h:=B7.out
       rw [e0] at h
       simp [Value.ownBlock] at h
      ·exact ⟨g',cap',e1⟩
     subst hv8
     have hN : VS x w0 w (w.heap.size + 1) bF p (Z6 (St ++ y.sub)).length (.slice (some ⟨g8,0,none⟩) (St ++ y.sub).length c8) w7 g8 c8 (St ++ y.sub) (pre ++ [y]):=by
      refine ⟨rfl,O7.out,Zq (GT.out _ G6.out.1) G7.out (fun j h => by have:=GB.out;simp only [Value.ownBlock,Option.some.injEq] at h;omega),?_,fun z hz => ?_,?_,fun z hz => ?_,rfl⟩
      ·rw [G7.out.block bF (by have h1:=G6.out.1.size;have h2:=SZ.out;simp at h1;omega) (by have:=GB.out;simp only [Value.ownBlock,ne_eq,Option.some.injEq];omega)]
       exact G6.out.2
      ·rcases List.mem_append.1 hz with hz | hz
       ·exact HS.out.no z hz
       ·rw [List.mem_singleton.1 hz];exact HBP.out
      ·have h:=HS.out.e
       rw [X8,Qas] at h
       rw [← h,Qat]
       simp
      ·rcases List.mem_append.1 hz with hz | hz
       ·exact HS.out.t z (by simp [hz])
       ·exact XRd.hs YR.out.s z hz
     exact ⟨⟨_,_,_,_,_,Qo0 hN⟩,by
      rw [HQ.out]
      refine Nat.lt_of_le_of_lt ((MU.out _ _ ⟨_,_,_,_,_,hN⟩).2 _ ⟨_,_,_,_,hN⟩) ?_
      have h1:=HL.out.1
      rw [X8,Qas] at h1
      rw [← h1,Qat]
      simp⟩
end Go.Proofs.YtiaenhlflgobfaaGreatDoor

/- Words. -/
import Derived.Test.YtiaenhlflgobfaaGreatDoorTb25
import Derived.Deep.RegionHeldLaw
import Derived.Deep.RegionLaw
namespace Go.Proofs.YtiaenhlflgobfaaGreatDoor
open Go.RowKit
def X1 : List PR → Nat
 | [] => 0
 | p :: l => (Z6 p.L).length + 1 + X1 l
theorem Qau (l m : List PR) : X1 (l ++ m) = X1 l + X1 m:=by
 induction l with
 | nil => simp [X1]
 | cons p l ih => simp [X1,ih];omega
theorem Qmr (l : List PR) : l.length ≤ X1 l:=by
 induction l with
 | nil => simp [X1]
 | cons p l ih => simp [X1];omega
def prs : List Ex → List Ex → List PR
 | x :: l,y :: m => ⟨x.A,x.c,x.sub,y.A,y.c,y.sub⟩ :: prs l m
 | _,_ => []
theorem Qjv : ∀ (L M : List Ex),L.length = M.length → X1 (prs L M) = (Z6 L).length
 | [],[],_ => rfl
 | x :: l,y :: m,h => by
   have ih:=Qjv l m (by simpa using h)
   rw [prs,X1,ih,Z6,List.length_append,Qas,List.length_cons]
   show (Z6 x.sub).length + 1 + _ = _
   omega
 | [],_ :: _,h => by simp at h
 | _ :: _,[],h => by simp at h
theorem Qdb : ∀ (L M : List Ex),L.length = M.length → (prs L M).length = L.length
 | [],[],_ => rfl
 | x :: l,y :: m,h => by
   have ih:=Qdb l m (by simpa using h)
   rw [prs,List.length_cons,List.length_cons,ih]
 | [],_ :: _,h => by simp at h
 | _ :: _,[],h => by simp at h
theorem Qgu : ∀ (L M : List Ex) (x y : Ex),L.length = M.length → prs (L ++ [x]) (M ++ [y]) = prs L M ++ [⟨x.A,x.c,x.sub,y.A,y.c,y.sub⟩]
 | [],[],x,y,_ => rfl
 | a :: l,b :: m,x,y,h => by
   rw [List.cons_append,List.cons_append,prs,prs,Qgu l m x y (by simpa using h)]
   rfl
 | [],_ :: _,_,_,h => by simp at h
 | _ :: _,[],_,_,h => by simp at h
def hdE (x y : Ex) : Prop:=x.kind = y.kind ∧ x.name = y.name ∧ x.more = y.more ∧ x.int = y.int ∧ x.den = y.den
def hdsE : List Ex → List Ex → Prop
 | x :: l,y :: m => hdE x y ∧ hdsE l m
 | _,_ => True
theorem prs_eq : ∀ (L M : List Ex),L.length = M.length → hdsE L M → ((∀ p ∈ prs L M,p.eq) ↔ ers L = ers M)
 | [],[],_,_ => by simp [prs]
 | x :: l,y :: m,h,hd => by
   have ih:=prs_eq l m (by simpa using h) hd.2
   rw [prs,ers_cons,ers_cons]
   simp only [List.mem_cons,forall_eq_or_imp,ih,List.cons.injEq,Qe2 x y]
   have h0:=hd.1
   unfold hdE at h0
   simp only [h0.1,h0.2.1,h0.2.2.1,h0.2.2.2.1,h0.2.2.2.2,true_and]
   rfl
 | [],_ :: _,h,_ => by simp at h
 | _ :: _,[],h,_ => by simp at h
theorem Qew : ∀ (L M : List Ex) (x y : Ex),L.length = M.length → hdsE L M → hdE x y → hdsE (L ++ [x]) (M ++ [y])
 | [],[],x,y,_,_,h => ⟨h,trivial⟩
 | a :: l,b :: m,x,y,h,h1,h2 => ⟨h1.1,Qew l m x y (by simpa using h) h1.2 h2⟩
 | [],_ :: _,_,_,h,_,_ => by simp at h
 | _ :: _,[],_,_,h,_,_ => by simp at h
theorem hd_no {L M : List Ex} {k : Nat} {x y : Ex} (hx : L[k]? = some x) (hy : M[k]? = some y) (h : ¬ hdE x y) : ¬ ers L = ers M:=by
 intro e
 have h1:=congrArg (fun l => l[k]?) e
 simp only [Ym,List.getElem?_map,hx,hy,Option.map_some,Option.some.injEq] at h1
 have h2:=(Qe2 x y).1 h1
 exact h ⟨h2.1,h2.2.1,h2.2.2.1,h2.2.2.2.1,h2.2.2.2.2.1⟩
theorem prs_rd {w : World} {A B : Option Addr} {c d : Nat} : ∀ (L M : List Ex),XRd w A c L → XRd w B d M → ∀ z ∈ prs L M,z.Rd w:=by
 intro L M hL hM
 have h1:=hL.hs
 have h2:=hM.hs
 clear hL hM
 induction L generalizing M with
 | nil => intro z hz;simp [prs] at hz
 | cons x l ih =>
   cases M with
   | nil => intro z hz;simp [prs] at hz
   | cons y m =>
     intro z hz
     rw [prs] at hz
     rcases List.mem_cons.1 hz with rfl | hz
     ·exact ⟨(h1 x (by simp)).s,(h2 y (by simp)).s⟩
     ·exact ih m (fun q hq => h1 q (by simp [hq])) (fun q hq => h2 q (by simp [hq])) z hz
structure EST (x y : Ex) (w : World) (B m : Nat) (v : Value) (V : World) (g cap : Nat) (St : List PR) : Prop where
 ev : v = .slice (some ⟨g,0,none⟩) St.length cap
 o : OR 225 2 PR.cs V B v St
 gr : Gr w V
 r : x.er = y.er ↔ ∀ p ∈ St,p.eq
 t : ∀ p ∈ St,p.Rd w
 em : m = X1 St
 n : X1 St ≤ 1000
theorem Qkc {w : World} {A : Option Addr} {c : Nat} {L : List Ex} (h : XRd w A c L) {k : Nat} {x : Ex} (hx : L[k]? = some x) : ∃ a a1 : Addr,A = some a ∧ a.add (k * 6) = a1 ∧ a1.block < w.heap.size ∧ w.cell? a1 = some (iv x.kind) ∧ w.cell? ⟨a1.block,a1.off + 1,none⟩ = some (tv x.name) ∧ w.cell? ⟨a1.block,a1.off + 2,none⟩ = some (tv x.more) ∧ w.cell? ⟨a1.block,a1.off + 3,none⟩ = some (iv x.int) ∧ w.cell? ⟨a1.block,a1.off + 4,none⟩ = some (iv x.den) ∧ w.cell? ⟨a1.block,a1.off + 5,none⟩ = some (.slice x.A x.sub.length x.c) ∧ x.Rd w:=by
 obtain ⟨hk,rfl⟩:=List.getElem?_eq_some_iff.1 hx
 exact h.at hk
set_option maxRecDepth 100000 in
set_option maxHeartbeats 4000000 in
attribute [local irreducible] Calls in
theorem Qeg (x y : Ex) (w : World) (hx : x.Rd w) (hy : y.Rd w) (hs : (x.er.pre 1).length ≤ 400) : Calls Tryz.prog 97 #[x.v,y.v] w fun e w' => e = .returned (.bool (decide (x.er = y.er))) ∧ Gr w w':=by
 obtain ⟨c0,c1,c2,c3,c4,c5⟩:=Zw x w _ (Qa _ (.cells #[iv y.kind,tv y.name,tv y.more,iv y.int,iv y.den,.slice y.A y.sub.length y.c] 43))
 obtain ⟨d0,d1,d2,d3,d4,d5⟩:=Zw y (w.alloc (.cells #[iv x.kind,tv x.name,tv x.more,iv x.int,iv x.den,.slice x.A x.sub.length x.c] 43)) _ (Qc _)
 obtain ⟨W4,hW4⟩ : ∃ W4,((((w.alloc (.cells #[iv x.kind,tv x.name,tv x.more,iv x.int,iv x.den,.slice x.A x.sub.length x.c] 43)).alloc (.cells #[iv y.kind,tv y.name,tv y.more,iv y.int,iv y.den,.slice y.A y.sub.length y.c] 43)).alloc (.cells #[iv x.kind,tv x.name,tv x.more,iv x.int,iv x.den,.slice x.A x.sub.length x.c] 43)).alloc (.cells #[iv y.kind,tv y.name,tv y.more,iv y.int,iv y.den,.slice y.A y.sub.length y.c] 43)) = W4:=⟨_,rfl⟩
 have G4:=Qo0 (show Gr w W4 by rw [← hW4];exact (((Qa _ _).trans (Qa _ _)).trans (Qa _ _)).trans (Qa _ _))
 have Z4:=Qo0 (show W4.heap.size = w.heap.size + 1 + 1 + 1 + 1 by rw [← hW4];simp)
 obtain ⟨P0,hP0⟩ : ∃ P0 : PR,P0 = ⟨some ⟨w.heap.size + 1 + 1,0,none⟩,1,[x],some ⟨w.heap.size + 1 + 1 + 1,0,none⟩,1,[y]⟩:=⟨_,rfl⟩
 have R0:=Qo0 (show P0.Rd W4 from by
  have hx4 : x.Rd W4:=hx.gr G4.out
  have hy4 : y.Rd W4:=hy.gr G4.out
  have b2 : W4.heap[w.heap.size + 1 + 1]? = some (.cells #[iv x.kind,tv x.name,tv x.more,iv x.int,iv x.den,.slice x.A x.sub.length x.c] 43 (0,0)):=by rw [← hW4];exact Qe (Qa _ _) (Qr _ _ (by simp))
  have b3 : W4.heap[w.heap.size + 1 + 1 + 1]? = some (.cells #[iv y.kind,tv y.name,tv y.more,iv y.int,iv y.den,.slice y.A y.sub.length y.c] 43 (0,0)):=by rw [← hW4];exact Qr _ _ (by simp)
  subst hP0
  exact ⟨XRd.of ⟨(by simp),(show (1 : Nat) ≤ 9223372036854775807 by omega),(fun h => by cases h),Qj (t:=43) Ex.cs_len (by simpa [Ex.cs] using b2)⟩ (by simpa using hx4),XRd.of ⟨(by simp),(show (1 : Nat) ≤ 9223372036854775807 by omega),(fun h => by cases h),Qj (t:=43) Ex.cs_len (by simpa [Ex.cs] using b3)⟩ (by simpa using hy4)⟩)
 have VL:=Qo0 (show x.vis.length ≤ 400 by rw [Qfd 1];exact hs)
 have S0:=Qo0 (show EST x y W4 (w.heap.size + 1 + 1 + 1 + 1) (X1 [P0]) (.slice (some ⟨w.heap.size + 1 + 1 + 1 + 1,0,none⟩) 1 1) (W4.alloc (.cells #[.slice (some ⟨w.heap.size + 1 + 1,0,none⟩) 1 1,.slice (some ⟨w.heap.size + 1 + 1 + 1,0,none⟩) 1 1] 225)) (w.heap.size + 1 + 1 + 1 + 1) 1 [P0] from
  ⟨rfl,by rw [← Z4.out];exact OR.one PR.cs_len P0 (Nat.le_refl _) (by rw [hP0];rfl),Qa _ _,by subst hP0;simp [PR.eq],fun p hp => by rw [List.mem_singleton.1 hp];exact R0.out,rfl,by subst hP0;have:=VL.out;rw [Qas] at this;simp [X1,Z6,Qas] at this ⊢;omega⟩)
 obtain ⟨mu,hmu⟩:=Qco (fun m (v : Value) (V : World) => ∃ g cap St,EST x y W4 (w.heap.size + 1 + 1 + 1 + 1) m v V g cap St)
 have MU:=Qo0 hmu
 obtain ⟨r,hr⟩ : ∃ r,decide (x.er = y.er) = r:=⟨_,rfl⟩
 have HR:=Qo0 hr
 have HW:=Qo0 hW4
 rw [hr]
 clear hmu hs hx hy hr hP0 R0 hW4
 unfold Ex.v
 go_enter Tryz.func97,Tryz.ntmps97
 go_wp2
 rw [HW.out]
 clear HW c0 c1 c2 c3 c4 c5 d0 d1 d2 d3 d4 d5
 obtain ⟨B,hB⟩ : ∃ B,w.heap.size + 1 + 1 + 1 + 1 = B:=⟨_,rfl⟩
 rw [hB] at S0 MU Z4 ⊢
 go_loopw [5,6,7,8,9] (fun v _ _ _ _ V => ∃ m g cap St,Hid (EST x y W4 B m v V g cap St)) (fun v _ _ _ _ V => mu v V)
 case atStart => exact ⟨_,_,_,_,S0⟩
 case round =>
  obtain ⟨m0,gg0,cap0,St0,hS0⟩:=hrel
  obtain ⟨⟨g,cap,St,hS⟩,hmin⟩:=MU.out _ _ ⟨m0,gg0,cap0,St0,hS0.out⟩
  obtain ⟨q,hq⟩ : ∃ q,mu u5 wr = q:=⟨_,rfl⟩
  rw [hq] at hS
  have HQ:=Qo0 hq
  obtain rfl:=hS.ev
  clear hS0 hmin S0 hq
  rcases Qbr St with rfl | ⟨St,p,rfl⟩
  ·obtain rfl : r = true:=by rw [← HR.out];exact decide_eq_true (hS.r.2 (by simp))
   have GB:=Qo0 (G4.out.trans hS.gr)
   clear hS
   go_wp2
   all_goals (first | go_end0 | go_ret | refine bodyPost_ret (results_none rfl _ _ _) rfl ?_)
   all_goals exact ⟨rfl,GB.out⟩
  ·have hk : St.length ≤ 1000:=by have h1:=hS.n;have h2:=Qmr (St ++ [p]);simp at h2;omega
   obtain ⟨e0,e1⟩:=hS.o.prAt (k:=St.length) (p:=p) (by simp)
   have PRd:=Qo0 (hS.t p (by simp))
   have gb:=hS.o.lt g rfl
   obtain ⟨k,hkk⟩ : ∃ k,St.length = k:=⟨_,rfl⟩
   have hl : (St ++ [p]).length = k + 1:=by simp [hkk]
   rw [hl] at hS HQ ⊢
   rw [hkk] at hk e0 e1
   have kc : k + 1 ≤ cap:=by
    rcases hS.o.2 with ⟨h1,_⟩ | ⟨g',cap',cur,e1,hg,hh,hnc,_⟩
    ·cases h1
    ·have e2:=(Value.slice.inj e1).2.2
     omega
   have kc' : k ≤ cap:=by omega
   have HK:=Qo0 hkk
   have ww : IntKind.i64.wrap (((k + 1 : Nat) : Int) - 1) = k:=by rw [IntWalk.i64_in _ ⟨by omega,by omega⟩];omega
   have OS:=Qo0 (show OR 225 2 PR.cs wr B (.slice (some ⟨g,0,none⟩) k cap) St from by
    have h:=hS.o
    rw [← HK.out] at h ⊢
    exact OR.short PR.cs_len h)
   have HS:=Qo0 hS
   have GB:=Qo0 gb
   have hlt : (0 : Int) < ((k + 1 : Nat) : Int):=by omega
   clear hS hkk hl gb
   rcases p with ⟨pA,pc,pL,pB,pd,pM⟩
   dsimp only at e0 e1
   by_cases hne : pL.length = pM.length
   ·obtain ⟨n,hn⟩ : ∃ n,pL.length = n:=⟨_,rfl⟩
    have HN:=Qo0 (And.intro hn (hne.symm.trans hn))
    have hn9 : n ≤ 9223372036854775807:=by rw [← hn];exact Nat.le_trans PRd.out.l.rw.hc PRd.out.l.rw.hm
    rw [hn] at e0
    rw [← hne,hn] at e1
    clear hn hne
    go_wp2
    obtain ⟨V0,hV0⟩ : ∃ V0,wr.alloc (.cells #[.slice pA n pc,.slice pB n pd] 225) = V0:=⟨_,rfl⟩
    have GV0:=Qo0 (show Gr W4 V0 by rw [← hV0];exact HS.out.gr.trans (Qa _ _))
    have HB0:=Qo0 (show V0.heap[wr.heap.size]? = some (.cells #[.slice pA n pc,.slice pB n pd] 225 (0,0)) by rw [← hV0];exact Qd _ _)
    have OV0:=Qo0 (show OR 225 2 PR.cs V0 B (.slice (some ⟨g,0,none⟩) (k + 0) cap) (St ++ prs (pL.take 0) (pM.take 0)) by rw [← hV0];have h:=OS.out.alloc (.cells #[.slice pA n pc,.slice pB n pd] 225);simpa [prs] using h)
    obtain ⟨bp,hbp⟩ : ∃ bp,wr.heap.size = bp:=⟨_,rfl⟩
    have GBP:=Qo0 (show B ≤ bp ∧ g < bp from by have:=GB.out;omega)
    rw [hV0,hbp]
    rw [hbp] at HB0
    clear hV0 OS hbp
    go_loopw [5,7,8,9,40] (fun v _ _ _ i V => ∃ (j g' cap' : Nat),j ≤ n ∧ i = iv j ∧ v = .slice (some ⟨g',0,none⟩) (k + j) cap' ∧ Hid (OR 225 2 PR.cs V B v (St ++ prs (pL.take j) (pM.take j)) ∧ Gr W4 V ∧ V.heap[bp]? = some (.cells #[.slice pA n pc,.slice pB n pd] 225 (0,0)) ∧ g' ≠ bp ∧ hdsE (pL.take j) (pM.take j))) (fun _ _ _ _ i _ => (n - intOf i).toNat)
    case atStart => exact ⟨0,g,cap,by omega,rfl,rfl,Qo0 ⟨OV0.out,GV0.out,HB0.out,by have:=GBP.out;omega,by simp [hdsE]⟩⟩
    case round =>
     obtain ⟨j,g',cap',hj,rfl,rfl,HI⟩:=hrel
     clear OV0 HB0 GV0
     have f0:=Lib.cell_of_heap HI.out.2.2.1 0
     have f1:=Lib.cell_of_heap HI.out.2.2.1 1
     simp only [List.getElem?_toArray,List.getElem?_cons_zero,List.getElem?_cons_succ] at f0 f1
     by_cases hlt : j < n
     ·obtain ⟨X,hX⟩ : ∃ X,pL[j]? = some X:=⟨_,List.getElem?_eq_getElem (by rw [HN.out.1];exact hlt)⟩
      obtain ⟨Y,hY⟩ : ∃ Y,pM[j]? = some Y:=⟨_,List.getElem?_eq_getElem (by rw [HN.out.2];exact hlt)⟩
      obtain ⟨a,a1,ea,ha1,hba,x0,x1,x2,x3,x4,x5,xr⟩:=Qkc (PRd.out.l.gr HI.out.2.1) hX
      obtain ⟨b,b1,eb,hb1,hbb,y0,y1,y2,y3,y4,y5,yr⟩:=Qkc (PRd.out.m.gr HI.out.2.1) hY
      have LAB:=Qo0 (show a1.block < B ∧ b1.block < B from by
       obtain ⟨a',a1',ea',ha1',hba',-⟩:=Qkc PRd.out.l hX
       obtain ⟨b',b1',eb',hb1',hbb',-⟩:=Qkc PRd.out.m hY
       dsimp only at ea eb ea' eb'
       rw [ea] at ea';rw [eb] at eb'
       cases ea';cases eb'
       rw [← ha1,← hb1,ha1',hb1']
       have:=Z4.out
       omega)
      dsimp only at ea eb
      subst ea
      subst eb
      have tj : (j : Int) < (n : Int):=by omega
      have hjL : j < pL.length:=by rw [HN.out.1];exact hlt
      have hjM : j < pM.length:=by rw [HN.out.2];exact hlt
      have hX2 : pL[j] = X:=by rw [List.getElem?_eq_getElem hjL] at hX;exact Option.some.inj hX
      have hY2 : pM[j] = Y:=by rw [List.getElem?_eq_getElem hjM] at hY;exact Option.some.inj hY
      have htl : (pL.take j).length = (pM.take j).length:=by rw [List.length_take,List.length_take,HN.out.1,HN.out.2]
      have TJ:=Qo0 (fun (h : hdE X Y) => show hdsE (pL.take (j + 1)) (pM.take (j + 1)) by rw [List.take_succ_eq_append_getElem hjL,List.take_succ_eq_append_getElem hjM,hX2,hY2];exact Qew _ _ _ _ htl HI.out.2.2.2.2 h)
      have PJ:=Qo0 (show prs (pL.take (j + 1)) (pM.take (j + 1)) = prs (pL.take j) (pM.take j) ++ [⟨X.A,X.c,X.sub,Y.A,Y.c,Y.sub⟩] by rw [List.take_succ_eq_append_getElem hjL,List.take_succ_eq_append_getElem hjM,hX2,hY2];exact Qgu _ _ _ _ htl)
      have NJ:=Qo0 (fun (h : ¬ hdE X Y) => show r = false by rw [← HR.out];exact decide_eq_false (fun e => hd_no hX hY h ((HS.out.r.1 e) _ (List.mem_append_right _ (List.mem_singleton.2 rfl)))))
      clear hX hY hX2 hY2 hjL hjM htl xr yr
      by_cases h0 : X.kind = Y.kind
      case neg =>
       obtain rfl : r = false:=NJ.out (fun h => h0 h.1)
       have p2 : (X.kind != Y.kind) = true:=by simpa using h0
       clear TJ NJ
       go_upto_region 10 with fail
       go_quiet (fail)
       all_goals go_upto_region 11 with fail
       all_goals go_quiet (fail)
       all_goals go_wp2
       all_goals (first | go_end0 | go_ret | refine bodyPost_ret (results_none rfl _ _ _) rfl ?_)
       all_goals exact ⟨rfl,G4.out.trans (HI.out.2.1.trans ((Qq _ _).trans (Qq _ _)))⟩
      by_cases h1 : X.name = Y.name
      case neg =>
       rw [h0] at x0
       obtain rfl : r = false:=NJ.out (fun h => h1 h.2.1)
       have p1 : (X.name == Y.name) = false:=by simpa using h1
       have p2 : (X.name != Y.name) = true:=by simpa using h1
       clear TJ NJ
       go_upto_region 10 with fail
       go_quiet (fail)
       all_goals go_upto_region 11 with fail
       all_goals go_quiet (fail)
       all_goals go_wp2
       all_goals (first | go_end0 | go_ret | refine bodyPost_ret (results_none rfl _ _ _) rfl ?_)
       all_goals exact ⟨rfl,G4.out.trans (HI.out.2.1.trans ((Qq _ _).trans (Qq _ _)))⟩
      by_cases h2 : X.more = Y.more
      case neg =>
       rw [h0] at x0;rw [h1] at x1
       obtain rfl : r = false:=NJ.out (fun h => h2 h.2.2.1)
       have p1 : (X.more == Y.more) = false:=by simpa using h2
       have p2 : (X.more != Y.more) = true:=by simpa using h2
       clear TJ NJ
       go_upto_region 10 with fail
       go_quiet (fail)
       all_goals go_upto_region 11 with fail
       all_goals go_quiet (fail)
       all_goals go_wp2
       all_goals (first | go_end0 | go_ret | refine bodyPost_ret (results_none rfl _ _ _) rfl ?_)
       all_goals exact ⟨rfl,G4.out.trans (HI.out.2.1.trans ((Qq _ _).trans (Qq _ _)))⟩
      by_cases h3 : X.int = Y.int
      case neg =>
       rw [h0] at x0;rw [h1] at x1;rw [h2] at x2
       obtain rfl : r = false:=NJ.out (fun h => h3 h.2.2.2.1)
       have p2 : (X.int != Y.int) = true:=by simpa using h3
       clear TJ NJ
       go_upto_region 10 with fail
       go_quiet (fail)
       all_goals go_upto_region 11 with fail
       all_goals go_quiet (fail)
       all_goals go_wp2
       all_goals (first | go_end0 | go_ret | refine bodyPost_ret (results_none rfl _ _ _) rfl ?_)
       all_goals exact ⟨rfl,G4.out.trans (HI.out.2.1.trans ((Qq _ _).trans (Qq _ _)))⟩
      by_cases h4 : X.den = Y.den
      case neg =>
       rw [h0] at x0;rw [h1] at x1;rw [h2] at x2;rw [h3] at x3
       obtain rfl : r = false:=NJ.out (fun h => h4 h.2.2.2.2)
       have p2 : (X.den != Y.den) = true:=by simpa using h4
       clear TJ NJ
       go_upto_region 10 with fail
       go_quiet (fail)
       all_goals go_upto_region 11 with fail
       all_goals go_quiet (fail)
       all_goals go_wp2
       all_goals (first | go_end0 | go_ret | refine bodyPost_ret (results_none rfl _ _ _) rfl ?_)
       all_goals exact ⟨rfl,G4.out.trans (HI.out.2.1.trans ((Qq _ _).trans (Qq _ _)))⟩
      have TK:=Qo0 (TJ.out ⟨h0,h1,h2,h3,h4⟩)
      rw [h0] at x0;rw [h1] at x1;rw [h2] at x2;rw [h3] at x3;rw [h4] at x4
      clear TJ NJ h0 h1 h2 h3 h4
      go_upto_region 10 with fail
      go_quiet (fail)
      generalize nq = nq1 at *
      go_upto_region 11 with fail
      go_quiet (fail)
      generalize nq = nq2 at *
      go_upto_region 13 with fail
      have GU:=Qo0 (show Gr wr ((wr.drewN nq1).drewN nq2) from (Qq _ _).trans (Qq _ _))
      have y5':=Ze GU.out y5
      have x5':=Ze GU.out x5
      have bw:=HI.out.2.1
      have OU:=Qo0 (show OR 225 2 PR.cs ((wr.drewN nq1).drewN nq2) B (.slice (some ⟨g',0,none⟩) (k + j) cap') (St ++ prs (pL.take j) (pM.take j)) from HI.out.1.gr GU.out)
      have GWU:=Qo0 (HI.out.2.1.trans GU.out)
      have BU:=Qo0 (Qe GU.out HI.out.2.2.1)
      have NU:=Qo0 (And.intro HI.out.2.2.2.1 HI.out.2.2.2.2)
      clear f0 f1 x0 x1 x2 x3 x4 x5 y0 y1 y2 y3 y4 y5 e0 e1 HI hba hbb bw
      generalize (wr.drewN nq1).drewN nq2 = U at *
      have SS:=Qo0 (fun V (h : U.grownBy V (some g')) => show V.cell? ⟨a1.block,a1.off + 5,none⟩ = some (.slice X.A X.sub.length X.c) ∧ V.cell? ⟨b1.block,b1.off + 5,none⟩ = some (.slice Y.A Y.sub.length Y.c) from by
       have h1:=(OU.out.lt g' rfl).1
       have h2:=LAB.out
       exact ⟨h.cell x5' (by simp only [ne_eq,Option.some.injEq];omega),h.cell y5' (by simp only [ne_eq,Option.some.injEq];omega)⟩)
      have LN:=Qo0 (show (St ++ prs (pL.take j) (pM.take j)).length + [(⟨X.A,X.c,X.sub,Y.A,Y.c,Y.sub⟩ : PR)].length ≤ 1000000 from by
       have h1:=Qdb (pL.take j) (pM.take j) (by rw [List.length_take,List.length_take,HN.out.1,HN.out.2])
       have h2:=HS.out.n
       have h3:=Qau St [(⟨some a,pc,pL,some b,pd,pM⟩ : PR)]
       have h4:=Qff pL
       have h5:=HN.out.1
       simp only [X1] at h3
       rw [List.length_append,h1,HK.out,List.length_take]
       simp
       omega)
      have HU:=Qo0 (show B ≤ U.heap.size from by have:=GWU.out.size;have:=Z4.out;have:=HS.out.o.1;have h:=Qn BU.out;have:=GBP.out.1;omega)
      clear x5' y5'
      go_region_held_law (fun V => V.cell? ⟨a1.block,a1.off + 5,none⟩ = some (.slice X.A X.sub.length X.c) ∧ V.cell? ⟨b1.block,b1.off + 5,none⟩ = some (.slice Y.A Y.sub.length Y.c))
       (first | (with_reducible exact SS.out _ (World.grownBy.but (Qb _) _)) | (with_reducible exact SS.out _ (World.grownBy.but ((Qb _).trans (Qa _ _)) _)) | (with_reducible exact SS.out _ G7.out))
       (first
       | (refine Xq elP rfl (.tmp 104) (.tmp 114) rfl B (v:=.slice (some ⟨g',0,none⟩) (k + j) cap') (L:=St ++ prs (pL.take j) (pM.take j)) rfl (OU.out.gr (by first | exact (Qb _).trans (Qa _ _) | exact (Qa _ _).trans (Qb _))) (A:=some ⟨_,0,none⟩) (M:=[⟨X.A,X.c,X.sub,Y.A,Y.c,Y.sub⟩]) (m:=1) (c:=1) rfl rfl (Qj (t:=225) PR.cs_len (by first | exact Qd _ _ | exact Qe (Qb _) (Qd _ _))) LN.out (by have:=HU.out;simp;omega) ?_
          intro v7 w7 o7 g7 b7
          have G7:=Qo0 (show U.grownBy w7 (some g') from (World.grownBy.but (by first | exact (Qb _).trans (Qa _ _) | exact (Qa _ _).trans (Qb _)) _).trans g7)
          have B7:=Qo0 (show v7.ownBlock = some g' ∨ ∃ q,v7.ownBlock = some q ∧ U.heap.size ≤ q from by
           rcases b7 with h | h
           ·exact .inl h
           ·exact .inr ⟨_,h,by simp⟩)
          have O7:=Qo0 o7
          clear o7 g7 b7))
      go_wp2
      obtain ⟨g8,c8,hv8,hne8⟩ : ∃ g8 c8,v7 = .slice (some ⟨g8,0,none⟩) (k + (j + 1)) c8 ∧ g8 ≠ bp:=by
       have hl8 : (St ++ prs (pL.take j) (pM.take j) ++ [(⟨X.A,X.c,X.sub,Y.A,Y.c,Y.sub⟩ : PR)]).length = k + (j + 1):=by
        rw [List.length_append,List.length_append,Qdb _ _ (by rw [List.length_take,List.length_take,HN.out.1,HN.out.2]),List.length_take,HK.out,HN.out.1]
        simp
        omega
       rcases O7.out.2 with ⟨e9,_⟩ | ⟨g9,cap9,cur9,e9,_⟩
       ·rcases B7.out with h | ⟨q9,h,_⟩ <;> rw [e9] at h <;> simp [Value.ownBlock] at h
       ·refine ⟨g9,cap9,by rw [e9,hl8],fun h9 => ?_⟩
        rcases B7.out with h | ⟨q9,h,h2⟩
        ·rw [e9] at h
         simp only [Value.ownBlock,Option.some.injEq] at h
         exact NU.out.1 (h.symm.trans h9)
        ·rw [e9] at h
         simp only [Value.ownBlock,Option.some.injEq] at h
         have:=Qn BU.out
         omega
      subst hv8
      have g0:=(OU.out.lt g' rfl).1
      exact ⟨⟨j + 1,g8,c8,by omega,by simp,rfl,Qo0 ⟨by rw [PJ.out,← List.append_assoc];exact O7.out,Zq GWU.out G7.out (fun q9 h9 => by cases h9;have:=Z4.out;omega),(G7.out.block _ (Qn BU.out) (by simp only [ne_eq,Option.some.injEq];exact fun h => NU.out.1 h.symm)).trans BU.out,hne8,TK.out⟩⟩,by simp [intOf];omega⟩
     ·obtain rfl : j = n:=by omega
      have nj : ¬ (j : Int) < (j : Int):=by omega
      have tL : pL.take j = pL:=List.take_of_length_le (by rw [HN.out.1];exact Nat.le_refl _)
      have tM : pM.take j = pM:=List.take_of_length_le (by rw [HN.out.2];exact Nat.le_refl _)
      rw [tL,tM] at HI
      have hlm : pL.length = pM.length:=HN.out.1.trans HN.out.2.symm
      have hlen : (St ++ prs pL pM).length = k + j:=by rw [List.length_append,Qdb _ _ hlm,HK.out,HN.out.1]
      have htot : X1 (St ++ prs pL pM) < X1 (St ++ [(⟨pA,pc,pL,pB,pd,pM⟩ : PR)]):=by rw [Qau,Qau,Qjv _ _ hlm];simp [X1]
      have hN : EST x y W4 B (X1 (St ++ prs pL pM)) (.slice (some ⟨g',0,none⟩) (k + j) cap') wr g' cap' (St ++ prs pL pM):=by
       refine ⟨by rw [hlen],HI.out.1,HI.out.2.1,?_,fun z hz => ?_,rfl,by have:=HS.out.n;omega⟩
       ·rw [HS.out.r]
        have h1:=prs_eq pL pM hlm HI.out.2.2.2.2
        constructor
        ·intro h z hz
         rcases List.mem_append.1 hz with hz | hz
         ·exact h z (List.mem_append_left _ hz)
         ·exact h1.2 (h _ (List.mem_append_right _ (List.mem_singleton.2 rfl))) z hz
        ·intro h z hz
         rcases List.mem_append.1 hz with hz | hz
         ·exact h z (List.mem_append_left _ hz)
         ·rw [List.mem_singleton.1 hz]
          exact h1.1 (fun p hp => h p (List.mem_append_right _ hp))
       ·rcases List.mem_append.1 hz with hz | hz
        ·exact HS.out.t z (List.mem_append_left _ hz)
        ·exact prs_rd pL pM PRd.out.l PRd.out.m z hz
      have HNN:=Qo0 hN
      have HT:=Qo0 (show X1 (St ++ prs pL pM) < q from by rw [HS.out.em];exact htot)
      clear tL tM hlm hlen htot hN
      go_wp2
      exact ⟨⟨_,_,_,_,HNN⟩,by rw [HQ.out];exact Nat.lt_of_le_of_lt ((MU.out _ _ ⟨_,_,_,_,HNN.out⟩).2 _ ⟨_,_,_,HNN.out⟩) HT.out⟩
   ·obtain rfl : r = false:=by
     rw [← HR.out]
     refine decide_eq_false (fun h => hne ?_)
     have:=(HS.out.r.1 h) _ (List.mem_append_right _ (List.mem_singleton.2 rfl))
     have h2:=congrArg List.length (show ers pL = ers pM from this)
     simpa using h2
    have p2 : ¬ (pL.length : Int) = (pM.length : Int):=by omega
    have p3 : ((pL.length : Int) != (pM.length : Int)) = true:=by simpa using p2
    have G9:=Qo0 ((G4.out.trans HS.out.gr).trans (Qa wr (.cells #[.slice pA pL.length pc,.slice pB pM.length pd] 225)))
    clear hne
    go_wp2
    all_goals (first | go_end0 | go_ret | refine bodyPost_ret (results_none rfl _ _ _) rfl ?_)
    all_goals exact ⟨rfl,G9.out⟩
end Go.Proofs.YtiaenhlflgobfaaGreatDoor

/- Words. -/
import Derived.Test.YtiaenhlflgobfaaGreatDoorTb13
import Derived.Test.YtiaenhlflgobfaaGreatDoorTb16
import Derived.Test.YtiaenhlflgobfaaGreatDoorTb17
import Derived.Test.YtiaenhlflgobfaaGreatDoorTb18
namespace Go.Proofs.YtiaenhlflgobfaaGreatDoor
open Go.RowKit
def nd (e : PE) : List PE:=(e.pre 1).map (·.2)
mutual
theorem nd_any (d : Nat) : ∀ e : PE,(e.pre d).map (·.2) = nd e
 | .mk k n m i e s => by
   unfold nd
   rw [PE.pre,PE.pre,List.map_cons,List.map_cons,Qdc (d + 1) s,Qdc (1 + 1) s]
theorem Qdc (d : Nat) : ∀ l : List PE,(Qbt d l).map (·.2) = l.flatMap nd
 | [] => by simp
 | x :: l => by rw [pres_cons,List.map_append,List.flatMap_cons,nd_any d x,Qdc d l]
end
theorem nd_eq (e : PE) : nd e = e :: e.sub.flatMap nd:=by
 unfold nd
 rw [pre_eq,List.map_cons,Qdc]
 rfl
theorem Ex.ind {P : Ex → Prop} (h : ∀ x : Ex,(∀ y ∈ x.sub,P y) → P x) (x : Ex) : P x:=by
 refine Ex.rec (motive_1:=P) (motive_2:=fun l => ∀ y ∈ l,P y) ?_ ?_ ?_ x
 ·intro k n m i e A c s hs
  exact h _ hs
 ·intro y hy;cases hy
 ·intro y l hy hl z hz
  rcases List.mem_cons.1 hz with rfl | hz
  ·exact hy
  ·exact hl z hz
def Q1 (K : List T) : MK T:=K.map fun s => (s,.bool true)
theorem Qn7 (K : List T) (s : T) : Q1 (K ++ [s]) = Q1 K ++ [(s,.bool true)]:=by simp [Q1]
def AFE (e : PE) (B K : List T) (mb : Nat) (w : World) : Ending → World → Prop:=fun r w' => (∃ v,r = .returned v) ∧ w.grownBy w' (some mb) ∧ MP tv w' mb (Q1 (e.fr B K)) ∧ LK sOk (Q1 (e.fr B K))
def AFP (x : Ex) : Prop:=∀ (w0 w : World) (bA : Option Addr) (bc : Nat) (B : List T) (mb : Nat) (K : List T),x.Rd w0 → Gr w0 w → w0.heap.size ≤ mb → (∀ q ∈ nd x.er,ckN q = 0) → B.length + 2 * (nd x.er).length ≤ 1000 → SRd w bA bc B → (∀ a,bA = some a → a.block ≠ mb) → MP tv w mb (Q1 K) → LK sOk (Q1 K) →
 Calls Tryz.prog 183 #[x.v,.slice bA B.length bc,.map (some mb)] w (AFE x.er B K mb w)
theorem SRd.but {w w' : World} {A : Option Addr} {c : Nat} {L : List T} {row : Option Nat} (h : SRd w A c L) (g : w.grownBy w' row) (hne : ∀ a,A = some a → some a.block ≠ row) : SRd w' A c L:=⟨⟨h.rw.hc,h.rw.hm,h.rw.h0,h.rw.r.but g hne⟩,h.ok⟩
theorem Qcr {s : T} : ∀ {K : List T} {i : Nat},(s ∈ K → ∃ q,Xb s (Q1 K) i = some (q,.bool true)) ∧ (s ∉ K → Xb s (Q1 K) i = none)
 | [],i => by simp [Q1,Xb]
 | k :: K,i => by
   have ih:=Qcr (s:=s) (K:=K) (i:=i + 1)
   by_cases h : s = k
   ·subst h
    refine ⟨fun _ => ⟨i,by simp [Q1,Xb]⟩,fun h => absurd (by simp) h⟩
   ·constructor
    ·intro hm
     obtain ⟨q,hq⟩:=ih.1 (by rcases List.mem_cons.1 hm with e | e;exact absurd e h;exact e)
     exact ⟨q,by show Xb s ((k,.bool true) :: Q1 K) i = _;rw [Xb,if_neg h];exact hq⟩
    ·intro hm
     show Xb s ((k,.bool true) :: Q1 K) i = _
     rw [Xb,if_neg h]
     exact ih.2 (fun e => hm (by simp [e]))
theorem upd_add {w : World} {mb : Nat} {K : List T} {s : T} (hm : MP tv w mb (Q1 K)) (hl : LK sOk (Q1 K)) (hs : sOk s) :
 (Instr.mapUpdate 188 (.map (some mb)) (tv s) (.bool true)).run Tryz.prog w = .ok () (Zp tv w mb (Q1 (addK K s))) ∧ LK sOk (Q1 (addK K s)):=by
 unfold addK
 by_cases h : s ∈ K
 ·rw [if_pos (by simpa using h)]
  obtain ⟨q,hq⟩:=Qcr.1 h
  exact ⟨Qgl ktT hm hl Tryz.underlying188 hs hq (fun w => Qh1 s w),hl⟩
 ·rw [if_neg (by simpa using h),Qn7]
  have hn:=(Qcr (i:=0)).2 h
  exact ⟨Q4 ktT hm hl Tryz.underlying188 hs hn _,hl.snoc hs hn _⟩
theorem Qca (B : List T) (k : Int) (n m : T) (i : Nat) (K : List T) : frs B k n m i K [] = K:=by simp [frs]
theorem Qa1 (B : List T) (k : Int) (n m : T) (i : Nat) (K : List T) (x : PE) (l : List PE) : frs B k n m i K (x :: l) = frs B k n m (i + 1) (x.fr (B ++ bnd k n m i) K) l:=by simp [frs]
theorem Qhg (e : PE) (B K : List T) : e.fr B K = if e.kind = 3 then (if B.contains e.name then K else addK K e.name) else frs B e.kind e.name e.more 0 K e.sub:=by cases e;rw [PE.fr];rfl
set_option maxRecDepth 100000 in
set_option maxHeartbeats 4000000 in
attribute [local irreducible] Calls in
theorem Qn2 (x : Ex) (hk : x.kind = 3) : AFP x:=by
 intro w0 w bA bc B mb K hx g0 hmb hv hB hb hne hm hl
 have GX:=Qo0 (Qa w (.cells #[iv x.kind,tv x.name,tv x.more,iv x.int,iv x.den,.slice x.A x.sub.length x.c] 43))
 obtain ⟨c0,c1,-⟩:=Zw x w _ (Qc _)
 have HC:=Qo0 (Qbn bA bc B x.name (w.alloc (.cells #[iv x.kind,tv x.name,tv x.more,iv x.int,iv x.den,.slice x.A x.sub.length x.c] 43)) (hb.gr GX.out).r (by omega))
 have M1:=Qo0 (show MP tv (w.alloc (.cells #[iv x.kind,tv x.name,tv x.more,iv x.int,iv x.den,.slice x.A x.sub.length x.c] 43)) mb (Q1 K) from Qe GX.out hm)
 have FR:=Qhg x.er B K
 rw [Zk,Yb,hk,if_pos rfl] at FR
 unfold AFE
 rw [FR]
 have UP:=Qo0 (upd_add M1.out hl hx.n)
 have HL:=Qo0 hl
 have lt:=Qo0 hm.lt
 clear FR hx g0 hmb hv hB hb hne hm hl
 unfold Ex.v
 rw [hk] at c0 GX HC M1 UP ⊢
 generalize x.name = s at *
 obtain ⟨n,hn⟩ : ∃ n,B.length = n:=⟨_,rfl⟩
 rw [hn] at HC ⊢
 obtain ⟨b,hbb⟩ : ∃ b,B.contains s = b:=⟨_,rfl⟩
 rw [hbb] at HC ⊢
 clear hbb hn
 have hup:=UP.out.1
 cases b with
 | true =>
   go_enter Tryz.func183,Tryz.ntmps183
   go_wp2_with (go_at_call 50;(with_reducible refine HC.out.mono ?_);rintro e w1 ⟨rfl,rfl⟩)
   first | go_end0 | refine bodyPost_ret (results_none rfl _ _ _) rfl ?_
   exact ⟨⟨_,rfl⟩,(World.grownBy.but GX.out _),M1.out,HL.out⟩
 | false =>
   go_enter Tryz.func183,Tryz.ntmps183
   go_wp2_with (go_at_call 50;(with_reducible refine HC.out.mono ?_);rintro e w1 ⟨rfl,rfl⟩)
   first | go_end0 | refine bodyPost_ret (results_none rfl _ _ _) rfl ?_
   exact ⟨⟨_,rfl⟩,(World.grownBy.but GX.out _).trans (Zu _ _ _),MP.set M1.out,UP.out.2⟩
theorem Yg {x : Ex} {y : Ex} (hy : y ∈ x.sub) : (∀ q ∈ nd y.er,q ∈ nd x.er) ∧ (nd y.er).length + 1 ≤ (nd x.er).length:=by
 have e : nd x.er = x.er :: (ers x.sub).flatMap nd:=by rw [nd_eq,Yn]
 have hm : y.er ∈ ers x.sub:=by rw [Ym];exact List.mem_map.2 ⟨y,hy,rfl⟩
 refine ⟨fun q hq => by rw [e];exact List.mem_cons_of_mem _ (List.mem_flatMap.2 ⟨_,hm,hq⟩),?_⟩
 rw [e,List.length_cons]
 obtain ⟨a,b,hab⟩:=List.append_of_mem hm
 rw [hab,List.flatMap_append,List.flatMap_cons,List.length_append,List.length_append]
 omega
theorem Qot {k : Int} {n m : T} (h6 : k ≠ 6) (h8 : k ≠ 8) (h13 : k ≠ 13) (i : Nat) : bnd k n m i = []:=by
 unfold bnd
 rw [if_neg h6,if_neg (fun h => h8 h.1),if_neg (fun h => h13 h.1)]
set_option maxRecDepth 100000 in
set_option maxHeartbeats 4000000 in
attribute [local irreducible] Calls in
theorem Qlv (x : Ex) (h3 : x.kind ≠ 3) (h6 : x.kind ≠ 6) (h8 : x.kind ≠ 8) (h13 : x.kind ≠ 13) (ih : ∀ y ∈ x.sub,AFP y) : AFP x:=by
 intro w0 w bA bc B mb K hx g0 hmb hv hB hb hne hm hl
 have GX:=Qo0 (Qa w (.cells #[iv x.kind,tv x.name,tv x.more,iv x.int,iv x.den,.slice x.A x.sub.length x.c] 43))
 have CX:=Qo0 (fun V (g : (w.alloc (.cells #[iv x.kind,tv x.name,tv x.more,iv x.int,iv x.den,.slice x.A x.sub.length x.c] 43)).grownBy V (some mb)) => show V.cell? ⟨w.heap.size,5,none⟩ = some (.slice x.A x.sub.length x.c) from g.cell (by rw [Lib.cell_of_heap (Qd _ _)];rfl) (by have:=hm.lt;simp;omega))
 obtain ⟨c0,-,-,-,-,c5⟩:=Zw x w _ (Qc _)
 have FR:=Qhg x.er B K
 rw [Zk,Yb,Xa,Yn,if_neg h3] at FR
 have SL:=Qo0 (And.intro hx.s.rw.hc hx.s.rw.hm)
 have GZ:=Qo0 (fun V (g : (w.alloc (.cells #[iv x.kind,tv x.name,tv x.more,iv x.int,iv x.den,.slice x.A x.sub.length x.c] 43)).grownBy V (some mb)) => show Gr w0 V from Zq (g0.trans GX.out) g (fun k h => by cases h;exact hmb))
 have XR:=Qo0 (fun V (g : (w.alloc (.cells #[iv x.kind,tv x.name,tv x.more,iv x.int,iv x.den,.slice x.A x.sub.length x.c] 43)).grownBy V (some mb)) => hx.gr (GZ.out V g))
 have BN:=Qo0 (fun i => Qot (n:=x.name) (m:=x.more) h6 h8 h13 i)
 have CA:=Qo0 (fun (y : Ex) (hy : y ∈ x.sub) V (g : (w.alloc (.cells #[iv x.kind,tv x.name,tv x.more,iv x.int,iv x.den,.slice x.A x.sub.length x.c] 43)).grownBy V (some mb)) (K' : List T) (h1 : MP tv V mb (Q1 K')) (h2 : LK sOk (Q1 K')) => ih y hy w0 V bA bc B mb K' (XRd.hs hx.s y hy) (GZ.out V g) hmb (fun q hq => hv q ((Yg hy).1 q hq)) (by have:=(Yg hy).2;omega) ((hb.gr GX.out).but g (fun a e => by have:=hne a e;simpa using this)) hne h1 h2)
 have M1:=Qo0 (show MP tv (w.alloc (.cells #[iv x.kind,tv x.name,tv x.more,iv x.int,iv x.den,.slice x.A x.sub.length x.c] 43)) mb (Q1 K) from Qe GX.out hm)
 have HL:=Qo0 hl
 have SZ:=Qo0 (show mb < w.heap.size from hm.lt)
 unfold AFE
 rw [FR]
 have p3 : (x.kind == 3) = false:=by simpa using h3
 have p6 : (x.kind == 6) = false:=by simpa using h6
 have p8 : (x.kind == 8) = false:=by simpa using h8
 have p13 : (x.kind == 13) = false:=by simpa using h13
 clear FR hx g0 hmb hv hB hb hne hm hl h3 h6 h8 h13 ih
 unfold Ex.v
 obtain ⟨n,hn⟩ : ∃ n,x.sub.length = n:=⟨_,rfl⟩
 have HN:=Qo0 hn
 rw [hn] at SL GX CX GZ XR CA M1 c0 c5 ⊢
 obtain ⟨xA,hxA⟩ : ∃ a,x.A = a:=⟨_,rfl⟩
 have HXA:=Qo0 hxA
 rw [hxA] at GX CX GZ XR CA M1 c0 c5 ⊢
 obtain ⟨bn,hbn⟩ : ∃ n,B.length = n:=⟨_,rfl⟩
 rw [hbn] at CA ⊢
 obtain ⟨FK,hFK⟩ : ∃ F,frs B x.kind x.name x.more 0 K (ers x.sub) = F:=⟨_,rfl⟩
 rw [hFK]
 have HF:=Qo0 hFK
 have hsl:=SL.out
 clear hn hbn hFK hxA
 go_enter Tryz.func183,Tryz.ntmps183
 go_upto_region 1 with fail
 generalize w.alloc (.cells #[iv x.kind,tv x.name,tv x.more,iv x.int,iv x.den,.slice xA n x.c] 43) = W at *
 generalize w.heap.size = bx at *
 go_wp2
 clear c0 c5
 go_loopw [7,88] (fun _ i V => ∃ (j : Nat) (Kj : List T),j ≤ n ∧ i = iv j ∧ Hid (W.grownBy V (some mb) ∧ MP tv V mb (Q1 Kj) ∧ LK sOk (Q1 Kj) ∧ frs B x.kind x.name x.more j Kj (ers (x.sub.drop j)) = FK)) (fun _ i _ => (n - intOf i).toNat)
 case atStart => exact ⟨0,K,by omega,rfl,Qo0 ⟨World.grownBy.refl _ _,M1.out,HL.out,by rw [List.drop_zero];exact HF.out⟩⟩
 case round =>
  obtain ⟨j,Kj,hj,rfl,HG⟩:=hrel
  by_cases hlt : j < n
  ·have hjl : j < x.sub.length:=by rw [HN.out];exact hlt
   obtain ⟨a,a1,ea,e1,hb1,d0,d1,d2,d3,d4,d5,-⟩:=XRd.at (XR.out _ HG.out.1).s hjl
   have hy:=List.getElem_mem hjl
   have FJ:=Qo0 (show frs B x.kind x.name x.more (j + 1) (x.sub[j].er.fr B Kj) (ers (x.sub.drop (j + 1))) = FK by
    have h:=HG.out.2.2.2
    rw [List.drop_eq_getElem_cons hjl,ers_cons,Qa1,BN.out,List.append_nil] at h
    exact h)
   have CJ:=Qo0 (fun V g K' h1 h2 => CA.out x.sub[j] hy V g K' h1 h2)
   have tj : (j : Int) < (n : Int):=by omega
   clear hy
   generalize x.sub[j] = y at *
   clear hjl
   have GV:=Qo0 HG.out.1
   have GA:=Qo0 (show W.grownBy (wr.alloc (.cells #[iv y.kind,tv y.name,tv y.more,iv y.int,iv y.den,.slice y.A y.sub.length y.c] 43)) (some mb) from GV.out.trans (World.grownBy_alloc _ _ _))
   have CK:=Qo0 (CJ.out _ GA.out Kj (Qe (Qa _ _) HG.out.2.1) HG.out.2.2.1)
   clear HG CJ
   unfold Ex.v AFE at CK
   rw [HXA.out] at ea
   subst ea
   go_wp2_with (go_at_call 183;(with_reducible refine CK.out.mono ?_);rintro e w5 ⟨⟨r,rfl⟩,g5,m5,l5⟩;have G5:=Qo0 (And.intro g5 (And.intro m5 l5));clear g5 m5 l5)
   exact ⟨⟨j + 1,y.er.fr B Kj,by omega,by simp,Qo0 ⟨GA.out.trans G5.out.1,G5.out.2.1,G5.out.2.2,FJ.out⟩⟩,by simp [intOf];omega⟩
  ·obtain rfl : j = n:=by omega
   have e : Kj = FK:=by
    have h:=HG.out.2.2.2
    rw [List.drop_eq_nil_of_le (by rw [HN.out];exact Nat.le_refl _),ers_nil,Qca] at h
    exact h
   have GV:=Qo0 (show W.grownBy wr (some mb) ∧ MP tv wr mb (Q1 FK) ∧ LK sOk (Q1 FK) from ⟨HG.out.1,by rw [← e];exact HG.out.2.1,by rw [← e];exact HG.out.2.2.1⟩)
   clear HG e
   go_wp2
   first | go_end0 | refine bodyPost_ret (results_none rfl _ _ _) rfl ?_
   exact ⟨⟨_,rfl⟩,(World.grownBy.but GX.out _).trans GV.out.1,GV.out.2.1,GV.out.2.2⟩
end Go.Proofs.YtiaenhlflgobfaaGreatDoor

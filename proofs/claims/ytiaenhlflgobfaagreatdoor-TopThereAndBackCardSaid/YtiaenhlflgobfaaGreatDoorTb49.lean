/- Words. -/
import Derived.Test.YtiaenhlflgobfaaGreatDoorTb48
namespace Go.Proofs.YtiaenhlflgobfaaGreatDoor
open Go.RowKit
def RxP (x : PE) (rb : Nat) (r : T) (V : World) (e : Ending) (V' : World) : Prop:=∃ y : Ex,e = .returned y.v ∧ y.er = x ∧ y.Rd (Zb V.heap.size none V') ∧ RdS rb r V' ∧ V.grownBy V' (some rb)
abbrev ZX : Obj:=.cells #[.int .i64 0,.string ⟨#[]⟩,.string ⟨#[]⟩,.int .i64 0,.int .i64 0,.slice none 0 0] 43 (0,0)
def XI (rb kb ka : Nat) (r : T) (V : World) (k : Int) (nm mr : T) (i dn : Int) (L : List PE) (j : Nat) (V' : World) : Prop :=
 ∃ (A : Option Addr) (c : Nat) (M : List Ex),M.map Ex.er = L.take j ∧ HR rb (Z7 (L.drop j) ++ r) V V' [(kb,.cells #[iv k,tv nm,tv mr,iv i,iv dn,.slice A j c] 43 (0,0)),(ka,ZX)] ∧ OR 43 6 Ex.cs V' (kb + 1) (.slice A j c) M ∧ ∀ y ∈ M,y.Rd (Zb (kb + 1) (Value.slice A j c).ownBlock V')
theorem Qdf {α : Type} {e : TypeId} {n : Nat} {cs : α → List Value} {w : World} {base m : Nat} {v : Value} {M : List α} {q : α} (hn : ∀ x,(cs x).length = n) (hm : M.length = m) (o : OR e n cs w base v (M ++ [q])) : ∃ A c,v = .slice A (m + 1) c:=by
 obtain ⟨A,c,e0,-⟩:=o.form hn
 rw [List.length_append,hm] at e0
 exact ⟨A,c,e0⟩
theorem xi_step {rb kb ka j : Nat} {r : T} {V V1 w1 w7 : World} {k i dn : Int} {nm mr : T} {L : List PE} {A A7 : Option Addr} {c c7 : Nat} {M : List Ex} {q : Ex} {y : PE} {o : Obj} (HM : M.map Ex.er = L.take j) (F2 : HR rb (Z7 (L.drop (j + 1)) ++ r) V (w1.alloc o) [(kb,.cells #[iv k,tv nm,tv mr,iv i,iv dn,.slice A j c] 43 (0,0)),(ka,ZX)]) (HO : OR 43 6 Ex.cs V1 (kb + 1) (.slice A j c) M) (HY : ∀ y ∈ M,y.Rd (Zb (kb + 1) (Value.slice A j c).ownBlock V1))
 (hy : L[j]? = some y) (hs : kb < V1.heap.size) (hkb : V.heap.size ≤ kb) (hka : ka < kb) (g : V1.grownBy w1 (some rb)) (er : q.er = y) (rd : q.Rd (Zb V1.heap.size none w1)) (o7 : OR 43 6 Ex.cs w7 (kb + 1) (.slice A7 (j + 1) c7) (M ++ [q])) (g7 : (w1.alloc o).grownBy w7 (Value.slice A j c).ownBlock) (b7 : (Value.slice A7 (j + 1) c7).ownBlock = (Value.slice A j c).ownBlock ∨ (Value.slice A7 (j + 1) c7).ownBlock = some (w1.alloc o).heap.size) :
 XI rb kb ka r V k nm mr i dn L (j + 1) (w7.setCell ⟨kb,5,none⟩ (.slice A7 (j + 1) c7)):=by
 have hlt:=HO.lt
 have F3:=F2.own g7 (fun b hb => by
  obtain ⟨p1,p2⟩:=hlt b hb
  refine ⟨by omega,fun p hp => ?_⟩
  rcases (by simpa using hp : p = _ ∨ p = _) with rfl | rfl
  ·simp only;omega
  ·simp only;omega)
 have hrb:=F2.lt
 obtain ⟨m1,m2⟩:=Qhn (base:=kb + 1) (kb:=kb) g (Qa w1 o) g7 b7 (Qo (w:=w7) kb 5 (.slice A7 (j + 1) c7)) (by omega) (by omega)
 refine ⟨A7,c7,M ++ [q],?_,HR.setc (pre:=[]) F3 5 _,o7.kept (Qo kb 5 _) ?_,fun x hx => ?_⟩
 ·rw [List.map_append,HM,List.map_cons,List.map_nil,er,List.take_add_one,hy];rfl
 ·cases hq : (Value.slice A7 (j + 1) c7).ownBlock with
  | none => exact .inl rfl
  | some b => refine .inr (fun e => ?_);cases e;have:=(o7.lt kb hq).1;omega
 ·rcases List.mem_append.1 hx with hx | hx
  ·exact (HY x hx).mo m1
  ·obtain rfl:=List.mem_singleton.1 hx
   refine rd.mo (Mo.trans (Qa5 w1 (fun b hb => ?_)) m2)
   rcases hb with hb | hb
   ·left;omega
   ·left;exact (hlt b hb.symm).2
theorem xi_fin {rb kb ka n : Nat} {r : T} {V w : World} {k i dn : Int} {nm mr : T} {L : List PE} {A : Option Addr} {c : Nat} {M : List Ex} (hn : L.length = n) (HM : M.map Ex.er = L.take n) (HH : HR rb (Z7 (L.drop n) ++ r) V w [(kb,.cells #[iv k,tv nm,tv mr,iv i,iv dn,.slice A n c] 43 (0,0)),(ka,ZX)]) (HO : OR 43 6 Ex.cs w (kb + 1) (.slice A n c) M) (HY : ∀ y ∈ M,y.Rd (Zb (kb + 1) (Value.slice A n c).ownBlock w))
 (hkb : V.heap.size ≤ kb) (hka : ka < kb) (hnm : sOk nm) (hmr : sOk mr) (w' : World) (hw' : ((((((w.setCell ⟨ka,0,none⟩ (iv k)).setCell ⟨ka,1,none⟩ (tv nm)).setCell ⟨ka,2,none⟩ (tv mr)).setCell ⟨ka,3,none⟩ (iv i)).setCell ⟨ka,4,none⟩ (iv dn)).setCell ⟨ka,5,none⟩ (.slice A n c)) = w') :
 ∃ y : Ex,y.er = PE.mk k nm mr i dn L ∧ y.Rd (Zb V.heap.size none w') ∧ RdS rb r w' ∧ V.grownBy w' (some rb) ∧ w'.heap[ka]? = some (.cells y.cs.toArray 43 (0,0)):=by
 have g : w.grownBy w' (some ka):=by rw [← hw'];exact ((((((Qo ka 0 _).trans (Qo ka 1 _)).trans (Qo ka 2 _)).trans (Qo ka 3 _)).trans (Qo ka 4 _)).trans (Qo ka 5 _))
 have H1:=HR.setc (pre:=[(kb,.cells #[iv k,tv nm,tv mr,iv i,iv dn,.slice A n c] 43 (0,0))]) (post:=[]) HH 0 (iv k)
 have H2:=HR.setc (pre:=[(kb,.cells #[iv k,tv nm,tv mr,iv i,iv dn,.slice A n c] 43 (0,0))]) (post:=[]) H1 1 (tv nm)
 have H3:=HR.setc (pre:=[(kb,.cells #[iv k,tv nm,tv mr,iv i,iv dn,.slice A n c] 43 (0,0))]) (post:=[]) H2 2 (tv mr)
 have H4:=HR.setc (pre:=[(kb,.cells #[iv k,tv nm,tv mr,iv i,iv dn,.slice A n c] 43 (0,0))]) (post:=[]) H3 3 (iv i)
 have H5:=HR.setc (pre:=[(kb,.cells #[iv k,tv nm,tv mr,iv i,iv dn,.slice A n c] 43 (0,0))]) (post:=[]) H4 4 (iv dn)
 have H6:=HR.setc (pre:=[(kb,.cells #[iv k,tv nm,tv mr,iv i,iv dn,.slice A n c] 43 (0,0))]) (post:=[]) H5 5 (.slice A n c)
 rw [hw'] at H6
 have HM2 : M.map Ex.er = L:=by rw [HM,List.take_of_length_le (Nat.le_of_eq hn)]
 have hlm : M.length = n:=by have:=congrArg List.length HM2;rw [List.length_map] at this;omega
 have HO2:=HO.kept g (by
  cases hq : (Value.slice A n c).ownBlock with
  | none => exact .inl rfl
  | some b => refine .inr (fun e => ?_);cases e;have:=(HO.lt ka hq).1;omega)
 obtain ⟨A2,c2,e2,rw2⟩:=HO2.cut elE.hn (b:=V.heap.size) (by omega)
 obtain ⟨rfl,-,rfl⟩:=Value.slice.inj e2
 refine ⟨Ex.mk k nm mr i dn A c M,?_,⟨XRd.of rw2 (fun x hx => ?_),hnm,hmr⟩,?_,H6.g,?_⟩
 ·show PE.mk k nm mr i dn _ = _
  rw [Ym,HM2]
 ·exact (HY x hx).mo ((Xl g (fun b e => by cases e;left;omega)).trans (Qa4 _ (by omega)))
 ·have:=H6.r
  rw [List.drop_eq_nil_of_le (Nat.le_of_eq hn)] at this
  simpa using this
 ·have:=H6.f (ka,_) (List.mem_cons_of_mem _ (List.mem_cons_self ..))
  rw [this]
  show _ = some (Obj.cells #[iv k,tv nm,tv mr,iv i,iv dn,.slice A M.length c] 43 (0,0))
  rw [hlm];rfl
attribute [local irreducible] Calls in
set_option maxRecDepth 100000 in
set_option maxHeartbeats 4000000 in
theorem Qld : ∀ (d : Nat) (x : PE) (dep : Int) (rb : Nat) (r : T) (V : World),XIn d x → (d : Int) ≤ dep → dep ≤ 1000 → RdS rb (enX x ++ r) V → (enX x).length + r.length ≤ 50000000 → Calls Tryz.prog 93 #[.pointer (some ⟨rb,0,none⟩),.int .i64 dep] V (RxP x rb r V):=by
 intro d
 induction d with
 | zero => intro x dep rb r V h;exact absurd h (by simp [XIn])
 | succ d ih =>
 intro x dep rb r V hX hd1 hd2 h hl
 obtain ⟨hk,hsub⟩:=hX
 obtain ⟨k,nm,mr,i,dn,L⟩:=x
 have sk0:=hk.k0
 have sk1:=hk.k1
 have snm:=hk.n
 have smr:=hk.m
 have si0:=hk.i0
 have si1:=hk.i1
 have sd0:=hk.d0
 have sd1:=hk.d1
 have sn:=hk.s
 simp only [PE.kind,PE.name,PE.more,PE.int,PE.den,PE.sub] at sk0 sk1 snm smr si0 si1 sd0 sd1 sn hsub
 clear hk
 have sca:=cA_le si0 si1
 obtain ⟨n,hn⟩ : ∃ n,L.length = n:=⟨_,rfl⟩
 obtain ⟨s6,hs6⟩ : ∃ s,s = Z7 L ++ r:=⟨_,rfl⟩
 obtain ⟨s5,hs5⟩ : ∃ s,s = dig n ++ s6:=⟨_,rfl⟩
 obtain ⟨s4,hs4⟩ : ∃ s,s = dig dn.toNat ++ s5:=⟨_,rfl⟩
 obtain ⟨s3,hs3⟩ : ∃ s,s = dig (cA i) ++ s4:=⟨_,rfl⟩
 obtain ⟨s2,hs2⟩ : ∃ s,s = Qp mr ++ s3:=⟨_,rfl⟩
 obtain ⟨s1,hs1⟩ : ∃ s,s = Qp nm ++ s2:=⟨_,rfl⟩
 obtain ⟨s0,hs0⟩ : ∃ s,s = dig k.toNat ++ s1:=⟨_,rfl⟩
 have hE : enX (PE.mk k nm mr i dn L) ++ r = s0:=by
  rw [Qf1]
  unfold Qdw
  rw [hs0,hs1,hs2,hs3,hs4,hs5,hs6]
  simp only [PE.kind,PE.name,PE.more,PE.int,PE.den,PE.sub,List.append_assoc,hn]
 have hlen : s0.length ≤ 50000000:=by rw [← hE,List.length_append];exact hl
 rw [hE] at h
 have l1 : s1.length ≤ s0.length:=by rw [hs0];simp
 have l2 : s2.length ≤ s1.length:=by rw [hs1];simp
 have l3 : s3.length ≤ s2.length:=by rw [hs2];simp
 have l4 : s4.length ≤ s3.length:=by rw [hs3];simp
 have l5 : s5.length ≤ s4.length:=by rw [hs4];simp
 have l6 : s6.length ≤ s5.length:=by rw [hs5];simp
 rw [hn] at sn
 have N1:=Qo0 (fun V' (h' : RdS rb s0 V') => show Calls Tryz.prog 47 #[.pointer (some ⟨rb,0,none⟩),.int .i64 1099511627776] V' (RdP rb (iv k) s1 V') from by
  have q:=Yf rb k.toNat 1099511627776 s1 V' (by rw [← hs0];exact h') (by omega) (by omega)
  rw [Int.toNat_of_nonneg sk0] at q;exact q)
 have N2:=Qo0 (fun V' (h' : RdS rb s1 V') => Qav rb nm s2 V' (by rw [← hs1];exact h') snm (by omega))
 have N3:=Qo0 (fun V' (h' : RdS rb s2 V') => Qav rb mr s3 V' (by rw [← hs2];exact h') smr (by omega))
 obtain ⟨z,hz⟩ : ∃ z : Int,z = (cA i : Nat):=⟨_,rfl⟩
 have N4:=Qo0 (fun V' (h' : RdS rb s3 V') => show Calls Tryz.prog 47 #[.pointer (some ⟨rb,0,none⟩),.int .i64 1099511627776] V' (RdP rb (iv z) s4 V') from by
  rw [hz]
  exact Yf rb (cA i) 1099511627776 s4 V' (by rw [← hs3];exact h') (by omega) (by omega))
 have N5:=Qo0 (fun V' (h' : RdS rb s4 V') => show Calls Tryz.prog 47 #[.pointer (some ⟨rb,0,none⟩),.int .i64 1099511627776] V' (RdP rb (iv dn) s5 V') from by
  have q:=Yf rb dn.toNat 1099511627776 s5 V' (by rw [← hs4];exact h') (by omega) (by omega)
  rw [Int.toNat_of_nonneg sd0] at q;exact q)
 have N6:=Qo0 (fun V' (h' : RdS rb s5 V') => show Calls Tryz.prog 47 #[.pointer (some ⟨rb,0,none⟩),.int .i64 3] V' (RdP rb (iv n) s6 V') from
  Yf rb n 3 s6 V' (by rw [← hs5];exact h') (by omega) (by omega))
 have hpart : ∀ j y,L[j]? = some y → Z7 (L.drop j) ++ r = enX y ++ (Z7 (L.drop (j + 1)) ++ r):=fun j y hy => by
  rw [List.drop_eq_getElem_cons (List.getElem?_eq_some_iff.1 hy).1,enXs_cons,List.append_assoc,(List.getElem?_eq_some_iff.1 hy).2]
 have IH:=Qo0 (fun V' (j : Nat) (y : PE) (hy : L[j]? = some y) (h' : RdS rb (Z7 (L.drop j) ++ r) V') => show Calls Tryz.prog 93 #[.pointer (some ⟨rb,0,none⟩),.int .i64 (IntKind.i64.wrap (dep - 1))] V' (RxP y rb (Z7 (L.drop (j + 1)) ++ r) V') from by
  rw [hpart j y hy] at h'
  rw [show IntKind.i64.wrap (dep - 1) = dep - 1 from IntWalk.i64_in _ ⟨by omega,by omega⟩]
  refine ih y (dep - 1) rb _ V' (hsub y (List.mem_of_getElem? hy)) (by omega) (by omega) h' ?_
  have q1:=congrArg List.length (hpart j y hy)
  have q2 : (Z7 (L.drop j) ++ r).length ≤ s6.length:=by
   rw [hs6]
   conv => rhs;rw [← List.take_append_drop j L,Qa3,List.append_assoc,List.length_append]
   omega
  simp only [List.length_append] at q1 q2 ⊢
  omega)
 have HN:=Qo0 hn
 have HR0:=Qo0 h
 have CA1 : i < 0 → z = -2 * i + 1:=by intro h0;rw [hz];unfold cA;rw [if_pos h0];omega
 have CA2 : ¬ i < 0 → z = 2 * i:=by intro h0;rw [hz];unfold cA;rw [if_neg h0];omega
 have HS6:=Qo0 hs6
 have hdp : ¬ dep = 0:=by omega
 have hdb : (dep == 0) = false:=by simpa using hdp
 obtain ⟨ka,hka⟩ : ∃ k,V.heap.size = k:=⟨_,rfl⟩
 obtain ⟨kb,hkb⟩ : ∃ k,k = ka + 1:=⟨_,rfl⟩
 have HKB:=Qo0 hkb
 have SNM:=Qo0 (show sOk nm by unfold sOk;omega)
 have SMR:=Qo0 (show sOk mr by unfold sOk;omega)
 have HVK:=Qo0 (show V.heap.size ≤ kb by omega)
 have HKL:=Qo0 (show ka < kb by omega)
 clear hkb
 clear h hn hs0 hs1 hs2 hs3 hs4 hs5 hs6 hl hlen hsub ih hpart hE l1 l2 l3 l4 l5 l6 sca hz
 go_enter Tryz.func93,Tryz.ntmps93
 go_upto_region 4 with fail
 have H0 : Hid (HR rb s0 V ((V.alloc (.cells #[.int .i64 0,.string ⟨#[]⟩,.string ⟨#[]⟩,.int .i64 0,.int .i64 0,.slice none 0 0] 43)).alloc (.cells #[.int .i64 0,.string ⟨#[]⟩,.string ⟨#[]⟩,.int .i64 0,.int .i64 0,.slice none 0 0] 43)) [(kb,.cells #[iv 0,tv [],tv [],iv 0,iv 0,.slice none 0 0] 43 (0,0)),(ka,ZX)]):=Qo0 (by
  have q:=((HR.new HR0.out).alloc hka ZX).alloc (b:=kb) (by rw [HKB.out];simp;omega) ZX
  exact q)
 rw [← HKB.out]
 generalize (V.alloc (.cells #[.int .i64 0,.string ⟨#[]⟩,.string ⟨#[]⟩,.int .i64 0,.int .i64 0,.slice none 0 0] 43)).alloc (.cells #[.int .i64 0,.string ⟨#[]⟩,.string ⟨#[]⟩,.int .i64 0,.int .i64 0,.slice none 0 0] 43) = W0 at *
 go_upto_region 5 with (go_at_call 47;refine (N1.out _ H0.out.r).mono ?_;rintro e W1 ⟨rfl,q1,q2⟩;have H0c:=Qo0 (H0.out.call q1 q2);clear q1 q2;have cx : W1.cell? ⟨kb,0,none⟩ = some (iv 0):=H0c.out.cell (b:=kb) (List.mem_cons_self ..) 0;have fx:=H0c.out.frz (b:=kb) (List.mem_cons_self ..) 0)
 have N1s : Hid (HR rb s1 V (W1.setCell ⟨kb,0,none⟩ (iv k)) [(kb,.cells #[iv k,tv [],tv [],iv 0,iv 0,.slice none 0 0] 43 (0,0)),(ka,ZX)]):=Qo0 (HR.setc (pre:=[]) H0c.out 0 (iv k))
 generalize World.setCell W1 ⟨kb,0,none⟩ (iv k) = W1s at *
 clear cx fx
 go_upto_region 6 with (go_at_call 48;refine (N2.out _ N1s.out.r).mono ?_;rintro e W2 ⟨rfl,q1,q2⟩;have N1sc:=Qo0 (N1s.out.call q1 q2);clear q1 q2;have cx : W2.cell? ⟨kb,1,none⟩ = some (tv []):=N1sc.out.cell (b:=kb) (List.mem_cons_self ..) 1;have fx:=N1sc.out.frz (b:=kb) (List.mem_cons_self ..) 1)
 have N2s : Hid (HR rb s2 V (W2.setCell ⟨kb,1,none⟩ (tv nm)) [(kb,.cells #[iv k,tv nm,tv [],iv 0,iv 0,.slice none 0 0] 43 (0,0)),(ka,ZX)]):=Qo0 (HR.setc (pre:=[]) N1sc.out 1 (tv nm))
 generalize World.setCell W2 ⟨kb,1,none⟩ (tv nm) = W2s at *
 clear cx fx
 go_upto_region 7 with (go_at_call 48;refine (N3.out _ N2s.out.r).mono ?_;rintro e W3 ⟨rfl,q1,q2⟩;have N2sc:=Qo0 (N2s.out.call q1 q2);clear q1 q2;have cx : W3.cell? ⟨kb,2,none⟩ = some (tv []):=N2sc.out.cell (b:=kb) (List.mem_cons_self ..) 2;have fx:=N2sc.out.frz (b:=kb) (List.mem_cons_self ..) 2)
 have N3s : Hid (HR rb s3 V (W3.setCell ⟨kb,2,none⟩ (tv mr)) [(kb,.cells #[iv k,tv nm,tv mr,iv 0,iv 0,.slice none 0 0] 43 (0,0)),(ka,ZX)]):=Qo0 (HR.setc (pre:=[]) N2sc.out 2 (tv mr))
 generalize World.setCell W3 ⟨kb,2,none⟩ (tv mr) = W3s at *
 clear cx fx
 go_upto_region 8 with (go_at_call 47;refine (N4.out _ N3s.out.r).mono ?_;rintro e W4 ⟨rfl,q1,q2⟩;have N3sc:=Qo0 (N3s.out.call q1 q2);clear q1 q2)
 have cx : W4.cell? ⟨kb,3,none⟩ = some (iv 0):=N3sc.out.cell (b:=kb) (List.mem_cons_self ..) 3
 have fx:=N3sc.out.frz (b:=kb) (List.mem_cons_self ..) 3
 by_cases hi : i < 0
 have hz:=CA1 hi
 have hq : z.tdiv 2 = -i:=by rw [Int.tdiv_eq_ediv_of_nonneg (by omega)];omega
 have hr : z.tmod 2 = 1:=by rw [Int.tmod_eq_emod_of_nonneg (by omega)];omega
 have hq2 : z / 2 = -i:=by omega
 have hr2 : z % 2 = 1:=by omega
 clear hz CA1 CA2
 go_upto_region 9 with fail
 have H5a : Hid (HR rb s4 V (W4.setCell ⟨kb,3,none⟩ (.int .i64 (-i))) [(kb,.cells #[iv k,tv nm,tv mr,iv (-i),iv 0,.slice none 0 0] 43 (0,0)),(ka,ZX)]):=Qo0 (HR.setc (pre:=[]) N3sc.out 3 (.int .i64 (-i)))
 clear cx fx
 generalize World.setCell W4 ⟨kb,3,none⟩ (.int .i64 (-i)) = W4s at *
 have cx : W4s.cell? ⟨kb,3,none⟩ = some (.int .i64 (-i)):=H5a.out.cell (b:=kb) (List.mem_cons_self ..) 3
 have fx:=H5a.out.frz (b:=kb) (List.mem_cons_self ..) 3
 go_upto_region 11 with fail
 have H5 : Hid (HR rb s4 V (W4s.setCell ⟨kb,3,none⟩ (.int .i64 i)) [(kb,.cells #[iv k,tv nm,tv mr,iv i,iv 0,.slice none 0 0] 43 (0,0)),(ka,ZX)]):=Qo0 (HR.setc (pre:=[]) H5a.out 3 (.int .i64 i))
 clear cx fx
 generalize World.setCell W4s ⟨kb,3,none⟩ (.int .i64 i) = W5 at *
 rotate_left
 have hz:=CA2 (by omega)
 have hq : z.tdiv 2 = i:=by rw [Int.tdiv_eq_ediv_of_nonneg (by omega)];omega
 have hr : z.tmod 2 = 0:=by rw [Int.tmod_eq_emod_of_nonneg (by omega)];omega
 have hq2 : z / 2 = i:=by omega
 have hr2 : z % 2 = 0:=by omega
 clear hz CA1 CA2
 go_upto_region 9 with fail
 have H5 : Hid (HR rb s4 V (W4.setCell ⟨kb,3,none⟩ (.int .i64 i)) [(kb,.cells #[iv k,tv nm,tv mr,iv i,iv 0,.slice none 0 0] 43 (0,0)),(ka,ZX)]):=Qo0 (HR.setc (pre:=[]) N3sc.out 3 (.int .i64 i))
 clear cx fx
 generalize World.setCell W4 ⟨kb,3,none⟩ (.int .i64 i) = W5 at *
 go_upto_region 11 with fail
 all_goals
  go_upto_region 12 with (go_at_call 47;refine (N5.out _ H5.out.r).mono ?_;rintro e W6 ⟨rfl,q1,q2⟩;have H5c:=Qo0 (H5.out.call q1 q2);clear q1 q2;have cx : W6.cell? ⟨kb,4,none⟩ = some (iv 0):=H5c.out.cell (b:=kb) (List.mem_cons_self ..) 4;have fx:=H5c.out.frz (b:=kb) (List.mem_cons_self ..) 4)
  have N5s : Hid (HR rb s5 V (W6.setCell ⟨kb,4,none⟩ (iv dn)) [(kb,.cells #[iv k,tv nm,tv mr,iv i,iv dn,.slice none 0 0] 43 (0,0)),(ka,ZX)]):=Qo0 (HR.setc (pre:=[]) H5c.out 4 (iv dn))
  generalize World.setCell W6 ⟨kb,4,none⟩ (iv dn) = W6s at *
  clear cx fx
  go_upto_region 13 with (go_at_call 47;refine (N6.out _ N5s.out.r).mono ?_;rintro e W7 ⟨rfl,q1,q2⟩;have N5sc:=Qo0 (N5s.out.call q1 q2);clear q1 q2)
  go_wp2
  go_loopw [8] (fun u V' => ∃ (j : Nat),j ≤ n ∧ u = .int .i64 j ∧ Hid (XI rb kb ka r V k nm mr i dn L j V')) (fun u _ => n - (intOf u).toNat)
  case atStart =>
   refine ⟨0,Nat.zero_le _,rfl,Qo0 ⟨none,0,[],by simp,?_,OR.nil,by simp⟩⟩
   have q:=N5sc.out
   rw [HS6.out] at q
   simpa using q
  case round =>
   obtain ⟨j,hj,rfl,HX⟩:=hrel
   obtain ⟨Aj,cj,M,HM0,HH0,HO0,HY0⟩:=HX.out
   have HM:=Qo0 HM0
   have HO:=Qo0 HO0
   have HY:=Qo0 HY0
   have HH:=Qo0 HH0
   clear HM0 HO0 HY0 HH0 HX
   have hlm : M.length = j:=by have q:=congrArg List.length HM.out;rw [List.length_map,List.length_take,HN.out] at q;omega
   have HLM:=Qo0 hlm
   clear hlm
   obtain ⟨g0,g1,-,-⟩:=HH.out.r.c
   have x5 : wr.cell? ⟨kb,5,none⟩ = some (.slice Aj j cj):=HH.out.cell (b:=kb) (List.mem_cons_self ..) 5
   by_cases hlt : j < n
   ·obtain ⟨y,hy⟩ : ∃ y,L[j]? = some y:=⟨_,List.getElem?_eq_getElem (by rw [HN.out];exact hlt)⟩
    have HYJ:=Qo0 hy
    have CALL:=Qo0 (fun V' h' => IH.out V' j y hy h')
    clear hy
    have F0:=Qo0 (HH.out.gr (Qb wr))
    have HO1:=Qo0 (HO.out.gr (Qb wr))
    have HY1:=Qo0 (fun y hy => (HY.out y hy).mo (Qd0 (Qb wr)))
    have y5 : wr.drew.cell? ⟨kb,5,none⟩ = some (.slice Aj j cj):=F0.out.cell (b:=kb) (List.mem_cons_self ..) 5
    go_upto_region 16 with fail
    clear x5 g0 g1
    have HS1:=Qo0 (show kb < wr.drew.heap.size from F0.out.below (kb,_) (List.mem_cons_self ..))
    go_region_law (first
     | (refine Xq elE rfl (.tmp 53) (.tmp 58) rfl (kb + 1) rfl HOA.out (A:=some ⟨w1.heap.size,0,none⟩) (M:=[q]) (m:=1) (c:=1) rfl rfl (Qj (t:=43) elE.hn (Qd _ _)) (by have:=HLM.out;simp;omega) HBA.out ?_
        intro v7 w7 o7 g7 b7
        obtain ⟨A7,c7,rfl⟩:=Qdf elE.hn HLM.out o7
        have F3:=Qo0 (F2.out.own g7 (fun b hb => by
         obtain ⟨p1,p2⟩:=HO1.out.lt b hb
         have:=HVK.out
         refine ⟨by omega,fun p hp => ?_⟩
         have:=HKB.out
         rcases (by simpa using hp : p = _ ∨ p = _) with rfl | rfl
         ·simp only;omega
         ·simp only;omega))
        have x7 : w7.cell? ⟨kb,5,none⟩ = some (.slice Aj j cj):=F3.out.cell (b:=kb) (List.mem_cons_self ..) 5
        have f7:=F3.out.frz (b:=kb) (List.mem_cons_self ..) 5
        have XN:=Qo0 (xi_step HM.out F2.out HO1.out HY1.out HYJ.out HS1.out HVK.out HKL.out G1.out ER.out RD1.out o7 g7 b7)
        clear o7 g7 b7)
     | (go_simp;go_at_call 93;refine (CALL.out _ F0.out.r).mono ?_;rintro e w1 ⟨q,rfl,er,rd,rs,g⟩;unfold Ex.v
        have ER:=Qo0 er
        have RD1:=Qo0 rd
        have G1:=Qo0 g
        have F1:=Qo0 (F0.out.call rs g)
        have F2:=Qo0 (F1.out.gr (Qa w1 (.cells #[iv q.kind,tv q.name,tv q.more,iv q.int,iv q.den,.slice q.A q.sub.length q.c] 43)))
        have HOA:=Qo0 ((HO1.out.kept (w':=w1) g (by
         cases hq : (Value.slice Aj j cj).ownBlock with
         | none => exact .inl rfl
         | some b => refine .inr (fun e => ?_);cases e;have:=(HO1.out.lt rb hq).1;have:=F0.out.lt;have:=HVK.out;omega)).alloc (.cells #[iv q.kind,tv q.name,tv q.more,iv q.int,iv q.den,.slice q.A q.sub.length q.c] 43))
        have HBA:=Qo0 (show kb + 1 ≤ (w1.alloc (.cells #[iv q.kind,tv q.name,tv q.more,iv q.int,iv q.den,.slice q.A q.sub.length q.c] 43)).heap.size from F2.out.below (kb,_) (List.mem_cons_self ..))
        have y1 : w1.cell? ⟨kb,5,none⟩ = some (.slice Aj j cj):=F1.out.cell (b:=kb) (List.mem_cons_self ..) 5
        have y2 : (w1.alloc (.cells #[iv q.kind,tv q.name,tv q.more,iv q.int,iv q.den,.slice q.A q.sub.length q.c] 43)).cell? ⟨kb,5,none⟩ = some (.slice Aj j cj):=F2.out.cell (b:=kb) (List.mem_cons_self ..) 5
        clear er rd rs g))
    all_goals go_wp2
    all_goals exact ⟨⟨j + 1,by omega,by simp,XN⟩,by simp [intOf];omega⟩
   ·obtain rfl : n = j:=by omega
    have x0 : wr.cell? ⟨kb,0,none⟩ = some (iv k):=HH.out.cell (b:=kb) (List.mem_cons_self ..) 0
    have x1 : wr.cell? ⟨kb,1,none⟩ = some (tv nm):=HH.out.cell (b:=kb) (List.mem_cons_self ..) 1
    have x2 : wr.cell? ⟨kb,2,none⟩ = some (tv mr):=HH.out.cell (b:=kb) (List.mem_cons_self ..) 2
    have x3 : wr.cell? ⟨kb,3,none⟩ = some (iv i):=HH.out.cell (b:=kb) (List.mem_cons_self ..) 3
    have x4 : wr.cell? ⟨kb,4,none⟩ = some (iv dn):=HH.out.cell (b:=kb) (List.mem_cons_self ..) 4
    have z0 : wr.cell? ⟨ka,0,none⟩ = some (.int .i64 0):=HH.out.cell (b:=ka) (List.mem_cons_of_mem _ (List.mem_cons_self ..)) 0
    have z1 : wr.cell? ⟨ka,1,none⟩ = some (.string ⟨#[]⟩):=HH.out.cell (b:=ka) (List.mem_cons_of_mem _ (List.mem_cons_self ..)) 1
    have z2 : wr.cell? ⟨ka,2,none⟩ = some (.string ⟨#[]⟩):=HH.out.cell (b:=ka) (List.mem_cons_of_mem _ (List.mem_cons_self ..)) 2
    have z3 : wr.cell? ⟨ka,3,none⟩ = some (.int .i64 0):=HH.out.cell (b:=ka) (List.mem_cons_of_mem _ (List.mem_cons_self ..)) 3
    have z4 : wr.cell? ⟨ka,4,none⟩ = some (.int .i64 0):=HH.out.cell (b:=ka) (List.mem_cons_of_mem _ (List.mem_cons_self ..)) 4
    have z5 : wr.cell? ⟨ka,5,none⟩ = some (.slice none 0 0):=HH.out.cell (b:=ka) (List.mem_cons_of_mem _ (List.mem_cons_self ..)) 5
    have y0:=HH.out.frz (b:=ka) (List.mem_cons_of_mem _ (List.mem_cons_self ..)) 0
    have y1:=HH.out.frz (b:=ka) (List.mem_cons_of_mem _ (List.mem_cons_self ..)) 1
    have y2:=HH.out.frz (b:=ka) (List.mem_cons_of_mem _ (List.mem_cons_self ..)) 2
    have y3:=HH.out.frz (b:=ka) (List.mem_cons_of_mem _ (List.mem_cons_self ..)) 3
    have y4:=HH.out.frz (b:=ka) (List.mem_cons_of_mem _ (List.mem_cons_self ..)) 4
    have y5:=HH.out.frz (b:=ka) (List.mem_cons_of_mem _ (List.mem_cons_self ..)) 5
    go_wp2
    obtain ⟨y,p1,p2,p3,p4,p5⟩:=xi_fin HN.out HM.out HH.out HO.out HY.out HVK.out HKL.out SNM.out SMR.out _ rfl
    exact bodyPost_ret (Qh6 rfl _ _ ka y rfl p5) rfl ⟨y,rfl,p1,p2,p3,p4⟩
end Go.Proofs.YtiaenhlflgobfaaGreatDoor

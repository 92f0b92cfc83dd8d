/- Words. -/
import Derived.Test.YtiaenhlflgobfaaGreatDoorTb46
import Derived.Test.YtiaenhlflgobfaaGreatDoorTb49
namespace Go.Proofs.YtiaenhlflgobfaaGreatDoor
open Go.RowKit
def RsP (L : List PD) (rb : Nat) (r : T) (V : World) (e : Ending) (V' : World) : Prop:=∃ (A : Option Addr) (c : Nat) (M : List Dec),e = .returned (.slice A M.length c) ∧ M.map Dec.er = L ∧ DRd (Zb V.heap.size none V') A c M ∧ RdS rb r V' ∧ V.grownBy V' (some rb)
def DRI (rb : Nat) (r : T) (V : World) (L : List PD) (j : Nat) (A : Option Addr) (c : Nat) (V' : World) : Prop :=
 ∃ M : List Dec,M.map Dec.er = L.take j ∧ RdS rb (((L.drop j).map enD).flatten ++ r) V' ∧ V.grownBy V' (some rb) ∧ OR 45 11 Dec.cs V' V.heap.size (.slice A j c) M ∧ ∀ y ∈ M,y.Rd (Zb V.heap.size (Value.slice A j c).ownBlock V')
def NI (rb db : Nat) (u : T) (V : World) (d : PD) (i : Nat) (V' : World) : Prop :=
 ∃ (A : Option Addr) (c : Nat),HR rb (((d.names.drop i).map Qp).flatten ++ u) V V' [(db,.cells #[iv d.id,iv d.kind,.bool d.pub,.slice A i c,.bool d.doubt,iv 0,tv [],tv [],iv 0,iv 0,.slice none 0 0] 45 (0,0))] ∧ OR 9 1 scs V' (db + 1) (.slice A i c) (d.names.take i)
theorem ni_step {rb db i : Nat} {u s : T} {V V1 w1 w7 : World} {d : PD} {A A7 : Option Addr} {c c7 : Nat} {o : Obj} (F2 : HR rb (((d.names.drop (i + 1)).map Qp).flatten ++ u) V (w1.alloc o) [(db,.cells #[iv d.id,iv d.kind,.bool d.pub,.slice A i c,.bool d.doubt,iv 0,tv [],tv [],iv 0,iv 0,.slice none 0 0] 45 (0,0))]) (HO : OR 9 1 scs V1 (db + 1) (.slice A i c) (d.names.take i)) (hs : d.names[i]? = some s) (hdb : V.heap.size ≤ db)
 (o7 : OR 9 1 scs w7 (db + 1) (.slice A7 (i + 1) c7) (d.names.take i ++ [s])) (g7 : (w1.alloc o).grownBy w7 (Value.slice A i c).ownBlock) :
 NI rb db u V d (i + 1) (w7.setCell ⟨db,3,none⟩ (.slice A7 (i + 1) c7)):=by
 have F3:=F2.own g7 (fun b hb => by
  have p1:=(HO.lt b hb).1
  refine ⟨by omega,fun p hp => ?_⟩
  obtain rfl:=List.mem_singleton.1 hp
  simp only;omega)
 refine ⟨A7,c7,HR.setc (pre:=[]) F3 3 _,?_⟩
 have e : d.names.take (i + 1) = d.names.take i ++ [s]:=by rw [List.take_add_one,hs];rfl
 rw [e]
 refine o7.kept (Qo db 3 _) ?_
 cases hq : (Value.slice A7 (i + 1) c7).ownBlock with
 | none => exact .inl rfl
 | some b => refine .inr (fun e => ?_);cases e;have:=(o7.lt db hq).1;omega
theorem di_step {rb j : Nat} {r : T} {V V0 W w7 : World} {L : List PD} {A A7 : Option Addr} {c c7 : Nat} {M : List Dec} {x : Dec} {d : PD} {o : Obj} (HM : M.map Dec.er = L.take j) (HG : V.grownBy V0 (some rb)) (HO : OR 45 11 Dec.cs V0 V.heap.size (.slice A j c) M) (HY : ∀ y ∈ M,y.Rd (Zb V.heap.size (Value.slice A j c).ownBlock V0))
 (hd : L[j]? = some d) (er : x.er = d) (rd : x.Rd (Zb (V0.heap.size + 1) none W)) (rs : RdS rb (((L.drop (j + 1)).map enD).flatten ++ r) W) (hrb : rb < V.heap.size) (g : V0.grownBy W (some rb)) (o7 : OR 45 11 Dec.cs w7 V.heap.size (.slice A7 (j + 1) c7) (M ++ [x])) (g7 : (W.alloc o).grownBy w7 (Value.slice A j c).ownBlock) (b7 : (Value.slice A7 (j + 1) c7).ownBlock = (Value.slice A j c).ownBlock ∨ (Value.slice A7 (j + 1) c7).ownBlock = some (W.alloc o).heap.size) :
 DRI rb r V L (j + 1) A7 c7 w7:=by
 have hlt:=HO.lt
 obtain ⟨m1,m2⟩:=Qhn (base:=V.heap.size) (kb:=rb) g (Qa W o) g7 b7 (World.grownBy.refl w7 (some rb)) hrb hrb
 refine ⟨M ++ [x],?_,(rs.but (Qa W o) (by simp)).but g7 (fun e => by have:=(hlt rb e.symm).1;omega),X9 (Qa0 (Qa0 HG g) (World.grownBy.but (Qa W o) _)) g7 (fun b hb => (hlt b hb).1),o7,fun y hy => ?_⟩
 ·rw [List.map_append,HM,List.map_cons,List.map_nil,er,List.take_add_one,hd];rfl
 ·rcases List.mem_append.1 hy with hy | hy
  ·exact (HY y hy).mo m1
  ·obtain rfl:=List.mem_singleton.1 hy
   refine rd.mo (Mo.trans (Qa5 W (fun b hb => ?_)) m2)
   have:=HG.size
   rcases hb with hb | hb
   ·left;omega
   ·left;have:=(hlt b hb.symm).2;omega
attribute [local irreducible] Calls in
set_option maxRecDepth 100000 in
set_option maxHeartbeats 4000000 in
theorem Qdm (L : List PD) (rb : Nat) (r : T) (V : World) (hok : ∀ d ∈ L,DOk d) (hL : L.length ≤ 1) (h : RdS rb (Qbv L ++ r) V) (hl : (Qbv L).length + r.length ≤ 50000000) : Calls Tryz.prog 49 #[.pointer (some ⟨rb,0,none⟩)] V (RsP L rb r V):=by
 obtain ⟨n,hn⟩ : ∃ n,L.length = n:=⟨_,rfl⟩
 rw [hn] at hL
 obtain ⟨s1,hs1⟩ : ∃ s,s = (L.map enD).flatten ++ r:=⟨_,rfl⟩
 have hE : Qbv L ++ r = dig n ++ s1:=by unfold Qbv;rw [hs1,hn,List.append_assoc]
 have hl1 : s1.length ≤ 50000000:=by
  have q:=congrArg List.length hE
  simp only [List.length_append] at q
  omega
 rw [hE] at h
 have N0:=Qo0 (fun V' (h' : RdS rb (dig n ++ s1) V') => Yf rb n 1 s1 V' h' (by omega) (by omega))
 have HV0:=Qo0 h
 have HRB:=Qo0 (Qn h)
 have HN:=Qo0 hn
 have HS1:=Qo0 hs1
 have HOK:=Qo0 hok
 clear h hn hs1 hok hE hl
 go_enter Tryz.func49,Tryz.ntmps49
 go_upto_region 3 with (go_at_call 47;refine (N0.out _ HV0.out).mono ?_;rintro e V1 ⟨rfl,q1,q2⟩;have R1:=Qo0 q1;have K1:=Qo0 q2;clear q1 q2)
 go_wp2
 go_loopw [5,3] (fun u v V' => ∃ (j : Nat) (A : Option Addr) (c : Nat),j ≤ n ∧ u = .int .i64 j ∧ v = .slice A j c ∧ Hid (DRI rb r V L j A c V')) (fun u _ _ => n - (intOf u).toNat)
 case atStart =>
  refine ⟨0,none,0,Nat.zero_le _,rfl,rfl,Qo0 ⟨[],by simp,?_,K1.out,OR.nil,by simp⟩⟩
  have q:=R1.out
  rw [HS1.out] at q
  simpa using q
 case round =>
  obtain ⟨j,Aj,cj,hj,rfl,rfl,HX⟩:=hrel
  obtain ⟨M,HM0,HR0,HG0,HO0,HY0⟩:=HX.out
  have HM:=Qo0 HM0
  have HRR:=Qo0 HR0
  have HG:=Qo0 HG0
  have HO:=Qo0 HO0
  have HY:=Qo0 HY0
  clear HM0 HR0 HG0 HO0 HY0 HX
  have HLM:=Qo0 (show M.length = j by have q:=congrArg List.length HM.out;rw [List.length_map,List.length_take,HN.out] at q;omega)
  obtain ⟨W0,hW0⟩ : ∃ W,W = wr:=⟨_,rfl⟩
  subst hW0
  obtain ⟨g0,g1,-,-⟩:=HRR.out.c
  by_cases hlt : j < n
  ·obtain ⟨d,hd⟩ : ∃ d,L[j]? = some d:=⟨_,List.getElem?_eq_getElem (by rw [HN.out];exact hlt)⟩
   have HDJ:=Qo0 hd
   have hdo:=HOK.out d (List.mem_of_getElem? hd)
   obtain ⟨rest,hrest⟩ : ∃ s,s = ((L.drop (j + 1)).map enD).flatten ++ r:=⟨_,rfl⟩
   have hpart : ((L.drop j).map enD).flatten ++ r = enD d ++ rest:=by
    rw [List.drop_eq_getElem_cons (List.getElem?_eq_some_iff.1 hd).1,List.map_cons,List.flatten_cons,List.append_assoc,hrest,(List.getElem?_eq_some_iff.1 hd).2]
   obtain ⟨u6,hu6⟩ : ∃ s,s = enX d.body ++ rest:=⟨_,rfl⟩
   obtain ⟨u5,hu5⟩ : ∃ s,s = (d.names.map Qp).flatten ++ u6:=⟨_,rfl⟩
   obtain ⟨q,hq⟩ : ∃ q,d.names.length = q:=⟨_,rfl⟩
   obtain ⟨u4,hu4⟩ : ∃ s,s = dig q ++ u5:=⟨_,rfl⟩
   obtain ⟨u3,hu3⟩ : ∃ s,s = dig (nB d.doubt) ++ u4:=⟨_,rfl⟩
   obtain ⟨u2,hu2⟩ : ∃ s,s = dig (nB d.pub) ++ u3:=⟨_,rfl⟩
   obtain ⟨u1,hu1⟩ : ∃ s,s = dig d.kind.toNat ++ u2:=⟨_,rfl⟩
   obtain ⟨u0,hu0⟩ : ∃ s,s = dig d.id.toNat ++ u1:=⟨_,rfl⟩
   have hD : enD d ++ rest = u0:=by
    unfold enD
    rw [hu0,hu1,hu2,hu3,hu4,hu5,hu6,hq]
    simp only [List.append_assoc]
   have hlu : u0.length ≤ 50000000:=by
    rw [← hD,← hpart]
    have : (((L.drop j).map enD).flatten ++ r).length ≤ s1.length:=by
     rw [HS1.out]
     conv => rhs;rw [← List.take_append_drop j L,List.map_append,List.flatten_append,List.append_assoc,List.length_append]
     omega
    omega
   have l1 : u1.length ≤ u0.length:=by rw [hu0];simp
   have l2 : u2.length ≤ u1.length:=by rw [hu1];simp
   have l3 : u3.length ≤ u2.length:=by rw [hu2];simp
   have l4 : u4.length ≤ u3.length:=by rw [hu3];simp
   have l5 : u5.length ≤ u4.length:=by rw [hu4];simp
   have l6 : u6.length ≤ u5.length:=by rw [hu5];simp
   have o0:=hdo.i0
   have o1:=hdo.i1
   have o2:=hdo.k0
   have o3:=hdo.k1
   have o4:=hdo.nl
   have hR0:=HRR.out
   rw [hpart,hD] at hR0
   have N1:=Qo0 (fun V' (h' : RdS rb u0 V') => show Calls Tryz.prog 47 #[.pointer (some ⟨rb,0,none⟩),.int .i64 1099511627776] V' (RdP rb (iv d.id) u1 V') from by
    have q:=Yf rb d.id.toNat 1099511627776 u1 V' (by rw [← hu0];exact h') (by omega) (by omega)
    rw [Int.toNat_of_nonneg o0] at q;exact q)
   have N2:=Qo0 (fun V' (h' : RdS rb u1 V') => show Calls Tryz.prog 47 #[.pointer (some ⟨rb,0,none⟩),.int .i64 1099511627776] V' (RdP rb (iv d.kind) u2 V') from by
    have q:=Yf rb d.kind.toNat 1099511627776 u2 V' (by rw [← hu1];exact h') (by omega) (by omega)
    rw [Int.toNat_of_nonneg o2] at q;exact q)
   obtain ⟨z3,hz3⟩ : ∃ z : Int,z = (nB d.pub : Nat):=⟨_,rfl⟩
   obtain ⟨z4,hz4⟩ : ∃ z : Int,z = (nB d.doubt : Nat):=⟨_,rfl⟩
   have p3 : (z3 == 1) = d.pub:=by rw [hz3];cases d.pub <;> rfl
   have p4 : (z4 == 1) = d.doubt:=by rw [hz4];cases d.doubt <;> rfl
   have N3:=Qo0 (fun V' (h' : RdS rb u2 V') => show Calls Tryz.prog 47 #[.pointer (some ⟨rb,0,none⟩),.int .i64 1] V' (RdP rb (iv z3) u3 V') from by
    have:=Qj2 d.pub
    rw [hz3]
    exact Yf rb (nB d.pub) 1 u3 V' (by rw [← hu2];exact h') (by omega) (by omega))
   have N4:=Qo0 (fun V' (h' : RdS rb u3 V') => show Calls Tryz.prog 47 #[.pointer (some ⟨rb,0,none⟩),.int .i64 1] V' (RdP rb (iv z4) u4 V') from by
    have:=Qj2 d.doubt
    rw [hz4]
    exact Yf rb (nB d.doubt) 1 u4 V' (by rw [← hu3];exact h') (by omega) (by omega))
   have N5:=Qo0 (fun V' (h' : RdS rb u4 V') => show Calls Tryz.prog 47 #[.pointer (some ⟨rb,0,none⟩),.int .i64 3] V' (RdP rb (iv q) u5 V') from Yf rb q 3 u5 V' (by rw [← hu4];exact h') (by omega) (by omega))
   have MN:=Qo0 (fun V' (i : Nat) (s : T) (hs : d.names[i]? = some s) (h' : RdS rb (((d.names.drop i).map Qp).flatten ++ u6) V') => show Calls Tryz.prog 48 #[.pointer (some ⟨rb,0,none⟩)] V' (RdP rb (tv s) (((d.names.drop (i + 1)).map Qp).flatten ++ u6) V') from by
    have e : ((d.names.drop i).map Qp).flatten ++ u6 = Qp s ++ (((d.names.drop (i + 1)).map Qp).flatten ++ u6):=by
     rw [List.drop_eq_getElem_cons (List.getElem?_eq_some_iff.1 hs).1,List.map_cons,List.flatten_cons,List.append_assoc,(List.getElem?_eq_some_iff.1 hs).2]
    rw [e] at h'
    refine Qav rb s _ V' h' (hdo.n s (List.mem_of_getElem? hs)) ?_
    have : (((d.names.drop (i + 1)).map Qp).flatten ++ u6).length ≤ u5.length:=by
     rw [hu5]
     conv => rhs;rw [← List.take_append_drop (i + 1) d.names,List.map_append,List.flatten_append,List.append_assoc,List.length_append]
     omega
    omega)
   have MX:=Qo0 (fun V' (h' : RdS rb u6 V') => Qld 40 d.body 40 rb rest V' hdo.b (by omega) (by omega) (by rw [← hu6];exact h') (by have e:=congrArg List.length hu6;rw [List.length_append] at e;omega))
   have HQ:=Qo0 hq
   have HU5:=Qo0 hu5
   have HRS:=Qo0 hrest
   have SNS:=Qo0 (show ∀ s ∈ d.names,sOk s from fun s hs => by have:=hdo.n s hs;unfold sOk;omega)
   have HQ3 : q ≤ 3:=by omega
   have H00:=Qo0 (HR.new hR0)
   clear hd hdo hrest hpart hu6 hu5 hq hu4 hu3 hu2 hu1 hu0 hD hlu l1 l2 l3 l4 l5 l6 o0 o1 o2 o3 o4 hR0 hz3 hz4
   go_upto_region 7 with fail
   clear g0 g1
   obtain ⟨db,hdb⟩ : ∃ k,W0.heap.size = k:=⟨_,rfl⟩
   have H0 : Hid (HR rb u0 W0 (W0.alloc (.cells #[.int .i64 0,.int .i64 0,.bool false,.slice none 0 0,.bool false,.int .i64 0,.string ⟨#[]⟩,.string ⟨#[]⟩,.int .i64 0,.int .i64 0,.slice none 0 0] 45)) [(db,.cells #[iv 0,iv 0,.bool false,.slice none 0 0,.bool false,iv 0,tv [],tv [],iv 0,iv 0,.slice none 0 0] 45 (0,0))]):=Qo0 (H00.out.alloc hdb _)
   rw [hdb]
   have HDB:=Qo0 hdb
   clear hdb
   generalize W0.alloc (.cells #[.int .i64 0,.int .i64 0,.bool false,.slice none 0 0,.bool false,.int .i64 0,.string ⟨#[]⟩,.string ⟨#[]⟩,.int .i64 0,.int .i64 0,.slice none 0 0] 45) = WA at *
   go_upto_region 8 with (go_at_call 47;refine (N1.out _ H0.out.r).mono ?_;rintro e W1 ⟨rfl,q1,q2⟩;have H0c:=Qo0 (H0.out.call q1 q2);clear q1 q2;have cx : W1.cell? ⟨db,0,none⟩ = some (iv 0):=H0c.out.cell (b:=db) (List.mem_cons_self ..) 0;have fx:=H0c.out.frz (b:=db) (List.mem_cons_self ..) 0)
   have N1s : Hid (HR rb u1 W0 (W1.setCell ⟨db,0,none⟩ (iv d.id)) [(db,.cells #[iv d.id,iv 0,.bool false,.slice none 0 0,.bool false,iv 0,tv [],tv [],iv 0,iv 0,.slice none 0 0] 45 (0,0))]):=Qo0 (HR.setc (pre:=[]) H0c.out 0 (iv d.id))
   generalize World.setCell W1 ⟨db,0,none⟩ (iv d.id) = W1s at *
   clear cx fx
   go_upto_region 9 with (go_at_call 47;refine (N2.out _ N1s.out.r).mono ?_;rintro e W2 ⟨rfl,q1,q2⟩;have N1sc:=Qo0 (N1s.out.call q1 q2);clear q1 q2;have cx : W2.cell? ⟨db,1,none⟩ = some (iv 0):=N1sc.out.cell (b:=db) (List.mem_cons_self ..) 1;have fx:=N1sc.out.frz (b:=db) (List.mem_cons_self ..) 1)
   have N2s : Hid (HR rb u2 W0 (W2.setCell ⟨db,1,none⟩ (iv d.kind)) [(db,.cells #[iv d.id,iv d.kind,.bool false,.slice none 0 0,.bool false,iv 0,tv [],tv [],iv 0,iv 0,.slice none 0 0] 45 (0,0))]):=Qo0 (HR.setc (pre:=[]) N1sc.out 1 (iv d.kind))
   generalize World.setCell W2 ⟨db,1,none⟩ (iv d.kind) = W2s at *
   clear cx fx
   go_upto_region 10 with (go_at_call 47;refine (N3.out _ N2s.out.r).mono ?_;rintro e W3 ⟨rfl,q1,q2⟩;have N2sc:=Qo0 (N2s.out.call q1 q2);clear q1 q2;have cx : W3.cell? ⟨db,2,none⟩ = some (.bool false):=N2sc.out.cell (b:=db) (List.mem_cons_self ..) 2;have fx:=N2sc.out.frz (b:=db) (List.mem_cons_self ..) 2)
   have N3s : Hid (HR rb u3 W0 (W3.setCell ⟨db,2,none⟩ (.bool d.pub)) [(db,.cells #[iv d.id,iv d.kind,.bool d.pub,.slice none 0 0,.bool false,iv 0,tv [],tv [],iv 0,iv 0,.slice none 0 0] 45 (0,0))]):=Qo0 (HR.setc (pre:=[]) N2sc.out 2 (.bool d.pub))
   generalize World.setCell W3 ⟨db,2,none⟩ (.bool d.pub) = W3s at *
   clear cx fx
   go_upto_region 11 with (go_at_call 47;refine (N4.out _ N3s.out.r).mono ?_;rintro e W4 ⟨rfl,q1,q2⟩;have N3sc:=Qo0 (N3s.out.call q1 q2);clear q1 q2;have cx : W4.cell? ⟨db,4,none⟩ = some (.bool false):=N3sc.out.cell (b:=db) (List.mem_cons_self ..) 4;have fx:=N3sc.out.frz (b:=db) (List.mem_cons_self ..) 4)
   have N4s : Hid (HR rb u4 W0 (W4.setCell ⟨db,4,none⟩ (.bool d.doubt)) [(db,.cells #[iv d.id,iv d.kind,.bool d.pub,.slice none 0 0,.bool d.doubt,iv 0,tv [],tv [],iv 0,iv 0,.slice none 0 0] 45 (0,0))]):=Qo0 (HR.setc (pre:=[]) N3sc.out 4 (.bool d.doubt))
   generalize World.setCell W4 ⟨db,4,none⟩ (.bool d.doubt) = W4s at *
   clear cx fx
   go_upto_region 12 with (go_at_call 47;refine (N5.out _ N4s.out.r).mono ?_;rintro e W5 ⟨rfl,q1,q2⟩;have N4sc:=Qo0 (N4s.out.call q1 q2);clear q1 q2)
   go_wp2
   go_loopw [8] (fun u V' => ∃ (i : Nat),i ≤ q ∧ u = .int .i64 i ∧ Hid (NI rb db u6 W0 d i V')) (fun u _ => q - (intOf u).toNat)
   case atStart =>
    refine ⟨0,Nat.zero_le _,rfl,Qo0 ⟨none,0,?_,OR.nil⟩⟩
    have q:=N4sc.out
    rw [HU5.out] at q
    simpa using q
   case round =>
    obtain ⟨i,hi,rfl,HI⟩:=hrel
    obtain ⟨Ai,ci,HH0,HO0⟩:=HI.out
    have HH:=Qo0 HH0
    have HOI:=Qo0 HO0
    clear HH0 HO0 HI
    have HLI:=Qo0 (show (d.names.take i).length = i from by rw [List.length_take,HQ.out];omega)
    obtain ⟨g0,g1,-,-⟩:=HH.out.r.c
    by_cases hlt2 : i < q
    ·obtain ⟨s,hs⟩ : ∃ s,d.names[i]? = some s:=⟨_,List.getElem?_eq_getElem (by rw [HQ.out];exact hlt2)⟩
     have HSI:=Qo0 hs
     have CALL:=Qo0 (fun V' h' => MN.out V' i s hs h')
     clear hs
     have F0:=Qo0 (HH.out.gr (Qb wr))
     have HO1:=Qo0 (HOI.out.gr (Qb wr))
     have y5 : wr.drew.cell? ⟨db,3,none⟩ = some (.slice Ai i ci):=F0.out.cell (b:=db) (List.mem_cons_self ..) 3
     go_upto_region 15 with fail
     clear g0 g1
     go_region_law (first
      | (refine Xq elS rfl (.tmp 52) (.tmp 55) rfl (db + 1) rfl HOA.out (A:=some ⟨w1.heap.size,0,none⟩) (M:=[s]) (m:=1) (c:=1) rfl rfl (Qj (t:=9) elS.hn (Qd _ _)) (by have:=HLI.out;simp;omega) HBA.out ?_
         intro v7 w7 o7 g7 b7
         obtain ⟨A7,c7,rfl⟩:=Qdf elS.hn HLI.out o7
         have F3:=Qo0 (F2.out.own g7 (fun b hb => by
          have p1:=(HO1.out.lt b hb).1
          have:=HDB.out
          refine ⟨by omega,fun p hp => ?_⟩
          obtain rfl:=List.mem_singleton.1 hp
          simp only;omega))
         have x7 : w7.cell? ⟨db,3,none⟩ = some (.slice Ai i ci):=F3.out.cell (b:=db) (List.mem_cons_self ..) 3
         have f7:=F3.out.frz (b:=db) (List.mem_cons_self ..) 3
         have XN:=Qo0 (ni_step F2.out HO1.out HSI.out (Nat.le_of_eq HDB.out) o7 g7)
         clear o7 g7 b7)
      | (go_simp;go_at_call 48;refine (CALL.out _ F0.out.r).mono ?_;rintro e w1 ⟨rfl,rs,g⟩
         have F1:=Qo0 (F0.out.call rs g)
         have F2:=Qo0 (F1.out.gr (Qa w1 (.cells #[tv s] 9)))
         have HOA:=Qo0 ((HO1.out.kept (w':=w1) g (by
          cases hq : (Value.slice Ai i ci).ownBlock with
          | none => exact .inl rfl
          | some b => refine .inr (fun e => ?_);cases e;have:=(HO1.out.lt rb hq).1;have:=F0.out.lt;have:=HDB.out;omega)).alloc (.cells #[tv s] 9))
         have HBA:=Qo0 (show db + 1 ≤ (w1.alloc (.cells #[tv s] 9)).heap.size from F2.out.below (db,_) (List.mem_cons_self ..))
         have y1 : w1.cell? ⟨db,3,none⟩ = some (.slice Ai i ci):=F1.out.cell (b:=db) (List.mem_cons_self ..) 3
         have y2 : (w1.alloc (.cells #[tv s] 9)).cell? ⟨db,3,none⟩ = some (.slice Ai i ci):=F2.out.cell (b:=db) (List.mem_cons_self ..) 3
         clear rs g))
     all_goals go_wp2
     all_goals exact ⟨⟨i + 1,by omega,by simp,XN⟩,by simp [intOf];omega⟩
    ·obtain rfl : q = i:=by omega
     have F7:=Qo0 (show HR rb u6 W0 wr [(db,.cells #[iv d.id,iv d.kind,.bool d.pub,.slice Ai q ci,.bool d.doubt,iv 0,tv [],tv [],iv 0,iv 0,.slice none 0 0] 45 (0,0))] from by
      have h2:=HH.out
      rw [List.drop_eq_nil_of_le (Nat.le_of_eq HQ.out)] at h2
      exact h2)
     clear g0 g1
     obtain ⟨g0,g1,-,-⟩:=F7.out.r.c
     go_upto_region 17 with (go_at_call 93;refine (MX.out _ F7.out.r).mono ?_;rintro e W8 ⟨y,rfl,ey,yr,rs,g⟩;unfold Ex.v;have EY:=Qo0 ey;have YR:=Qo0 yr;have GC8:=Qo0 g;have F8:=Qo0 (F7.out.call rs g);clear ey yr rs g;have cx5 : W8.cell? ⟨db,5,none⟩ = some (iv 0):=F8.out.cell (b:=db) (List.mem_cons_self ..) 5;have fx5:=F8.out.frz (b:=db) (List.mem_cons_self ..) 5;have cx6 : W8.cell? ⟨db,6,none⟩ = some (tv []):=F8.out.cell (b:=db) (List.mem_cons_self ..) 6;have fx6:=F8.out.frz (b:=db) (List.mem_cons_self ..) 6;have cx7 : W8.cell? ⟨db,7,none⟩ = some (tv []):=F8.out.cell (b:=db) (List.mem_cons_self ..) 7;have fx7:=F8.out.frz (b:=db) (List.mem_cons_self ..) 7;have cx8 : W8.cell? ⟨db,8,none⟩ = some (iv 0):=F8.out.cell (b:=db) (List.mem_cons_self ..) 8;have fx8:=F8.out.frz (b:=db) (List.mem_cons_self ..) 8;have cx9 : W8.cell? ⟨db,9,none⟩ = some (iv 0):=F8.out.cell (b:=db) (List.mem_cons_self ..) 9;have fx9:=F8.out.frz (b:=db) (List.mem_cons_self ..) 9;have cx10 : W8.cell? ⟨db,10,none⟩ = some (.slice none 0 0):=F8.out.cell (b:=db) (List.mem_cons_self ..) 10;have fx10:=F8.out.frz (b:=db) (List.mem_cons_self ..) 10)
     have G5:=Qo0 (HR.setc (pre:=[]) (post:=[]) F8.out 5 (iv y.kind))
     have G6:=Qo0 (HR.setc (pre:=[]) (post:=[]) G5.out 6 (tv y.name))
     have G7:=Qo0 (HR.setc (pre:=[]) (post:=[]) G6.out 7 (tv y.more))
     have G8:=Qo0 (HR.setc (pre:=[]) (post:=[]) G7.out 8 (iv y.int))
     have G9:=Qo0 (HR.setc (pre:=[]) (post:=[]) G8.out 9 (iv y.den))
     have G10:=Qo0 (HR.setc (pre:=[]) (post:=[]) G9.out 10 (.slice y.A y.sub.length y.c))
     have F9 : Hid (HR rb rest W0 (((((((W8.setCell ⟨db,5,none⟩ (iv y.kind)).setCell ⟨db,6,none⟩ (tv y.name)).setCell ⟨db,7,none⟩ (tv y.more)).setCell ⟨db,8,none⟩ (iv y.int)).setCell ⟨db,9,none⟩ (iv y.den)).setCell ⟨db,10,none⟩ (.slice y.A y.sub.length y.c))) [(db,.cells #[iv d.id,iv d.kind,.bool d.pub,.slice Ai q ci,.bool d.doubt,iv y.kind,tv y.name,tv y.more,iv y.int,iv y.den,.slice y.A y.sub.length y.c] 45 (0,0))]):=G10
     have GS:=Qo0 (show W8.grownBy (((((((W8.setCell ⟨db,5,none⟩ (iv y.kind)).setCell ⟨db,6,none⟩ (tv y.name)).setCell ⟨db,7,none⟩ (tv y.more)).setCell ⟨db,8,none⟩ (iv y.int)).setCell ⟨db,9,none⟩ (iv y.den)).setCell ⟨db,10,none⟩ (.slice y.A y.sub.length y.c))) (some db) from ((((((Qo db 5 _).trans (Qo db 6 _)).trans (Qo db 7 _)).trans (Qo db 8 _)).trans (Qo db 9 _)).trans (Qo db 10 _)))
     clear G5 G6 G7 G8 G9 G10
     generalize ((((((W8.setCell ⟨db,5,none⟩ (iv y.kind)).setCell ⟨db,6,none⟩ (tv y.name)).setCell ⟨db,7,none⟩ (tv y.more)).setCell ⟨db,8,none⟩ (iv y.int)).setCell ⟨db,9,none⟩ (iv y.den)).setCell ⟨db,10,none⟩ (.slice y.A y.sub.length y.c)) = W9 at *
     clear cx5 fx5 cx6 fx6 cx7 fx7 cx8 fx8 cx9 fx9 cx10 fx10 g0 g1
     have ld0 : W9.cell? ⟨db,0,none⟩ = some (iv d.id):=F9.out.cell (b:=db) (List.mem_cons_self ..) 0
     have ld1 : W9.cell? ⟨db,1,none⟩ = some (iv d.kind):=F9.out.cell (b:=db) (List.mem_cons_self ..) 1
     have ld2 : W9.cell? ⟨db,2,none⟩ = some (.bool d.pub):=F9.out.cell (b:=db) (List.mem_cons_self ..) 2
     have ld3 : W9.cell? ⟨db,3,none⟩ = some (.slice Ai q ci):=F9.out.cell (b:=db) (List.mem_cons_self ..) 3
     have ld4 : W9.cell? ⟨db,4,none⟩ = some (.bool d.doubt):=F9.out.cell (b:=db) (List.mem_cons_self ..) 4
     have ld5 : W9.cell? ⟨db,5,none⟩ = some (iv y.kind):=F9.out.cell (b:=db) (List.mem_cons_self ..) 5
     have ld6 : W9.cell? ⟨db,6,none⟩ = some (tv y.name):=F9.out.cell (b:=db) (List.mem_cons_self ..) 6
     have ld7 : W9.cell? ⟨db,7,none⟩ = some (tv y.more):=F9.out.cell (b:=db) (List.mem_cons_self ..) 7
     have ld8 : W9.cell? ⟨db,8,none⟩ = some (iv y.int):=F9.out.cell (b:=db) (List.mem_cons_self ..) 8
     have ld9 : W9.cell? ⟨db,9,none⟩ = some (iv y.den):=F9.out.cell (b:=db) (List.mem_cons_self ..) 9
     have ld10 : W9.cell? ⟨db,10,none⟩ = some (.slice y.A y.sub.length y.c):=F9.out.cell (b:=db) (List.mem_cons_self ..) 10
     have HOW:=(HOI.out.kept (w':=W8) GC8.out (by
      cases hq : (Value.slice Ai q ci).ownBlock with
      | none => exact .inl rfl
      | some b => refine .inr (fun e => ?_);cases e;have:=(HOI.out.lt rb hq).1;have:=F7.out.lt;have:=HDB.out;omega)).kept GS.out (by
      cases hq : (Value.slice Ai q ci).ownBlock with
      | none => exact .inl rfl
      | some b => refine .inr (fun e => ?_);cases e;have:=(HOI.out.lt db hq).1;omega)
     obtain ⟨A2,c2,e2,rw2⟩:=HOW.cut elS.hn (b:=db + 1) (Nat.le_refl _)
     obtain ⟨rfl,-,rfl⟩:=Value.slice.inj e2
     rw [List.take_of_length_le (Nat.le_of_eq HQ.out)] at rw2
     obtain ⟨X,hX⟩ : ∃ X : Dec,X = ⟨d.id,d.kind,d.pub,Ai,ci,d.names,d.doubt,y⟩:=⟨_,rfl⟩
     have XR:=Qo0 (show X.Rd (Zb (W0.heap.size + 1) none W9) from by
      have:=F7.out.below (db,_) (List.mem_cons_self ..)
      rw [hX,HDB.out]
      exact ⟨⟨rw2,SNS.out⟩,(YR.out.mo (Qa5 W8 (fun b hb => by rcases hb with hb | hb;(left;omega);cases hb))).mo (Xl GS.out (fun b e => by cases e;left;omega))⟩)
     have XE:=Qo0 (show X.er = d from by
      rw [hX]
      show PD.mk d.id d.kind d.pub d.names d.doubt y.er = d
      rw [EY.out])
     have RDX:=Qo0 (fun W : World => show RD 11 Dec.cs (W.alloc (.cells #[iv d.id,iv d.kind,.bool d.pub,.slice Ai q ci,.bool d.doubt,iv y.kind,tv y.name,tv y.more,iv y.int,iv y.den,.slice y.A y.sub.length y.c] 45)) (some ⟨W.heap.size,0,none⟩) [X] from by
      refine Qj (t:=45) elD.hn ?_
      rw [hX]
      show _ = some (Obj.cells #[iv d.id,iv d.kind,.bool d.pub,.slice Ai d.names.length ci,.bool d.doubt,iv y.kind,tv y.name,tv y.more,iv y.int,iv y.den,.slice y.A y.sub.length y.c] 45 (0,0))
      rw [HQ.out]
      exact Qd _ _)
     have HOA:=Qo0 ((HO.out.kept (w':=W9) F9.out.g (by
      cases hq : (Value.slice Aj j cj).ownBlock with
      | none => exact .inl rfl
      | some b => refine .inr (fun e => ?_);cases e;have:=(HO.out.lt rb hq).1;have:=HRB.out;omega)).alloc (.cells #[iv d.id,iv d.kind,.bool d.pub,.slice Ai q ci,.bool d.doubt,iv y.kind,tv y.name,tv y.more,iv y.int,iv y.den,.slice y.A y.sub.length y.c] 45))
     have HBA:=Qo0 (show V.heap.size ≤ (W9.alloc (.cells #[iv d.id,iv d.kind,.bool d.pub,.slice Ai q ci,.bool d.doubt,iv y.kind,tv y.name,tv y.more,iv y.int,iv y.den,.slice y.A y.sub.length y.c] 45)).heap.size from by have:=HG.out.size;have:=F9.out.size;simp;omega)
     have HRX:=Qo0 (show RdS rb (((L.drop (j + 1)).map enD).flatten ++ r) W9 from by rw [← HRS.out];exact F9.out.r)
     clear e2 rw2 HOW hX
     go_wp2_with (at_builtin;refine Qf elD rfl (.tmp 61) (.tmp 63) rfl V.heap.size (v:=.slice Aj j cj) rfl HOA.out (A:=some ⟨W9.heap.size,0,none⟩) (M:=[X]) (m:=1) (c:=1) rfl rfl (RDX.out W9) (by have:=HLM.out;simp;omega) HBA.out ?_;intro v7 w7 o7 g7 b7;obtain ⟨A7,c7,rfl⟩:=Qdf elD.hn HLM.out o7;have XN:=Qo0 (di_step HM.out HG.out HO.out HY.out HDJ.out XE.out XR.out HRX.out HRB.out F9.out.g o7 g7 b7);clear o7 g7 b7)
     exact ⟨⟨j + 1,A7,c7,by omega,by simp,rfl,XN⟩,by simp [intOf];omega⟩
  ·obtain rfl : n = j:=by omega
   go_wp2
   go_ret
   obtain ⟨A2,c2,e2,rw2⟩:=HO.out.cut elD.hn (b:=V.heap.size) (Nat.le_refl _)
   obtain ⟨rfl,-,rfl⟩:=Value.slice.inj e2
   refine ⟨Aj,cj,M,by rw [HLM.out];rfl,?_,⟨rw2,fun x hx => (HY.out x hx).mo (Qa4 _ (Nat.le_refl _))⟩,?_,HG.out⟩
   ·rw [HM.out,List.take_of_length_le (Nat.le_of_eq HN.out)]
   ·have h2:=HRR.out
    rw [List.drop_eq_nil_of_le (Nat.le_of_eq HN.out)] at h2
    simpa using h2
end Go.Proofs.YtiaenhlflgobfaaGreatDoor

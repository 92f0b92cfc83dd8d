/- Words. -/
import Derived.Test.YtiaenhlflgobfaaGreatDoorTb43
import Derived.Test.YtiaenhlflgobfaaGreatDoorTb47
import Derived.Test.YtiaenhlflgobfaaGreatDoorTb51
namespace Go.Proofs.YtiaenhlflgobfaaGreatDoor
open Go.RowKit Go.Maps
theorem back_ok {O : Oks} {a b : List PM} (ha : O.Mods a) (hb : O.Mods b) : Zc b (inv (Xc a b)) = some a ∧ ∀ e ∈ inv (Xc a b),O.Edit e:=by
 obtain ⟨h1,h2⟩:=Qcc ha hb
 refine ⟨(Qd9 _ _ _ h2 ha.st h1).2,fun e he => ?_⟩
 unfold inv at he
 obtain ⟨x,hx,rfl⟩:=List.mem_map.1 (List.mem_reverse.1 he)
 exact (h2 x hx).inv
theorem Qi3 (x : PT) (w : World) (hx : oks.Edit x) : Calls Tryz.prog 20 #[tv (enT x)] w fun e w' => ∃ y : Edt,e = .returned (.tuple #[y.v,iv 0]) ∧ y.er = x ∧ y.Rd (Zb w.heap.size none w') ∧ Gr w w' :=
 Qme x w (tok_of hx) fun y V e r => by
  have h:=Qdt y V r (by rw [e];exact hx)
  rw [e] at h
  exact h
def SE (W0 : World) (L : List Edt) (j : Nat) (B : Option Addr) (c : Nat) (V : World) : Prop:=∃ M : List Edt,M.map Edt.er = (L.take j).map Edt.er ∧ OR 32 5 Edt.cs V W0.heap.size (.slice B j c) M ∧ (∀ y ∈ M,y.Rd (Zb W0.heap.size (Value.slice B j c).ownBlock V)) ∧ Gr W0 V
theorem se_step {W0 V0 V1 V2 V3 V4 : World} {L : List Edt} {x y : Edt} {j c c' : Nat} {B B' : Option Addr} {M : List Edt} (HM : M.map Edt.er = (L.take j).map Edt.er) (HO : OR 32 5 Edt.cs V0 W0.heap.size (.slice B j c) M) (HY : ∀ y ∈ M,y.Rd (Zb W0.heap.size (Value.slice B j c).ownBlock V0)) (HG : Gr W0 V0)
 (hx : L[j]? = some x) (he : y.er = x.er) (g1 : Gr V0 V1) (rd : y.Rd (Zb V1.heap.size none V2)) (g2 : Gr V1 V2) (g3 : Gr V2 V3) (o7 : OR 32 5 Edt.cs V4 W0.heap.size (.slice B' (j + 1) c') (M ++ [y])) (g7 : V3.grownBy V4 (Value.slice B j c).ownBlock) (b7 : (Value.slice B' (j + 1) c').ownBlock = (Value.slice B j c).ownBlock ∨ (Value.slice B' (j + 1) c').ownBlock = some V3.heap.size) :
 SE W0 L (j + 1) B' c' V4:=by
 have hlt:=HO.lt
 have m1 : Mo (Zb W0.heap.size (Value.slice B j c).ownBlock V2) (Zb W0.heap.size (Value.slice B' (j + 1) c').ownBlock V4):=(Qd0 g3).trans (Qkm g7 b7)
 refine ⟨M ++ [y],?_,o7,fun z hz => ?_,(OR.grow ((HG.trans g1).trans (g2.trans g3)) (HO.gr (g1.trans (g2.trans g3))) (Nat.le_refl _) g7)⟩
 ·rw [List.map_append,HM,List.map_cons,List.map_nil,he,List.take_add_one,hx];simp
 ·rcases List.mem_append.1 hz with hz | hz
  ·exact ((HY z hz).mo (Qd0 (g1.trans g2))).mo m1
  ·obtain rfl:=List.mem_singleton.1 hz
   refine rd.mo (Mo.trans (Qa5 V2 (fun b hb => ?_)) m1)
   have:=HG.size
   have:=g1.size
   rcases hb with hb | hb
   ·left;omega
   ·left;have:=(hlt b hb.symm).2;omega
set_option maxRecDepth 100000 in
set_option maxHeartbeats 4000000 in
attribute [local irreducible] Calls in
theorem Qfs (A0 A1 : Option Addr) (c0 c1 : Nat) (L0 L1 : List Mod) (W : World) (r0 : MRd W A0 c0 L0) (r1 : MRd W A1 c1 L1) :
 Calls Tryz.prog 5 #[.slice A0 L0.length c0,.slice A1 L1.length c1] W fun e w' => e = .returned (.bool true) ∧ Gr W w':=by
 have R0:=Qo0 (fun V (g : Gr W V) => r0.gr g)
 have R1:=Qo0 (fun V (g : Gr W V) => r1.gr g)
 have K0:=Qo0 (fun V (g : Gr W V) => Qex A0 c0 L0 V (r0.gr g))
 have K1:=Qo0 (fun V (g : Gr W V) => Qex A1 c1 L1 V (r1.gr g))
 have CW:=Qo0 (fun V => Qml V)
 clear r0 r1
 go_enter Tryz.func5,Tryz.ntmps5
 go_upto_region 3 with (first
  | (go_at_call 7;(with_reducible refine (CW.out _).mono ?_);rintro e wz ⟨rfl,gz⟩;have GZ:=Qo0 gz;clear gz)
  | (go_at_call 6;(with_reducible refine (K0.out _ (Qc _)).mono ?_);rintro e w1 ⟨b0,rfl,h0,g1⟩;have H0:=Qo0 h0;have G1:=Qo0 g1;clear h0 g1 K0;cases b0 <;> (try dsimp only))
  | (go_at_call 6;(with_reducible refine (K1.out _ G1.out).mono ?_);rintro e w2 ⟨b1,rfl,h1,g2⟩;have H1:=Qo0 h1;have G2:=Qo0 (G1.out.trans g2);clear h1 g2 K1;cases b1 <;> (try dsimp only)))
 rotate_left
 ·go_ret
  exact ⟨rfl,G2.out.trans GZ.out⟩
 ·go_ret
  exact ⟨rfl,G1.out.trans GZ.out⟩
 have N0:=Qo0 (H0.out rfl)
 have N1:=Qo0 (H1.out rfl)
 have D1:=Qo0 (fun V (g : Gr W V) => Qdx A0 c0 L0 A1 c1 L1 V (R0.out V g) (R1.out V g) N0.out N1.out)
 have D2:=Qo0 (fun V (g : Gr W V) => Qdx A1 c1 L1 A0 c0 L0 V (R1.out V g) (R0.out V g) N1.out N0.out)
 clear H0 H1
 go_upto_region 4 with (go_at_call 8;(with_reducible refine (D1.out _ G2.out).mono ?_);rintro e w4 ⟨g4,h4⟩;have G4:=Qo0 (G2.out.trans g4);clear g4 D1;rcases h4 with ⟨r,hr,rfl,hno⟩ | ⟨aT,cT,lT,rfl,hm0,hm1,ht,he⟩;have hrb : (r == 0) = false:=(by rw [beq_eq_false_iff_ne];exact hr);have hrn : (r != 0) = true:=(by simp [bne,hrb]);have NO:=Qo0 hno;clear hno;rotate_left;have M0:=Qo0 hm0;have M1:=Qo0 hm1;have T1:=Qo0 ht;have E1:=Qo0 he;clear hm0 hm1 ht he;rotate_left)
 ·have hno:=NO.out
  go_wp2_with (first
   | (go_at_call 7;(with_reducible refine (CW.out _).mono ?_);rintro e wz ⟨rfl,gz⟩;have GZ:=Qo0 gz;clear gz;(try dsimp only))
   | (go_at_call 8;(with_reducible refine (D2.out _ G4.out).mono ?_);rintro e w5 ⟨g5,h5⟩;have G5:=Qo0 (G4.out.trans g5);clear g5 D2;rcases h5 with ⟨r',hr',rfl,-⟩ | ⟨_,_,_,-,hm1,hm0,-,-⟩;rotate_left;exact absurd ⟨hm0,hm1⟩ hno;have hrb' : (r' == 0) = false:=(by rw [beq_eq_false_iff_ne];exact hr');have hrn' : (r' != 0) = true:=(by simp [bne,hrb'])))
  go_ret
  exact ⟨rfl,G5.out.trans GZ.out⟩
 go_upto_region 7 with (go_at_call 8;(with_reducible refine (D2.out _ G4.out).mono ?_);rintro e w5 ⟨g5,h5⟩;have G45:=Qo0 g5;have G5:=Qo0 (G4.out.trans g5);clear g5 D2;rcases h5 with ⟨r',hr',rfl,hno⟩ | ⟨aU,cU,lU,rfl,-,-,ht,he⟩;exact absurd ⟨M1.out,M0.out⟩ hno;have T2:=Qo0 ht;have E2:=Qo0 he;clear ht he)
 have DOK:=Qo0 (Qcc M0.out M1.out)
 have DOB:=Qo0 (Qcc M1.out M0.out)
 have BOK:=Qo0 (back_ok M0.out M1.out)
 obtain ⟨n,hn⟩ : ∃ n,lT.length = n:=⟨_,rfl⟩
 have hU : lU.length = n:=by
  have h1:=congrArg List.length E1.out
  have h2:=congrArg List.length E2.out
  rw [List.length_map] at h1 h2
  rw [← hn,h1,h2,Qod]
 have HSM : n ≤ 2600:=by
  have h:=congrArg List.length E1.out
  rw [List.length_map,hn] at h
  rw [h];exact Qiy M0.out M1.out (by simpa using N0.out) (by simpa using N1.out)
 have T1':=Qo0 (T1.out.gr G45.out)
 have ED:=Qo0 (show ∀ x ∈ lT,oks.Edit x.er from fun x hx => DOK.out.2 x.er (by rw [← E1.out];exact List.mem_map_of_mem hx))
 have HN:=Qo0 hn
 have HU:=Qo0 hU
 rw [hn,hU]
 clear hn hU
 go_wp2
 go_loopw [9,58] (fun v i V => ∃ (j : Nat) (B : Option Addr) (c : Nat),j ≤ n ∧ i = .int .i64 j ∧ v = .slice B j c ∧ Hid (SE w5 lT j B c V)) (fun _ i _ => n - (intOf i).toNat)
 case atStart => exact ⟨0,none,0,Nat.zero_le _,rfl,rfl,Qo0 ⟨[],by simp,OR.nil,by simp,Qc _⟩⟩
 case round =>
  obtain ⟨j,B,c,hj,rfl,rfl,HX⟩:=hrel
  obtain ⟨M,HM0,HO0,HY0,HG0⟩:=HX.out
  have HM:=Qo0 HM0
  have HO:=Qo0 HO0
  have HY:=Qo0 HY0
  have HG:=Qo0 HG0
  clear HM0 HO0 HY0 HG0 HX
  have HLM:=Qo0 (show M.length = j by have q:=congrArg List.length HM.out;rw [List.length_map,List.length_map,List.length_take,HN.out] at q;omega)
  by_cases hlt : j < n
  ·obtain ⟨x,hx⟩ : ∃ x,lT[j]? = some x:=⟨_,List.getElem?_eq_getElem (by rw [HN.out];exact hlt)⟩
   obtain ⟨ab,p1,hA,hb1,hbb,i0,i1,i2,i3,i4,xr⟩:=(T1'.out.gr HG.out).at (k:=j) (by rw [HN.out];exact hlt)
   have hxi : lT[j]'(by rw [HN.out];exact hlt) = x:=by rw [List.getElem?_eq_getElem (by rw [HN.out];exact hlt)] at hx;exact Option.some.inj hx
   rw [hxi] at i0 i1 i2 i3 i4 xr
   have XE:=ED.out x (List.mem_of_getElem? hx)
   have HXJ:=Qo0 hx
   have CE:=Qo0 (fun V (g : Gr wr V) => Qdt x V (xr.gr g) XE)
   have CD:=Qo0 (fun V => Qi3 x.er V XE)
   unfold Edt.v at CE
   subst hA
   clear hx hxi xr XE
   go_upto_region 11 with fail
   have GB:=Qo0 (Qa wr (.cells #[iv x.kind,tv x.pack,tv x.text,.slice x.oA x.old.length x.oc,.slice x.nA x.new.length x.nc] 32))
   have BC:=Qo0 (Qd wr (.cells #[iv x.kind,tv x.pack,tv x.text,.slice x.oA x.old.length x.oc,.slice x.nA x.new.length x.nc] 32))
   clear i0 i1 i2 i3 i4 hbb
   obtain ⟨b0,b1,b2,b3,b4⟩ : (wr.alloc (.cells #[iv x.kind,tv x.pack,tv x.text,.slice x.oA x.old.length x.oc,.slice x.nA x.new.length x.nc] 32)).cell? ⟨wr.heap.size,0,none⟩ = some (iv x.kind) ∧ (wr.alloc (.cells #[iv x.kind,tv x.pack,tv x.text,.slice x.oA x.old.length x.oc,.slice x.nA x.new.length x.nc] 32)).cell? ⟨wr.heap.size,1,none⟩ = some (tv x.pack) ∧ (wr.alloc (.cells #[iv x.kind,tv x.pack,tv x.text,.slice x.oA x.old.length x.oc,.slice x.nA x.new.length x.nc] 32)).cell? ⟨wr.heap.size,2,none⟩ = some (tv x.text) ∧ (wr.alloc (.cells #[iv x.kind,tv x.pack,tv x.text,.slice x.oA x.old.length x.oc,.slice x.nA x.new.length x.nc] 32)).cell? ⟨wr.heap.size,3,none⟩ = some (.slice x.oA x.old.length x.oc) ∧ (wr.alloc (.cells #[iv x.kind,tv x.pack,tv x.text,.slice x.oA x.old.length x.oc,.slice x.nA x.new.length x.nc] 32)).cell? ⟨wr.heap.size,4,none⟩ = some (.slice x.nA x.new.length x.nc) :=
    ⟨by rw [Lib.cell_of_heap BC.out];rfl,by rw [Lib.cell_of_heap BC.out];rfl,by rw [Lib.cell_of_heap BC.out];rfl,by rw [Lib.cell_of_heap BC.out];rfl,by rw [Lib.cell_of_heap BC.out];rfl⟩
   go_upto_region 12 with (go_at_call 19;(with_reducible refine (CE.out _ GB.out).mono ?_);rintro e w6 ⟨rfl,g6⟩;have G6:=Qo0 (GB.out.trans g6);clear g6)
   clear b0 b1 b2 b3 b4
   go_upto_region 13 with (go_at_call 20;(with_reducible refine (CD.out _).mono ?_);rintro e w7 ⟨y,rfl,ye,yr,g7⟩;unfold Edt.v;have YE:=Qo0 ye;have YR:=Qo0 yr;have G67:=Qo0 g7;clear ye yr g7)
   have GY:=Qo0 (Qa w7 (.cells #[iv y.kind,tv y.pack,tv y.text,.slice y.oA y.old.length y.oc,.slice y.nA y.new.length y.nc] 32))
   have BC2:=Qo0 (Qd w7 (.cells #[iv y.kind,tv y.pack,tv y.text,.slice y.oA y.old.length y.oc,.slice y.nA y.new.length y.nc] 32))
   obtain ⟨b0,b1,b2,b3,b4⟩ : (w7.alloc (.cells #[iv y.kind,tv y.pack,tv y.text,.slice y.oA y.old.length y.oc,.slice y.nA y.new.length y.nc] 32)).cell? ⟨w7.heap.size,0,none⟩ = some (iv y.kind) ∧ (w7.alloc (.cells #[iv y.kind,tv y.pack,tv y.text,.slice y.oA y.old.length y.oc,.slice y.nA y.new.length y.nc] 32)).cell? ⟨w7.heap.size,1,none⟩ = some (tv y.pack) ∧ (w7.alloc (.cells #[iv y.kind,tv y.pack,tv y.text,.slice y.oA y.old.length y.oc,.slice y.nA y.new.length y.nc] 32)).cell? ⟨w7.heap.size,2,none⟩ = some (tv y.text) ∧ (w7.alloc (.cells #[iv y.kind,tv y.pack,tv y.text,.slice y.oA y.old.length y.oc,.slice y.nA y.new.length y.nc] 32)).cell? ⟨w7.heap.size,3,none⟩ = some (.slice y.oA y.old.length y.oc) ∧ (w7.alloc (.cells #[iv y.kind,tv y.pack,tv y.text,.slice y.oA y.old.length y.oc,.slice y.nA y.new.length y.nc] 32)).cell? ⟨w7.heap.size,4,none⟩ = some (.slice y.nA y.new.length y.nc) :=
    ⟨by rw [Lib.cell_of_heap BC2.out];rfl,by rw [Lib.cell_of_heap BC2.out];rfl,by rw [Lib.cell_of_heap BC2.out];rfl,by rw [Lib.cell_of_heap BC2.out];rfl,by rw [Lib.cell_of_heap BC2.out];rfl⟩
   have G38:=Qo0 (GY.out.trans (Qa (w7.alloc (.cells #[iv y.kind,tv y.pack,tv y.text,.slice y.oA y.old.length y.oc,.slice y.nA y.new.length y.nc] 32)) (.cells #[iv y.kind,tv y.pack,tv y.text,.slice y.oA y.old.length y.oc,.slice y.nA y.new.length y.nc] 32)))
   have HOA:=Qo0 (HO.out.gr (G6.out.trans (G67.out.trans G38.out)))
   have HBA:=Qo0 (show w5.heap.size ≤ ((w7.alloc (.cells #[iv y.kind,tv y.pack,tv y.text,.slice y.oA y.old.length y.oc,.slice y.nA y.new.length y.nc] 32)).alloc (.cells #[iv y.kind,tv y.pack,tv y.text,.slice y.oA y.old.length y.oc,.slice y.nA y.new.length y.nc] 32)).heap.size from Nat.le_trans HG.out.size (G6.out.trans (G67.out.trans G38.out)).size)
   go_wp2_with (at_builtin;refine Qf elT rfl (.tmp 78) (.tmp 80) rfl w5.heap.size (v:=.slice B j c) rfl HOA.out (A:=some ⟨(w7.alloc (.cells #[iv y.kind,tv y.pack,tv y.text,.slice y.oA y.old.length y.oc,.slice y.nA y.new.length y.nc] 32)).heap.size,0,none⟩) (M:=[y]) (m:=1) (c:=1) (by simp) (by simp [Act.eval]) (Qj (t:=32) elT.hn (Qd _ _)) (by have:=HLM.out;simp;omega) HBA.out ?_;intro v8 w8 o8 g8 b8;obtain ⟨B8,c8,rfl⟩:=Qdf elT.hn HLM.out o8;have XN:=Qo0 (se_step HM.out HO.out HY.out HG.out HXJ.out YE.out G6.out YR.out G67.out G38.out o8 g8 b8);clear o8 g8 b8)
   exact ⟨⟨j + 1,B8,c8,by omega,by simp,rfl,XN⟩,by simp [intOf];omega⟩
  ·obtain rfl : n = j:=by omega
   have HME:=Qo0 (show M.map Edt.er = Xc (L0.map Mod.er) (L1.map Mod.er) from by rw [HM.out,List.take_of_length_le (Nat.le_of_eq HN.out)];exact E1.out)
   have TM:=Qo0 (show TRd wr B c M from by
    obtain ⟨A7,c7,e7,r7,hc7,hm7,h07,-⟩:=HO.out.form2 Edt.cs_len
    obtain ⟨rfl,-,rfl⟩:=Value.slice.inj e7
    exact ⟨⟨hc7,hm7,h07,r7⟩,fun x hx => (HY.out x hx).mo (Qkl _ _ _)⟩)
   have G7:=Qo0 (G5.out.trans HG.out)
   have MED:=Qo0 (show ∀ e ∈ M,oks.Edit e.er from fun e he => DOK.out.2 e.er (by rw [← HME.out];exact List.mem_map_of_mem he))
   have CA:=Qo0 (fun V (g : Gr wr V) => Qbj A0 c0 L0 B c M V (R0.out V (G7.out.trans g)) (TM.out.gr g) (by have:=N0.out;omega) (by have:=HLM.out;omega) (Qbs M0.out) M0.out MED.out (L1.map Mod.er) (by rw [HME.out];exact DOK.out.1) M1.out.mods)
   have CI:=Qo0 (fun V (g : Gr wr V) => Qid B c M V (TM.out.gr g) (by have:=HLM.out;omega) (fun e he => by
    have h:=MED.out e he
    exact ⟨h.k0,h.k1⟩))
   rw [HLM.out] at CA CI
   have CB:=Qo0 (fun V (g : Gr wr V) (a9 : Option Addr) (c9 : Nat) (l9 : List Edt) (t9 : TRd V a9 c9 l9) (e9 : l9.map Edt.er = inv (M.map Edt.er)) => Qbj A1 c1 L1 a9 c9 l9 V (R1.out V (G7.out.trans g)) t9 (by have:=N1.out;omega) (by have h:=congrArg List.length e9;rw [List.length_map,Qie,List.length_map] at h;have:=HLM.out;omega) (Qbs M1.out) M1.out (fun e he => BOK.out.2 e.er (by rw [← HME.out,← e9];exact List.mem_map_of_mem he)) (L0.map Mod.er) (by rw [e9,HME.out];exact BOK.out.1) M0.out.mods)
   have CC:=Qo0 (fun V (g : Gr wr V) => Qbj A1 c1 L1 aU cU lU V (R1.out V (G7.out.trans g)) (T2.out.gr (HG.out.trans g)) (by have:=N1.out;omega) (by have:=HU.out;omega) (Qbs M1.out) M1.out (fun e he => DOB.out.2 e.er (by rw [← E2.out];exact List.mem_map_of_mem he)) (L0.map Mod.er) (by rw [E2.out];exact DOB.out.1) M0.out.mods)
   rw [HU.out] at CC
   go_upto_region 20 with (first
    | (go_at_call 10;(with_reducible refine (CA.out _ (Qc _)).mono ?_);rintro e w8 ⟨aX,cX,lX,rfl,hx,mx,g8⟩;have G8:=Qo0 g8;have MX:=Qo0 (And.intro hx mx);clear hx mx g8)
    | (go_at_call 11;(with_reducible refine (CI.out _ G8.out).mono ?_);rintro e w9 ⟨a9,c9,l9,rfl,e9,t9,g9⟩;have G9:=Qo0 (G8.out.trans g9);have G89:=Qo0 g9;have CB9:=Qo0 (CB.out w9 G9.out a9 c9 l9 t9 e9);clear e9 t9 g9)
    | (go_at_call 10;(with_reducible refine (CB9.out).mono ?_);rintro e wa ⟨aY,cY,lY,rfl,hy,my,ga⟩;have GA:=Qo0 (G9.out.trans ga);have GA8:=Qo0 (G89.out.trans ga);have MY:=Qo0 (And.intro hy my);clear hy my ga)
    | (go_at_call 10;(with_reducible refine (CC.out _ GA.out).mono ?_);rintro e wb ⟨aZ,cZ,lZ,rfl,hz,mz,gb⟩;have GB:=Qo0 (GA.out.trans gb);have GAB:=Qo0 gb;have MZ:=Qo0 (And.intro hz mz);clear hz mz gb))
   have CS1:=Qo0 (fun V (g : Gr wb V) => Qaf aX cX lX A1 c1 L1 V (MX.out.2.gr (GA8.out.trans (GAB.out.trans g))) (R1.out V (G7.out.trans (GB.out.trans g))) MX.out.1)
   have CS2:=Qo0 (fun V (g : Gr wb V) => Qaf aY cY lY A0 c0 L0 V (MY.out.2.gr (GAB.out.trans g)) (R0.out V (G7.out.trans (GB.out.trans g))) MY.out.1)
   have CS3:=Qo0 (fun V (g : Gr wb V) => Qaf aZ cZ lZ A0 c0 L0 V (MZ.out.2.gr g) (R0.out V (G7.out.trans (GB.out.trans g))) MZ.out.1)
   go_wp2_with (first
    | (go_at_call 12;(with_reducible refine (CS1.out _ (Qc _)).mono ?_);rintro e wc ⟨rfl,gc⟩;have GC:=Qo0 gc;clear gc CS1;(try dsimp only))
    | (go_at_call 12;(with_reducible refine (CS2.out _ GC.out).mono ?_);rintro e wd ⟨rfl,gd⟩;have GD:=Qo0 (GC.out.trans gd);clear gd CS2;(try dsimp only))
    | (go_at_call 12;(with_reducible refine (CS3.out _ GD.out).mono ?_);rintro e we ⟨rfl,ge⟩;have GE:=Qo0 (GD.out.trans ge);clear ge;(try dsimp only))
    | (go_at_call 7;(with_reducible refine (CW.out _).mono ?_);rintro e wz ⟨rfl,gz⟩;have GZ:=Qo0 gz;clear gz;(try dsimp only)))
   go_ret
   exact ⟨rfl,G7.out.trans (GB.out.trans (GE.out.trans GZ.out))⟩
end Go.Proofs.YtiaenhlflgobfaaGreatDoor

/- Words. -/
import Derived.Test.YtiaenhlflgobfaaGreatDoorTb50
namespace Go.Proofs.YtiaenhlflgobfaaGreatDoor
open Go.RowKit
attribute [local irreducible] Calls in
set_option maxRecDepth 100000 in
set_option maxHeartbeats 4000000 in
theorem Qme (x : PT) (w : World) (tk : TOk x) (enc : ∀ (y : Edt) (V : World),y.er = x → y.Rd V → Calls Tryz.prog 19 #[y.v] V fun e w' => e = .returned (.tuple #[tv (enT x),iv 0]) ∧ Gr V w') :
 Calls Tryz.prog 20 #[tv (enT x)] w fun e w' => ∃ y : Edt,e = .returned (.tuple #[y.v,iv 0]) ∧ y.er = x ∧ y.Rd (Zb w.heap.size none w') ∧ Gr w w':=by
 have hlen:=Qkh tk
 have k0:=tk.k0
 have k1:=tk.k1
 have kp:=tk.p
 have kt:=tk.t
 obtain ⟨s0,hs0⟩ : ∃ s,enT x = s:=⟨_,rfl⟩
 obtain ⟨s4,hs4⟩ : ∃ s,s = Qbv x.new ++ []:=⟨_,rfl⟩
 obtain ⟨s3,hs3⟩ : ∃ s,s = Qbv x.old ++ s4:=⟨_,rfl⟩
 obtain ⟨s2,hs2⟩ : ∃ s,s = Qp x.text ++ s3:=⟨_,rfl⟩
 obtain ⟨s1,hs1⟩ : ∃ s,s = Qp x.pack ++ s2:=⟨_,rfl⟩
 have hE : dig x.kind.toNat ++ s1 = s0:=by
  rw [← hs0]
  unfold enT
  rw [hs1,hs2,hs3,hs4]
  simp only [List.append_nil]
 rw [hs0] at hlen enc ⊢
 have l1 : s1.length ≤ s0.length:=by rw [← hE];simp
 have l2 : s2.length ≤ s1.length:=by rw [hs1];simp
 have l3 : s3.length ≤ s2.length:=by rw [hs2];simp
 have l4 : s4.length ≤ s3.length:=by rw [hs3];simp
 have N1:=Qo0 (fun rb V' (h' : RdS rb s0 V') => show Calls Tryz.prog 47 #[.pointer (some ⟨rb,0,none⟩),.int .i64 1099511627776] V' (RdP rb (iv x.kind) s1 V') from by
  have q:=Yf rb x.kind.toNat 1099511627776 s1 V' (by rw [hE];exact h') (by omega) (by omega)
  rw [Int.toNat_of_nonneg k0] at q;exact q)
 have N2:=Qo0 (fun rb V' (h' : RdS rb s1 V') => Qav rb x.pack s2 V' (by rw [← hs1];exact h') kp (by omega))
 have N3:=Qo0 (fun rb V' (h' : RdS rb s2 V') => Qav rb x.text s3 V' (by rw [← hs2];exact h') kt (by omega))
 have N4:=Qo0 (fun rb V' (h' : RdS rb s3 V') => Qdm x.old rb s4 V' tk.o tk.ol (by rw [← hs3];exact h') (by have e:=congrArg List.length hs3;rw [List.length_append] at e;omega))
 have N5:=Qo0 (fun rb V' (h' : RdS rb s4 V') => Qdm x.new rb [] V' tk.n tk.nl (by rw [← hs4];exact h') (by have e:=congrArg List.length hs4;rw [List.length_append] at e;omega))
 have SP:=Qo0 (show sOk x.pack by unfold sOk;omega)
 have ST:=Qo0 (show sOk x.text by unfold sOk;omega)
 have EN:=Qo0 enc
 clear enc tk hs0 hs1 hs2 hs3 hs4 hE hlen l1 l2 l3 l4 k0 k1 kp kt
 obtain ⟨ka,hka⟩ : ∃ k,w.heap.size = k:=⟨_,rfl⟩
 go_enter Tryz.func20,Tryz.ntmps20
 go_upto_region 2 with fail
 have G1:=Qo0 ((Qa w (.cells #[.int .i64 0,.string ⟨#[]⟩,.string ⟨#[]⟩,.slice none 0 0,.slice none 0 0] 32)).trans (Qa (w.alloc (.cells #[.int .i64 0,.string ⟨#[]⟩,.string ⟨#[]⟩,.slice none 0 0,.slice none 0 0] 32)) (.cells #[tv s0,.bool false] 107)))
 have ZA1:=Qo0 (Qe (Qa (w.alloc (.cells #[.int .i64 0,.string ⟨#[]⟩,.string ⟨#[]⟩,.slice none 0 0,.slice none 0 0] 32)) (.cells #[tv s0,.bool false] 107)) (Qr w (.cells #[.int .i64 0,.string ⟨#[]⟩,.string ⟨#[]⟩,.slice none 0 0,.slice none 0 0] 32) hka.symm))
 obtain ⟨rb,hrb⟩ : ∃ k,k = ka + 1:=⟨_,rfl⟩
 have HR1 : Hid (RdS rb s0 ((w.alloc (.cells #[.int .i64 0,.string ⟨#[]⟩,.string ⟨#[]⟩,.slice none 0 0,.slice none 0 0] 32)).alloc (.cells #[tv s0,.bool false] 107))):=Qo0 (Qr _ _ (by rw [hrb];simp;omega))
 rw [← hrb]
 have HRB:=Qo0 hrb
 have HKA:=Qo0 hka
 generalize (w.alloc (.cells #[.int .i64 0,.string ⟨#[]⟩,.string ⟨#[]⟩,.slice none 0 0,.slice none 0 0] 32)).alloc (.cells #[tv s0,.bool false] 107) = w1 at *
 clear hrb hka
 have N1:=Qo0 (N1.out rb)
 have N2:=Qo0 (N2.out rb)
 have N3:=Qo0 (N3.out rb)
 have N4:=Qo0 (N4.out rb)
 have N5:=Qo0 (N5.out rb)
 go_upto_region 3 with fail
 obtain ⟨eb,heb⟩ : ∃ k,w1.heap.size = k:=⟨_,rfl⟩
 have H0 : Hid (HR rb s0 w1 (w1.alloc (.cells #[.int .i64 0,.string ⟨#[]⟩,.string ⟨#[]⟩,.slice none 0 0,.slice none 0 0] 32)) [(eb,.cells #[iv 0,tv [],tv [],.slice none 0 0,.slice none 0 0] 32 (0,0))]):=Qo0 ((HR.new HR1.out).alloc heb _)
 rw [heb]
 have HEB:=Qo0 heb
 clear heb
 generalize w1.alloc (.cells #[.int .i64 0,.string ⟨#[]⟩,.string ⟨#[]⟩,.slice none 0 0,.slice none 0 0] 32) = W0 at *
 go_upto_region 4 with (go_at_call 47;refine (N1.out _ H0.out.r).mono ?_;rintro e W1 ⟨rfl,q1,q2⟩;have H0c:=Qo0 (H0.out.call q1 q2);clear q1 q2;have cx : W1.cell? ⟨eb,0,none⟩ = some (iv 0):=H0c.out.cell (b:=eb) (List.mem_cons_self ..) 0;have fx:=H0c.out.frz (b:=eb) (List.mem_cons_self ..) 0)
 have N1s : Hid (HR rb s1 w1 (W1.setCell ⟨eb,0,none⟩ (iv x.kind)) [(eb,.cells #[iv x.kind,tv [],tv [],.slice none 0 0,.slice none 0 0] 32 (0,0))]):=Qo0 (HR.setc (pre:=[]) H0c.out 0 (iv x.kind))
 generalize World.setCell W1 ⟨eb,0,none⟩ (iv x.kind) = W1s at *
 clear cx fx
 go_upto_region 5 with (go_at_call 48;refine (N2.out _ N1s.out.r).mono ?_;rintro e W2 ⟨rfl,q1,q2⟩;have N1sc:=Qo0 (N1s.out.call q1 q2);clear q1 q2;have cx : W2.cell? ⟨eb,1,none⟩ = some (tv []):=N1sc.out.cell (b:=eb) (List.mem_cons_self ..) 1;have fx:=N1sc.out.frz (b:=eb) (List.mem_cons_self ..) 1)
 have N2s : Hid (HR rb s2 w1 (W2.setCell ⟨eb,1,none⟩ (tv x.pack)) [(eb,.cells #[iv x.kind,tv x.pack,tv [],.slice none 0 0,.slice none 0 0] 32 (0,0))]):=Qo0 (HR.setc (pre:=[]) N1sc.out 1 (tv x.pack))
 generalize World.setCell W2 ⟨eb,1,none⟩ (tv x.pack) = W2s at *
 clear cx fx
 go_upto_region 6 with (go_at_call 48;refine (N3.out _ N2s.out.r).mono ?_;rintro e W3 ⟨rfl,q1,q2⟩;have N2sc:=Qo0 (N2s.out.call q1 q2);clear q1 q2;have cx : W3.cell? ⟨eb,2,none⟩ = some (tv []):=N2sc.out.cell (b:=eb) (List.mem_cons_self ..) 2;have fx:=N2sc.out.frz (b:=eb) (List.mem_cons_self ..) 2)
 have N3s : Hid (HR rb s3 w1 (W3.setCell ⟨eb,2,none⟩ (tv x.text)) [(eb,.cells #[iv x.kind,tv x.pack,tv x.text,.slice none 0 0,.slice none 0 0] 32 (0,0))]):=Qo0 (HR.setc (pre:=[]) N2sc.out 2 (tv x.text))
 generalize World.setCell W3 ⟨eb,2,none⟩ (tv x.text) = W3s at *
 clear cx fx
 go_upto_region 7 with (go_at_call 49;refine (N4.out _ N3s.out.r).mono ?_;rintro e W4 ⟨A1,c1,M1,rfl,p1,p2,q1,q2⟩;have E1:=Qo0 p1;have D1:=Qo0 p2;have N3sc:=Qo0 (N3s.out.call q1 q2);have GC1:=Qo0 q2;have SZ1:=Qo0 (N3s.out.below (eb,_) (List.mem_cons_self ..));clear p1 p2 q1 q2;have cx : W4.cell? ⟨eb,3,none⟩ = some (.slice none 0 0):=N3sc.out.cell (b:=eb) (List.mem_cons_self ..) 3;have fx:=N3sc.out.frz (b:=eb) (List.mem_cons_self ..) 3)
 have N4s : Hid (HR rb s4 w1 (W4.setCell ⟨eb,3,none⟩ (.slice A1 M1.length c1)) [(eb,.cells #[iv x.kind,tv x.pack,tv x.text,.slice A1 M1.length c1,.slice none 0 0] 32 (0,0))]):=Qo0 (HR.setc (pre:=[]) N3sc.out 3 (.slice A1 M1.length c1))
 have GS1:=Qo0 (Qo (w:=W4) eb 3 (.slice A1 M1.length c1))
 generalize World.setCell W4 ⟨eb,3,none⟩ (.slice A1 M1.length c1) = W4s at *
 clear cx fx
 go_upto_region 8 with (go_at_call 49;refine (N5.out _ N4s.out.r).mono ?_;rintro e W5 ⟨A2,c2,M2,rfl,p1,p2,q1,q2⟩;have E2:=Qo0 p1;have D2:=Qo0 p2;have N4sc:=Qo0 (N4s.out.call q1 q2);have GC2:=Qo0 q2;have SZ2:=Qo0 (N4s.out.below (eb,_) (List.mem_cons_self ..));clear p1 p2 q1 q2;have cx : W5.cell? ⟨eb,4,none⟩ = some (.slice none 0 0):=N4sc.out.cell (b:=eb) (List.mem_cons_self ..) 4;have fx:=N4sc.out.frz (b:=eb) (List.mem_cons_self ..) 4)
 have N5s : Hid (HR rb [] w1 (W5.setCell ⟨eb,4,none⟩ (.slice A2 M2.length c2)) [(eb,.cells #[iv x.kind,tv x.pack,tv x.text,.slice A1 M1.length c1,.slice A2 M2.length c2] 32 (0,0))]):=Qo0 (HR.setc (pre:=[]) N4sc.out 4 (.slice A2 M2.length c2))
 have GS2:=Qo0 (Qo (w:=W5) eb 4 (.slice A2 M2.length c2))
 generalize World.setCell W5 ⟨eb,4,none⟩ (.slice A2 M2.length c2) = W5s at *
 clear cx fx
 obtain ⟨g0,g1,-,-⟩:=N5s.out.r.c
 have ld0 : W5s.cell? ⟨eb,0,none⟩ = some (iv x.kind):=N5s.out.cell (b:=eb) (List.mem_cons_self ..) 0
 have ld1 : W5s.cell? ⟨eb,1,none⟩ = some (tv x.pack):=N5s.out.cell (b:=eb) (List.mem_cons_self ..) 1
 have ld2 : W5s.cell? ⟨eb,2,none⟩ = some (tv x.text):=N5s.out.cell (b:=eb) (List.mem_cons_self ..) 2
 have ld3 : W5s.cell? ⟨eb,3,none⟩ = some (.slice A1 M1.length c1):=N5s.out.cell (b:=eb) (List.mem_cons_self ..) 3
 have ld4 : W5s.cell? ⟨eb,4,none⟩ = some (.slice A2 M2.length c2):=N5s.out.cell (b:=eb) (List.mem_cons_self ..) 4
 obtain ⟨y,hy⟩ : ∃ y : Edt,y = ⟨x.kind,x.pack,x.text,A1,c1,M1,A2,c2,M2⟩:=⟨_,rfl⟩
 have YRC:=Qo0 (show y.Rd (Zb (eb + 1) none W5s) from by
  rw [hy]
  refine ⟨SP.out,ST.out,?_,?_⟩
  ·exact (((D1.out.mo (Xl GS1.out (fun b e => by cases e;left;exact SZ1.out))).mo (Xl GC2.out (fun b e => by cases e;left;have:=H0.out.lt;have:=HEB.out;have:=SZ1.out;omega))).mo (Xl GS2.out (fun b e => by cases e;left;exact SZ1.out))).mo (Qa4 _ SZ1.out)
  ·exact (D2.out.mo (Xl GS2.out (fun b e => by cases e;left;exact SZ2.out))).mo (Qa4 _ SZ2.out))
 have YR:=Qo0 (YRC.out.mo (Qkl _ _ _))
 have YE:=Qo0 (show y.er = x from by
  rw [hy]
  show PT.mk x.kind x.pack x.text (M1.map Dec.er) (M2.map Dec.er) = x
  rw [E1.out,E2.out])
 have CE:=Qo0 (show Calls Tryz.prog 19 #[.agg #[iv x.kind,tv x.pack,tv x.text,.slice A1 M1.length c1,.slice A2 M2.length c2]] W5s _ from by have h:=EN.out y W5s YE.out YR.out;rw [hy] at h;exact h)
 have YV:=Qo0 (show y.v = .agg #[iv x.kind,tv x.pack,tv x.text,.slice A1 M1.length c1,.slice A2 M2.length c2] from by rw [hy];rfl)
 have YC:=Qo0 (show y.cs.toArray = #[iv x.kind,tv x.pack,tv x.text,.slice A1 M1.length c1,.slice A2 M2.length c2] from by rw [hy];rfl)
 clear hy
 go_upto_region 11 with (go_at_call 19;refine CE.out.mono ?_;rintro e W6 ⟨rfl,g⟩;have G6:=Qo0 g;clear g)
 clear ld0 ld1 ld2 ld3 ld4 g0 g1
 have H6:=Qo0 (N5s.out.gr G6.out)
 have ZA:=Qo0 (show W6.heap[ka]? = some (.cells #[.int .i64 0,.string ⟨#[]⟩,.string ⟨#[]⟩,.slice none 0 0,.slice none 0 0] 32 (0,0)) from (H6.out.g.block ka (Qn ZA1.out) (fun e => by have:=Option.some.inj e;have:=HRB.out;omega)).trans ZA1.out)
 have le0 : W6.cell? ⟨eb,0,none⟩ = some (iv x.kind):=H6.out.cell (b:=eb) (List.mem_cons_self ..) 0
 have le1 : W6.cell? ⟨eb,1,none⟩ = some (tv x.pack):=H6.out.cell (b:=eb) (List.mem_cons_self ..) 1
 have le2 : W6.cell? ⟨eb,2,none⟩ = some (tv x.text):=H6.out.cell (b:=eb) (List.mem_cons_self ..) 2
 have le3 : W6.cell? ⟨eb,3,none⟩ = some (.slice A1 M1.length c1):=H6.out.cell (b:=eb) (List.mem_cons_self ..) 3
 have le4 : W6.cell? ⟨eb,4,none⟩ = some (.slice A2 M2.length c2):=H6.out.cell (b:=eb) (List.mem_cons_self ..) 4
 have zc0 : W6.cell? ⟨ka,0,none⟩ = some ((.int .i64 0)):=by rw [Lib.cell_of_heap ZA.out];rfl
 have zf0:=Lib.frozen_of_heap ZA.out 0
 have zc1 : W6.cell? ⟨ka,1,none⟩ = some ((.string ⟨#[]⟩)):=by rw [Lib.cell_of_heap ZA.out];rfl
 have zf1:=Lib.frozen_of_heap ZA.out 1
 have zc2 : W6.cell? ⟨ka,2,none⟩ = some ((.string ⟨#[]⟩)):=by rw [Lib.cell_of_heap ZA.out];rfl
 have zf2:=Lib.frozen_of_heap ZA.out 2
 have zc3 : W6.cell? ⟨ka,3,none⟩ = some ((.slice none 0 0)):=by rw [Lib.cell_of_heap ZA.out];rfl
 have zf3:=Lib.frozen_of_heap ZA.out 3
 have zc4 : W6.cell? ⟨ka,4,none⟩ = some ((.slice none 0 0)):=by rw [Lib.cell_of_heap ZA.out];rfl
 have zf4:=Lib.frozen_of_heap ZA.out 4
 go_wp2
 have GF:=Qo0 (show W6.grownBy (((((W6.setCell ⟨ka,0,none⟩ (iv x.kind)).setCell ⟨ka,1,none⟩ (tv x.pack)).setCell ⟨ka,2,none⟩ (tv x.text)).setCell ⟨ka,3,none⟩ (.slice A1 M1.length c1)).setCell ⟨ka,4,none⟩ (.slice A2 M2.length c2)) (some ka) from (((((World.grownBy.refl W6 (some ka)).trans (Qo ka 0 _)).trans (Qo ka 1 _)).trans (Qo ka 2 _)).trans (Qo ka 3 _)).trans (Qo ka 4 _))
 have HF:=Qo0 (show ((((((W6.setCell ⟨ka,0,none⟩ (iv x.kind)).setCell ⟨ka,1,none⟩ (tv x.pack)).setCell ⟨ka,2,none⟩ (tv x.text)).setCell ⟨ka,3,none⟩ (.slice A1 M1.length c1)).setCell ⟨ka,4,none⟩ (.slice A2 M2.length c2))).heap[ka]? = some (.cells #[iv x.kind,tv x.pack,tv x.text,.slice A1 M1.length c1,.slice A2 M2.length c2] 32 (0,0)) from Xn (Xn (Xn (Xn (Xn (ZA.out))))))
 generalize (((((W6.setCell ⟨ka,0,none⟩ (iv x.kind)).setCell ⟨ka,1,none⟩ (tv x.pack)).setCell ⟨ka,2,none⟩ (tv x.text)).setCell ⟨ka,3,none⟩ (.slice A1 M1.length c1)).setCell ⟨ka,4,none⟩ (.slice A2 M2.length c2)) = W7 at *
 refine bodyPost_ret (Ya (P:=Tryz.prog) rfl _ _ ka 32 _ (0,0) _ rfl rfl HF.out Tryz.underlying32 rfl (by kernel_rfl)) rfl ⟨y,by rw [YV.out];rfl,YE.out,?_,?_⟩
 ·exact ((YRC.out.mo (Qd0 G6.out)).mo (Xl GF.out (fun b e => by cases e;left;have:=HEB.out;have:=H6.out.lt;have:=HRB.out;omega))).mo (Qa4 _ (by have:=HEB.out;have:=G1.out.size;omega))
 ·exact X9 (X9 G1.out H6.out.g (fun b e => by cases e;have:=HRB.out;have:=HKA.out;omega)) GF.out (fun b e => by cases e;exact Nat.le_of_eq HKA.out)
end Go.Proofs.YtiaenhlflgobfaaGreatDoor

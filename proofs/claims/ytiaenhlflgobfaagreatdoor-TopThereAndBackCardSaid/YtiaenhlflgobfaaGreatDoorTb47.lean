/- Words. -/
import Derived.Test.YtiaenhlflgobfaaGreatDoorTb28
import Derived.Test.YtiaenhlflgobfaaGreatDoorTb46
namespace Go.Proofs.YtiaenhlflgobfaaGreatDoor
open Go.RowKit
attribute [local irreducible] Calls in
set_option maxRecDepth 100000 in
set_option maxHeartbeats 4000000 in
theorem Qdt (x : Edt) (w : World) (hx : x.Rd w) (he : oks.Edit x.er) : Calls Tryz.prog 19 #[x.v] w fun e w' => e = .returned (.tuple #[tv (enT x.er),iv 0]) ∧ Gr w w':=by
 have tk:=tok_of he
 have ok0 : 0 ≤ x.kind:=tk.k0
 have ok1 : x.kind ≤ 1000000000:=tk.k1
 have op : x.pack.length ≤ 1000:=tk.p
 have ot : x.text.length ≤ 1000:=tk.t
 have ol : x.old.length ≤ 1:=by have h:=tk.ol;simpa [Edt.er] using h
 have nl : x.new.length ≤ 1:=by have h:=tk.nl;simpa [Edt.er] using h
 have oo : ∀ d ∈ x.old,DOk d.er:=fun d hd => tk.o d.er (List.mem_map_of_mem hd)
 have on : ∀ d ∈ x.new,DOk d.er:=fun d hd => tk.n d.er (List.mem_map_of_mem hd)
 obtain ⟨a1,ha1⟩ : ∃ a : T,a = [] ++ dig x.kind.toNat:=⟨_,rfl⟩
 obtain ⟨a2,ha2⟩ : ∃ a,a = a1 ++ Qp x.pack:=⟨_,rfl⟩
 obtain ⟨a3,ha3⟩ : ∃ a,a = a2 ++ Qp x.text:=⟨_,rfl⟩
 obtain ⟨a4,ha4⟩ : ∃ a,a = a3 ++ Qbv (x.old.map Dec.er):=⟨_,rfl⟩
 obtain ⟨a5,ha5⟩ : ∃ a,a = a4 ++ Qbv (x.new.map Dec.er):=⟨_,rfl⟩
 have HFIN : a5 = enT x.er:=by
  unfold enT
  rw [ha5,ha4,ha3,ha2,ha1]
  simp only [Edt.er,List.append_assoc,List.nil_append]
 have hlen:=Qkh tk
 rw [← HFIN] at hlen ⊢
 have hne : a5 ≠ []:=by
  intro h9
  have h8:=congrArg List.length h9
  have:=List.length_pos_iff.2 (dig_ne x.kind.toNat)
  rw [ha5,ha4,ha3,ha2,ha1] at h8
  simp only [List.length_append,List.length_nil] at h8
  omega
 have l1 : a1.length ≤ a2.length:=by rw [ha2];simp
 have l2 : a2.length ≤ a3.length:=by rw [ha3];simp
 have l3 : a3.length ≤ a4.length:=by rw [ha4];simp
 have l4 : a4.length ≤ a5.length:=by rw [ha5];simp
 obtain ⟨kb,hkb⟩ : ∃ k,w.heap.size = k:=⟨_,rfl⟩
 have GV:=Qo0 (Qa w (.cells #[.int .i64 x.kind,tv x.pack,tv x.text,.slice x.oA x.old.length x.oc,.slice x.nA x.new.length x.nc] 32))
 have HX:=Qo0 (Qd w (.cells #[.int .i64 x.kind,tv x.pack,tv x.text,.slice x.oA x.old.length x.oc,.slice x.nA x.new.length x.nc] 32))
 have HS:=Qo0 (show kb < (w.alloc (.cells #[.int .i64 x.kind,tv x.pack,tv x.text,.slice x.oA x.old.length x.oc,.slice x.nA x.new.length x.nc] 32)).heap.size from by rw [← hkb];simp)
 have CK:=Qo0 (fun V (g : Gr w V) => Qd5 x V (hx.gr g) he)
 have HO:=Qo0 (fun V (g : Gr w V) => hx.o.gr g)
 have HN:=Qo0 (fun V (g : Gr w V) => hx.n.gr g)
 unfold Edt.v at CK ⊢
 clear hx he tk HFIN
 go_enter Tryz.func19,Tryz.ntmps19
 go_upto_region 1 with fail
 rw [hkb] at HX
 generalize w.alloc (.cells #[.int .i64 x.kind,tv x.pack,tv x.text,.slice x.oA x.old.length x.oc,.slice x.nA x.new.length x.nc] 32) = W0 at *
 have BX:=Qo0 (fun (V' : World) (k' : V'.heap[kb]? = W0.heap[kb]?) => (show V'.cell? ⟨kb,0,none⟩ = some (.int .i64 x.kind) ∧ V'.cell? ⟨kb,1,none⟩ = some (tv x.pack) ∧ V'.cell? ⟨kb,2,none⟩ = some (tv x.text) ∧ V'.cell? ⟨kb,3,none⟩ = some (.slice x.oA x.old.length x.oc) ∧ V'.cell? ⟨kb,4,none⟩ = some (.slice x.nA x.new.length x.nc) from by
  have h2:=k'.trans HX.out
  exact ⟨by rw [Lib.cell_of_heap h2];rfl,by rw [Lib.cell_of_heap h2];rfl,by rw [Lib.cell_of_heap h2];rfl,by rw [Lib.cell_of_heap h2];rfl,by rw [Lib.cell_of_heap h2];rfl⟩))
 obtain ⟨b0,b1,b2,b3,b4⟩:=BX.out W0 rfl
 go_upto_region 4 with (go_at_call 29;refine (CK.out _ GV.out).mono ?_;rintro e W1 ⟨rfl,g⟩;have G1:=Qo0 g;clear g)
 clear b0 b1 b2 b3 b4
 obtain ⟨b0,b1,b2,b3,b4⟩:=BX.out W1 (G1.out.block kb HS.out (by simp))
 go_upto_region 5 with fail
 have NW:=Qo0 (WrS.new W1)
 have GN:=Qo0 (Qa W1 (.cells #[.pointer none,.slice none 0 0] 100))
 have HSW:=Qo0 (show kb < W1.heap.size from Nat.lt_of_lt_of_le HS.out G1.out.size)
 have BX:=Qo0 (fun V' (k' : OK5 W1 (W1.alloc (.cells #[.pointer none,.slice none 0 0] 100)) V') => BX.out V' (by
  have h1 : W1.heap[kb]? = some (.cells #[.int .i64 x.kind,tv x.pack,tv x.text,.slice x.oA x.old.length x.oc,.slice x.nA x.new.length x.nc] 32 (0,0)):=(G1.out.block kb HS.out (by simp)).trans HX.out
  have h2 : (W1.alloc (.cells #[.pointer none,.slice none 0 0] 100)).heap[kb]? = some (.cells #[.int .i64 x.kind,tv x.pack,tv x.text,.slice x.oA x.old.length x.oc,.slice x.nA x.new.length x.nc] 32 (0,0)):=Qe GN.out h1
  exact (ok5_h k' (by decide) (by have:=HSW.out;omega) h2).trans HX.out.symm))
 have M1:=Qo0 (fun V' (h' : WrS W1 [] V') => Yd W1 V' [] a1 x.kind x.kind.toNat h' (by omega) (by omega) (by simp) ha1)
 have M2:=Qo0 (fun V' (h' : WrS W1 a1 V') => Qar W1 V' a1 a2 x.pack h' op (by omega) ha2)
 have M3:=Qo0 (fun V' (h' : WrS W1 a2 V') => Qar W1 V' a2 a3 x.text h' ot (by omega) ha3)
 have M4:=Qo0 (fun V' (h' : WrS W1 a3 V') => show Calls Tryz.prog 45 #[.pointer (some ⟨W1.heap.size,0,none⟩),.slice x.oA x.old.length x.oc] V' (WrP W1 a4 V') from by
  rw [ha4];exact Qdi W1 V' a3 x.oA x.oc x.old (HO.out _ (GV.out.trans G1.out)) oo ol h' (by omega))
 have M5:=Qo0 (fun V' (h' : WrS W1 a4 V') => show Calls Tryz.prog 45 #[.pointer (some ⟨W1.heap.size,0,none⟩),.slice x.nA x.new.length x.nc] V' (WrP W1 a5 V') from by
  rw [ha5];exact Qdi W1 V' a4 x.nA x.nc x.new (HN.out _ (GV.out.trans G1.out)) on nl h' (by omega))
 have M6:=Qo0 (fun V' (h' : WrS W1 a5 V') => Qgo W1.heap.size W1.heap.size a5 V' h'.bu hne)
 generalize W1.alloc (.cells #[.pointer none,.slice none 0 0] 100) = W2 at *
 clear ha1 ha2 ha3 ha4 ha5 hne oo on l1 l2 l3 l4
 clear b0 b1 b2 b3 b4
 obtain ⟨b0,b1,b2,b3,b4⟩:=BX.out W2 (Lib.OthersKept.refl _ _ _)
 go_upto_region 6 with (go_at_call 43;refine (M1.out _ NW.out).mono ?_;rintro e V1 ⟨rfl,r,k⟩;have S1:=Qo0 r;have J1:=Qo0 (((Lib.OthersKept.refl _ _ _)).trans k);clear r k)
 clear b0 b1 b2 b3 b4
 obtain ⟨b0,b1,b2,b3,b4⟩:=BX.out V1 J1.out
 go_upto_region 7 with (go_at_call 44;refine (M2.out _ S1.out).mono ?_;rintro e V2 ⟨rfl,r,k⟩;have S2:=Qo0 r;have J2:=Qo0 ((J1.out).trans k);clear r k)
 clear b0 b1 b2 b3 b4
 obtain ⟨b0,b1,b2,b3,b4⟩:=BX.out V2 J2.out
 go_upto_region 8 with (go_at_call 44;refine (M3.out _ S2.out).mono ?_;rintro e V3 ⟨rfl,r,k⟩;have S3:=Qo0 r;have J3:=Qo0 ((J2.out).trans k);clear r k)
 clear b0 b1 b2 b3 b4
 obtain ⟨b0,b1,b2,b3,b4⟩:=BX.out V3 J3.out
 go_upto_region 9 with (go_at_call 45;refine (M4.out _ S3.out).mono ?_;rintro e V4 ⟨rfl,r,k⟩;have S4:=Qo0 r;have J4:=Qo0 ((J3.out).trans k);clear r k)
 clear b0 b1 b2 b3 b4
 obtain ⟨b0,b1,b2,b3,b4⟩:=BX.out V4 J4.out
 go_upto_region 10 with (go_at_call 45;refine (M5.out _ S4.out).mono ?_;rintro e V5 ⟨rfl,r,k⟩;have S5:=Qo0 r;have J5:=Qo0 ((J4.out).trans k);clear r k)
 clear b0 b1 b2 b3 b4
 obtain ⟨b0,b1,b2,b3,b4⟩:=BX.out V5 J5.out
 go_wp2_with (go_at_call 46;refine (M6.out _ S5.out).mono ?_;rintro e V6 ⟨rfl,b⟩;have G6:=Qo0 b;clear b)
 go_ret2
 exact ⟨rfl,(GV.out.trans G1.out).trans (Q2 ((Xf S5.out.gr).trans G6.out))⟩
end Go.Proofs.YtiaenhlflgobfaaGreatDoor

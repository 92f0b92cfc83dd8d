/- Words. -/
import Derived.Test.YtiaenhlflgobfaaGreatDoorTb45
namespace Go.Proofs.YtiaenhlflgobfaaGreatDoor
open Go.RowKit
theorem Qds {α : Type} (f : α → T) {L : List α} {j : Nat} {y : α} (h : L[j]? = some y) : ((L.take (j + 1)).map f).flatten = ((L.take j).map f).flatten ++ f y:=by
 rw [List.take_add_one,h]
 simp
theorem Qlz {α : Type} (f : α → T) (L : List α) (j : Nat) : (((L.take j).map f).flatten).length ≤ ((L.map f).flatten).length:=by
 conv => rhs;rw [← List.take_append_drop j L,List.map_append,List.flatten_append,List.length_append]
 omega
attribute [local irreducible] Calls in
set_option maxRecDepth 100000 in
set_option maxHeartbeats 4000000 in
theorem Qdi (w0 V : World) (acc : T) (Ad : Option Addr) (cd : Nat) (L : List Dec) (hr : DRd w0 Ad cd L) (hok : ∀ d ∈ L,DOk d.er) (hL : L.length ≤ 1) (h : WrS w0 acc V) (hl : acc.length ≤ 50000000000000) :
 Calls Tryz.prog 45 #[.pointer (some ⟨w0.heap.size,0,none⟩),.slice Ad L.length cd] V (WrP w0 (acc ++ Qbv (L.map Dec.er)) V):=by
 obtain ⟨n,hn⟩ : ∃ n,L.length = n:=⟨_,rfl⟩
 rw [hn] at hL
 obtain ⟨a1,ha1⟩ : ∃ a,a = acc ++ dig n:=⟨_,rfl⟩
 have HFIN:=Qo0 (show a1 ++ ((L.map Dec.er).map enD).flatten = acc ++ Qbv (L.map Dec.er) from by
  unfold Qbv
  rw [ha1,List.length_map,hn]
  simp only [List.append_assoc])
 have l1 : a1.length ≤ acc.length + 6:=by have:=Zl (n:=n) (by omega);rw [ha1,List.length_append];omega
 rw [← HFIN.out,hn]
 have N1:=Qo0 (fun V' (h' : WrS w0 acc V') => Yd w0 V' acc a1 n n h' rfl (by omega) (by omega) ha1)
 have HR:=Qo0 hr
 have HN:=Qo0 hn
 have HO:=Qo0 hok
 have H0:=Qo0 h
 clear h hr hok hn ha1
 go_enter Tryz.func45,Tryz.ntmps45
 go_upto_region 1 with (go_at_call 43;refine (N1.out _ H0.out).mono ?_;rintro e V1 ⟨rfl,r1,k1⟩;have R1:=Qo0 r1;have K1:=Qo0 k1;clear r1 k1)
 go_wp2
 go_loopw [14] (fun u V' => ∃ (j : Nat),j ≤ n ∧ u = .int .i64 j ∧ Hid (WrS w0 (a1 ++ (((L.take j).map Dec.er).map enD).flatten) V' ∧ OK5 w0 V V')) (fun u _ => n - (intOf u).toNat)
 case atStart => exact ⟨0,Nat.zero_le _,rfl,Qo0 ⟨by simpa using R1.out,K1.out⟩⟩
 case round =>
  obtain ⟨j,hj,rfl,HW⟩:=hrel
  by_cases hlt : j < n
  ·obtain ⟨y,hy⟩ : ∃ y,L[j]? = some y:=⟨_,List.getElem?_eq_getElem (by rw [HN.out];exact hlt)⟩
   obtain ⟨ab,p1,hA,hb1,hbb,i0,i1,i2,i3,i4,i5,i6,i7,i8,i9,i10,-⟩:=(HR.out.gr HW.out.1.gr).at (k:=j) (by rw [HN.out];exact hlt)
   have hyi : L[j]'(by rw [HN.out];exact hlt) = y:=by rw [List.getElem?_eq_getElem (by rw [HN.out];exact hlt)] at hy;exact Option.some.inj hy
   rw [hyi] at i0 i1 i2 i3 i4 i5 i6 i7 i8 i9 i10
   have hym:=List.mem_of_getElem? hy
   have yr:=HR.out.d y hym
   have yo:=HO.out y hym
   obtain ⟨a,ha⟩ : ∃ a,a1 ++ (((L.take j).map Dec.er).map enD).flatten = a:=⟨_,rfl⟩
   have hal : a.length ≤ acc.length + 2000000:=by
    have h0 : j = 0:=by omega
    rw [← ha,h0]
    simp
    omega
   have NEXT:=Qo0 (show a1 ++ (((L.take (j + 1)).map Dec.er).map enD).flatten = a ++ enD y.er from by
    have q:=Qds (f:=fun d : Dec => enD d.er) hy
    simp only [← ha,List.map_map,List.append_assoc]
    exact congrArg (a1 ++ ·) q)
   rw [ha] at HW
   obtain ⟨q,hq⟩ : ∃ q,y.names.length = q:=⟨_,rfl⟩
   have hq3 : q ≤ 3:=by rw [← hq];exact yo.nl
   have yl:=Qki yo
   obtain ⟨b1,hb1'⟩ : ∃ z,z = a ++ dig y.id.toNat:=⟨_,rfl⟩
   obtain ⟨b2,hb2⟩ : ∃ z,z = b1 ++ dig y.kind.toNat:=⟨_,rfl⟩
   obtain ⟨b3,hb3⟩ : ∃ z,z = b2 ++ dig (nB y.pub):=⟨_,rfl⟩
   obtain ⟨b4,hb4⟩ : ∃ z,z = b3 ++ dig (nB y.doubt):=⟨_,rfl⟩
   obtain ⟨b5,hb5⟩ : ∃ z,z = b4 ++ dig q:=⟨_,rfl⟩
   obtain ⟨b6,hb6⟩ : ∃ z,z = b5 ++ (y.names.map Qp).flatten:=⟨_,rfl⟩
   have HFD:=Qo0 (show b6 ++ enX y.body.er = a ++ enD y.er from by
    unfold enD
    rw [hb6,hb5,hb4,hb3,hb2,hb1',← hq]
    simp only [Dec.er,List.append_assoc])
   have m7 : b6.length + (enX y.body.er).length ≤ acc.length + 4000000:=by
    have h1:=congrArg List.length HFD.out
    rw [List.length_append] at h1
    rw [h1,List.length_append]
    omega
   have m1 : a.length ≤ b1.length:=by rw [hb1'];simp
   have m2 : b1.length ≤ b2.length:=by rw [hb2];simp
   have m3 : b2.length ≤ b3.length:=by rw [hb3];simp
   have m4 : b3.length ≤ b4.length:=by rw [hb4];simp
   have m5 : b4.length ≤ b5.length:=by rw [hb5];simp
   have m6 : b5.length ≤ b6.length:=by rw [hb6];simp
   have oi0 : 0 ≤ y.id:=yo.i0
   have oi1 : y.id ≤ 1000000000:=yo.i1
   have ok0 : 0 ≤ y.kind:=yo.k0
   have ok1 : y.kind ≤ 1000000000:=yo.k1
   have M1:=Qo0 (fun V' (h' : WrS w0 a V') => Yd w0 V' a b1 y.id y.id.toNat h' (by omega) (by omega) (by omega) hb1')
   have M2:=Qo0 (fun V' (h' : WrS w0 b1 V') => Yd w0 V' b1 b2 y.kind y.kind.toNat h' (by omega) (by omega) (by omega) hb2)
   have M3:=Qo0 (fun V' (h' : WrS w0 b2 V') => Qen w0 V' b2 b3 y.pub h' (by omega) hb3)
   have M4:=Qo0 (fun V' (h' : WrS w0 b3 V') => Qen w0 V' b3 b4 y.doubt h' (by omega) hb4)
   have M5:=Qo0 (fun V' (h' : WrS w0 b4 V') => Yd w0 V' b4 b5 q q h' rfl (by omega) (by omega) hb5)
   have MN:=Qo0 (fun V' (i : Nat) (s : T) (hs : y.names[i]? = some s) (h' : WrS w0 (b5 ++ ((y.names.take i).map Qp).flatten) V') => show Calls Tryz.prog 44 #[.pointer (some ⟨w0.heap.size,0,none⟩),tv s] V' (WrP w0 (b5 ++ ((y.names.take (i + 1)).map Qp).flatten) V') from by
    refine Qar w0 V' _ _ s h' (yo.n s (List.mem_of_getElem? hs)) ?_ (by rw [Qds Qp hs,List.append_assoc])
    have:=Qlz Qp y.names i
    rw [hb6,List.length_append] at m7
    rw [List.length_append]
    omega)
   have MX:=Qo0 (fun V' (h' : WrS w0 b6 V') => show Calls Tryz.prog 90 #[.pointer (some ⟨w0.heap.size,0,none⟩),.agg #[.int .i64 y.body.kind,tv y.body.name,tv y.body.more,.int .i64 y.body.int,.int .i64 y.body.den,.slice y.body.A y.body.sub.length y.body.c]] V' (WrP w0 (a ++ enD y.er) V') from by
    rw [← HFD.out]
    exact Qkw 40 y.body w0 V' b6 yo.b yr.b h' (by omega))
   have HNS:=Qo0 yr.n
   have HQ:=Qo0 hq
   have HB6:=Qo0 hb6
   rw [hq] at i3
   subst hA
   clear hyi hy hym ha hb1' hb2 hb3 hb4 hb5 hb6 yo yr hq
   go_upto_region 4 with fail
   have GB:=Qo0 (Qa wr (.cells #[.int .i64 y.id,.int .i64 y.kind,.bool y.pub,.slice y.nA q y.nc,.bool y.doubt,.int .i64 y.body.kind,tv y.body.name,tv y.body.more,.int .i64 y.body.int,.int .i64 y.body.den,.slice y.body.A y.body.sub.length y.body.c] 45))
   have HY:=Qo0 (Qd wr (.cells #[.int .i64 y.id,.int .i64 y.kind,.bool y.pub,.slice y.nA q y.nc,.bool y.doubt,.int .i64 y.body.kind,tv y.body.name,tv y.body.more,.int .i64 y.body.int,.int .i64 y.body.den,.slice y.body.A y.body.sub.length y.body.c] 45))
   have HS:=Qo0 HW.out.1.lt
   obtain ⟨ky,hky⟩ : ∃ k,wr.heap.size = k:=⟨_,rfl⟩
   rw [hky] at HY HS ⊢
   clear i0 i1 i2 i3 i4 i5 i6 i7 i8 i9 i10 hbb
   generalize wr.alloc (.cells #[.int .i64 y.id,.int .i64 y.kind,.bool y.pub,.slice y.nA q y.nc,.bool y.doubt,.int .i64 y.body.kind,tv y.body.name,tv y.body.more,.int .i64 y.body.int,.int .i64 y.body.den,.slice y.body.A y.body.sub.length y.body.c] 45) = W1 at *
   have BY:=Qo0 (fun V' (k : OK5 w0 W1 V') => (show V'.cell? ⟨ky,0,none⟩ = some (.int .i64 y.id) ∧ V'.cell? ⟨ky,1,none⟩ = some (.int .i64 y.kind) ∧ V'.cell? ⟨ky,2,none⟩ = some (.bool y.pub) ∧ V'.cell? ⟨ky,3,none⟩ = some (.slice y.nA q y.nc) ∧ V'.cell? ⟨ky,4,none⟩ = some (.bool y.doubt) ∧ V'.cell? ⟨ky,5,none⟩ = some (.int .i64 y.body.kind) ∧ V'.cell? ⟨ky,6,none⟩ = some (tv y.body.name) ∧ V'.cell? ⟨ky,7,none⟩ = some (tv y.body.more) ∧ V'.cell? ⟨ky,8,none⟩ = some (.int .i64 y.body.int) ∧ V'.cell? ⟨ky,9,none⟩ = some (.int .i64 y.body.den) ∧ V'.cell? ⟨ky,10,none⟩ = some (.slice y.body.A y.body.sub.length y.body.c) from by
    have h2:=ok5_h k (by decide) (by have:=HS.out;omega) HY.out
    exact ⟨by rw [Lib.cell_of_heap h2];rfl,by rw [Lib.cell_of_heap h2];rfl,by rw [Lib.cell_of_heap h2];rfl,by rw [Lib.cell_of_heap h2];rfl,by rw [Lib.cell_of_heap h2];rfl,by rw [Lib.cell_of_heap h2];rfl,by rw [Lib.cell_of_heap h2];rfl,by rw [Lib.cell_of_heap h2];rfl,by rw [Lib.cell_of_heap h2];rfl,by rw [Lib.cell_of_heap h2];rfl,by rw [Lib.cell_of_heap h2];rfl⟩))
   obtain ⟨i0,i1,i2,i3,i4,i5,i6,i7,i8,i9,i10⟩:=BY.out W1 (Lib.OthersKept.refl _ _ _)
   go_upto_region 5 with (go_at_call 43;refine (M1.out _ (HW.out.1.go GB.out)).mono ?_;rintro e W2 ⟨rfl,r,k⟩;have S2:=Qo0 r;have J2:=Qo0 k;clear r k)
   clear i0 i1 i2 i3 i4 i5 i6 i7 i8 i9 i10
   obtain ⟨i0,i1,i2,i3,i4,i5,i6,i7,i8,i9,i10⟩:=BY.out W2 J2.out
   go_upto_region 6 with (go_at_call 43;refine (M2.out _ S2.out).mono ?_;rintro e W3 ⟨rfl,r,k⟩;have S3:=Qo0 r;have J3:=Qo0 ((J2.out).trans k);clear r k)
   clear i0 i1 i2 i3 i4 i5 i6 i7 i8 i9 i10
   obtain ⟨i0,i1,i2,i3,i4,i5,i6,i7,i8,i9,i10⟩:=BY.out W3 J3.out
   go_upto_region 7 with (go_at_call 89;refine (M3.out _ S3.out).mono ?_;rintro e W4 ⟨rfl,r,k⟩;have S4:=Qo0 r;have J4:=Qo0 ((J3.out).trans k);clear r k)
   clear i0 i1 i2 i3 i4 i5 i6 i7 i8 i9 i10
   obtain ⟨i0,i1,i2,i3,i4,i5,i6,i7,i8,i9,i10⟩:=BY.out W4 J4.out
   go_upto_region 8 with (go_at_call 89;refine (M4.out _ S4.out).mono ?_;rintro e W5 ⟨rfl,r,k⟩;have S5:=Qo0 r;have J5:=Qo0 ((J4.out).trans k);clear r k)
   clear i0 i1 i2 i3 i4 i5 i6 i7 i8 i9 i10
   obtain ⟨i0,i1,i2,i3,i4,i5,i6,i7,i8,i9,i10⟩:=BY.out W5 J5.out
   go_upto_region 9 with (go_at_call 43;refine (M5.out _ S5.out).mono ?_;rintro e W6 ⟨rfl,r,k⟩;have S6:=Qo0 r;have J6:=Qo0 ((J5.out).trans k);clear r k)
   clear i0 i1 i2 i3 i4 i5 i6 i7 i8 i9 i10
   obtain ⟨i0,i1,i2,i3,i4,i5,i6,i7,i8,i9,i10⟩:=BY.out W6 J6.out
   go_upto_region 10 with fail
   clear i0 i1 i2 i3 i4 i5 i6 i7 i8 i9 i10
   go_loopw [42] (fun u V' => ∃ (i : Nat),i ≤ q ∧ u = .int .i64 i ∧ Hid (WrS w0 (b5 ++ ((y.names.take i).map Qp).flatten) V' ∧ OK5 w0 W1 V')) (fun u _ => q - (intOf u).toNat)
   case atStart => exact ⟨0,Nat.zero_le _,rfl,Qo0 ⟨by simpa using S6.out,J6.out⟩⟩
   case round =>
    obtain ⟨i,hi,rfl,HI⟩:=hrel
    by_cases hlt2 : i < q
    ·obtain ⟨s,hs⟩ : ∃ s,y.names[i]? = some s:=⟨_,List.getElem?_eq_getElem (by rw [HQ.out];exact hlt2)⟩
     obtain ⟨ac,p2,hA2,hb2,hbb2,i0,-⟩:=(HNS.out.gr HI.out.1.gr).at (k:=i) (by rw [HQ.out];exact hlt2)
     have hsi : y.names[i]'(by rw [HQ.out];exact hlt2) = s:=by rw [List.getElem?_eq_getElem (by rw [HQ.out];exact hlt2)] at hs;exact Option.some.inj hs
     rw [hsi] at i0
     have MS:=Qo0 (fun V' h' => MN.out V' i s hs h')
     rw [hA2]
     clear hsi hs
     go_wp2_with (go_at_call 44;refine (MS.out _ HI.out.1).mono ?_;rintro e W7 ⟨rfl,r,k⟩;have S7:=Qo0 r;have J7:=Qo0 (HI.out.2.trans k);clear r k)
     exact ⟨⟨i + 1,by omega,by simp,Qo0 ⟨S7.out,J7.out⟩⟩,by simp [intOf];omega⟩
    ·obtain rfl : q = i:=by omega
     obtain ⟨i0,i1,i2,i3,i4,i5,i6,i7,i8,i9,i10⟩:=BY.out _ HI.out.2
     have HS7:=Qo0 (show WrS w0 b6 _ from by
      have h2:=HI.out.1
      rw [List.take_of_length_le (Nat.le_of_eq HQ.out)] at h2
      rw [HB6.out]
      exact h2)
     go_wp2_with (go_at_call 90;refine (MX.out _ HS7.out).mono ?_;rintro e W8 ⟨rfl,r,k⟩;have S8:=Qo0 r;have J8:=Qo0 (HI.out.2.trans k);clear r k)
     exact ⟨⟨j + 1,by omega,by simp,Qo0 ⟨by rw [NEXT.out];exact S8.out,HW.out.2.trans ((Qfn GB.out).trans J8.out)⟩⟩,by simp [intOf];omega⟩
  ·obtain rfl : n = j:=by omega
   go_wp2
   go_end0
   refine ⟨rfl,?_,HW.out.2⟩
   have h2:=HW.out.1
   rw [List.take_of_length_le (Nat.le_of_eq HN.out)] at h2
   exact h2
end Go.Proofs.YtiaenhlflgobfaaGreatDoor

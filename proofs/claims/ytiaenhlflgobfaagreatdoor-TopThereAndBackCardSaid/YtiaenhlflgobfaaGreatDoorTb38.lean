/- Words. -/
import Derived.Test.YtiaenhlflgobfaaGreatDoorTb20
namespace Go.Proofs.YtiaenhlflgobfaaGreatDoor
open Go.RowKit
attribute [local irreducible] Calls in
set_option maxRecDepth 100000 in
set_option maxHeartbeats 4000000 in
theorem Qlt (n : Nat) (w : World) (hn : n ≤ 100000) : Calls Tryz.prog 53 #[.slice none 0 0,.int .i64 n] w fun e w' => ∃ v,e = .returned v ∧ OR 32 5 Edt.cs w' w.heap.size v ([] : List Edt) ∧ Gr w w':=by
 by_cases h0 : n = 0
 ·subst h0
  go_enter Tryz.func53,Tryz.ntmps53
  go_wp2
  go_ret
  exact ⟨_,rfl,OR.nil,Qc _⟩
 ·obtain ⟨i0,hi0,hz0,hzs,hzb⟩:=info_parts (show (Tryz.prog.info? 32).map (fun i => (i.zero,i.size,i.bytes)) = some (some (.agg #[iv 0,.string ⟨#[]⟩,.string ⟨#[]⟩,.slice none 0 0,.slice none 0 0]),5,88) by kernel_rfl)
  have hold : (Builtin.firstCells i0.size 0 (.slice none 0 0)).run Tryz.prog w.drew = .ok ([] : List Value).toArray w.drew:=run_firstCells_none w.drew i0.size 0 0 0
  have h:=fun ty => Lib.run_append_grow_zeros w 25 3 ty 32 i0 _ .i64 .i64 Tryz.underlying25 Tryz.underlying3 hi0 hz0 none 0 0 [] hold n (by omega) (by omega) (by omega) (by omega) (by rw [hzb];omega) (by rw [hzb,Nat.zero_add];exact growslice_fits (by omega) (by omega))
  simp only [Nat.zero_add] at h
  have hGn : n ≤ grownCap w n 0 32:=grownCap_ge w _ _ _
  have hG63 : grownCap w n 0 32 ≤ maxLen:=grownCap_le_maxLen w n 0 32 (by unfold maxLen;omega)
  obtain ⟨G,hG⟩ : ∃ G,grownCap w n 0 32 = G:=⟨_,rfl⟩
  rw [hG] at h hGn hG63
  obtain ⟨ROW,hROW⟩ : ∃ ROW : Array Value,ROW = ([] : List Value).toArray ++ Builtin.zeroCells (Value.cells (.agg #[iv 0,.string ⟨#[]⟩,.string ⟨#[]⟩,.slice none 0 0,.slice none 0 0])) n ++ Builtin.zeroCells (Value.cells (.agg #[iv 0,.string ⟨#[]⟩,.string ⟨#[]⟩,.slice none 0 0,.slice none 0 0])) (G - n):=⟨_,rfl⟩
  rw [← hROW] at h
  have hzc : ∀ q,(Builtin.zeroCells (Value.cells (.agg #[iv 0,.string ⟨#[]⟩,.string ⟨#[]⟩,.slice none 0 0,.slice none 0 0])) q).size = q * 5:=fun q => by simp [Builtin.zeroCells,Value.cells]
  have hRl : ROW.size = G * 5:=by
   rw [hROW,Array.size_append,Array.size_append,hzc,hzc]
   simp
   omega
  obtain ⟨W1,hW1⟩ : ∃ W1,W1 = w.drew.alloc (.cells ROW 32):=⟨_,rfl⟩
  rw [← hW1] at h
  have FIN:=Qo0 (show OR 32 5 Edt.cs W1 w.heap.size (.slice (some ⟨w.heap.size,0,none⟩) 0 G) ([] : List Edt) ∧ Gr w W1 from
   ⟨⟨by simp,.inr ⟨_,_,ROW,rfl,Nat.le_refl _,by rw [hW1];exact Qd w.drew _,by simp,hG63,hRl,by simp⟩⟩,by rw [hW1];exact (Qb w).trans (Qa _ _)⟩)
  have HH:=Qo0 h
  have hn0 : (0 : Int) < (n : Int):=by omega
  have hn1 : ¬ ((n : Int) < 0):=by omega
  have hG9 : G ≤ 9223372036854775807:=by unfold maxLen at hG63;omega
  clear h hW1 hROW hRl hzc hold hG hi0 hz0 hzs hzb hG63
  go_enter Tryz.func53,Tryz.ntmps53
  go_wp2_with (at_builtin;refine Lib.wpList_append_run _ rfl _ _ _ _ rfl _ _ rfl rfl _ _ (HH.out _) ?_)
  go_ret
  exact ⟨_,rfl,FIN.out⟩
structure SLT where
 A : Option Addr
 c : Nat
 L : List Edt
def SLT.cs (s : SLT) : List Value:=[.slice s.A s.L.length s.c]
def Xe (S : List SLT) : List Edt:=S.flatMap (·.L)
theorem Qe4 (S : List SLT) (j : Nat) {s : SLT} (h : S[j]? = some s) : Xe (S.take (j + 1)) = Xe (S.take j) ++ s.L:=by
 obtain ⟨hj,rfl⟩:=List.getElem?_eq_some_iff.1 h
 unfold Xe
 rw [List.take_succ_eq_append_getElem hj,List.flatMap_append,List.flatMap_cons,List.flatMap_nil,List.append_nil]
theorem catT_le (S : List SLT) (j : Nat) : (Xe (S.take j)).length ≤ (Xe S).length:=by
 have h : Xe S = Xe (S.take j) ++ Xe (S.drop j):=by unfold Xe;rw [← List.flatMap_append,List.take_append_drop]
 rw [h,List.length_append]
 omega
theorem rdSLT {w : World} {A : Option Addr} {S : List SLT} (h : RD 1 SLT.cs w A S) {k : Nat} {x : SLT} (hx : S[k]? = some x) : ∃ a a1 : Addr,A = some a ∧ a.add k = a1 ∧ a1.block < w.heap.size ∧ w.cell? a1 = some (.slice x.A x.L.length x.c):=by
 obtain ⟨hk,rfl⟩:=List.getElem?_eq_some_iff.1 hx
 obtain ⟨a,e,hb,hc⟩:=h.at hk
 exact ⟨a,_,e,rfl,by rw [add_block];exact hb,by simpa using hc 0 _ rfl⟩
set_option maxRecDepth 100000 in
set_option maxHeartbeats 4000000 in
attribute [local irreducible] Calls in
theorem Qhq (A : Option Addr) (c : Nat) (S : List SLT) (w : World) (hS : RD 1 SLT.cs w A S) (hl : S.length ≤ 1000) (hs : (Xe S).length ≤ 100000) (hr : ∀ s ∈ S,RD 5 Edt.cs w s.A s.L) :
 Calls Tryz.prog 25 #[.slice A S.length c] w fun e w' => ∃ v,e = .returned v ∧ OR 32 5 Edt.cs w' w.heap.size v (Xe S) ∧ Gr w w':=by
 obtain ⟨n,hn⟩ : ∃ n,S.length = n:=⟨_,rfl⟩
 obtain ⟨T0,hT⟩ : ∃ T0,(Xe S).length = T0:=⟨_,rfl⟩
 rw [hn] at hl
 rw [hn]
 have HN:=Qo0 hn
 have HT:=Qo0 hT
 have HTL:=Qo0 (show ∀ j,(Xe (S.take j)).length ≤ T0 from fun j => by rw [← hT];exact catT_le S j)
 rw [hT] at hs
 have HSL:=Qo0 hs
 have HS:=Qo0 (fun V (g : Gr w V) => hS.gr g)
 have HR:=Qo0 (fun s (h : s ∈ S) V (g : Gr w V) => (hr s h).gr g)
 have GC:=Qo0 (fun V => Qlt T0 V hs)
 clear hS hr hn hT
 go_enter Tryz.func25,Tryz.ntmps25
 go_wp2
 go_loopw [3,5,11] (fun s _ i V => ∃ j : Nat,j ≤ n ∧ i = .int .i64 j ∧ ∃ z : Nat,z ≤ 100000 ∧ s = .int .i64 z ∧ Hid (z = (Xe (S.take j)).length) ∧ w = V) (fun _ _ i _ => n - (intOf i).toNat)
 case atStart => exact ⟨0,by omega,rfl,0,by omega,rfl,Qo0 (by simp [Xe]),rfl⟩
 case round =>
  obtain ⟨j,hj,rfl,z,hz,rfl,HZ,rfl⟩:=hrel
  by_cases hlt : j < n
  ·obtain ⟨s,hs⟩ : ∃ s,S[j]? = some s:=⟨_,List.getElem?_eq_getElem (by rw [HN.out];exact hlt)⟩
   obtain ⟨a,a1,rfl,ha,hab,d0⟩:=rdSLT (HS.out _ (Qc _)) hs
   have HM:=Qo0 (List.mem_of_getElem? hs)
   have HC:=Qo0 (Qe4 S j hs)
   obtain ⟨m,hm⟩ : ∃ m,s.L.length = m:=⟨_,rfl⟩
   rw [hm] at d0
   have hzm : z + m ≤ 100000:=by
    have h1:=HTL.out (j + 1)
    rw [HC.out,List.length_append,hm] at h1
    have:=HZ.out
    have:=HSL.out
    omega
   have HZ2:=Qo0 (show z + m = (Xe (S.take (j + 1))).length from by rw [HC.out,List.length_append,hm,HZ.out])
   have hlt2 : (j : Int) < (n : Int):=by omega
   have hnz : ¬ ((z : Int) + (m : Int) < 0):=by omega
   clear hs hm
   go_wp2
   exact ⟨⟨j + 1,by omega,by simp,z + m,hzm,by simp,HZ2,by first | rfl | trivial⟩,by simp [intOf];omega⟩
  ·obtain rfl : j = n:=by omega
   have HZ2:=Qo0 (show z = T0 from by rw [HZ.out,List.take_of_length_le (by rw [HN.out];exact Nat.le_refl _)];exact HT.out)
   obtain rfl : z = T0:=HZ2.out
   clear HZ HZ2
   have hnj : ¬ (j : Int) < (j : Int):=by omega
   go_wp2_with (go_at_call 53;(with_reducible refine (GC.out _).mono ?_);rintro e w6 ⟨v6,rfl,o6,g6⟩;have O6:=Qo0 o6;have G6:=Qo0 g6;clear o6 g6)
   go_loopw [6,8,27] (fun v _ i V => ∃ q : Nat,q ≤ j ∧ i = .int .i64 q ∧ Hid (OR 32 5 Edt.cs V w.heap.size v (Xe (S.take q)) ∧ Gr w V)) (fun _ _ i _ => j - (intOf i).toNat)
   case atStart => exact ⟨0,by omega,rfl,Qo0 ⟨by simpa [Xe] using O6.out,G6.out⟩⟩
   case round =>
    obtain ⟨q,hq,rfl,HI⟩:=hrel
    by_cases hlt : q < j
    ·obtain ⟨s,hs⟩ : ∃ s,S[q]? = some s:=⟨_,List.getElem?_eq_getElem (by rw [HN.out];exact hlt)⟩
     obtain ⟨a,a1,rfl,ha,hab,d0⟩:=rdSLT (HS.out _ HI.out.2) hs
     have HRR:=Qo0 (HR.out s (List.mem_of_getElem? hs) _ HI.out.2)
     have HC:=Qo0 (Qe4 S q hs)
     have LN:=Qo0 (show (Xe (S.take q)).length + s.L.length ≤ 1000000 from by
      have h1:=HTL.out (q + 1)
      rw [HC.out,List.length_append] at h1
      have:=HSL.out
      omega)
     have hlt2 : (q : Int) < (j : Int):=by omega
     have BW:=Qo0 HI.out.2.size
     rcases s with ⟨sA,sc,sL⟩
     dsimp only at d0 HRR HC LN
     obtain ⟨m,hm⟩ : ∃ m,sL.length = m:=⟨_,rfl⟩
     rw [hm] at d0
     have HM:=Qo0 hm
     clear hs hm
     go_wp2_with (at_builtin;refine Qf elT rfl (.tmp 31) (.tmp 32) rfl w.heap.size (v:=u6) rfl HI.out.1 (A:=sA) (M:=sL) (m:=m) (c:=sc) HM.out rfl HRR.out LN.out BW.out ?_;intro v7 w7 o7 g7 b7;have O7:=Qo0 o7;have G7:=Qo0 (OR.grow HI.out.2 HI.out.1 (Nat.le_refl _) g7);clear o7 g7 b7)
     exact ⟨⟨q + 1,by omega,by simp,Qo0 ⟨by rw [HC.out];exact O7.out,G7.out⟩⟩,by simp [intOf];omega⟩
    ·obtain rfl : q = j:=by omega
     have hnj2 : ¬ (q : Int) < (q : Int):=by omega
     have FF:=Qo0 (show OR 32 5 Edt.cs wr w.heap.size u6 (Xe S) ∧ Gr w wr from ⟨by have h:=HI.out.1;rwa [List.take_of_length_le (by rw [HN.out];exact Nat.le_refl _)] at h,HI.out.2⟩)
     clear HI
     go_wp2
     go_ret
     exact ⟨_,rfl,FF.out⟩
end Go.Proofs.YtiaenhlflgobfaaGreatDoor

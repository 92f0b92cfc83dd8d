/- Words. -/
import Derived.Test.YtiaenhlflgobfaaGreatDoorTb5
import Derived.Test.YtiaenhlflgobfaaGreatDoorTb8
import Derived.Test.YtiaenhlflgobfaaGreatDoorTb10
namespace Go.Proofs.YtiaenhlflgobfaaGreatDoor
open Go.RowKit
theorem not_kws {s : T} (h : s ∉ kws) : (s == [99,97,115,101]) = false ∧ (s == [99,104,97,110,99,101]) = false ∧ (s == [99,111,110,102,108,105,99,116]) = false ∧ (s == [101,108,115,101]) = false ∧ (s == [102,97,108,115,101]) = false ∧ (s == [102,108,97,107,121]) = false ∧ (s == [102,117,110]) = false ∧ (s == [105,102]) = false ∧ (s == [105,110]) = false ∧ (s == [108,101,116]) = false ∧ (s == [110,105,108]) = false ∧ (s == [111,102]) = false ∧ (s == [112,117,98]) = false ∧ (s == [116,101,115,116]) = false ∧ (s == [116,104,101,110]) = false ∧ (s == [116,114,117,101]) = false ∧ (s == [117,115,101]) = false:=by
 simp only [kws,List.mem_cons,List.not_mem_nil,or_false,not_or] at h
 obtain ⟨h0,h1,h2,h3,h4,h5,h6,h7,h8,h9,h10,h11,h12,h13,h14,h15,h16⟩:=h
 exact ⟨beq_false_of_ne h0,beq_false_of_ne h1,beq_false_of_ne h2,beq_false_of_ne h3,beq_false_of_ne h4,beq_false_of_ne h5,beq_false_of_ne h6,beq_false_of_ne h7,beq_false_of_ne h8,beq_false_of_ne h9,beq_false_of_ne h10,beq_false_of_ne h11,beq_false_of_ne h12,beq_false_of_ne h13,beq_false_of_ne h14,beq_false_of_ne h15,beq_false_of_ne h16⟩
set_option maxRecDepth 100000 in
theorem Qg1 (s : T) (w : World) (hs : s.length ≤ 9223372036854775807) : Calls Tryz.prog 210 #[tv s] w fun e w' => e = .returned (.bool (nmB s)) ∧ Gr w w':=by
 have hw:=Qgi s w hs
 by_cases h : s ∈ kws
 ·have e : nmB s = false:=by unfold nmB;simp [h]
  rw [e]
  simp only [kws,List.mem_cons,List.not_mem_nil,or_false] at h
  clear hw hs e
  rcases h with rfl | rfl | rfl | rfl | rfl | rfl | rfl | rfl | rfl | rfl | rfl | rfl | rfl | rfl | rfl | rfl | rfl
  all_goals
   go_enter Tryz.func210,Tryz.ntmps210
   go_wp2
   go_ret
   exact ⟨rfl,Qc _⟩
 ·have e : nmB s = (wd s && decide (s.length ≤ 24)):=by unfold nmB;simp [h]
  obtain ⟨h0,h1,h2,h3,h4,h5,h6,h7,h8,h9,h10,h11,h12,h13,h14,h15,h16⟩:=not_kws h
  rw [e]
  generalize (wd s && decide (s.length ≤ 24)) = b at *
  go_enter Tryz.func210,Tryz.ntmps210
  go_wp2_with (go_at_call 131;refine hw.mono ?_;rintro e w1 ⟨rfl,g⟩)
  go_ret
  exact ⟨rfl,Q2 g⟩
def shV (o : Option (Int × Int × Int)) : Value:=match o with | some (a,b,c) => .tuple #[.agg #[iv a,iv b,iv c],.bool true] | none => .tuple #[.agg #[iv 0,iv 0,iv 0],.bool false]
set_option maxRecDepth 100000 in
set_option maxHeartbeats 2000000 in
theorem Qk5 (k : Int) (w : World) : Calls Tryz.prog 186 #[iv k] w fun e w' => e = .returned (shV (shp k)) ∧ Gr w w':=by
 by_cases hk : 1 ≤ k ∧ k ≤ 15
 ·have h : k = 1 ∨ k = 2 ∨ k = 3 ∨ k = 4 ∨ k = 5 ∨ k = 6 ∨ k = 7 ∨ k = 8 ∨ k = 9 ∨ k = 10 ∨ k = 11 ∨ k = 12 ∨ k = 13 ∨ k = 14 ∨ k = 15:=by omega
  clear hk
  rcases h with rfl | rfl | rfl | rfl | rfl | rfl | rfl | rfl | rfl | rfl | rfl | rfl | rfl | rfl | rfl
  all_goals
   go_enter Tryz.func186,Tryz.ntmps186
   go_wp2
   exact bodyPost_ret (Ya (P:=Tryz.prog) rfl _ _ w.heap.size _ _ _ _ rfl rfl (Qd _ _) rfl rfl rfl) rfl ⟨rfl,Qa _ _⟩
 ·have e : shp k = none:=by
   unfold shp
   rw [if_neg (by omega),if_neg (by omega),if_neg (by omega),if_neg (by omega),if_neg (by omega),if_neg (by omega),if_neg (by omega),if_neg (by omega),if_neg (by omega),if_neg (by omega),if_neg (by omega)]
  rw [e]
  have h1 : (k == 1) = false:=by simp;omega
  have h2 : (k == 2) = false:=by simp;omega
  have h3 : (k == 3) = false:=by simp;omega
  have h4 : (k == 4) = false:=by simp;omega
  have h5 : (k == 5) = false:=by simp;omega
  have h6 : (k == 6) = false:=by simp;omega
  have h7 : (k == 7) = false:=by simp;omega
  have h8 : (k == 8) = false:=by simp;omega
  have h9 : (k == 9) = false:=by simp;omega
  have h10 : (k == 10) = false:=by simp;omega
  have h11 : (k == 11) = false:=by simp;omega
  have h12 : (k == 12) = false:=by simp;omega
  have h13 : (k == 13) = false:=by simp;omega
  have h14 : (k == 14) = false:=by simp;omega
  have h15 : (k == 15) = false:=by simp;omega
  clear hk e
  go_enter Tryz.func186,Tryz.ntmps186
  go_wp2
  exact bodyPost_ret (Ya (P:=Tryz.prog) rfl _ _ w.heap.size _ _ _ _ rfl rfl (Qd _ _) rfl rfl rfl) rfl ⟨rfl,Qa _ _⟩
theorem op_in (c : UInt8) : decide (0 ≤ Lib.indexByte [43,45,42,61,60] c) = Qdn.contains [c]:=by
 rw [Bool.eq_iff_iff]
 simp only [Lib.indexByte,Qdn]
 by_cases h1 : c = 43
 ·subst h1;decide
 by_cases h2 : c = 45
 ·subst h2;decide
 by_cases h3 : c = 42
 ·subst h3;decide
 by_cases h4 : c = 61
 ·subst h4;decide
 by_cases h5 : c = 60
 ·subst h5;decide
 ·have k1:=Ne.symm h1;have k2:=Ne.symm h2;have k3:=Ne.symm h3;have k4:=Ne.symm h4;have k5:=Ne.symm h5
  simp [h1,h2,h3,h4,h5,k1,k2,k3,k4,k5]
theorem Qmg (e : PE) (n : Int) (b : Bool) (hb : (if e.kind = 5 then decide (e.name = []) || lab e.name else if e.kind = 10 then Qdn.contains e.name else if 1 ≤ n then nmB e.name else true) = b) :
 Xh e n = if !b || (decide (n = 2) && !nmB e.more) then 6 else if e.kind = 13 ∧ e.name = e.more then 7 else 0:=by
 subst hb
 rfl
theorem ops_len {s : T} (h : s.length ≠ 1) : Qdn.contains s = false:=by
 rw [Bool.eq_false_iff]
 intro k
 have k:=List.contains_iff_mem.1 k
 simp only [Qdn,List.mem_cons,List.not_mem_nil,or_false] at k
 rcases k with rfl | rfl | rfl | rfl | rfl <;> exact h rfl
theorem ex_box (x : Ex) (w V : World) (g : Gr (w.alloc (.cells #[iv x.kind,tv x.name,tv x.more,iv x.int,iv x.den,.slice x.A x.sub.length x.c] 43)) V) :
 V.cell? ⟨w.heap.size,0,none⟩ = some (iv x.kind) ∧ V.cell? ⟨w.heap.size,1,none⟩ = some (tv x.name) ∧ V.cell? ⟨w.heap.size,2,none⟩ = some (tv x.more):=by
 have h:=Qe g (Qd _ _)
 refine ⟨?_,?_,?_⟩ <;> (rw [Lib.cell_of_heap h];rfl)
set_option maxRecDepth 100000 in
set_option maxHeartbeats 4000000 in
attribute [local irreducible] Calls in
theorem Qd6 (x : Ex) (n : Int) (w : World) (hn : sOk x.name) (hm : sOk x.more) : Calls Tryz.prog 187 #[x.v,iv n] w fun e w' => e = .returned (iv (Xh x.er n)) ∧ Gr w w':=by
 have CX:=Qo0 (ex_box x w)
 have GX:=Qo0 (Qa w (.cells #[iv x.kind,tv x.name,tv x.more,iv x.int,iv x.den,.slice x.A x.sub.length x.c] 43))
 have LA:=Qo0 (fun V => Qbb x.name V hn)
 have NA:=Qo0 (fun V => Qg1 x.name V hn)
 have NM:=Qo0 (fun V => Qg1 x.more V hm)
 obtain ⟨r,hr⟩ : ∃ r,Xh x.er n = r:=⟨_,rfl⟩
 rw [hr]
 have HR:=Qmg x.er n
 rw [hr,Zk,Yb,Xa] at HR
 clear hr
 unfold Ex.v
 generalize x.kind = k at *
 generalize x.name = nm at *
 generalize x.more = mo at *
 generalize x.int = i4 at *
 generalize x.den = i5 at *
 obtain ⟨lo,hlo⟩ : ∃ b,lab nm = b:=⟨_,rfl⟩
 obtain ⟨bn,hbn⟩ : ∃ b,nmB nm = b:=⟨_,rfl⟩
 obtain ⟨bm,hbm⟩ : ∃ b,nmB mo = b:=⟨_,rfl⟩
 rw [hlo] at HR LA
 rw [hbn] at HR NA
 rw [hbm] at HR NM
 clear hlo hbn hbm hn hm
 go_enter Tryz.func187,Tryz.ntmps187
 go_upto_region 1 with fail
 generalize w.alloc (.cells #[iv k,tv nm,tv mo,iv i4,iv i5,.slice x.A x.sub.length x.c] 43) = W at *
 generalize w.heap.size = bx at *
 have G1:=Qo0 (Qc W)
 obtain ⟨c0,c1,c2⟩:=CX.out _ G1.out
 by_cases h5 : k = 5
 ·subst h5
  by_cases hz : nm = []
  ·subst hz
   have HR:=HR true (by simp)
   by_cases h2 : n = 2
   ·subst h2
    cases bm with
    | false =>
      obtain rfl : r = 6:=by rw [HR];simp
      clear HR
      go_wp2_with (first
       | (go_at_call 81;(with_reducible refine (LA.out _).mono ?_);rintro e w1 ⟨rfl,g1⟩;have G1:=Qo0 (Q2 g1);clear g1 c0 c1 c2;obtain ⟨c0,c1,c2⟩:=CX.out _ G1.out;(try dsimp only))
       | (go_at_call 213;(with_reducible refine (CO.out _).mono ?_);rintro e w1 ⟨rfl,rfl⟩;(try dsimp only))
       | (go_at_call 210;(with_reducible refine (NA.out _).mono ?_);rintro e w1 ⟨rfl,g1⟩;have G1:=Qo0 g1;clear g1 c0 c1 c2;obtain ⟨c0,c1,c2⟩:=CX.out _ G1.out;(try dsimp only))
       | (go_at_call 210;(with_reducible refine (NM.out _).mono ?_);rintro e w2 ⟨rfl,g1⟩;have G2:=Qo0 (G1.out.trans g1);clear g1 c0 c1 c2;obtain ⟨c0,c1,c2⟩:=CX.out _ G2.out;(try dsimp only)))
      go_ret
      first | exact ⟨rfl,GX.out.trans G2.out⟩ | exact ⟨rfl,GX.out.trans G1.out⟩
    | true =>
      obtain rfl : r = 0:=by rw [HR];simp
      clear HR
      go_wp2_with (first
       | (go_at_call 81;(with_reducible refine (LA.out _).mono ?_);rintro e w1 ⟨rfl,g1⟩;have G1:=Qo0 (Q2 g1);clear g1 c0 c1 c2;obtain ⟨c0,c1,c2⟩:=CX.out _ G1.out;(try dsimp only))
       | (go_at_call 213;(with_reducible refine (CO.out _).mono ?_);rintro e w1 ⟨rfl,rfl⟩;(try dsimp only))
       | (go_at_call 210;(with_reducible refine (NA.out _).mono ?_);rintro e w1 ⟨rfl,g1⟩;have G1:=Qo0 g1;clear g1 c0 c1 c2;obtain ⟨c0,c1,c2⟩:=CX.out _ G1.out;(try dsimp only))
       | (go_at_call 210;(with_reducible refine (NM.out _).mono ?_);rintro e w2 ⟨rfl,g1⟩;have G2:=Qo0 (G1.out.trans g1);clear g1 c0 c1 c2;obtain ⟨c0,c1,c2⟩:=CX.out _ G2.out;(try dsimp only)))
      go_ret
      first | exact ⟨rfl,GX.out.trans G2.out⟩ | exact ⟨rfl,GX.out.trans G1.out⟩
   ·have q2 : (n == 2) = false:=by simpa using h2
    obtain rfl : r = 0:=by rw [HR];simp [h2]
    clear HR
    go_wp2_with (first
     | (go_at_call 81;(with_reducible refine (LA.out _).mono ?_);rintro e w1 ⟨rfl,g1⟩;have G1:=Qo0 (Q2 g1);clear g1 c0 c1 c2;obtain ⟨c0,c1,c2⟩:=CX.out _ G1.out;(try dsimp only))
     | (go_at_call 213;(with_reducible refine (CO.out _).mono ?_);rintro e w1 ⟨rfl,rfl⟩;(try dsimp only))
     | (go_at_call 210;(with_reducible refine (NA.out _).mono ?_);rintro e w1 ⟨rfl,g1⟩;have G1:=Qo0 g1;clear g1 c0 c1 c2;obtain ⟨c0,c1,c2⟩:=CX.out _ G1.out;(try dsimp only))
     | (go_at_call 210;(with_reducible refine (NM.out _).mono ?_);rintro e w2 ⟨rfl,g1⟩;have G2:=Qo0 (G1.out.trans g1);clear g1 c0 c1 c2;obtain ⟨c0,c1,c2⟩:=CX.out _ G2.out;(try dsimp only)))
    go_ret
    first | exact ⟨rfl,GX.out.trans G2.out⟩ | exact ⟨rfl,GX.out.trans G1.out⟩
  ·have hz' : (nm == []) = false:=by simpa using hz
   cases lo with
   | false =>
     have HR:=HR false (by simp [hz])
     clear hz
     obtain rfl : r = 6:=by rw [HR];simp
     clear HR
     go_wp2_with (first
      | (go_at_call 81;(with_reducible refine (LA.out _).mono ?_);rintro e w1 ⟨rfl,g1⟩;have G1:=Qo0 (Q2 g1);clear g1 c0 c1 c2;obtain ⟨c0,c1,c2⟩:=CX.out _ G1.out;(try dsimp only))
      | (go_at_call 213;(with_reducible refine (CO.out _).mono ?_);rintro e w1 ⟨rfl,rfl⟩;(try dsimp only))
      | (go_at_call 210;(with_reducible refine (NA.out _).mono ?_);rintro e w1 ⟨rfl,g1⟩;have G1:=Qo0 g1;clear g1 c0 c1 c2;obtain ⟨c0,c1,c2⟩:=CX.out _ G1.out;(try dsimp only))
      | (go_at_call 210;(with_reducible refine (NM.out _).mono ?_);rintro e w2 ⟨rfl,g1⟩;have G2:=Qo0 (G1.out.trans g1);clear g1 c0 c1 c2;obtain ⟨c0,c1,c2⟩:=CX.out _ G2.out;(try dsimp only)))
     go_ret
     first | exact ⟨rfl,GX.out.trans G2.out⟩ | exact ⟨rfl,GX.out.trans G1.out⟩
   | true =>
     have HR:=HR true (by simp)
     clear hz
     by_cases h2 : n = 2
     ·subst h2
      cases bm with
      | false =>
        obtain rfl : r = 6:=by rw [HR];simp
        clear HR
        go_wp2_with (first
         | (go_at_call 81;(with_reducible refine (LA.out _).mono ?_);rintro e w1 ⟨rfl,g1⟩;have G1:=Qo0 (Q2 g1);clear g1 c0 c1 c2;obtain ⟨c0,c1,c2⟩:=CX.out _ G1.out;(try dsimp only))
         | (go_at_call 213;(with_reducible refine (CO.out _).mono ?_);rintro e w1 ⟨rfl,rfl⟩;(try dsimp only))
         | (go_at_call 210;(with_reducible refine (NA.out _).mono ?_);rintro e w1 ⟨rfl,g1⟩;have G1:=Qo0 g1;clear g1 c0 c1 c2;obtain ⟨c0,c1,c2⟩:=CX.out _ G1.out;(try dsimp only))
         | (go_at_call 210;(with_reducible refine (NM.out _).mono ?_);rintro e w2 ⟨rfl,g1⟩;have G2:=Qo0 (G1.out.trans g1);clear g1 c0 c1 c2;obtain ⟨c0,c1,c2⟩:=CX.out _ G2.out;(try dsimp only)))
        go_ret
        first | exact ⟨rfl,GX.out.trans G2.out⟩ | exact ⟨rfl,GX.out.trans G1.out⟩
      | true =>
        obtain rfl : r = 0:=by rw [HR];simp
        clear HR
        go_wp2_with (first
         | (go_at_call 81;(with_reducible refine (LA.out _).mono ?_);rintro e w1 ⟨rfl,g1⟩;have G1:=Qo0 (Q2 g1);clear g1 c0 c1 c2;obtain ⟨c0,c1,c2⟩:=CX.out _ G1.out;(try dsimp only))
         | (go_at_call 213;(with_reducible refine (CO.out _).mono ?_);rintro e w1 ⟨rfl,rfl⟩;(try dsimp only))
         | (go_at_call 210;(with_reducible refine (NA.out _).mono ?_);rintro e w1 ⟨rfl,g1⟩;have G1:=Qo0 g1;clear g1 c0 c1 c2;obtain ⟨c0,c1,c2⟩:=CX.out _ G1.out;(try dsimp only))
         | (go_at_call 210;(with_reducible refine (NM.out _).mono ?_);rintro e w2 ⟨rfl,g1⟩;have G2:=Qo0 (G1.out.trans g1);clear g1 c0 c1 c2;obtain ⟨c0,c1,c2⟩:=CX.out _ G2.out;(try dsimp only)))
        go_ret
        first | exact ⟨rfl,GX.out.trans G2.out⟩ | exact ⟨rfl,GX.out.trans G1.out⟩
     ·have q2 : (n == 2) = false:=by simpa using h2
      obtain rfl : r = 0:=by rw [HR];simp [h2]
      clear HR
      go_wp2_with (first
       | (go_at_call 81;(with_reducible refine (LA.out _).mono ?_);rintro e w1 ⟨rfl,g1⟩;have G1:=Qo0 (Q2 g1);clear g1 c0 c1 c2;obtain ⟨c0,c1,c2⟩:=CX.out _ G1.out;(try dsimp only))
       | (go_at_call 213;(with_reducible refine (CO.out _).mono ?_);rintro e w1 ⟨rfl,rfl⟩;(try dsimp only))
       | (go_at_call 210;(with_reducible refine (NA.out _).mono ?_);rintro e w1 ⟨rfl,g1⟩;have G1:=Qo0 g1;clear g1 c0 c1 c2;obtain ⟨c0,c1,c2⟩:=CX.out _ G1.out;(try dsimp only))
       | (go_at_call 210;(with_reducible refine (NM.out _).mono ?_);rintro e w2 ⟨rfl,g1⟩;have G2:=Qo0 (G1.out.trans g1);clear g1 c0 c1 c2;obtain ⟨c0,c1,c2⟩:=CX.out _ G2.out;(try dsimp only)))
      go_ret
      first | exact ⟨rfl,GX.out.trans G2.out⟩ | exact ⟨rfl,GX.out.trans G1.out⟩
 have q5 : (k == 5) = false:=by simpa using h5
 by_cases h10 : k = 10
 ·subst h10
  by_cases hl : nm.length = 1
  ·obtain ⟨c,rfl⟩:=X2 hl
   have CO:=Qo0 (fun V => Qei ⟨#[43,45,42,61,60]⟩ c V)
   rw [show (⟨#[43,45,42,61,60]⟩ : ByteArray).data.toList = [43,45,42,61,60] from rfl,op_in] at CO
   obtain ⟨bo,hbo⟩ : ∃ b,Qdn.contains [c] = b:=⟨_,rfl⟩
   rw [hbo] at CO HR
   clear hl hbo h5
   cases bo with
   | false =>
     have HR:=HR false (by simp)
     obtain rfl : r = 6:=by rw [HR];simp
     clear HR
     go_wp2_with (first
      | (go_at_call 81;(with_reducible refine (LA.out _).mono ?_);rintro e w1 ⟨rfl,g1⟩;have G1:=Qo0 (Q2 g1);clear g1 c0 c1 c2;obtain ⟨c0,c1,c2⟩:=CX.out _ G1.out;(try dsimp only))
      | (go_at_call 213;(with_reducible refine (CO.out _).mono ?_);rintro e w1 ⟨rfl,rfl⟩;(try dsimp only))
      | (go_at_call 210;(with_reducible refine (NA.out _).mono ?_);rintro e w1 ⟨rfl,g1⟩;have G1:=Qo0 g1;clear g1 c0 c1 c2;obtain ⟨c0,c1,c2⟩:=CX.out _ G1.out;(try dsimp only))
      | (go_at_call 210;(with_reducible refine (NM.out _).mono ?_);rintro e w2 ⟨rfl,g1⟩;have G2:=Qo0 (G1.out.trans g1);clear g1 c0 c1 c2;obtain ⟨c0,c1,c2⟩:=CX.out _ G2.out;(try dsimp only)))
     go_ret
     first | exact ⟨rfl,GX.out.trans G2.out⟩ | exact ⟨rfl,GX.out.trans G1.out⟩
   | true =>
     have HR:=HR true (by simp)
     by_cases h2 : n = 2
     ·subst h2
      cases bm with
      | false =>
        obtain rfl : r = 6:=by rw [HR];simp
        clear HR
        go_wp2_with (first
         | (go_at_call 81;(with_reducible refine (LA.out _).mono ?_);rintro e w1 ⟨rfl,g1⟩;have G1:=Qo0 (Q2 g1);clear g1 c0 c1 c2;obtain ⟨c0,c1,c2⟩:=CX.out _ G1.out;(try dsimp only))
         | (go_at_call 213;(with_reducible refine (CO.out _).mono ?_);rintro e w1 ⟨rfl,rfl⟩;(try dsimp only))
         | (go_at_call 210;(with_reducible refine (NA.out _).mono ?_);rintro e w1 ⟨rfl,g1⟩;have G1:=Qo0 g1;clear g1 c0 c1 c2;obtain ⟨c0,c1,c2⟩:=CX.out _ G1.out;(try dsimp only))
         | (go_at_call 210;(with_reducible refine (NM.out _).mono ?_);rintro e w2 ⟨rfl,g1⟩;have G2:=Qo0 (G1.out.trans g1);clear g1 c0 c1 c2;obtain ⟨c0,c1,c2⟩:=CX.out _ G2.out;(try dsimp only)))
        go_ret
        first | exact ⟨rfl,GX.out.trans G2.out⟩ | exact ⟨rfl,GX.out.trans G1.out⟩
      | true =>
        obtain rfl : r = 0:=by rw [HR];simp
        clear HR
        go_wp2_with (first
         | (go_at_call 81;(with_reducible refine (LA.out _).mono ?_);rintro e w1 ⟨rfl,g1⟩;have G1:=Qo0 (Q2 g1);clear g1 c0 c1 c2;obtain ⟨c0,c1,c2⟩:=CX.out _ G1.out;(try dsimp only))
         | (go_at_call 213;(with_reducible refine (CO.out _).mono ?_);rintro e w1 ⟨rfl,rfl⟩;(try dsimp only))
         | (go_at_call 210;(with_reducible refine (NA.out _).mono ?_);rintro e w1 ⟨rfl,g1⟩;have G1:=Qo0 g1;clear g1 c0 c1 c2;obtain ⟨c0,c1,c2⟩:=CX.out _ G1.out;(try dsimp only))
         | (go_at_call 210;(with_reducible refine (NM.out _).mono ?_);rintro e w2 ⟨rfl,g1⟩;have G2:=Qo0 (G1.out.trans g1);clear g1 c0 c1 c2;obtain ⟨c0,c1,c2⟩:=CX.out _ G2.out;(try dsimp only)))
        go_ret
        first | exact ⟨rfl,GX.out.trans G2.out⟩ | exact ⟨rfl,GX.out.trans G1.out⟩
     ·have q2 : (n == 2) = false:=by simpa using h2
      obtain rfl : r = 0:=by rw [HR];simp [h2]
      clear HR
      go_wp2_with (first
       | (go_at_call 81;(with_reducible refine (LA.out _).mono ?_);rintro e w1 ⟨rfl,g1⟩;have G1:=Qo0 (Q2 g1);clear g1 c0 c1 c2;obtain ⟨c0,c1,c2⟩:=CX.out _ G1.out;(try dsimp only))
       | (go_at_call 213;(with_reducible refine (CO.out _).mono ?_);rintro e w1 ⟨rfl,rfl⟩;(try dsimp only))
       | (go_at_call 210;(with_reducible refine (NA.out _).mono ?_);rintro e w1 ⟨rfl,g1⟩;have G1:=Qo0 g1;clear g1 c0 c1 c2;obtain ⟨c0,c1,c2⟩:=CX.out _ G1.out;(try dsimp only))
       | (go_at_call 210;(with_reducible refine (NM.out _).mono ?_);rintro e w2 ⟨rfl,g1⟩;have G2:=Qo0 (G1.out.trans g1);clear g1 c0 c1 c2;obtain ⟨c0,c1,c2⟩:=CX.out _ G2.out;(try dsimp only)))
      go_ret
      first | exact ⟨rfl,GX.out.trans G2.out⟩ | exact ⟨rfl,GX.out.trans G1.out⟩
  ·have hl' : ((nm.length : Int) == 1) = false:=by simp;omega
   have HR:=HR false (by rw [if_neg h5,if_pos rfl,ops_len hl])
   clear hl h5
   obtain rfl : r = 6:=by rw [HR];simp
   clear HR
   go_wp2_with (first
    | (go_at_call 81;(with_reducible refine (LA.out _).mono ?_);rintro e w1 ⟨rfl,g1⟩;have G1:=Qo0 (Q2 g1);clear g1 c0 c1 c2;obtain ⟨c0,c1,c2⟩:=CX.out _ G1.out;(try dsimp only))
    | (go_at_call 213;(with_reducible refine (CO.out _).mono ?_);rintro e w1 ⟨rfl,rfl⟩;(try dsimp only))
    | (go_at_call 210;(with_reducible refine (NA.out _).mono ?_);rintro e w1 ⟨rfl,g1⟩;have G1:=Qo0 g1;clear g1 c0 c1 c2;obtain ⟨c0,c1,c2⟩:=CX.out _ G1.out;(try dsimp only))
    | (go_at_call 210;(with_reducible refine (NM.out _).mono ?_);rintro e w2 ⟨rfl,g1⟩;have G2:=Qo0 (G1.out.trans g1);clear g1 c0 c1 c2;obtain ⟨c0,c1,c2⟩:=CX.out _ G2.out;(try dsimp only)))
   go_ret
   first | exact ⟨rfl,GX.out.trans G2.out⟩ | exact ⟨rfl,GX.out.trans G1.out⟩
 have q10 : (k == 10) = false:=by simpa using h10
 by_cases h1 : 1 ≤ n
 ·have q1 : decide (1 ≤ n) = true:=decide_eq_true h1
  cases bn with
  | false =>
    have HR:=HR false (by rw [if_neg h5,if_neg h10,if_pos h1])
    clear h5 h10 h1
    obtain rfl : r = 6:=by rw [HR];simp
    clear HR
    go_wp2_with (first
     | (go_at_call 81;(with_reducible refine (LA.out _).mono ?_);rintro e w1 ⟨rfl,g1⟩;have G1:=Qo0 (Q2 g1);clear g1 c0 c1 c2;obtain ⟨c0,c1,c2⟩:=CX.out _ G1.out;(try dsimp only))
     | (go_at_call 213;(with_reducible refine (CO.out _).mono ?_);rintro e w1 ⟨rfl,rfl⟩;(try dsimp only))
     | (go_at_call 210;(with_reducible refine (NA.out _).mono ?_);rintro e w1 ⟨rfl,g1⟩;have G1:=Qo0 g1;clear g1 c0 c1 c2;obtain ⟨c0,c1,c2⟩:=CX.out _ G1.out;(try dsimp only))
     | (go_at_call 210;(with_reducible refine (NM.out _).mono ?_);rintro e w2 ⟨rfl,g1⟩;have G2:=Qo0 (G1.out.trans g1);clear g1 c0 c1 c2;obtain ⟨c0,c1,c2⟩:=CX.out _ G2.out;(try dsimp only)))
    go_ret
    first | exact ⟨rfl,GX.out.trans G2.out⟩ | exact ⟨rfl,GX.out.trans G1.out⟩
  | true =>
    have HR:=HR true (by rw [if_neg h5,if_neg h10,if_pos h1])
    clear h5 h10 h1
    by_cases h2 : n = 2
    ·subst h2
     cases bm with
     | false =>
       obtain rfl : r = 6:=by rw [HR];simp
       clear HR
       go_wp2_with (first
        | (go_at_call 81;(with_reducible refine (LA.out _).mono ?_);rintro e w1 ⟨rfl,g1⟩;have G1:=Qo0 (Q2 g1);clear g1 c0 c1 c2;obtain ⟨c0,c1,c2⟩:=CX.out _ G1.out;(try dsimp only))
        | (go_at_call 213;(with_reducible refine (CO.out _).mono ?_);rintro e w1 ⟨rfl,rfl⟩;(try dsimp only))
        | (go_at_call 210;(with_reducible refine (NA.out _).mono ?_);rintro e w1 ⟨rfl,g1⟩;have G1:=Qo0 g1;clear g1 c0 c1 c2;obtain ⟨c0,c1,c2⟩:=CX.out _ G1.out;(try dsimp only))
        | (go_at_call 210;(with_reducible refine (NM.out _).mono ?_);rintro e w2 ⟨rfl,g1⟩;have G2:=Qo0 (G1.out.trans g1);clear g1 c0 c1 c2;obtain ⟨c0,c1,c2⟩:=CX.out _ G2.out;(try dsimp only)))
       go_ret
       first | exact ⟨rfl,GX.out.trans G2.out⟩ | exact ⟨rfl,GX.out.trans G1.out⟩
     | true =>
       by_cases h13 : k = 13
       ·subst h13
        by_cases he : nm = mo
        ·obtain rfl : r = 7:=by rw [HR];simp [he]
         have he' : (nm == mo) = true:=by simpa using he
         clear HR he
         go_wp2_with (first
          | (go_at_call 81;(with_reducible refine (LA.out _).mono ?_);rintro e w1 ⟨rfl,g1⟩;have G1:=Qo0 (Q2 g1);clear g1 c0 c1 c2;obtain ⟨c0,c1,c2⟩:=CX.out _ G1.out;(try dsimp only))
          | (go_at_call 213;(with_reducible refine (CO.out _).mono ?_);rintro e w1 ⟨rfl,rfl⟩;(try dsimp only))
          | (go_at_call 210;(with_reducible refine (NA.out _).mono ?_);rintro e w1 ⟨rfl,g1⟩;have G1:=Qo0 g1;clear g1 c0 c1 c2;obtain ⟨c0,c1,c2⟩:=CX.out _ G1.out;(try dsimp only))
          | (go_at_call 210;(with_reducible refine (NM.out _).mono ?_);rintro e w2 ⟨rfl,g1⟩;have G2:=Qo0 (G1.out.trans g1);clear g1 c0 c1 c2;obtain ⟨c0,c1,c2⟩:=CX.out _ G2.out;(try dsimp only)))
         go_ret
         first | exact ⟨rfl,GX.out.trans G2.out⟩ | exact ⟨rfl,GX.out.trans G1.out⟩
        ·obtain rfl : r = 0:=by rw [HR];simp [he]
         have he' : (nm == mo) = false:=by simpa using he
         clear HR he
         go_wp2_with (first
          | (go_at_call 81;(with_reducible refine (LA.out _).mono ?_);rintro e w1 ⟨rfl,g1⟩;have G1:=Qo0 (Q2 g1);clear g1 c0 c1 c2;obtain ⟨c0,c1,c2⟩:=CX.out _ G1.out;(try dsimp only))
          | (go_at_call 213;(with_reducible refine (CO.out _).mono ?_);rintro e w1 ⟨rfl,rfl⟩;(try dsimp only))
          | (go_at_call 210;(with_reducible refine (NA.out _).mono ?_);rintro e w1 ⟨rfl,g1⟩;have G1:=Qo0 g1;clear g1 c0 c1 c2;obtain ⟨c0,c1,c2⟩:=CX.out _ G1.out;(try dsimp only))
          | (go_at_call 210;(with_reducible refine (NM.out _).mono ?_);rintro e w2 ⟨rfl,g1⟩;have G2:=Qo0 (G1.out.trans g1);clear g1 c0 c1 c2;obtain ⟨c0,c1,c2⟩:=CX.out _ G2.out;(try dsimp only)))
         go_ret
         first | exact ⟨rfl,GX.out.trans G2.out⟩ | exact ⟨rfl,GX.out.trans G1.out⟩
       ·obtain rfl : r = 0:=by rw [HR];simp [h13]
        have q13 : (k == 13) = false:=by simpa using h13
        clear HR h13
        go_wp2_with (first
         | (go_at_call 81;(with_reducible refine (LA.out _).mono ?_);rintro e w1 ⟨rfl,g1⟩;have G1:=Qo0 (Q2 g1);clear g1 c0 c1 c2;obtain ⟨c0,c1,c2⟩:=CX.out _ G1.out;(try dsimp only))
         | (go_at_call 213;(with_reducible refine (CO.out _).mono ?_);rintro e w1 ⟨rfl,rfl⟩;(try dsimp only))
         | (go_at_call 210;(with_reducible refine (NA.out _).mono ?_);rintro e w1 ⟨rfl,g1⟩;have G1:=Qo0 g1;clear g1 c0 c1 c2;obtain ⟨c0,c1,c2⟩:=CX.out _ G1.out;(try dsimp only))
         | (go_at_call 210;(with_reducible refine (NM.out _).mono ?_);rintro e w2 ⟨rfl,g1⟩;have G2:=Qo0 (G1.out.trans g1);clear g1 c0 c1 c2;obtain ⟨c0,c1,c2⟩:=CX.out _ G2.out;(try dsimp only)))
        go_ret
        first | exact ⟨rfl,GX.out.trans G2.out⟩ | exact ⟨rfl,GX.out.trans G1.out⟩
    ·have q2 : (n == 2) = false:=by simpa using h2
     by_cases h13 : k = 13
     ·subst h13
      by_cases he : nm = mo
      ·obtain rfl : r = 7:=by rw [HR];simp [he,h2]
       have he' : (nm == mo) = true:=by simpa using he
       clear HR he
       go_wp2_with (first
        | (go_at_call 81;(with_reducible refine (LA.out _).mono ?_);rintro e w1 ⟨rfl,g1⟩;have G1:=Qo0 (Q2 g1);clear g1 c0 c1 c2;obtain ⟨c0,c1,c2⟩:=CX.out _ G1.out;(try dsimp only))
        | (go_at_call 213;(with_reducible refine (CO.out _).mono ?_);rintro e w1 ⟨rfl,rfl⟩;(try dsimp only))
        | (go_at_call 210;(with_reducible refine (NA.out _).mono ?_);rintro e w1 ⟨rfl,g1⟩;have G1:=Qo0 g1;clear g1 c0 c1 c2;obtain ⟨c0,c1,c2⟩:=CX.out _ G1.out;(try dsimp only))
        | (go_at_call 210;(with_reducible refine (NM.out _).mono ?_);rintro e w2 ⟨rfl,g1⟩;have G2:=Qo0 (G1.out.trans g1);clear g1 c0 c1 c2;obtain ⟨c0,c1,c2⟩:=CX.out _ G2.out;(try dsimp only)))
       go_ret
       first | exact ⟨rfl,GX.out.trans G2.out⟩ | exact ⟨rfl,GX.out.trans G1.out⟩
      ·obtain rfl : r = 0:=by rw [HR];simp [he,h2]
       have he' : (nm == mo) = false:=by simpa using he
       clear HR he
       go_wp2_with (first
        | (go_at_call 81;(with_reducible refine (LA.out _).mono ?_);rintro e w1 ⟨rfl,g1⟩;have G1:=Qo0 (Q2 g1);clear g1 c0 c1 c2;obtain ⟨c0,c1,c2⟩:=CX.out _ G1.out;(try dsimp only))
        | (go_at_call 213;(with_reducible refine (CO.out _).mono ?_);rintro e w1 ⟨rfl,rfl⟩;(try dsimp only))
        | (go_at_call 210;(with_reducible refine (NA.out _).mono ?_);rintro e w1 ⟨rfl,g1⟩;have G1:=Qo0 g1;clear g1 c0 c1 c2;obtain ⟨c0,c1,c2⟩:=CX.out _ G1.out;(try dsimp only))
        | (go_at_call 210;(with_reducible refine (NM.out _).mono ?_);rintro e w2 ⟨rfl,g1⟩;have G2:=Qo0 (G1.out.trans g1);clear g1 c0 c1 c2;obtain ⟨c0,c1,c2⟩:=CX.out _ G2.out;(try dsimp only)))
       go_ret
       first | exact ⟨rfl,GX.out.trans G2.out⟩ | exact ⟨rfl,GX.out.trans G1.out⟩
     ·obtain rfl : r = 0:=by rw [HR];simp [h13,h2]
      have q13 : (k == 13) = false:=by simpa using h13
      clear HR h13
      go_wp2_with (first
       | (go_at_call 81;(with_reducible refine (LA.out _).mono ?_);rintro e w1 ⟨rfl,g1⟩;have G1:=Qo0 (Q2 g1);clear g1 c0 c1 c2;obtain ⟨c0,c1,c2⟩:=CX.out _ G1.out;(try dsimp only))
       | (go_at_call 213;(with_reducible refine (CO.out _).mono ?_);rintro e w1 ⟨rfl,rfl⟩;(try dsimp only))
       | (go_at_call 210;(with_reducible refine (NA.out _).mono ?_);rintro e w1 ⟨rfl,g1⟩;have G1:=Qo0 g1;clear g1 c0 c1 c2;obtain ⟨c0,c1,c2⟩:=CX.out _ G1.out;(try dsimp only))
       | (go_at_call 210;(with_reducible refine (NM.out _).mono ?_);rintro e w2 ⟨rfl,g1⟩;have G2:=Qo0 (G1.out.trans g1);clear g1 c0 c1 c2;obtain ⟨c0,c1,c2⟩:=CX.out _ G2.out;(try dsimp only)))
      go_ret
      first | exact ⟨rfl,GX.out.trans G2.out⟩ | exact ⟨rfl,GX.out.trans G1.out⟩
 ·have q1 : decide (1 ≤ n) = false:=decide_eq_false h1
  have HR:=HR true (by rw [if_neg h5,if_neg h10,if_neg h1])
  have h2 : ¬ n = 2:=by omega
  have q2 : (n == 2) = false:=by simpa using h2
  clear h5 h10 h1
  by_cases h13 : k = 13
  ·subst h13
   by_cases he : nm = mo
   ·obtain rfl : r = 7:=by rw [HR];simp [he,h2]
    have he' : (nm == mo) = true:=by simpa using he
    clear HR he
    go_wp2_with (first
     | (go_at_call 81;(with_reducible refine (LA.out _).mono ?_);rintro e w1 ⟨rfl,g1⟩;have G1:=Qo0 (Q2 g1);clear g1 c0 c1 c2;obtain ⟨c0,c1,c2⟩:=CX.out _ G1.out;(try dsimp only))
     | (go_at_call 213;(with_reducible refine (CO.out _).mono ?_);rintro e w1 ⟨rfl,rfl⟩;(try dsimp only))
     | (go_at_call 210;(with_reducible refine (NA.out _).mono ?_);rintro e w1 ⟨rfl,g1⟩;have G1:=Qo0 g1;clear g1 c0 c1 c2;obtain ⟨c0,c1,c2⟩:=CX.out _ G1.out;(try dsimp only))
     | (go_at_call 210;(with_reducible refine (NM.out _).mono ?_);rintro e w2 ⟨rfl,g1⟩;have G2:=Qo0 (G1.out.trans g1);clear g1 c0 c1 c2;obtain ⟨c0,c1,c2⟩:=CX.out _ G2.out;(try dsimp only)))
    go_ret
    first | exact ⟨rfl,GX.out.trans G2.out⟩ | exact ⟨rfl,GX.out.trans G1.out⟩
   ·obtain rfl : r = 0:=by rw [HR];simp [he,h2]
    have he' : (nm == mo) = false:=by simpa using he
    clear HR he
    go_wp2_with (first
     | (go_at_call 81;(with_reducible refine (LA.out _).mono ?_);rintro e w1 ⟨rfl,g1⟩;have G1:=Qo0 (Q2 g1);clear g1 c0 c1 c2;obtain ⟨c0,c1,c2⟩:=CX.out _ G1.out;(try dsimp only))
     | (go_at_call 213;(with_reducible refine (CO.out _).mono ?_);rintro e w1 ⟨rfl,rfl⟩;(try dsimp only))
     | (go_at_call 210;(with_reducible refine (NA.out _).mono ?_);rintro e w1 ⟨rfl,g1⟩;have G1:=Qo0 g1;clear g1 c0 c1 c2;obtain ⟨c0,c1,c2⟩:=CX.out _ G1.out;(try dsimp only))
     | (go_at_call 210;(with_reducible refine (NM.out _).mono ?_);rintro e w2 ⟨rfl,g1⟩;have G2:=Qo0 (G1.out.trans g1);clear g1 c0 c1 c2;obtain ⟨c0,c1,c2⟩:=CX.out _ G2.out;(try dsimp only)))
    go_ret
    first | exact ⟨rfl,GX.out.trans G2.out⟩ | exact ⟨rfl,GX.out.trans G1.out⟩
  ·obtain rfl : r = 0:=by rw [HR];simp [h13,h2]
   have q13 : (k == 13) = false:=by simpa using h13
   clear HR h13
   go_wp2_with (first
    | (go_at_call 81;(with_reducible refine (LA.out _).mono ?_);rintro e w1 ⟨rfl,g1⟩;have G1:=Qo0 (Q2 g1);clear g1 c0 c1 c2;obtain ⟨c0,c1,c2⟩:=CX.out _ G1.out;(try dsimp only))
    | (go_at_call 213;(with_reducible refine (CO.out _).mono ?_);rintro e w1 ⟨rfl,rfl⟩;(try dsimp only))
    | (go_at_call 210;(with_reducible refine (NA.out _).mono ?_);rintro e w1 ⟨rfl,g1⟩;have G1:=Qo0 g1;clear g1 c0 c1 c2;obtain ⟨c0,c1,c2⟩:=CX.out _ G1.out;(try dsimp only))
    | (go_at_call 210;(with_reducible refine (NM.out _).mono ?_);rintro e w2 ⟨rfl,g1⟩;have G2:=Qo0 (G1.out.trans g1);clear g1 c0 c1 c2;obtain ⟨c0,c1,c2⟩:=CX.out _ G2.out;(try dsimp only)))
   go_ret
   first | exact ⟨rfl,GX.out.trans G2.out⟩ | exact ⟨rfl,GX.out.trans G1.out⟩
end Go.Proofs.YtiaenhlflgobfaaGreatDoor

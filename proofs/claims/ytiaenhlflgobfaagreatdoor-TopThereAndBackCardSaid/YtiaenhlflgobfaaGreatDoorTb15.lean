/- Words. -/
import Derived.Test.YtiaenhlflgobfaaGreatDoorTb14
import Derived.Shelf.SlSorted.Search
import Derived.Sort.Walk0
import Derived.WalkLawsBesides
import Derived.WalkSpells
namespace Go.Proofs.YtiaenhlflgobfaaGreatDoor
open Go.RowKit
def prv (L : List T) (k : Nat) : Option T:=if k = 0 then none else L[k - 1]?
theorem Qgs (L : List T) (k : Nat) : prv L (k + 1) = L[k]?:=by simp [prv]
theorem ckUs_at {us : List T} {k : Nat} (hk : k < us.length) : Qcf (prv us k) (us.drop k) = if !lab us[k] then 6 else if (prv us k).any (fun q => !decide (q < us[k])) then 10 else Qcf (prv us (k + 1)) (us.drop (k + 1)):=by
 rw [Qgs,List.getElem?_eq_getElem hk,List.drop_eq_getElem_cons hk,Qcf]
set_option maxRecDepth 100000 in
set_option maxHeartbeats 4000000 in
theorem Qc8 (A : Option Addr) (c : Nat) (us : List T) (w : World) (hr : SRd w A c us) : Calls Tryz.prog 82 #[.agg #[.slice A us.length c,.slice none 0 0]] w fun e w' => e = .returned (iv (Qae us)) ∧ Gr w w':=by
 have hl : us.length ≤ 9223372036854775807:=Nat.le_trans hr.rw.hc hr.rw.hm
 have HX:=Qo0 (fun V (g : Gr (w.alloc (.cells #[.slice A us.length c,.slice none 0 0] 153)) V) => show V.cell? ⟨w.heap.size,0,none⟩ = some (.slice A us.length c) ∧ V.cell? ⟨w.heap.size,1,none⟩ = some (.slice none 0 0) from by
  have h:=Qe g (Qd _ _)
  exact ⟨by rw [Lib.cell_of_heap h];rfl,by rw [Lib.cell_of_heap h];rfl⟩)
 have GX:=Qo0 (Qa w (.cells #[.slice A us.length c,.slice none 0 0] 153))
 have HR:=Qo0 (fun V (g : Gr (w.alloc (.cells #[.slice A us.length c,.slice none 0 0] 153)) V) => hr.gr (GX.out.trans g))
 obtain ⟨n,hn⟩ : ∃ n,us.length = n:=⟨_,rfl⟩
 have HN:=Qo0 hn
 obtain ⟨r,hr'⟩ : ∃ r,Qae us = r:=⟨_,rfl⟩
 have R0:=Qo0 hr'
 rw [hr']
 rw [hn] at hl HX GX HR ⊢
 clear hr hn hr'
 go_enter Tryz.func82,Tryz.ntmps82
 go_upto_region 1 with fail
 generalize w.alloc (.cells #[.slice A n c,.slice none 0 0] 153) = W at *
 generalize w.heap.size = bx at *
 obtain ⟨x0,x1⟩:=HX.out _ (Qc _)
 by_cases h20 : 20 < n
 ·have q : decide ((20 : Int) < (n : Int)) = true:=decide_eq_true (by omega)
  obtain rfl : 4 = r:=by rw [← R0.out];unfold Qae;rw [if_pos (by rw [HN.out];exact h20)]
  go_wp2
  go_ret
  exact ⟨rfl,GX.out⟩
 ·have q : decide ((20 : Int) < (n : Int)) = false:=decide_eq_false (by omega)
  have R0:=Qo0 (show Qcf none us = r by rw [← R0.out];unfold Qae;rw [if_neg (by rw [HN.out];exact h20)])
  clear h20
  go_wp2
  go_loopw [3,4,16] (fun _ _ i V => ∃ k : Nat,k ≤ n ∧ i = iv k ∧ Hid (Gr W V ∧ Qcf (prv us k) (us.drop k) = r)) (fun _ _ i _ => (n - intOf i).toNat)
  case atStart => exact ⟨0,by omega,rfl,Qo0 ⟨Qc _,by rw [List.drop_zero];exact R0.out⟩⟩
  case round =>
   obtain ⟨k,hk,rfl,HG⟩:=hrel
   have GV:=Qo0 HG.out.1
   have CK:=Qo0 HG.out.2
   clear HG x0 x1
   obtain ⟨x0,x1⟩:=HX.out _ GV.out
   by_cases hlt : k < n
   ·have hkl : k < us.length:=by rw [HN.out];exact hlt
    obtain ⟨a,a1,ea,e1,hb,c0,ok⟩:=(HR.out _ GV.out).at (k:=k) hkl
    subst ea
    have LA:=Qo0 (fun V => Qbb us[k] V ok)
    have CE:=Qo0 (CK.out.symm.trans (ckUs_at hkl))
    have tk : (k : Int) < (n : Int):=by omega
    cases k with
    | zero =>
      have CE:=Qo0 (show r = if !lab us[0] then 6 else Qcf (prv us 1) (us.drop 1) by rw [CE.out];simp [prv])
      clear CK ok hb
      generalize us[0] = s at *
      clear hkl
      cases hls : lab s with
      | false =>
        obtain rfl : r = 6:=by rw [CE.out,hls];rfl
        rw [hls] at LA
        clear CE hls R0
        go_wp2_with (go_at_call 81;refine (LA.out _).mono ?_;rintro e w1 ⟨rfl,g⟩;have G:=Qo0 (Q2 g);clear g)
        go_ret
        exact ⟨rfl,GX.out.trans (GV.out.trans G.out)⟩
      | true =>
        have CF:=Qo0 (show Qcf (prv us 1) (us.drop 1) = r by rw [CE.out,hls];rfl)
        rw [hls] at LA
        clear CE hls
        go_wp2_with (go_at_call 81;refine (LA.out _).mono ?_;rintro e w1 ⟨rfl,g⟩;have G:=Qo0 (Q2 g);clear g)
        exact ⟨⟨1,by omega,rfl,Qo0 ⟨GV.out.trans G.out,CF.out⟩⟩,by simp [intOf];omega⟩
    | succ j =>
      have hjl : j < us.length:=by omega
      obtain ⟨b,b1,eb,f1,hb1,d0,-⟩:=(HR.out _ GV.out).at (k:=j) hjl
      cases eb
      have CG:=Qo0 (show r = if !lab us[j + 1] then 6 else if !decide (us[j] < us[j + 1]) then 10 else Qcf (prv us (j + 2)) (us.drop (j + 2)) by rw [CE.out,Qgs,List.getElem?_eq_getElem hjl];simp)
      have RV:=Qo0 (fun V (g : Gr W V) => (HR.out V g).at (k:=j) hjl)
      have D0:=Qo0 (fun V (g : Gr wr V) => Ze g d0)
      clear CK CE ok hb hb1 RV
      have hb:=bytesLess_eq us[j] us[j + 1]
      generalize us[j + 1] = s at *
      generalize us[j] = p at *
      clear hkl hjl
      cases hls : lab s with
      | false =>
        obtain rfl : r = 6:=by rw [CG.out,hls];rfl
        rw [hls] at LA
        clear CG hls R0 hb
        go_wp2_with (go_at_call 81;refine (LA.out _).mono ?_;rintro e w1 ⟨rfl,g⟩;have G:=Qo0 (Q2 g);clear g)
        go_ret
        exact ⟨rfl,GX.out.trans (GV.out.trans G.out)⟩
      | true =>
        rw [hls] at LA
        by_cases hps : p < s
        ·have CF:=Qo0 (show Qcf (prv us (j + 2)) (us.drop (j + 2)) = r by rw [CG.out,hls];simp [hps])
         have hb' : Op.bytesLess p s = true:=by rw [hb];simpa using hps
         clear CG hls hb hps
         go_wp2_with (go_at_call 81;refine (LA.out _).mono ?_;rintro e w1 ⟨rfl,g⟩;have G:=Qo0 (Q2 g);clear g d0 x0 x1;have d0:=D0.out _ G.out;obtain ⟨x0,x1⟩:=HX.out _ (GV.out.trans G.out))
         exact ⟨⟨j + 2,by omega,by simp;omega,Qo0 ⟨GV.out.trans G.out,CF.out⟩⟩,by simp [intOf];omega⟩
        ·obtain rfl : r = 10:=by rw [CG.out,hls];simp [hps]
         have hb' : Op.bytesLess p s = false:=by rw [hb];simpa using hps
         clear CG hls hb hps R0
         go_wp2_with (go_at_call 81;refine (LA.out _).mono ?_;rintro e w1 ⟨rfl,g⟩;have G:=Qo0 (Q2 g);clear g d0 x0 x1;have d0:=D0.out _ G.out;obtain ⟨x0,x1⟩:=HX.out _ (GV.out.trans G.out))
         go_ret
         exact ⟨rfl,GX.out.trans (GV.out.trans G.out)⟩
   ·obtain rfl : k = n:=by omega
    obtain rfl : r = 0:=by rw [← CK.out,List.drop_eq_nil_of_le (by rw [HN.out];exact Nat.le_refl _)];rfl
    have tk : ¬ (k : Int) < (k : Int):=by omega
    clear CK R0
    have hmm:=@run_makeMap Tryz.prog
    have x1m:=Ze (Qa wr (.map #[] 0)) x1
    have GM:=Qo0 (Qa wr (.map #[] 0))
    go_wp2
    clear hmm
    generalize wr.alloc (.map #[] 0) = W5 at *
    go_loopw [45] (fun i V => i = iv 0 ∧ V = W5) (fun _ _ => 0)
    case atStart => exact ⟨rfl,rfl⟩
    case round =>
     obtain ⟨rfl,rfl⟩:=hrel
     go_wp2
     go_ret
     exact ⟨rfl,GX.out.trans (GV.out.trans GM.out)⟩
end Go.Proofs.YtiaenhlflgobfaaGreatDoor

/- Words. -/
import Derived.Test.YtiaenhlflgobfaaGreatDoorTb10
import Derived.Test.YtiaenhlflgobfaaGreatDoorTb13
namespace Go.Proofs.YtiaenhlflgobfaaGreatDoor
open Go.RowKit
theorem ckE_var (s : T) : ckE (.mk 3 s [] 0 0 []) = if nmB s then 0 else 6:=by
 have h1 : PE.pre 1 (.mk 3 s [] 0 0 []) = [(1,.mk 3 s [] 0 0 [])]:=by simp [pre_eq,PE.sub]
 unfold ckE Qdo
 rw [h1]
 cases h : nmB s <;> simp [fe,ckN,shp,Xh,Qc4,PE.kind,PE.name,PE.more,PE.int,PE.den,PE.sub,h]
set_option maxRecDepth 100000 in
theorem Qbu (s : T) (w : World) (hs : sOk s) : Calls Tryz.prog 40 #[tv s] w fun e w' => e = .returned (.bool (nmB s)) ∧ Gr w w':=by
 have hc:=X7 (.mk 3 s [] 0 0 none 0 []) w ⟨XRd.nil w,hs,by show ([] : T).length ≤ _;simp⟩
 rw [show (Ex.mk 3 s [] 0 0 none 0 []).er = .mk 3 s [] 0 0 [] by simp [Ex.er],ckE_var] at hc
 unfold Ex.v at hc
 have HC:=Qo0 hc
 clear hc
 cases hn : nmB s with
 | true =>
   rw [hn] at HC
   go_enter Tryz.func40,Tryz.ntmps40
   go_wp2_with (go_at_call 85;refine HC.out.mono ?_;rintro e w1 ⟨rfl,g⟩;have G:=Qo0 g;clear g;(try dsimp only))
   go_ret
   exact ⟨rfl,G.out⟩
 | false =>
   rw [hn] at HC
   go_enter Tryz.func40,Tryz.ntmps40
   go_wp2_with (go_at_call 85;refine HC.out.mono ?_;rintro e w1 ⟨rfl,g⟩;have G:=Qo0 g;clear g;(try dsimp only))
   go_ret
   exact ⟨rfl,G.out⟩
theorem Qlp {s : T} {k : Nat} (hk : k < s.length) (h1 : s[k] = 47) (h2 : ∀ c ∈ s.drop (k + 1),(c != 47) = true) : Qaz s = s.drop (k + 1):=by
 have e : s = s.take k ++ 47 :: s.drop (k + 1):=by
  rw [← h1,← List.drop_eq_getElem_cons hk,List.take_append_drop]
 unfold Qaz
 have h3 : s.reverse = (s.drop (k + 1)).reverse ++ 47 :: (s.take k).reverse:=by
  conv => lhs;rw [e]
  simp
 rw [h3,List.takeWhile_append_of_pos (fun c hc => h2 c (by simpa using hc))]
 simp
theorem Qlo {s : T} (h2 : ∀ c ∈ s,(c != 47) = true) : Qaz s = s:=by
 unfold Qaz
 have h3:=List.takeWhile_append_of_pos (p:=fun c : UInt8 => c != 47) (l₁:=s.reverse) (l₂:=[]) (fun c hc => h2 c (by simpa using hc))
 simp only [List.append_nil,List.takeWhile_nil] at h3
 rw [h3,List.reverse_reverse]
def intOf : Value → Int | .int _ n => n | _ => 0
set_option maxRecDepth 100000 in
set_option maxHeartbeats 2000000 in
theorem Qg6 (s : T) (w : World) (hs : sOk s) : Calls Tryz.prog 211 #[tv s,.int .u8 47] w fun e w' => (∃ m : Nat,e = .returned (iv ((m : Int) - 1)) ∧ Hid (m ≤ s.length ∧ Qaz s = s.drop m)) ∧ w' = w:=by
 go_enter Tryz.func211,Tryz.ntmps211
 go_wp2
 go_loop [5] (fun i => ∃ k : Nat,k ≤ s.length ∧ i = iv ((k : Int) - 1) ∧ Hid (∀ c ∈ s.drop k,(c != 47) = true)) (fun i => (intOf i + 1).toNat)
 case atStart => exact ⟨s.length,Nat.le_refl _,rfl,Qo0 (by simp)⟩
 case round =>
  obtain ⟨k,hk,rfl,HA⟩:=hrel
  cases k with
  | zero =>
    have HC:=Qo0 (Qlo (by simpa using HA.out))
    clear HA
    go_wp2
    go_ret
    exact ⟨⟨0,rfl,Qo0 ⟨by omega,by rw [HC.out];rfl⟩⟩,rfl⟩
  | succ k =>
    have hlt : k < s.length:=hk
    have e1 : (((k + 1 : Nat) : Int) - 1) = (k : Int):=by omega
    rw [e1]
    obtain ⟨d,hd⟩ : ∃ d,({ data:=s.toArray } : ByteArray)[k]'hlt = d:=⟨_,rfl⟩
    have HD : Hid (s[k] = d):=Qo0 hd
    clear e1
    by_cases h47 : d = 47
    ·have HC:=Qo0 (Qlp hlt (HD.out.trans h47) HA.out)
     have t7 : ((d.toNat : Int) == 47) = true:=by subst h47;rfl
     clear HA h47
     go_wp2
     go_ret
     exact ⟨⟨k + 1,by simp,Qo0 ⟨hk,HC.out⟩⟩,rfl⟩
    ·have t7 : ((d.toNat : Int) == 47) = false:=by
      simp
      intro e
      have e' : d.toNat = 47:=by omega
      exact h47 (UInt8.toNat_inj.1 e')
     have HN : Hid (∀ c ∈ s.drop k,(c != 47) = true):=Qo0 (by
      intro c hc
      rw [List.drop_eq_getElem_cons hlt,List.mem_cons] at hc
      rcases hc with rfl | hc
      ·rw [HD.out];simpa using h47
      ·exact HA.out c hc)
     clear HA h47
     go_wp2
     go_round
     case rel => exact ⟨k,by omega,by go_num,HN⟩
     case measure => simp [intOf]
set_option maxRecDepth 100000 in
theorem Qft (s : T) (w : World) (hs : sOk s) : Calls Tryz.prog 181 #[tv s,.int .u8 47] w fun e w' => (∃ m : Nat,e = .returned (iv ((m : Int) - 1)) ∧ Hid (m ≤ s.length ∧ Qaz s = s.drop m)) ∧ w' = w:=by
 have HC:=Qo0 (Qg6 s w hs)
 go_enter Tryz.func181,Tryz.ntmps181
 go_wp2_with (go_at_call 211;refine HC.out.mono ?_;rintro e w1 ⟨⟨m,rfl,HM⟩,rfl⟩)
 go_ret
 exact ⟨⟨m,rfl,HM⟩,rfl⟩
set_option maxRecDepth 100000 in
theorem Qe9 (s : T) (w : World) (hs : sOk s) : Calls Tryz.prog 133 #[tv s] w fun e w' => e = .returned (tv (Q9 s)) ∧ Gr w w':=by
 have LA:=Qo0 (Qbb s w hs)
 have LB:=Qo0 (fun V => Qft s V hs)
 unfold Q9
 cases hl : lab s with
 | false =>
   rw [hl] at LA
   go_enter Tryz.func133,Tryz.ntmps133
   go_wp2_with (go_at_call 81;refine LA.out.mono ?_;rintro e w1 ⟨rfl,g⟩;have G:=Qo0 (Q2 g);clear g)
   go_ret
   exact ⟨rfl,G.out⟩
 | true =>
   rw [hl] at LA
   have hs' : s.length ≤ 9223372036854775807:=hs
   go_enter Tryz.func133,Tryz.ntmps133
   go_wp2_with (first
    | (go_at_call 81;refine LA.out.mono ?_;rintro e w1 ⟨rfl,g⟩;have G:=Qo0 (Q2 g);clear g)
    | (go_at_call 181;refine (LB.out _).mono ?_;rintro e w2 ⟨⟨m,rfl,HM⟩,rfl⟩;have hm:=HM.out.1;have e0 : (m : Int) - 1 + 1 = m:=(by omega)))
   go_ret
   refine ⟨?_,G.out⟩
   show Ending.returned (.string _) = _
   rw [Qhi,HM.out.2]
theorem Qhs {ns : List T} (h : ns.length = 1 ∨ ns.length = 3) {k : Nat} (hk : k < ns.length) (h1 : nmB ns[k] = false) (h2 : ns.length = 1 ∨ ns[k] ≠ []) : Qak ns = 6:=by
 unfold Qak
 rw [if_neg (by omega),if_pos]
 rw [List.any_eq_true]
 exact ⟨ns[k],List.getElem_mem hk,by simp [h1];exact h2⟩
theorem Qkn {ns : List T} (h : ns.length = 1 ∨ ns.length = 3) (h1 : ∀ s ∈ ns,nmB s = true ∨ (ns.length ≠ 1 ∧ s = [])) : Qak ns = 0:=by
 unfold Qak
 rw [if_neg (by omega),if_neg]
 rw [List.any_eq_true]
 rintro ⟨s,hs,h2⟩
 rcases h1 s hs with h3 | ⟨h3,rfl⟩
 ·simp [h3] at h2
 ·simp [h3] at h2
set_option maxRecDepth 100000 in
set_option maxHeartbeats 4000000 in
theorem Qc9 (A : Option Addr) (c : Nat) (ns : List T) (w : World) (hr : SRd w A c ns) : Calls Tryz.prog 134 #[.slice A ns.length c] w fun e w' => e = .returned (iv (Qak ns)) ∧ Gr w w':=by
 have HR:=Qo0 (fun V (g : Gr w V) => hr.gr g)
 have hl : ns.length ≤ 9223372036854775807:=Nat.le_trans hr.rw.hc hr.rw.hm
 obtain ⟨n,hn⟩ : ∃ n,ns.length = n:=⟨_,rfl⟩
 have HN:=Qo0 hn
 rw [hn] at hl ⊢
 clear hr hn
 by_cases h13 : n = 1 ∨ n = 3
 ·rcases h13 with rfl | rfl
  ·obtain ⟨a,a1,e0,e1,hb,c0,ok⟩:=(HR.out w (Qc _)).at (k:=0) (by rw [HN.out];omega)
   subst e0
   have h0 : 0 < ns.length:=by rw [HN.out];omega
   have IN:=Qo0 (fun V => Qbu ns[0] V ok)
   have c0':=Qo0 (fun V (g : Gr w V) => Ze g c0)
   obtain ⟨s0,hs0⟩ : ∃ s,ns = [s]:=X2 HN.out
   subst hs0
   simp only [List.getElem_cons_zero] at c0 IN c0'
   have ea : a = a1:=e1
   subst ea
   obtain ⟨b,hbn⟩ : ∃ b,nmB s0 = b:=⟨_,rfl⟩
   rw [hbn] at IN
   cases b with
   | false =>
     have e : Qak [s0] = 6:=Qhs (.inl rfl) (k:=0) (by simp) hbn (.inl rfl)
     rw [e]
     clear e hbn
     go_enter Tryz.func134,Tryz.ntmps134
     go_wp2
     go_loopw [15] (fun i V => i = iv 0 ∧ V = w) (fun _ _ => 0)
     case atStart => exact ⟨rfl,rfl⟩
     case round =>
      obtain ⟨rfl,rfl⟩:=hrel
      go_wp2_with (go_at_call 40;refine (IN.out _).mono ?_;rintro e w1 ⟨rfl,g⟩;have G:=Qo0 g;clear g;(try dsimp only))
      go_ret
      exact ⟨rfl,G.out⟩
   | true =>
     have e : Qak [s0] = 0:=Qkn (.inl rfl) (fun s hs => by rw [List.mem_singleton.1 hs];exact .inl hbn)
     rw [e]
     clear e hbn
     go_enter Tryz.func134,Tryz.ntmps134
     go_wp2
     go_loopw [15] (fun i V => (i = iv 0 ∧ V = w) ∨ (i = iv 1 ∧ Gr w V)) (fun i _ => (1 - intOf i).toNat)
     case atStart => exact .inl ⟨rfl,rfl⟩
     case round =>
      rcases hrel with ⟨rfl,rfl⟩ | ⟨rfl,g0⟩
      ·go_wp2_with (go_at_call 40;refine (IN.out _).mono ?_;rintro e w1 ⟨rfl,g⟩;have G:=Qo0 g;clear g;(try dsimp only))
       exact ⟨.inr ⟨rfl,G.out⟩,by decide⟩
      ·have G:=Qo0 g0
       clear g0 c0
       go_wp2
       go_ret
       exact ⟨rfl,G.out⟩
  ·go_enter Tryz.func134,Tryz.ntmps134
   go_wp2
   go_loopw [15] (fun i V => ∃ k : Nat,k ≤ 3 ∧ i = iv k ∧ Hid (Gr w V ∧ ∀ s ∈ ns.take k,nmB s = true ∨ (ns.length ≠ 1 ∧ s = []))) (fun i _ => (3 - intOf i).toNat)
   case atStart => exact ⟨0,by omega,rfl,Qo0 ⟨Qc _,by simp⟩⟩
   case round =>
    obtain ⟨k,hk,rfl,HG⟩:=hrel
    by_cases hlt : k < 3
    ·obtain ⟨a,a1,rfl,e1,hb,c0,ok⟩:=(HR.out wr HG.out.1).at (k:=k) (by rw [HN.out];exact hlt)
     have hkl : k < ns.length:=by rw [HN.out];exact hlt
     have IN:=Qo0 (fun V => Qbu ns[k] V ok)
     have NX : nmB ns[k] = true ∨ (ns.length ≠ 1 ∧ ns[k] = []) → ∀ s ∈ ns.take (k + 1),nmB s = true ∨ (ns.length ≠ 1 ∧ s = []):=by
      intro h s hs
      rw [List.take_succ_eq_append_getElem hkl,List.mem_append,List.mem_singleton] at hs
      rcases hs with hs | rfl
      ·exact HG.out.2 s hs
      ·exact h
     have NX:=Qo0 NX
     have BD:=Qo0 (fun h1 h2 => Qhs (ns:=ns) (.inr HN.out) hkl h1 h2)
     have N1:=Qo0 (show ns.length ≠ 1 by rw [HN.out];omega)
     have GV:=Qo0 HG.out.1
     have tk : (k : Int) < 3:=by omega
     clear HG ok hb
     generalize ns[k] = s at *
     clear hkl
     obtain ⟨b,hbn⟩ : ∃ b,nmB s = b:=⟨_,rfl⟩
     rw [hbn] at IN NX BD
     clear hbn
     cases b with
     | true =>
       go_wp2_with (go_at_call 40;refine (IN.out _).mono ?_;rintro e w1 ⟨rfl,g⟩;have G:=Qo0 g;clear g;(try dsimp only))
       exact ⟨⟨k + 1,by omega,by simp,Qo0 ⟨GV.out.trans G.out,NX.out (.inl rfl)⟩⟩,by simp [intOf];omega⟩
     | false =>
       by_cases hs : s = []
       ·subst hs
        go_wp2_with (go_at_call 40;refine (IN.out _).mono ?_;rintro e w1 ⟨rfl,g⟩;have G:=Qo0 g;clear g;(try dsimp only))
        exact ⟨⟨k + 1,by omega,by simp,Qo0 ⟨GV.out.trans G.out,NX.out (.inr ⟨N1.out,rfl⟩)⟩⟩,by simp [intOf];omega⟩
       ·have BE:=Qo0 (BD.out rfl (.inr hs))
        clear BD
        have qe : s.isEmpty = false:=by simp [hs]
        go_wp2_with (go_at_call 40;refine (IN.out _).mono ?_;rintro e w1 ⟨rfl,g⟩;have G:=Qo0 g;clear g;(try dsimp only))
        go_ret
        exact ⟨by rw [BE.out];rfl,GV.out.trans G.out⟩
    ·obtain rfl : k = 3:=by omega
     have e : Qak ns = 0:=Qkn (.inr HN.out) (by have h:=HG.out.2;rwa [show 3 = ns.length from HN.out.symm,List.take_length] at h)
     have GV:=Qo0 HG.out.1
     have E0:=Qo0 e
     clear HG e
     go_wp2
     go_ret
     exact ⟨by rw [E0.out];rfl,GV.out⟩
 ·have e : Qak ns = 1:=by unfold Qak;rw [if_pos (by rw [HN.out];omega)]
  have q1 : ¬ (n : Int) = 1:=by omega
  have q3 : ¬ (n : Int) = 3:=by omega
  have p1 : ((n : Int) != 1) = true:=by simp;omega
  have p3 : ((n : Int) != 3) = true:=by simp;omega
  rw [e]
  clear h13
  go_enter Tryz.func134,Tryz.ntmps134
  go_wp2
  go_ret
  exact ⟨rfl,Qc _⟩
end Go.Proofs.YtiaenhlflgobfaaGreatDoor

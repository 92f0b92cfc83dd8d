/- Words. -/
import Derived.Test.YtiaenhlflgobfaaGreatDoorTb5
import Derived.Test.YtiaenhlflgobfaaGreatDoorTb15
namespace Go.Proofs.YtiaenhlflgobfaaGreatDoor
open Go.RowKit
theorem gr_own {w0 V V' : World} {v : Value} {base : Nat} {α : Type} {e : TypeId} {n : Nat} {cs : α → List Value} {L : List α} (g : Gr w0 V) (ho : OR e n cs V base v L) (hb : w0.heap.size ≤ base) (h : V.grownBy V' v.ownBlock) : Gr w0 V':=ho.grow g hb h
attribute [local irreducible] Calls in
set_option maxRecDepth 100000 in
set_option maxHeartbeats 4000000 in
theorem Qaj (Ad : Option Addr) (cp : Nat) (L : List T) (w : World) (hL : RD 1 scs w Ad L) (hl : L.length ≤ 100000) :
 Calls Tryz.prog 26 #[.slice Ad L.length cp] w fun e w' => ∃ v',e = .returned v' ∧ OR 9 1 scs w' w.heap.size v' L ∧ Gr w w':=by
 obtain ⟨n,hn⟩ : ∃ n,L.length = n:=⟨_,rfl⟩
 have HN:=Qo0 hn
 have q22 : ∀ (w : World) (a : Option Addr) (n c n' c' : Nat),(binOp .eql 37 (.slice a n c) (.slice none n' c')).run Tryz.prog w = .ok (.bool a.isNone) w:=fun w a n c n' c' => Lib.run_eql_slice_nil w _ _ a n c n' c' Tryz.underlying37
 cases Ad with
 | none =>
   have hnil : L = []:=by
    rcases hL with h | ⟨a,e,_⟩
    ·exact h
    ·cases e
   subst hnil
   clear HN hn
   go_enter Tryz.func26,Tryz.ntmps26
   go_wp2
   go_ret
   exact ⟨_,rfl,OR.nil,Qc _⟩
 | some a =>
   rw [hn] at hl ⊢
   have HL:=Qo0 (hL.gr (Qa w (.cells #[] 9)))
   have HO:=Qo0 (show OR 9 1 scs (w.alloc (.cells #[] 9)) w.heap.size (.slice (some ⟨w.heap.size,0,none⟩) 0 0) ([] : List T) from Qjz (Qd w _) (Nat.le_refl _))
   have G1:=Qo0 (Qa w (.cells #[] 9))
   clear hL hn
   go_enter Tryz.func26,Tryz.ntmps26
   go_wp2_with (first | (at_builtin;refine Qf elS rfl (.tmp 5) (.tmp 6) rfl w.heap.size (v:=.slice (some ⟨w.heap.size,0,none⟩) 0 0) rfl HO.out (A:=some a) (M:=L) (m:=n) (c:=cp) HN.out rfl HL.out (by have:=HN.out;simp;omega) (by simp) ?_;intro v7 w7 o7 g7 b7;have O7:=Qo0 o7;have G7:=Qo0 g7;clear o7 g7 b7))
   go_wp2
   go_ret
   exact ⟨_,rfl,O7.out,gr_own G1.out HO.out (Nat.le_refl _) G7.out⟩
attribute [local irreducible] Calls in
set_option maxRecDepth 100000 in
set_option maxHeartbeats 4000000 in
theorem Qi7 (Ad : Option Addr) (cp : Nat) (L : List Dec) (w : World) (hL : RD 11 Dec.cs w Ad L) (hl : L.length ≤ 100000) :
 Calls Tryz.prog 27 #[.slice Ad L.length cp] w fun e w' => ∃ v',e = .returned v' ∧ OR 45 11 Dec.cs w' w.heap.size v' L ∧ Gr w w':=by
 obtain ⟨n,hn⟩ : ∃ n,L.length = n:=⟨_,rfl⟩
 have HN:=Qo0 hn
 have q22 : ∀ (w : World) (a : Option Addr) (n c n' c' : Nat),(binOp .eql 30 (.slice a n c) (.slice none n' c')).run Tryz.prog w = .ok (.bool a.isNone) w:=fun w a n c n' c' => Lib.run_eql_slice_nil w _ _ a n c n' c' Tryz.underlying30
 cases Ad with
 | none =>
   have hnil : L = []:=by
    rcases hL with h | ⟨a,e,_⟩
    ·exact h
    ·cases e
   subst hnil
   clear HN hn
   go_enter Tryz.func27,Tryz.ntmps27
   go_wp2
   go_ret
   exact ⟨_,rfl,OR.nil,Qc _⟩
 | some a =>
   rw [hn] at hl ⊢
   have HL:=Qo0 (hL.gr (Qa w (.cells #[] 45)))
   have HO:=Qo0 (show OR 45 11 Dec.cs (w.alloc (.cells #[] 45)) w.heap.size (.slice (some ⟨w.heap.size,0,none⟩) 0 0) ([] : List Dec) from Qjz (Qd w _) (Nat.le_refl _))
   have G1:=Qo0 (Qa w (.cells #[] 45))
   clear hL hn
   go_enter Tryz.func27,Tryz.ntmps27
   go_wp2_with (first | (at_builtin;refine Qf elD rfl (.tmp 5) (.tmp 6) rfl w.heap.size (v:=.slice (some ⟨w.heap.size,0,none⟩) 0 0) rfl HO.out (A:=some a) (M:=L) (m:=n) (c:=cp) HN.out rfl HL.out (by have:=HN.out;simp;omega) (by simp) ?_;intro v7 w7 o7 g7 b7;have O7:=Qo0 o7;have G7:=Qo0 g7;clear o7 g7 b7))
   go_wp2
   go_ret
   exact ⟨_,rfl,O7.out,gr_own G1.out HO.out (Nat.le_refl _) G7.out⟩
theorem Qfo {L : List T} {x : T} {k : Nat} (hk : k < L.length) (h : ¬ x ∈ L.take k) (h2 : ¬ L[k] = x) : ¬ x ∈ L.take (k + 1):=by
 rw [List.take_succ_eq_append_getElem hk,List.mem_append]
 rintro (h3 | h3)
 ·exact h h3
 ·simp at h3;exact h2 h3.symm
set_option maxRecDepth 100000 in
set_option maxHeartbeats 4000000 in
theorem Qij (B : Option Addr) (c : Nat) (L : List T) (x : T) (w : World) (hr : RD 1 scs w B L) (hl : L.length ≤ 1000000) : Calls Tryz.prog 94 #[.slice B L.length c,tv x] w fun e w' => (∃ r : Int,e = .returned (iv r) ∧ Hid (0 ≤ r ↔ x ∈ L)) ∧ w' = w:=by
 have HR:=Qo0 hr
 clear hr
 go_enter Tryz.func94,Tryz.ntmps94
 go_wp2
 go_loopw [5,8] (fun _ i V => ∃ k : Nat,k ≤ L.length ∧ i = iv k ∧ Hid (V = w ∧ ¬ x ∈ L.take k)) (fun _ i _ => L.length - (intOf i).toNat)
 case atStart => exact ⟨0,Nat.zero_le _,rfl,Qo0 ⟨rfl,by simp⟩⟩
 case round =>
  obtain ⟨k,hk,rfl,HG⟩:=hrel
  obtain rfl:=HG.out.1
  by_cases hlt : k < L.length
  ·obtain ⟨a,a1,rfl,e1,hab,c0⟩ : ∃ a a1 : Addr,B = some a ∧ a.add k = a1 ∧ a1.block < wr.heap.size ∧ wr.cell? a1 = some (tv L[k]):=by
    obtain ⟨a,e,hb,hc⟩:=HR.out.at hlt
    exact ⟨a,_,e,rfl,by rw [add_block];exact hb,by simpa using hc 0 _ rfl⟩
   have HM:=Qo0 (List.getElem_mem hlt)
   have HN:=Qo0 (fun h => Qfo hlt HG.out.2 h)
   generalize L[k] = z at *
   by_cases hz : x = z
   ·subst hz
    go_wp2
    go_ret
    exact ⟨⟨k,rfl,Qo0 ⟨fun _ => HM.out,fun _ => by omega⟩⟩,rfl⟩
   ·have HZ:=Qo0 hz
    have hz' : (x == z) = false:=by simpa using hz
    clear hz
    go_wp2
    exact ⟨⟨k + 1,by omega,by simp,Qo0 ⟨trivial,HN.out fun h => HZ.out h.symm⟩⟩,by simp [intOf];omega⟩
  ·obtain rfl : L.length = k:=by omega
   have h2:=HG.out.2
   rw [List.take_length] at h2
   have H2:=Qo0 h2
   clear h2
   go_wp2
   go_ret
   exact ⟨⟨-1,rfl,Qo0 ⟨fun h => absurd h (by decide),fun h => absurd h H2.out⟩⟩,rfl⟩
set_option maxRecDepth 100000 in
theorem Qbn (B : Option Addr) (c : Nat) (L : List T) (x : T) (w : World) (hr : RD 1 scs w B L) (hl : L.length ≤ 1000000) : Calls Tryz.prog 50 #[.slice B L.length c,tv x] w fun e w' => e = .returned (.bool (L.contains x)) ∧ w' = w:=by
 have IX:=Qo0 (Qij B c L x w hr hl)
 clear hr
 go_enter Tryz.func50,Tryz.ntmps50
 go_wp2_with (go_at_call 94;refine IX.out.mono ?_;rintro e w1 ⟨⟨r,rfl,HR⟩,rfl⟩)
 go_ret
 exact ⟨by rw [List.contains_eq_mem,show decide (x ∈ L) = decide (0 ≤ r) from decide_eq_decide.2 HR.out.symm];rfl,rfl⟩
end Go.Proofs.YtiaenhlflgobfaaGreatDoor

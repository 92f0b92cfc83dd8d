/- Walks and words: Srp, Sra. -/
import Derived.Test.YtiaenhlflgobfaaGreatDoorTb1
import Derived.Test.YtiaenhlflgobfaaGreatDoorTb2
import Derived.Lib.Bytealg
namespace Go.Proofs.YtiaenhlflgobfaaGreatDoor
section
variable {α κ : Type} [LT κ] [DecidableRel (fun a b : κ => a < b)] [Ord κ] {key : α → κ}
theorem Qfk {l : List α} {p : κ} (h : Asc key l) {j : Nat} {x : α} (hx : l[j]? = some x) : key x < p ↔ j < pos key l p:=by
 obtain ⟨pre,post,e0,e,h1,h2⟩:=Qe8 l p h
 rw [← e]
 rw [e0] at hx
 by_cases hj : j < pre.length
 ·rw [List.getElem?_append_left hj] at hx
  exact ⟨fun _ => hj,fun _ => h1 x (List.mem_of_getElem? hx)⟩
 ·rw [List.getElem?_append_right (by omega)] at hx
  exact ⟨fun hk => absurd hk (h2 x (List.mem_of_getElem? hx)),fun hk => absurd hk hj⟩
end
section
variable {α κ : Type} [LT κ] [DecidableRel (fun a b : κ => a < b)] {key : α → κ}
theorem Qj7 [DecidableEq κ] {l : List α} {p : κ} {x : α} (hx : l[pos key l p]? = some x) : Zd key l p = decide (key x = p):=by
 unfold Zd;rw [hx]
theorem hasK_no [DecidableEq κ] {l : List α} {p : κ} (hx : l.length ≤ pos key l p) : Zd key l p = false:=by
 unfold Zd;rw [List.getElem?_eq_none hx]
end
theorem cb_lt (a b : T) : Lib.compareBytes a b < 0 ↔ a < b:=by
 induction a generalizing b with
 | nil => cases b <;> simp [Lib.compareBytes]
 | cons x a ih => cases b with
   | nil => simp [Lib.compareBytes]
   | cons y b =>
     unfold Lib.compareBytes
     rw [List.cons_lt_cons_iff]
     by_cases h : x < y
     ·simp [h]
     ·by_cases k : y < x
      ·have hn : x ≠ y:=fun e => h (by rw [e] at k;exact absurd k (UInt8.lt_irrefl y))
       simp [h,k,hn]
      ·have he : x = y:=UInt8.le_antisymm (UInt8.not_lt.1 k) (UInt8.not_lt.1 h)
       rw [if_neg h,if_neg k,ih b]
       simp [he,UInt8.lt_irrefl]
theorem cb_eq (a b : T) : Lib.compareBytes a b = 0 ↔ a = b:=by
 induction a generalizing b with
 | nil => cases b <;> simp [Lib.compareBytes]
 | cons x a ih => cases b with
   | nil => simp [Lib.compareBytes]
   | cons y b =>
     unfold Lib.compareBytes
     by_cases h : x < y
     ·have hn : x ≠ y:=fun e => by rw [e] at h;exact absurd h (UInt8.lt_irrefl y)
      simp [h,hn]
     ·by_cases k : y < x
      ·have hn : x ≠ y:=fun e => by rw [e] at k;exact absurd k (UInt8.lt_irrefl y)
       simp [h,k,hn]
      ·have he : x = y:=UInt8.le_antisymm (UInt8.not_lt.1 k) (UInt8.not_lt.1 h)
       rw [if_neg h,if_neg k,ih b]
       simp [he]
end Go.Proofs.YtiaenhlflgobfaaGreatDoor
namespace Go.Proofs.YtiaenhlflgobfaaGreatDoor
open Go.RowKit
theorem rdM {w : World} {A : Option Addr} {L : List Mod} (h : RD 3 Mod.cs w A L) {k : Nat} {x : Mod} (hx : L[k]? = some x) : ∃ a a1 : Addr,A = some a ∧ a.add (k * 3) = a1 ∧ a1.block < w.heap.size ∧ w.cell? a1 = some (tv x.label) ∧ w.cell? ⟨a1.block,a1.off + 1,none⟩ = some (.slice x.uA x.uses.length x.uc) ∧ w.cell? ⟨a1.block,a1.off + 2,none⟩ = some (.slice x.dA x.decls.length x.dc):=by
 obtain ⟨hk,rfl⟩:=List.getElem?_eq_some_iff.1 hx
 obtain ⟨a,e,hb,hc⟩:=h.at hk
 refine ⟨a,_,e,rfl,by rw [add_block];exact hb,by simpa using hc 0 _ rfl,?_,?_⟩
 ·rw [← Qh _ 1 (by omega),add_add'];exact hc 1 _ rfl
 ·rw [← Qh _ 2 (by omega),add_add'];exact hc 2 _ rfl
theorem rdD {w : World} {A : Option Addr} {L : List Dec} (h : RD 11 Dec.cs w A L) {k : Nat} {x : Dec} (hx : L[k]? = some x) : ∃ a a1 : Addr,A = some a ∧ a.add (k * 11) = a1 ∧ a1.block < w.heap.size ∧ w.cell? a1 = some (iv x.id) ∧ w.cell? ⟨a1.block,a1.off + 1,none⟩ = some (iv x.kind) ∧ w.cell? ⟨a1.block,a1.off + 2,none⟩ = some (.bool x.pub) ∧ w.cell? ⟨a1.block,a1.off + 3,none⟩ = some (.slice x.nA x.names.length x.nc) ∧ w.cell? ⟨a1.block,a1.off + 4,none⟩ = some (.bool x.doubt) ∧ w.cell? ⟨a1.block,a1.off + 5,none⟩ = some (iv x.body.kind) ∧ w.cell? ⟨a1.block,a1.off + 6,none⟩ = some (tv x.body.name) ∧ w.cell? ⟨a1.block,a1.off + 7,none⟩ = some (tv x.body.more) ∧ w.cell? ⟨a1.block,a1.off + 8,none⟩ = some (iv x.body.int) ∧ w.cell? ⟨a1.block,a1.off + 9,none⟩ = some (iv x.body.den) ∧ w.cell? ⟨a1.block,a1.off + 10,none⟩ = some (.slice x.body.A x.body.sub.length x.body.c):=by
 obtain ⟨hk,rfl⟩:=List.getElem?_eq_some_iff.1 hx
 obtain ⟨a,e,hb,hc⟩:=h.at hk
 refine ⟨a,_,e,rfl,by rw [add_block];exact hb,by simpa using hc 0 _ rfl,?_,?_,?_,?_,?_,?_,?_,?_,?_,?_⟩
 ·rw [← Qh _ 1 (by omega),add_add'];exact hc 1 _ rfl
 ·rw [← Qh _ 2 (by omega),add_add'];exact hc 2 _ rfl
 ·rw [← Qh _ 3 (by omega),add_add'];exact hc 3 _ rfl
 ·rw [← Qh _ 4 (by omega),add_add'];exact hc 4 _ rfl
 ·rw [← Qh _ 5 (by omega),add_add'];exact hc 5 _ rfl
 ·rw [← Qh _ 6 (by omega),add_add'];exact hc 6 _ rfl
 ·rw [← Qh _ 7 (by omega),add_add'];exact hc 7 _ rfl
 ·rw [← Qh _ 8 (by omega),add_add'];exact hc 8 _ rfl
 ·rw [← Qh _ 9 (by omega),add_add'];exact hc 9 _ rfl
 ·rw [← Qh _ 10 (by omega),add_add'];exact hc 10 _ rfl
theorem rdS {w : World} {A : Option Addr} {L : List T} (h : RD 1 scs w A L) {k : Nat} {x : T} (hx : L[k]? = some x) : ∃ a a1 : Addr,A = some a ∧ a.add k = a1 ∧ a1.block < w.heap.size ∧ w.cell? a1 = some (tv x):=by
 obtain ⟨hk,rfl⟩:=List.getElem?_eq_some_iff.1 hx
 obtain ⟨a,e,hb,hc⟩:=h.at hk
 exact ⟨a,_,e,rfl,by rw [add_block];exact hb,by simpa using hc 0 _ rfl⟩
set_option maxRecDepth 100000 in
set_option maxHeartbeats 4000000 in
theorem cmp148 (a b : T) (w : World) : Calls Tryz.prog 148 #[tv a,tv b] w fun e w' => e = .returned (iv (Lib.compareBytes a b)) ∧ w' = w:=by
 go_enter Tryz.func148,Tryz.ntmps148
 go_wp2
 rw [run_callFunc_extern Tryz.func194 (by kernel_rfl) (by kernel_rfl) (by kernel_rfl) (e:=Extern.BytealgCompare.compare) (by kernel_rfl),Lib.run_compareString]
 simp only [Result.andThen]
 rw [Oper.upon_value]
 go_wp2
 go_ret
 exact ⟨rfl,rfl⟩
set_option maxRecDepth 100000 in
set_option maxHeartbeats 4000000 in
theorem cmp111 (a b : T) (w : World) : Calls Tryz.prog 111 #[tv a,tv b] w fun e w' => e = .returned (iv (Lib.compareBytes a b)) ∧ w' = w:=by
 go_enter Tryz.func111,Tryz.ntmps111
 go_wp2_with (go_at_call 148;(with_reducible refine (cmp148 _ _ _).mono ?_);rintro e w6 ⟨rfl,rfl⟩)
 go_ret
 exact ⟨rfl,rfl⟩
set_option maxRecDepth 100000 in
set_option maxHeartbeats 4000000 in
theorem cmp110 (m : Mod) (p : T) (w : World) : Calls Tryz.prog 110 #[m.v,tv p] w fun e w' => e = .returned (iv (Lib.compareBytes m.label p)) ∧ Gr w w':=by
 obtain ⟨z,hz⟩ : ∃ z,Lib.compareBytes m.label p = z:=⟨_,rfl⟩
 have C:=Qo0 (fun V => cmp111 m.label p V)
 rw [hz] at C ⊢
 clear hz
 unfold Mod.v
 go_enter Tryz.func110,Tryz.ntmps110
 go_wp2_with (go_at_call 111;(with_reducible refine (C.out _).mono ?_);rintro e w6 ⟨rfl,rfl⟩)
 go_ret
 exact ⟨rfl,Qa _ _⟩
set_option maxRecDepth 100000 in
set_option maxHeartbeats 4000000 in
theorem cmp103 (d : Dec) (p : Int) (w : World) : Calls Tryz.prog 103 #[d.v,iv p] w fun e w' => e = .returned (iv (IntKind.i64.wrap (d.id - p))) ∧ Gr w w':=by
 obtain ⟨z,hz⟩ : ∃ z,IntKind.i64.wrap (d.id - p) = z:=⟨_,rfl⟩
 have EZ:=Qo0 hz
 rw [hz]
 unfold Dec.v
 go_enter Tryz.func103,Tryz.ntmps103
 go_wp2
 go_ret
 exact ⟨rfl,Qa _ _⟩
set_option maxRecDepth 100000 in
set_option maxHeartbeats 4000000 in
attribute [local irreducible] Calls in
theorem bsfM (A : Option Addr) (c : Nat) (L : List Mod) (p : T) (P : Nat) (f : Mod → Int) (w : World) (hL : RD 3 Mod.cs w A L) (hl : L.length ≤ 1000000) (hP : P ≤ L.length) (hf : ∀ j x,L[j]? = some x → (f x < 0 ↔ j < P)) (hC : ∀ x V,x ∈ L → Calls Tryz.prog 110 #[x.v,tv p] V fun e w' => e = .returned (iv (f x)) ∧ Gr V w') :
 Calls Tryz.prog 109 #[.slice A L.length c,tv p,.func (.func 110) #[] #[]] w fun e w' => e = .returned (.tuple #[.int .i64 P,.bool (decide (∃ x,L[P]? = some x ∧ f x = 0))]) ∧ Gr w w':=by
 obtain ⟨q,hq⟩ : ∃ q,L.length = q:=⟨_,rfl⟩
 rw [hq] at hl hP
 rw [hq]
 have HN:=Qo0 hq
 have HL:=Qo0 (fun V (g : Gr w V) => hL.gr g)
 have HF:=Qo0 hf
 have HPL:=Qo0 hP
 obtain ⟨ok,hok⟩ : ∃ ok,decide (∃ x,L[P]? = some x ∧ f x = 0) = ok:=⟨_,rfl⟩
 have HOK:=Qo0 hok
 rw [hok]
 have CC:=Qo0 hC
 clear hq hL hf hok hC
 go_enter Tryz.func109,Tryz.ntmps109
 go_wp2
 go_loopw [9,10,11] (fun lo hi _ V => ∃ i j : Nat,i ≤ j ∧ j ≤ q ∧ lo = .int .i64 i ∧ hi = .int .i64 j ∧ Hid (Gr w V ∧ i ≤ P ∧ P ≤ j)) (fun lo hi _ _ => (intOf hi).toNat - (intOf lo).toNat)
 case atStart => exact ⟨0,q,Nat.zero_le _,Nat.le_refl _,rfl,rfl,Qo0 ⟨Qc _,Nat.zero_le _,HPL.out⟩⟩
 case round =>
  obtain ⟨i,j,hij,hj,rfl,rfl,HI⟩:=hrel
  by_cases hlt : i < j
  ·obtain ⟨x,hx⟩ : ∃ x,L[(i + j) / 2]? = some x:=⟨_,List.getElem?_eq_getElem (by rw [HN.out];omega)⟩
   obtain ⟨a,a1,rfl,ha,hab,d0,d1,d2⟩:=rdM (HL.out _ HI.out.1) hx
   have CM:=Qo0 (fun V => CC.out x V (List.mem_of_getElem? hx))
   have HZ:=Qo0 (HF.out _ x hx)
   obtain ⟨z,hz⟩ : ∃ z,f x = z:=⟨_,rfl⟩
   rw [hz] at HZ
   simp only [hz] at CM
   unfold Mod.v at CM
   have hlt2 : (i : Int) < j:=by omega
   clear hx hz
   by_cases hn : z < 0
   ·have HS:=Qo0 (HZ.out.1 hn)
    go_wp2_with (first | (go_at_call 110;(with_reducible refine (CM.out _).mono ?_);rintro e w6 ⟨rfl,g6⟩;have G6:=Qo0 g6;clear g6))
    exact ⟨⟨(i + j) / 2 + 1,j,by omega,hj,by simp,rfl,Qo0 ⟨HI.out.1.trans G6.out,by have:=HS.out;omega,HI.out.2.2⟩⟩,by simp [intOf];omega⟩
   ·have HS:=Qo0 (fun h => hn (HZ.out.2 h))
    go_wp2_with (first | (go_at_call 110;(with_reducible refine (CM.out _).mono ?_);rintro e w6 ⟨rfl,g6⟩;have G6:=Qo0 g6;clear g6))
    exact ⟨⟨i,(i + j) / 2,by omega,by omega,rfl,by simp,Qo0 ⟨HI.out.1.trans G6.out,HI.out.2.1,Nat.le_of_not_lt HS.out⟩⟩,by simp [intOf];omega⟩
  ·obtain rfl : i = j:=by omega
   obtain rfl : P = i:=by have:=HI.out.2;omega
   clear hlt hij
   by_cases hR : P < q
   ·obtain ⟨x,hx⟩ : ∃ x,L[P]? = some x:=⟨_,List.getElem?_eq_getElem (by rw [HN.out];exact hR)⟩
    obtain ⟨a,a1,rfl,ha,hab,d0,d1,d2⟩:=rdM (HL.out _ HI.out.1) hx
    have CM:=Qo0 (fun V => CC.out x V (List.mem_of_getElem? hx))
    obtain ⟨z,hz⟩ : ∃ z,f x = z:=⟨_,rfl⟩
    simp only [hz] at CM
    unfold Mod.v at CM
    have HZ:=Qo0 (show (∃ x,L[P]? = some x ∧ f x = 0) ↔ z = 0 from ⟨fun ⟨y,h1,h2⟩ => by rw [hx] at h1;cases h1;rw [← hz];exact h2,fun h => ⟨x,hx,hz.trans h⟩⟩)
    clear hx hz
    by_cases hz0 : z = 0
    ·obtain rfl : true = ok:=by rw [← HOK.out];exact (decide_eq_true (HZ.out.2 hz0)).symm
     subst hz0
     go_wp2_with (first | (go_at_call 110;(with_reducible refine (CM.out _).mono ?_);rintro e w6 ⟨rfl,g6⟩;have G6:=Qo0 g6;clear g6;(try dsimp only)))
     go_ret2
     exact ⟨rfl,HI.out.1.trans G6.out⟩
    ·obtain rfl : false = ok:=by rw [← HOK.out];exact (decide_eq_false fun h => hz0 (HZ.out.1 h)).symm
     have hb : (z == 0) = false:=by simpa using hz0
     go_wp2_with (first | (go_at_call 110;(with_reducible refine (CM.out _).mono ?_);rintro e w6 ⟨rfl,g6⟩;have G6:=Qo0 g6;clear g6;(try dsimp only)))
     go_ret2
     exact ⟨rfl,HI.out.1.trans G6.out⟩
   ·obtain rfl : false = ok:=by
     rw [← HOK.out]
     refine (decide_eq_false ?_).symm
     rintro ⟨x,hx,-⟩
     rw [List.getElem?_eq_none (by rw [HN.out];omega)] at hx
     cases hx
    go_wp2
    go_ret2
    exact ⟨rfl,HI.out.1⟩
set_option maxRecDepth 100000 in
set_option maxHeartbeats 4000000 in
attribute [local irreducible] Calls in
theorem bsfD (A : Option Addr) (c : Nat) (L : List Dec) (p : Int) (P : Nat) (f : Dec → Int) (w : World) (hL : RD 11 Dec.cs w A L) (hl : L.length ≤ 1000000) (hP : P ≤ L.length) (hf : ∀ j x,L[j]? = some x → (f x < 0 ↔ j < P)) (hC : ∀ x V,x ∈ L → Calls Tryz.prog 103 #[x.v,iv p] V fun e w' => e = .returned (iv (f x)) ∧ Gr V w') :
 Calls Tryz.prog 102 #[.slice A L.length c,iv p,.func (.func 103) #[] #[]] w fun e w' => e = .returned (.tuple #[.int .i64 P,.bool (decide (∃ x,L[P]? = some x ∧ f x = 0))]) ∧ Gr w w':=by
 obtain ⟨q,hq⟩ : ∃ q,L.length = q:=⟨_,rfl⟩
 rw [hq] at hl hP
 rw [hq]
 have HN:=Qo0 hq
 have HL:=Qo0 (fun V (g : Gr w V) => hL.gr g)
 have HF:=Qo0 hf
 have HPL:=Qo0 hP
 obtain ⟨ok,hok⟩ : ∃ ok,decide (∃ x,L[P]? = some x ∧ f x = 0) = ok:=⟨_,rfl⟩
 have HOK:=Qo0 hok
 rw [hok]
 have CC:=Qo0 hC
 clear hq hL hf hok hC
 go_enter Tryz.func102,Tryz.ntmps102
 go_wp2
 go_loopw [9,10,11] (fun lo hi _ V => ∃ i j : Nat,i ≤ j ∧ j ≤ q ∧ lo = .int .i64 i ∧ hi = .int .i64 j ∧ Hid (Gr w V ∧ i ≤ P ∧ P ≤ j)) (fun lo hi _ _ => (intOf hi).toNat - (intOf lo).toNat)
 case atStart => exact ⟨0,q,Nat.zero_le _,Nat.le_refl _,rfl,rfl,Qo0 ⟨Qc _,Nat.zero_le _,HPL.out⟩⟩
 case round =>
  obtain ⟨i,j,hij,hj,rfl,rfl,HI⟩:=hrel
  by_cases hlt : i < j
  ·obtain ⟨x,hx⟩ : ∃ x,L[(i + j) / 2]? = some x:=⟨_,List.getElem?_eq_getElem (by rw [HN.out];omega)⟩
   obtain ⟨a,a1,rfl,ha,hab,d0,d1,d2,d3,d4,d5,d6,d7,d8,d9,d10⟩:=rdD (HL.out _ HI.out.1) hx
   have CM:=Qo0 (fun V => CC.out x V (List.mem_of_getElem? hx))
   have HZ:=Qo0 (HF.out _ x hx)
   obtain ⟨z,hz⟩ : ∃ z,f x = z:=⟨_,rfl⟩
   rw [hz] at HZ
   simp only [hz] at CM
   unfold Dec.v at CM
   have hlt2 : (i : Int) < j:=by omega
   clear hx hz
   by_cases hn : z < 0
   ·have HS:=Qo0 (HZ.out.1 hn)
    go_wp2_with (first | (go_at_call 103;(with_reducible refine (CM.out _).mono ?_);rintro e w6 ⟨rfl,g6⟩;have G6:=Qo0 g6;clear g6))
    exact ⟨⟨(i + j) / 2 + 1,j,by omega,hj,by simp,rfl,Qo0 ⟨HI.out.1.trans G6.out,by have:=HS.out;omega,HI.out.2.2⟩⟩,by simp [intOf];omega⟩
   ·have HS:=Qo0 (fun h => hn (HZ.out.2 h))
    go_wp2_with (first | (go_at_call 103;(with_reducible refine (CM.out _).mono ?_);rintro e w6 ⟨rfl,g6⟩;have G6:=Qo0 g6;clear g6))
    exact ⟨⟨i,(i + j) / 2,by omega,by omega,rfl,by simp,Qo0 ⟨HI.out.1.trans G6.out,HI.out.2.1,Nat.le_of_not_lt HS.out⟩⟩,by simp [intOf];omega⟩
  ·obtain rfl : i = j:=by omega
   obtain rfl : P = i:=by have:=HI.out.2;omega
   clear hlt hij
   by_cases hR : P < q
   ·obtain ⟨x,hx⟩ : ∃ x,L[P]? = some x:=⟨_,List.getElem?_eq_getElem (by rw [HN.out];exact hR)⟩
    obtain ⟨a,a1,rfl,ha,hab,d0,d1,d2,d3,d4,d5,d6,d7,d8,d9,d10⟩:=rdD (HL.out _ HI.out.1) hx
    have CM:=Qo0 (fun V => CC.out x V (List.mem_of_getElem? hx))
    obtain ⟨z,hz⟩ : ∃ z,f x = z:=⟨_,rfl⟩
    simp only [hz] at CM
    unfold Dec.v at CM
    have HZ:=Qo0 (show (∃ x,L[P]? = some x ∧ f x = 0) ↔ z = 0 from ⟨fun ⟨y,h1,h2⟩ => by rw [hx] at h1;cases h1;rw [← hz];exact h2,fun h => ⟨x,hx,hz.trans h⟩⟩)
    clear hx hz
    by_cases hz0 : z = 0
    ·obtain rfl : true = ok:=by rw [← HOK.out];exact (decide_eq_true (HZ.out.2 hz0)).symm
     subst hz0
     go_wp2_with (first | (go_at_call 103;(with_reducible refine (CM.out _).mono ?_);rintro e w6 ⟨rfl,g6⟩;have G6:=Qo0 g6;clear g6;(try dsimp only)))
     go_ret2
     exact ⟨rfl,HI.out.1.trans G6.out⟩
    ·obtain rfl : false = ok:=by rw [← HOK.out];exact (decide_eq_false fun h => hz0 (HZ.out.1 h)).symm
     have hb : (z == 0) = false:=by simpa using hz0
     go_wp2_with (first | (go_at_call 103;(with_reducible refine (CM.out _).mono ?_);rintro e w6 ⟨rfl,g6⟩;have G6:=Qo0 g6;clear g6;(try dsimp only)))
     go_ret2
     exact ⟨rfl,HI.out.1.trans G6.out⟩
   ·obtain rfl : false = ok:=by
     rw [← HOK.out]
     refine (decide_eq_false ?_).symm
     rintro ⟨x,hx,-⟩
     rw [List.getElem?_eq_none (by rw [HN.out];omega)] at hx
     cases hx
    go_wp2
    go_ret2
    exact ⟨rfl,HI.out.1⟩
theorem Qhe {α κ : Type} [LT κ] [DecidableRel (fun a b : κ => a < b)] [DecidableEq κ] {key : α → κ} (L : List α) (p : κ) {f : α → Int} (hf : ∀ x,x ∈ L → (f x = 0 ↔ key x = p)) : decide (∃ x,L[pos key L p]? = some x ∧ f x = 0) = Zd key L p:=by
 cases hx : L[pos key L p]? with
 | none =>
   unfold Zd
   rw [hx]
   exact decide_eq_false (by rintro ⟨x,h,-⟩;cases h)
 | some x =>
   rw [Qj7 hx]
   have h:=hf x (List.mem_of_getElem? hx)
   by_cases hk : key x = p
   ·rw [decide_eq_true hk];exact decide_eq_true ⟨x,rfl,h.2 hk⟩
   ·rw [decide_eq_false hk];exact decide_eq_false (by rintro ⟨y,h1,h2⟩;cases h1;exact hk (h.1 h2))
theorem Q8 (A : Option Addr) (c : Nat) (L : List Mod) (p : T) (w : World) (hL : RD 3 Mod.cs w A L) (hl : L.length ≤ 1000000) (ha : Asc Mod.label L) :
 Calls Tryz.prog 68 #[.slice A L.length c,tv p] w fun e w' => e = .returned (.tuple #[.int .i64 (pos Mod.label L p),.bool (Zd Mod.label L p)]) ∧ Gr w w':=by
 have C:=Qo0 (fun V (g : Gr w V) => bsfM A c L p (pos Mod.label L p) (fun m => Lib.compareBytes m.label p) V (hL.gr g) hl (Ys _ _) (fun j x hx => by rw [cb_lt];exact Qfk ha hx) (fun x V _ => cmp110 x p V))
 rw [Qhe L p (fun x _ => cb_eq x.label p)] at C
 obtain ⟨q,hq⟩ : ∃ q,pos Mod.label L p = q:=⟨_,rfl⟩
 obtain ⟨b,hb⟩ : ∃ b,Zd Mod.label L p = b:=⟨_,rfl⟩
 rw [hq,hb] at C
 rw [hq,hb]
 clear hq hb hL ha
 go_enter Tryz.func68,Tryz.ntmps68
 go_wp2_with (go_at_call 109;(with_reducible refine (C.out _ (Qc _)).mono ?_);rintro e w6 ⟨rfl,g6⟩;have G6:=Qo0 g6;clear g6)
 go_ret2
 exact ⟨rfl,G6.out⟩
theorem Yk (A : Option Addr) (c : Nat) (L : List Dec) (p : Int) (w : World) (hL : RD 11 Dec.cs w A L) (hl : L.length ≤ 1000000) (ha : Asc Dec.id L) (hp : 0 ≤ p ∧ p ≤ 1000000) (hx : ∀ x ∈ L,0 ≤ x.id ∧ x.id ≤ 1000000) :
 Calls Tryz.prog 60 #[.slice A L.length c,iv p] w fun e w' => e = .returned (.tuple #[.int .i64 (pos Dec.id L p),.bool (Zd Dec.id L p)]) ∧ Gr w w':=by
 have hw : ∀ x ∈ L,IntKind.i64.wrap (x.id - p) = x.id - p:=fun x h => IntWalk.i64_in _ ⟨by have:=hx x h;omega,by have:=hx x h;omega⟩
 have C:=Qo0 (fun V (g : Gr w V) => bsfD A c L p (pos Dec.id L p) (fun d => IntKind.i64.wrap (d.id - p)) V (hL.gr g) hl (Ys _ _) (fun j x h => by rw [hw x (List.mem_of_getElem? h),← Qfk ha h];omega) (fun x V _ => cmp103 x p V))
 rw [Qhe L p (fun x h => by rw [hw x h];omega)] at C
 obtain ⟨q,hq⟩ : ∃ q,pos Dec.id L p = q:=⟨_,rfl⟩
 obtain ⟨b,hb⟩ : ∃ b,Zd Dec.id L p = b:=⟨_,rfl⟩
 rw [hq,hb] at C
 rw [hq,hb]
 clear hq hb hL ha hw hx hp
 go_enter Tryz.func60,Tryz.ntmps60
 go_wp2_with (go_at_call 102;(with_reducible refine (C.out _ (Qc _)).mono ?_);rintro e w6 ⟨rfl,g6⟩;have G6:=Qo0 g6;clear g6)
 go_ret2
 exact ⟨rfl,G6.out⟩
end Go.Proofs.YtiaenhlflgobfaaGreatDoor

/- Walks and words: DcA, DcC, DeR, Cut, RxA. -/
import Derived.Test.YtiaenhlflgobfaaGreatDoorTb2
import Derived.Test.YtiaenhlflgobfaaGreatDoorTb5
import Derived.Test.YtiaenhlflgobfaaGreatDoorTb10
import Derived.Test.YtiaenhlflgobfaaGreatDoorTb44
import Derived.Test.YtiaenhlflgobfaaGreatDoorTb45
namespace Go.Proofs.YtiaenhlflgobfaaGreatDoor
open Go.RowKit
theorem drop_at {l : T} {k : Nat} (h : k < l.length) : l.drop k = l[k] :: l.drop (k + 1):=(List.getElem_cons_drop h).symm
theorem Qmy {l : T} {k n : Nat} {d : UInt8} (hk : k < 6) (hl : k < l.length) (hd : l[k] = d) (h : 128 ≤ d.toNat) (H : gi l = giF (6 - k) k n (128 ^ k) (l.drop k)) : gi l = giF (6 - (k + 1)) (k + 1) (n + (d.toNat - 128) * 128 ^ k) (128 ^ (k + 1)) (l.drop (k + 1)):=by
 rw [H,drop_at hl,hd,show 6 - k = (6 - (k + 1)) + 1 by omega]
 simp only [giF]
 rw [if_pos h,Nat.pow_succ]
theorem Qlc {l : T} {k n : Nat} {d : UInt8} (hk : k < 6) (hl : k < l.length) (hd : l[k] = d) (h : ¬ 128 ≤ d.toNat) (hb : (d.toNat = 0 ∧ 0 < k) ∨ 1099511627776 < n + d.toNat * 128 ^ k) (H : gi l = giF (6 - k) k n (128 ^ k) (l.drop k)) : gi l = (0,0,13):=by
 rw [H,drop_at hl,hd,show 6 - k = (6 - (k + 1)) + 1 by omega]
 simp only [giF]
 rw [if_neg h,if_pos hb]
theorem Qmx {l : T} {k n : Nat} {d : UInt8} (hk : k < 6) (hl : k < l.length) (hd : l[k] = d) (h : ¬ 128 ≤ d.toNat) (hb : ¬ ((d.toNat = 0 ∧ 0 < k) ∨ 1099511627776 < n + d.toNat * 128 ^ k)) (H : gi l = giF (6 - k) k n (128 ^ k) (l.drop k)) : gi l = (n + d.toNat * 128 ^ k,k + 1,0):=by
 rw [H,drop_at hl,hd,show 6 - k = (6 - (k + 1)) + 1 by omega]
 simp only [giF]
 rw [if_neg h,if_neg hb]
theorem Qlb {l : T} {k n : Nat} (hk : k < 6) (hl : l.length ≤ k) (H : gi l = giF (6 - k) k n (128 ^ k) (l.drop k)) : gi l = (0,0,12):=by
 rw [H,List.drop_eq_nil_of_le hl,show 6 - k = (6 - (k + 1)) + 1 by omega]
 simp only [giF]
theorem Qla {l : T} {n : Nat} (H : gi l = giF (6 - 6) 6 n (128 ^ 6) (l.drop 6)) : gi l = (0,0,13):=by
 rw [H];simp only [Nat.sub_self,giF]
def gi3 (l : T) : Ending:=.returned (.tuple #[.int .i64 (gi l).1,.int .i64 (gi l).2.1,.int .i64 (gi l).2.2])
theorem Qcq {l : T} {a b : Nat} {c : Int} (h : gi l = (a,b,c)) {x y z : Int} (hx : x = a) (hy : y = b) (hz : z = c) : Ending.returned (.tuple #[.int .i64 x,.int .i64 y,.int .i64 z]) = gi3 l:=by
 unfold gi3;rw [h,hx,hy,hz]
theorem pw_le {k : Nat} (h : k < 6) : 1 ≤ 128 ^ k ∧ 128 ^ k ≤ 34359738368:=by
 have : k = 0 ∨ k = 1 ∨ k = 2 ∨ k = 3 ∨ k = 4 ∨ k = 5:=by omega
 rcases this with rfl | rfl | rfl | rfl | rfl | rfl <;> decide
theorem Qj3 {a b c : Nat} {u : Int} (e : u = b) (h : a ≤ c) (hb : b ≤ 34359738368) : 0 ≤ (a : Int) * u ∧ (a : Int) * u ≤ (c : Int) * 34359738368 ∧ (a : Int) * u = ((a * b : Nat) : Int):=by
 subst e
 have h1 : a * b ≤ c * 34359738368:=Nat.mul_le_mul h hb
 have e1 : (a : Int) * (b : Int) = ((a * b : Nat) : Int):=by simp
 rw [e1]
 omega
set_option maxRecDepth 100000 in
set_option maxHeartbeats 4000000 in
theorem Xt (l : T) (w : World) :
 Calls Tryz.prog 91 #[tv l] w fun e w' => e = gi3 l ∧ w = w':=by
 go_enter Tryz.func91,Tryz.ntmps91
 go_wp2
 go_loop [5,6,9] (fun a b c => ∃ (k n : Nat) (u : Int),k ≤ 6 ∧ k ≤ l.length ∧ c = .int .i64 k ∧ a = .int .i64 n ∧ b = .int .i64 u ∧ Hid (u = ((128 ^ k : Nat) : Int)) ∧ (n : Int) < u ∧ Hid (gi l = giF (6 - k) k n (128 ^ k) (l.drop k))) (fun _ _ c => 6 - (intOf c).toNat)
 case atStart => exact ⟨0,0,1,Nat.zero_le _,Nat.zero_le _,rfl,rfl,rfl,Qo0 rfl,by omega,Qo0 rfl⟩
 case round =>
  obtain ⟨k,n,u,hk6,hk,rfl,rfl,rfl,U,hn,H⟩:=hrel
  by_cases h6 : k < 6
  ·have hp:=pw_le h6
   have hu : 1 ≤ u ∧ u ≤ 34359738368:=by have:=U.out;omega
   by_cases hlt : k < l.length
   ·obtain ⟨d,hd⟩ : ∃ d,({ data:=l.toArray } : ByteArray)[k]'hlt = d:=⟨_,rfl⟩
    have HD : Hid (l[k] = d):=Qo0 hd
    have hdl:=UInt8.toNat_lt d
    by_cases h1 : 128 ≤ d.toNat
    ·have H':=Qo0 (Qmy h6 hlt HD.out h1 H.out)
     obtain ⟨m1,m2,m3⟩:=Qj3 (a:=d.toNat - 128) (c:=127) U.out (by omega) hp.2
     have ec : ((d.toNat - 128 : Nat) : Int) = (d.toNat : Int) - 128:=by omega
     rw [ec] at m1 m2 m3
     have M3:=Qo0 m3
     have hun : u * 128 = ((128 ^ (k + 1) : Nat) : Int):=by have:=U.out;rw [Nat.pow_succ];omega
     have U':=Qo0 hun
     have NL : (n : Int) + ((d.toNat : Int) - 128) * u < u * 128:=by
      have e1 : ((d.toNat : Int) - 128) * u ≤ 127 * u:=Int.mul_le_mul_of_nonneg_right (by omega) (by omega)
      omega
     clear m3 ec hun hp
     go_wp2
     go_round
     case rel => exact ⟨k + 1,n + (d.toNat - 128) * 128 ^ k,u * 128,by omega,by omega,by go_num,by rw [M3.out];rfl,by go_num,U',by rw [Int.natCast_add,← M3.out];exact NL,H'⟩
     case measure => simp [intOf];omega
    ·obtain ⟨m1,m2,m3⟩:=Qj3 (a:=d.toNat) (c:=127) U.out (by omega) hp.2
     have M3:=Qo0 m3
     clear m3 hp
     by_cases h2 : (d.toNat = 0 ∧ 0 < k) ∨ 1099511627776 < n + d.toNat * 128 ^ k
     ·have G:=Qo0 (Qlc h6 hlt HD.out h1 h2 H.out)
      have h2' : (d.toNat = 0 ∧ 0 < k) ∨ 1099511627776 < (n : Int) + d.toNat * u:=by rw [M3.out];omega
      clear h2
      by_cases h0 : d.toNat = 0
      ·by_cases hk0 : 0 < k
       ·go_wp2
        go_ret3
        exact ⟨Qcq G.out rfl rfl rfl,rfl⟩
       ·exfalso
        have h3 : 1099511627776 < (n : Int) + d.toNat * u:=by omega
        have hu1:=U.out
        obtain rfl : k = 0:=by omega
        rw [h0] at h3
        simp at h3 hu1
        omega
      ·have h3 : 1099511627776 < (n : Int) + d.toNat * u:=by omega
       clear h2'
       go_wp2
       go_ret3
       exact ⟨Qcq G.out rfl rfl rfl,rfl⟩
     ·have G:=Qo0 (Qmx h6 hlt HD.out h1 h2 H.out)
      have h2' : ¬ ((d.toNat = 0 ∧ 0 < k) ∨ 1099511627776 < (n : Int) + d.toNat * u):=by rw [M3.out];omega
      have h3 : (n : Int) + d.toNat * u ≤ 1099511627776:=by omega
      have h4 : d.toNat = 0 → ¬ 0 < k:=by omega
      clear h2 h2'
      by_cases h0 : d.toNat = 0
      ·have hk0:=h4 h0
       clear h4
       go_wp2
       go_ret3
       exact ⟨Qcq G.out (by first | rw [Int.natCast_add,M3.out] | simp [h0]) (by omega) rfl,rfl⟩
      ·clear h4
       go_wp2
       go_ret3
       exact ⟨Qcq G.out (by first | rw [Int.natCast_add,M3.out] | simp [h0]) (by omega) rfl,rfl⟩
   ·have G:=Qo0 (Qlb h6 (show l.length ≤ k by omega) H.out)
    go_wp2
    go_ret3
    exact ⟨Qcq G.out rfl rfl rfl,rfl⟩
  ·obtain rfl : k = 6:=by omega
   have G:=Qo0 (Qla H.out)
   go_wp2
   go_ret3
   exact ⟨Qcq G.out rfl rfl rfl,rfl⟩
end Go.Proofs.YtiaenhlflgobfaaGreatDoor
namespace Go.Proofs.YtiaenhlflgobfaaGreatDoor
open Go.RowKit
theorem gi_len {l : T} {v k : Nat} (h : gi l = (v,k,0)) : k ≤ l.length:=by
 obtain ⟨r,e1,e2,-⟩:=gi_inv h
 rw [e1,e2];simp
def gt3 (l : T) : Ending:=.returned (.tuple #[tv (gt l).1,.int .i64 (gt l).2.1,.int .i64 (gt l).2.2])
theorem Qfv {l x : T} {b : Nat} {c : Int} (h : gt l = (x,b,c)) {y z : Int} {v : Value} (hx : v = tv x) (hy : y = b) (hz : z = c) : Ending.returned (.tuple #[v,.int .i64 y,.int .i64 z]) = gt3 l:=by
 unfold gt3;rw [h,hx,hy,hz]
theorem Ql2 (l : T) (a n : Nat) : (⟨l.toArray⟩ : ByteArray).extract a (a + n) = ⟨((l.drop a).take n).toArray⟩:=by
 apply ByteArray.ext
 simp [ByteArray.data_extract,List.take_drop]
theorem Qe1 (l : T) (a : Nat) : (⟨l.toArray⟩ : ByteArray).extract a l.length = ⟨(l.drop a).toArray⟩:=by
 apply ByteArray.ext
 simp [ByteArray.data_extract,List.take_of_length_le]
set_option maxRecDepth 100000 in
set_option maxHeartbeats 1000000 in
theorem Qhf (l : T) (w : World) (hl : l.length ≤ 1000000000) :
 Calls Tryz.prog 92 #[tv l] w fun e w' => e = gt3 l ∧ w = w':=by
 obtain ⟨n,k,c,hg⟩ : ∃ n k c,gi l = (n,k,c):=⟨_,_,_,rfl⟩
 have e1 : (gi l).1 = n:=by rw [hg]
 have e2 : (gi l).2.1 = k:=by rw [hg]
 have e3 : (gi l).2.2 = c:=by rw [hg]
 have HG:=Qo0 hg
 have E : Hid (gi3 l = .returned (.tuple #[.int .i64 n,.int .i64 k,.int .i64 c])):=Qo0 (by unfold gi3;rw [hg])
 have GT : Hid (gt l = if c ≠ 0 then ([],0,c) else if 65536 < n then ([],0,13) else if l.length - k < n then ([],0,12) else ((l.drop k).take n,k + n,0)):=Qo0 (by unfold gt;rw [hg])
 clear e1 e2 e3 hg
 go_enter Tryz.func92,Tryz.ntmps92
 by_cases h0 : c = 0
 ·subst h0
  have hk:=gi_len HG.out
  by_cases h1 : 65536 < n
  ·have G:=Qo0 (show gt l = ([],0,13) by rw [GT.out,if_neg (by simp),if_pos h1])
   go_wp2_with (go_at_call 91;refine (Xt l _).mono ?_;rintro e w' ⟨rfl,rfl⟩;rw [E.out])
   go_ret3
   exact ⟨Qfv G.out rfl rfl rfl,rfl⟩
  ·by_cases h2 : l.length - k < n
   ·have G:=Qo0 (show gt l = ([],0,12) by rw [GT.out,if_neg (by simp),if_neg h1,if_pos h2])
    go_wp2_with (go_at_call 91;refine (Xt l _).mono ?_;rintro e w' ⟨rfl,rfl⟩;rw [E.out])
    go_ret3
    exact ⟨Qfv G.out rfl rfl rfl,rfl⟩
   ·have G:=Qo0 (show gt l = ((l.drop k).take n,k + n,0) by rw [GT.out,if_neg (by simp),if_neg h1,if_neg h2])
    go_wp2_with (go_at_call 91;refine (Xt l _).mono ?_;rintro e w' ⟨rfl,rfl⟩;rw [E.out])
    go_ret3
    exact ⟨Qfv G.out (by rw [Ql2];rfl) (by omega) rfl,rfl⟩
 ·have hc : (c != 0) = true:=by simpa using h0
  have G:=Qo0 (show gt l = ([],0,c) by rw [GT.out,if_pos h0])
  go_wp2_with (go_at_call 91;refine (Xt l _).mono ?_;rintro e w' ⟨rfl,rfl⟩;rw [E.out])
  go_ret3
  exact ⟨Qfv G.out rfl rfl rfl,rfl⟩
end Go.Proofs.YtiaenhlflgobfaaGreatDoor
namespace Go.Proofs.YtiaenhlflgobfaaGreatDoor
open Go.RowKit
def RdS (rb : Nat) (t : T) (V : World) : Prop:=V.heap[rb]? = some (.cells #[tv t,.bool false] 107 (0,0))
theorem RdS.c {rb : Nat} {t : T} {V : World} (h : RdS rb t V) : V.cell? ⟨rb,0,none⟩ = some (tv t) ∧ V.cell? ⟨rb,1,none⟩ = some (.bool false) ∧ V.frozen? ⟨rb,0,none⟩ = false ∧ V.frozen? ⟨rb,1,none⟩ = false :=
 ⟨by rw [Lib.cell_of_heap h];rfl,by rw [Lib.cell_of_heap h];rfl,Lib.frozen_of_heap h 0,Lib.frozen_of_heap h 1⟩
theorem RdS.set0 {rb : Nat} {s : T} {V : World} (h : RdS rb s V) (t : T) : RdS rb t (V.setCell ⟨rb,0,none⟩ (tv t)):=by
 unfold RdS at h ⊢
 simp [World.setCell,Array.getElem?_modify,h]
theorem RdS.but {rb : Nat} {t : T} {V V' : World} {row : Option Nat} (h : RdS rb t V) (g : V.grownBy V' row) (hne : some rb ≠ row) : RdS rb t V':=(g.block rb (Qn h) hne).trans h
def RdP (rb : Nat) (v : Value) (t : T) (V : World) (e : Ending) (V' : World) : Prop:=e = .returned v ∧ RdS rb t V' ∧ V.grownBy V' (some rb)
attribute [local irreducible] Calls in
set_option maxRecDepth 100000 in
set_option maxHeartbeats 1000000 in
theorem Yf (rb : Nat) (m : Nat) (most : Int) (r : T) (V : World) (h : RdS rb (dig m ++ r) V) (hm : (m : Int) ≤ most) (hl : m ≤ 1099511627776) : Calls Tryz.prog 47 #[.pointer (some ⟨rb,0,none⟩),.int .i64 most] V (RdP rb (iv m) r V):=by
 obtain ⟨s,hs⟩ : ∃ s,dig m ++ r = s:=⟨_,rfl⟩
 obtain ⟨k,hk⟩ : ∃ k,(dig m).length = k:=⟨_,rfl⟩
 have hg : gi s = (m,k,0):=by rw [← hs,← hk];exact gi_put hl r
 have hd : s.drop k = r:=by rw [← hs,← hk];exact List.drop_left
 have hkl : k ≤ s.length:=by rw [← hs,← hk];simp
 rw [hs] at h
 have GI:=Qo0 (fun W => show Calls Tryz.prog 91 #[.string ⟨s.toArray⟩] W (fun e w' => e = .returned (.tuple #[.int .i64 m,.int .i64 k,.int .i64 0]) ∧ W = w') from by
  have h:=Xt s W
  unfold gi3 at h
  rw [hg] at h
  exact h)
 have HR:=Qo0 h
 obtain ⟨c0,c1,f0,f1⟩:=h.c
 have hz : (⟨s.toArray⟩ : ByteArray).size = s.length:=rfl
 have ed:=Qe1 s k
 have hgt : decide ((m : Int) > most) = false:=by simpa using hm
 have hgt2 : ((m : Int) > most) = False:=by simpa using hm
 clear h hg hs hk
 go_enter Tryz.func47,Tryz.ntmps47
 go_wp2_with (go_at_call 91;refine (GI.out _).mono ?_;rintro e w' ⟨rfl,rfl⟩)
 go_ret
 exact ⟨rfl,by first | (rw [← hd];exact HR.out.set0 _) | (rw [ed,← hd];exact HR.out.set0 _),Qo rb 0 _⟩
attribute [local irreducible] Calls in
set_option maxRecDepth 100000 in
set_option maxHeartbeats 1000000 in
theorem Qav (rb : Nat) (x r : T) (V : World) (h : RdS rb (Qp x ++ r) V) (hx : x.length ≤ 1000) (hr : r.length ≤ 100000000) : Calls Tryz.prog 48 #[.pointer (some ⟨rb,0,none⟩)] V (RdP rb (tv x) r V):=by
 obtain ⟨s,hs⟩ : ∃ s,Qp x ++ r = s:=⟨_,rfl⟩
 obtain ⟨k,hk⟩ : ∃ k,(Qp x).length = k:=⟨_,rfl⟩
 have hpl:=Qa6 hx
 have hg : gt s = (x,k,0):=by rw [← hs,← hk];exact gt_put (by omega) r
 have hd : s.drop k = r:=by rw [← hs,← hk];exact List.drop_left
 have hkl : k ≤ s.length:=by rw [← hs,← hk];simp
 have hsl : s.length ≤ 1000000000:=by rw [← hs,List.length_append];omega
 rw [hs] at h
 have GI:=Qo0 (fun W => show Calls Tryz.prog 92 #[.string ⟨s.toArray⟩] W (fun e w' => e = .returned (.tuple #[.string ⟨x.toArray⟩,.int .i64 k,.int .i64 0]) ∧ W = w') from by
  have h:=Qhf s W hsl
  unfold gt3 at h
  rw [hg] at h
  exact h)
 have HR:=Qo0 h
 obtain ⟨c0,c1,f0,f1⟩:=h.c
 have hz : (⟨s.toArray⟩ : ByteArray).size = s.length:=rfl
 have ed:=Qe1 s k
 clear h hg hs hk hpl
 go_enter Tryz.func48,Tryz.ntmps48
 go_wp2_with (go_at_call 92;refine (GI.out _).mono ?_;rintro e w' ⟨rfl,rfl⟩)
 go_ret
 exact ⟨rfl,by first | (rw [← hd];exact HR.out.set0 _) | (rw [ed,← hd];exact HR.out.set0 _),Qo rb 0 _⟩
end Go.Proofs.YtiaenhlflgobfaaGreatDoor
namespace Go.Proofs.YtiaenhlflgobfaaGreatDoor
open Go.RowKit
structure Mo (w w' : World) : Prop where
 size : w.heap.size ≤ w'.heap.size
 c : ∀ a v,w.cell? a = some v → w'.cell? a = some v
theorem Mo.refl (w : World) : Mo w w:=⟨Nat.le_refl _,fun _ _ h => h⟩
theorem Mo.trans {w w' w'' : World} (h : Mo w w') (k : Mo w' w'') : Mo w w'':=⟨Nat.le_trans h.size k.size,fun a v e => k.c a v (h.c a v e)⟩
section
variable {α : Type} {n : Nat} {cs : α → List Value} {w w' : World} {A : Option Addr} {c : Nat} {L : List α}
theorem RD.mo (h : RD n cs w A L) (m : Mo w w') : RD n cs w' A L:=by
 rcases h with rfl | ⟨a,e,hb,hc⟩
 ·exact .inl rfl
 ·exact .inr ⟨a,e,Nat.lt_of_lt_of_le hb m.size,fun j x hx i v hv => m.c _ _ (hc j x hx i v hv)⟩
theorem RW.mo (h : RW n cs w A c L) (m : Mo w w') : RW n cs w' A c L:=⟨h.hc,h.hm,h.h0,h.r.mo m⟩
end
theorem XRd.mo {w w' : World} {A : Option Addr} {c : Nat} {L : List Ex} (h : XRd w A c L) (m : Mo w w') : XRd w' A c L:=by
 induction h with
 | mk h hn _ ih => exact .mk (h.mo m) hn ih
theorem Ex.Rd.mo {w w' : World} {x : Ex} (h : x.Rd w) (m : Mo w w') : x.Rd w':=⟨h.s.mo m,h.n,h.m⟩
theorem SRd.mo {w w' : World} {A : Option Addr} {c : Nat} {L : List T} (h : SRd w A c L) (m : Mo w w') : SRd w' A c L:=⟨h.rw.mo m,h.ok⟩
theorem Dec.Rd.mo {w w' : World} {x : Dec} (h : x.Rd w) (m : Mo w w') : x.Rd w':=⟨h.n.mo m,h.b.mo m⟩
theorem DRd.mo {w w' : World} {A : Option Addr} {c : Nat} {L : List Dec} (h : DRd w A c L) (m : Mo w w') : DRd w' A c L:=⟨h.rw.mo m,fun x hx => (h.d x hx).mo m⟩
theorem Edt.Rd.mo {w w' : World} {x : Edt} (h : x.Rd w) (m : Mo w w') : x.Rd w':=⟨h.p,h.t,h.o.mo m,h.n.mo m⟩
theorem TRd.mo {w w' : World} {A : Option Addr} {c : Nat} {L : List Edt} (h : TRd w A c L) (m : Mo w w') : TRd w' A c L:=⟨h.rw.mo m,fun x hx => (h.e x hx).mo m⟩
def Zb (b : Nat) (r : Option Nat) (w : World) : World:={ w with heap:=w.heap.mapIdx fun k o => if k < b ∨ some k = r then .cells #[] 0 (0,0) else o }
theorem Qcd (b : Nat) (r : Option Nat) (w : World) : (Zb b r w).heap.size = w.heap.size:=by simp [Zb]
theorem Qdz {b : Nat} {r : Option Nat} {w : World} {k : Nat} (h : ¬ (k < b ∨ some k = r)) : (Zb b r w).heap[k]? = w.heap[k]?:=by
 unfold Zb
 simp only [Array.getElem?_mapIdx,if_neg h]
 cases w.heap[k]? <;> rfl
theorem Qhp {b : Nat} {r : Option Nat} {w : World} {a : Addr} {v : Value} (h : (Zb b r w).cell? a = some v) : ¬ (a.block < b ∨ some a.block = r) ∧ w.cell? a = some v:=by
 by_cases hk : a.block < b ∨ some a.block = r
 ·exfalso
  have h1 : (Zb b r w).heap[a.block]? = (w.heap[a.block]?).map fun _ => .cells #[] 0 (0,0):=by
   unfold Zb
   simp only [Array.getElem?_mapIdx,if_pos hk]
  unfold World.cell? at h
  rw [h1] at h
  cases hq : w.heap[a.block]? with
  | none => rw [hq] at h;simp at h
  | some o => rw [hq] at h;simp at h
 ·exact ⟨hk,by rw [← h];exact (World.cell?_of_block (Qdz hk)).symm⟩
theorem Qf2 {b b' : Nat} {r r' : Option Nat} {w w' : World} (hs : w.heap.size ≤ w'.heap.size) (h : ∀ k,k < w.heap.size → ¬ (k < b ∨ some k = r) → ¬ (k < b' ∨ some k = r') ∧ w'.heap[k]? = w.heap[k]?) : Mo (Zb b r w) (Zb b' r' w'):=by
 refine ⟨by rw [Qcd,Qcd];exact hs,fun a v e => ?_⟩
 obtain ⟨h1,h2⟩:=Qhp e
 obtain ⟨h3,h4⟩:=h a.block (World.block_lt_of_cell? w a h2) h1
 rw [World.cell?_of_block (Qdz h3),World.cell?_of_block h4]
 exact h2
theorem Qkl (b : Nat) (r : Option Nat) (w : World) : Mo (Zb b r w) w:=⟨by rw [Qcd];exact Nat.le_refl _,fun _ _ e => (Qhp e).2⟩
theorem Qd0 {b : Nat} {r : Option Nat} {w w' : World} (g : Gr w w') : Mo (Zb b r w) (Zb b r w'):=Qf2 g.size fun k hk hn => ⟨hn,g.block k hk (by simp)⟩
theorem Xl {b : Nat} {r row : Option Nat} {w w' : World} (g : w.grownBy w' row) (h : ∀ k,row = some k → k < b ∨ some k = r) : Mo (Zb b r w) (Zb b r w') :=
 Qf2 g.size fun k hk hn => ⟨hn,g.block k hk fun e => hn (h k e.symm)⟩
theorem Qa5 {b b' : Nat} {r r' : Option Nat} (w : World) (h : ∀ k,k < b' ∨ some k = r' → k < b ∨ some k = r) : Mo (Zb b r w) (Zb b' r' w) :=
 Qf2 (Nat.le_refl _) fun k _ hn => ⟨fun e => hn (h k e),rfl⟩
theorem Qa4 {b b' : Nat} {r : Option Nat} (w : World) (h : b' ≤ b) : Mo (Zb b r w) (Zb b' none w):=Qa5 w fun k hk => by
 rcases hk with hk | hk
 ·exact .inl (by omega)
 ·cases hk
theorem Qkm {b : Nat} {v v' : Value} {w w' : World} (g : w.grownBy w' v.ownBlock) (h : v'.ownBlock = v.ownBlock ∨ v'.ownBlock = some w.heap.size) : Mo (Zb b v.ownBlock w) (Zb b v'.ownBlock w'):=by
 refine Qf2 g.size fun k hk hn => ⟨fun e => ?_,g.block k hk fun e => hn (.inr e)⟩
 rcases e with e | e
 ·exact hn (.inl e)
 ·rcases h with h | h
  ·rw [h] at e;exact hn (.inr e)
  ·rw [h] at e;have:=Option.some.inj e;omega
end Go.Proofs.YtiaenhlflgobfaaGreatDoor
namespace Go.Proofs.YtiaenhlflgobfaaGreatDoor
open Go.RowKit
structure HR (rb : Nat) (t : T) (w0 V : World) (L : List (Nat × Obj)) : Prop where
 g : w0.grownBy V (some rb)
 lt : rb < w0.heap.size
 r : RdS rb t V
 n : (L.map (·.1)).Nodup
 b : ∀ p ∈ L,w0.heap.size ≤ p.1
 f : ∀ p ∈ L,V.heap[p.1]? = some p.2
theorem Qa0 {w V V' : World} {r : Option Nat} (h : w.grownBy V r) (k : V.grownBy V' r) : w.grownBy V' r :=
 ⟨k.os.trans h.os,k.tape.trans h.tape,k.output.trans h.output,Nat.le_trans h.size k.size,fun i hi hne => (k.block i (Nat.lt_of_lt_of_le hi h.size) hne).trans (h.block i hi hne)⟩
theorem X9 {w V V' : World} {r row : Option Nat} (h : w.grownBy V r) (k : V.grownBy V' row) (hn : ∀ i,row = some i → w.heap.size ≤ i) : w.grownBy V' r :=
 ⟨k.os.trans h.os,k.tape.trans h.tape,k.output.trans h.output,Nat.le_trans h.size k.size,fun i hi hne => (k.block i (Nat.lt_of_lt_of_le hi h.size) (fun e => by have:=hn i e.symm;omega)).trans (h.block i hi hne)⟩
section
variable {rb : Nat} {t t' : T} {w0 V V' : World} {L pre post : List (Nat × Obj)} {b : Nat} {o o' : Obj}
theorem HR.new (h : RdS rb t w0) : HR rb t w0 w0 []:=⟨World.grownBy.refl _ _,Qn h,h,by simp,by simp,by simp⟩
theorem HR.below (h : HR rb t w0 V L) : ∀ p ∈ L,p.1 < V.heap.size:=fun p hp => Qn (h.f p hp)
theorem HR.size (h : HR rb t w0 V L) : w0.heap.size ≤ V.heap.size:=h.g.size
theorem HR.call (h : HR rb t w0 V L) (r : RdS rb t' V') (g : V.grownBy V' (some rb)) : HR rb t' w0 V' L :=
 ⟨Qa0 h.g g,h.lt,r,h.n,h.b,fun p hp => (g.block p.1 (h.below p hp) (by intro e;cases e;have:=h.b p hp;have:=h.lt;omega)).trans (h.f p hp)⟩
theorem HR.gr (h : HR rb t w0 V L) (g : Gr V V') : HR rb t w0 V' L:=h.call (h.r.but g (by simp)) (World.grownBy.but g _)
theorem HR.alloc (h : HR rb t w0 V L) (hb : V.heap.size = b) (o : Obj) : HR rb t w0 (V.alloc o) ((b,o) :: L):=by
 have q:=h.gr (Qa V o)
 refine ⟨q.g,q.lt,q.r,?_,fun p hp => ?_,fun p hp => ?_⟩
 ·rw [List.map_cons,List.nodup_cons]
  refine ⟨fun hm => ?_,h.n⟩
  obtain ⟨x,hx,e⟩:=List.mem_map.1 hm
  have:=h.below x hx
  simp only at e
  omega
 ·rcases List.mem_cons.1 hp with rfl | hp
  ·rw [← hb];exact h.g.size
  ·exact h.b p hp
 ·rcases List.mem_cons.1 hp with rfl | hp
  ·exact Qr _ _ hb.symm
  ·exact q.f p hp
theorem HR.own {row : Option Nat} (h : HR rb t w0 V L) (g : V.grownBy V' row) (hn : ∀ i,row = some i → w0.heap.size ≤ i ∧ ∀ p ∈ L,p.1 ≠ i) : HR rb t w0 V' L :=
 ⟨X9 h.g g (fun i e => (hn i e).1),h.lt,h.r.but g (fun e => by have:=(hn rb e.symm).1;have:=h.lt;omega),h.n,h.b,fun p hp => (g.block p.1 (h.below p hp) (fun e => (hn _ e.symm).2 p hp rfl)).trans (h.f p hp)⟩
theorem HR.put (h : HR rb t w0 V (pre ++ (b,o) :: post)) (g : V.grownBy V' (some b)) (e : V'.heap[b]? = some o') : HR rb t w0 V' (pre ++ (b,o') :: post):=by
 have hn:=h.n
 rw [List.map_append,List.map_cons,List.nodup_append] at hn
 obtain ⟨n1,n2,n3⟩:=hn
 rw [List.nodup_cons] at n2
 have hb : w0.heap.size ≤ b:=h.b (b,o) (by simp)
 refine ⟨X9 h.g g (fun i e => by cases e;exact hb),h.lt,h.r.but g (by intro e;cases e;have:=h.lt;omega),?_,?_,?_⟩
 ·have:=h.n
  simpa using this
 ·intro p hp
  rcases List.mem_append.1 hp with hp | hp
  ·exact h.b p (by simp [hp])
  ·rcases List.mem_cons.1 hp with rfl | hp
   ·exact hb
   ·exact h.b p (by simp [hp])
 ·intro p hp
  have key : ∀ q ∈ pre ++ (b,o) :: post,q.1 ≠ b → V'.heap[q.1]? = some q.2:=fun q hq hne => (g.block q.1 (h.below q hq) (by intro hh;cases hh;exact hne rfl)).trans (h.f q hq)
  rcases List.mem_append.1 hp with hp | hp
  ·refine key p (by simp [hp]) (fun hh => ?_)
   exact n3 p.1 (List.mem_map.2 ⟨p,hp,rfl⟩) b (by simp) hh
  ·rcases List.mem_cons.1 hp with rfl | hp
   ·exact e
   ·refine key p (by simp [hp]) (fun hh => ?_)
    exact n2.1 (List.mem_map.2 ⟨p,hp,hh⟩)
theorem Xn {W : World} {k j : Nat} {u : Value} {C : Array Value} {t : TypeId} (h : W.heap[k]? = some (.cells C t (0,0))) : (W.setCell ⟨k,j,none⟩ u).heap[k]? = some (.cells (C.setIfInBounds j u) t (0,0)):=by
 simp [World.setCell,Array.getElem?_modify,h]
theorem HR.setc {C : Array Value} {ty : TypeId} (h : HR rb t w0 V (pre ++ (b,.cells C ty (0,0)) :: post)) (j : Nat) (u : Value) : HR rb t w0 (V.setCell ⟨b,j,none⟩ u) (pre ++ (b,.cells (C.setIfInBounds j u) ty (0,0)) :: post) :=
 h.put (Qo b j u) (Xn (h.f (b,_) (by simp)))
theorem HR.cell {C : Array Value} {ty : TypeId} (h : HR rb t w0 V L) (hm : (b,Obj.cells C ty (0,0)) ∈ L) (j : Nat) : V.cell? ⟨b,j,none⟩ = C[j]?:=Lib.cell_of_heap (h.f _ hm) j
theorem HR.frz {C : Array Value} {ty : TypeId} (h : HR rb t w0 V L) (hm : (b,Obj.cells C ty (0,0)) ∈ L) (j : Nat) : V.frozen? ⟨b,j,none⟩ = false:=Lib.frozen_of_heap (h.f _ hm) j
end
theorem Qho {b : Nat} {r : Option Nat} {w : World} {a : Addr} {v : Value} (hk : ¬ (a.block < b ∨ some a.block = r)) (h : w.cell? a = some v) : (Zb b r w).cell? a = some v:=by
 rw [World.cell?_of_block (Qdz hk)];exact h
theorem OR.cut {α : Type} {e : TypeId} {n : Nat} {cs : α → List Value} {w : World} {base b : Nat} {v : Value} {L : List α} (hn : ∀ x,(cs x).length = n) (h : OR e n cs w base v L) (hb : b ≤ base) : ∃ A c,v = .slice A L.length c ∧ RW n cs (Zb b none w) A c L:=by
 obtain ⟨A,c,e0,hr,hc,hm,h0,ha⟩:=h.form2 hn
 refine ⟨A,c,e0,⟨hc,hm,h0,?_⟩⟩
 rcases hr with hr | ⟨a,e1,h1,h2⟩
 ·exact .inl hr
 ·refine .inr ⟨a,e1,by rw [Qcd];exact h1,fun j x hx i u hu => Qho ?_ (h2 j x hx i u hu)⟩
  have:=(ha a e1).1
  rw [add_block]
  rintro (q | q)
  ·omega
  ·cases q
theorem Qhn {rb kb : Nat} {base : Nat} {v v' : Value} {V1 V2 V3 V4 V5 : World} (g1 : V1.grownBy V2 (some rb)) (g2 : Gr V2 V3) (g3 : V3.grownBy V4 v.ownBlock) (hv : v'.ownBlock = v.ownBlock ∨ v'.ownBlock = some V3.heap.size) (g4 : V4.grownBy V5 (some kb)) (h1 : rb < base) (h2 : kb < base) :
 Mo (Zb base v.ownBlock V1) (Zb base v'.ownBlock V5) ∧ Mo (Zb base v.ownBlock V2) (Zb base v'.ownBlock V5):=by
 have m1 : Mo (Zb base v.ownBlock V1) (Zb base v.ownBlock V2):=Xl g1 (fun k e => by cases e;exact .inl h1)
 have m2 : Mo (Zb base v.ownBlock V2) (Zb base v.ownBlock V3):=Qd0 g2
 have m3 : Mo (Zb base v.ownBlock V3) (Zb base v'.ownBlock V4):=Qkm g3 hv
 have m4 : Mo (Zb base v'.ownBlock V4) (Zb base v'.ownBlock V5):=Xl g4 (fun k e => by cases e;exact .inl h2)
 exact ⟨((m1.trans m2).trans m3).trans m4,(m2.trans m3).trans m4⟩
theorem Qh6 {fn : Func} {p : Tmp} (h : fn.results = #[.cell p 43]) (tmps : Array Value) (w : World) (b : Nat) (d : Ex) (hp : tmps.getD p undef = .pointer (some ⟨b,0,none⟩)) (hb : w.heap[b]? = some (.cells d.cs.toArray 43 (0,0))) : (results fn tmps).run Tryz.prog w = .ok d.v w:=by
 have ha:=Tryz.isAgg43
 have hz:=Tryz.sizeOf43
 have h0 : w.cell? ⟨b,0,none⟩ = some (iv d.kind):=by rw [Lib.cell_of_heap hb];rfl
 have h1 : w.cell? ⟨b,1,none⟩ = some (tv d.name):=by rw [Lib.cell_of_heap hb];rfl
 have h2 : w.cell? ⟨b,2,none⟩ = some (tv d.more):=by rw [Lib.cell_of_heap hb];rfl
 have h3 : w.cell? ⟨b,3,none⟩ = some (iv d.int):=by rw [Lib.cell_of_heap hb];rfl
 have h4 : w.cell? ⟨b,4,none⟩ = some (iv d.den):=by rw [Lib.cell_of_heap hb];rfl
 have h5 : w.cell? ⟨b,5,none⟩ = some (.slice d.A d.sub.length d.c):=by rw [Lib.cell_of_heap hb];rfl
 rw [Y0 h,hp]
 simp [go_sem,ha,hz,loadVar,h0,h1,h2,h3,h4,h5,Ex.v]
end Go.Proofs.YtiaenhlflgobfaaGreatDoor

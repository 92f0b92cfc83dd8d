/- Walks and words: Dfa, Dfb, Dfc. -/
import Derived.Test.YtiaenhlflgobfaaGreatDoorTb37
import Derived.Test.YtiaenhlflgobfaaGreatDoorTb38
import Derived.Deep.RegionHeld3
namespace Go.Proofs.YtiaenhlflgobfaaGreatDoor
open Go.RowKit
def EDl (w V : World) (A : Option Addr) (c : Nat) (ds : List Dec) : Prop :=
 (A = none ∧ c = 0 ∧ ds = []) ∨ ∃ k d,A = some ⟨k,0,none⟩ ∧ c = 1 ∧ ds = [d] ∧ V.heap[k]? = some (.cells d.cs.toArray 45 (0,0)) ∧ d.Rd w
theorem EDl.keep {w V V' : World} {A : Option Addr} {c : Nat} {ds : List Dec} (h : EDl w V A c ds) (hk : ∀ (k : Nat) (c : Array Value),V.heap[k]? = some (.cells c 45 (0,0)) → V'.heap[k]? = some (.cells c 45 (0,0))) : EDl w V' A c ds:=by
 rcases h with h | ⟨k,d,h1,h2,h3,h4,h5⟩
 ·exact .inl h
 ·exact .inr ⟨k,d,h1,h2,h3,hk _ _ h4,h5⟩
theorem EDl.rd {w V : World} {A : Option Addr} {c : Nat} {ds : List Dec} (h : EDl w V A c ds) (g : Gr w V) : DRd V A c ds:=by
 rcases h with ⟨rfl,rfl,rfl⟩ | ⟨k,d,rfl,rfl,rfl,h4,h5⟩
 ·exact DRd.nil V
 ·refine ⟨⟨by simp,by show (1 : Nat) ≤ 9223372036854775807;omega,fun h => (by cases h),Qj (t:=45) Dec.cs_len (by rw [List.flatMap_cons,List.flatMap_nil,List.append_nil];exact h4)⟩,fun x hx => ?_⟩
  rw [List.mem_singleton.1 hx]
  exact h5.gr g
structure ED (w V : World) (e : Edt) : Prop where
 p : sOk e.pack
 t : sOk e.text
 o : EDl w V e.oA e.oc e.old
 n : EDl w V e.nA e.nc e.new
theorem ED.keep {w V V' : World} {e : Edt} (h : ED w V e) (hk : ∀ (k : Nat) (c : Array Value),V.heap[k]? = some (.cells c 45 (0,0)) → V'.heap[k]? = some (.cells c 45 (0,0))) : ED w V' e:=⟨h.p,h.t,h.o.keep hk,h.n.keep hk⟩
theorem ED.gr {w V V' : World} {e : Edt} (h : ED w V e) (g : Gr V V') : ED w V' e:=h.keep fun _ _ h1 => Qe g h1
theorem ED.rd {w V : World} {e : Edt} (h : ED w V e) (g : Gr w V) : e.Rd V:=⟨h.p,h.t,h.o.rd g,h.n.rd g⟩
theorem ED.row {w V V' : World} {B : Nat} {v : Value} {L : List Edt} {e : Edt} (h : ED w V e) (o : OR 32 5 Edt.cs V B v L) (g : V.grownBy V' v.ownBlock) : ED w V' e:=h.keep fun _ _ h1 => o.keepT g (by decide) h1
def edU (k : Int) (l u : T) : Edt:=⟨k,l,u,none,0,[],none,0,[]⟩
theorem Qdv {w V : World} {k : Int} {l u : T} (h1 : sOk l) (h2 : sOk u) : ED w V (edU k l u):=⟨h1,h2,.inl ⟨rfl,rfl,rfl⟩,.inl ⟨rfl,rfl,rfl⟩⟩
def Qw (k : Int) (l : T) (us others : List T) : List Edt:=(us.filter fun u => !others.contains u).map fun u => edU k l u
theorem Xx (k : Int) (l : T) (us others : List T) : (Qw k l us others).map Edt.er = Yp k l us others:=by
 unfold Qw Yp
 rw [List.map_map]
 rfl
theorem Qkx (k : Int) (l : T) (us : List T) (u : T) (others : List T) : Qw k l (us ++ [u]) others = Qw k l us others ++ if others.contains u then [] else [edU k l u]:=by
 unfold Qw
 rw [List.filter_append,List.map_append]
 congr 1
 cases h : others.contains u
 ·rw [List.filter_cons_of_pos (by rw [h];rfl)];rfl
 ·rw [List.filter_cons_of_neg (by rw [h];decide)];rfl
theorem Qdj (k : Int) (l : T) (us others : List T) : (Qw k l us others).length ≤ us.length:=by
 unfold Qw
 rw [List.length_map]
 exact List.length_filter_le _ _
set_option maxRecDepth 100000 in
set_option maxHeartbeats 4000000 in
attribute [local irreducible] Calls in
theorem Qb2 (k : Int) (l : T) (A : Option Addr) (c : Nat) (us : List T) (B : Option Addr) (d : Nat) (others : List T) (w : World) (hA : RD 1 scs w A us) (hB : RD 1 scs w B others) (hn : us.length ≤ 100000) (hm : others.length ≤ 100000) :
 Calls Tryz.prog 23 #[iv k,tv l,.slice A us.length c,.slice B others.length d] w fun e w' => ∃ v,e = .returned v ∧ OR 32 5 Edt.cs w' w.heap.size v (Qw k l us others) ∧ Gr w w':=by
 have CC:=Qo0 (fun u V (g : Gr w V) => Qbn B d others u V (hB.gr g) (by omega))
 have HA:=Qo0 (fun V (g : Gr w V) => hA.gr g)
 obtain ⟨n,hus⟩ : ∃ n,us.length = n:=⟨_,rfl⟩
 obtain ⟨m,hot⟩ : ∃ m,others.length = m:=⟨_,rfl⟩
 have HN:=Qo0 hus
 rw [hus] at hn ⊢
 rw [hot] at CC ⊢
 clear hA hB hus hot hm
 go_enter Tryz.func23,Tryz.ntmps23
 go_wp2
 go_loopw [9,11,14] (fun v _ i V => ∃ j : Nat,j ≤ n ∧ i = iv j ∧ Hid (OR 32 5 Edt.cs V w.heap.size v (Qw k l (us.take j) others) ∧ Gr w V)) (fun _ _ i _ => n - (intOf i).toNat)
 case atStart => exact ⟨0,by omega,rfl,Qo0 ⟨by simpa [Qw] using OR.nil,Qc _⟩⟩
 case round =>
  obtain ⟨j,hj,rfl,HI⟩:=hrel
  by_cases hlt : j < n
  ·obtain ⟨u,hu⟩ : ∃ u,us[j]? = some u:=⟨_,List.getElem?_eq_getElem (by rw [HN.out];exact hlt)⟩
   obtain ⟨a,a1,ea,ha,hab,d0⟩:=rdS (HA.out _ HI.out.2) hu
   subst ea
   have HT:=Qo0 (show us.take (j + 1) = us.take j ++ [u] from by
    obtain ⟨hjl,hmm⟩:=List.getElem?_eq_some_iff.1 hu
    rw [List.take_succ_eq_append_getElem hjl,hmm])
   have hlt2 : (j : Int) < (n : Int):=by omega
   have C1:=Qo0 (CC.out u _ HI.out.2)
   have LN:=Qo0 (show (Qw k l (us.take j) others).length ≤ 100000 from Nat.le_trans (Qdj _ _ _ _) (by rw [List.length_take];omega))
   obtain ⟨b,hb⟩ : ∃ b,others.contains u = b:=⟨_,rfl⟩
   rw [hb] at C1
   have HX:=Qo0 (show Qw k l (us.take (j + 1)) others = Qw k l (us.take j) others ++ if b then [] else [edU k l u] from by rw [HT.out,Qkx,hb])
   clear hu hb
   cases b with
   | true =>
     go_wp2_with (go_at_call 50;(with_reducible refine C1.out.mono ?_);rintro e w6 ⟨rfl,rfl⟩)
     exact ⟨⟨j + 1,by omega,by simp,Qo0 ⟨by rw [HX.out];simpa using HI.out.1,HI.out.2⟩⟩,by simp [intOf];omega⟩
   | false =>
     go_wp2_with (first
      | (go_at_call 50;(with_reducible refine C1.out.mono ?_);rintro e w6 ⟨rfl,rfl⟩)
      | (at_builtin;refine Qf elT rfl (.tmp 22) (.tmp 27) rfl w.heap.size (v:=u9) rfl (HI.out.1.gr (Qa _ _)) (A:=some ⟨_,0,none⟩) (M:=[edU k l u]) (m:=1) (c:=1) rfl rfl (Qj (t:=32) Edt.cs_len (Qd _ _)) (by have:=LN.out;simp;omega) (Nat.le_trans HI.out.2.size (by simp)) ?_
         intro v7 w7 o7 g7 b7
         have O7:=Qo0 o7
         have G7:=Qo0 (OR.grow (HI.out.2.trans (Qa _ _)) (HI.out.1.gr (Qa _ _)) (Nat.le_refl _) g7)
         clear o7 g7 b7))
     exact ⟨⟨j + 1,by omega,by simp,Qo0 ⟨by rw [HX.out];exact O7.out,G7.out⟩⟩,by simp [intOf];omega⟩
  ·obtain rfl : j = n:=by omega
   have FF:=Qo0 (show OR 32 5 Edt.cs wr w.heap.size u9 (Qw k l us others) ∧ Gr w wr from ⟨by have h:=HI.out.1;rwa [List.take_of_length_le (by rw [HN.out];exact Nat.le_refl _)] at h,HI.out.2⟩)
   have hnj : ¬ (j : Int) < (j : Int):=by omega
   clear HI
   go_wp2
   go_ret
   exact ⟨_,rfl,FF.out⟩
end Go.Proofs.YtiaenhlflgobfaaGreatDoor
namespace Go.Proofs.YtiaenhlflgobfaaGreatDoor
open Go.RowKit
set_option maxRecDepth 100000 in
set_option maxHeartbeats 4000000 in
attribute [local irreducible] Calls in
theorem Qc1 (k : Int) (d : Dec) (w : World) : Calls Tryz.prog 51 #[iv k,d.v] w fun e w' => e = .returned (d.ment k).v ∧ w' = (w.alloc (.cells #[iv d.id,iv d.kind,.bool d.pub,.slice d.nA d.names.length d.nc,.bool d.doubt,iv d.body.kind,tv d.body.name,tv d.body.more,iv d.body.int,iv d.body.den,.slice d.body.A d.body.sub.length d.body.c] 45)).alloc (.cells #[iv (d.ment k).id,iv (d.ment k).kind,.bool (d.ment k).pub,.slice (d.ment k).nA (d.ment k).names.length (d.ment k).nc,.bool (d.ment k).doubt,iv (d.ment k).body.kind,tv (d.ment k).body.name,tv (d.ment k).body.more,iv (d.ment k).body.int,iv (d.ment k).body.den,.slice (d.ment k).body.A (d.ment k).body.sub.length (d.ment k).body.c] 45):=by
 obtain ⟨m,hm⟩ : ∃ m,d.ment k = m:=⟨_,rfl⟩
 have HM:=Qo0 hm
 rw [hm]
 clear hm
 obtain ⟨v,hv⟩ : ∃ v,m.v = v:=⟨_,rfl⟩
 have HV:=Qo0 hv
 rw [hv]
 clear hv
 have fin : ∀ (V : World) (tmps : Array Value),tmps.getD 4 undef = .pointer (some ⟨w.heap.size + 1,0,none⟩) → V.heap[w.heap.size + 1]? = some (.cells m.cs.toArray 45 (0,0)) → (results Tryz.f51 tmps).run Tryz.prog V = .ok v V:=fun V tmps h1 h2 => by rw [← HV.out];exact Qc0 rfl _ _ _ m h1 h2
 obtain ⟨CM,hCM⟩ : ∃ CM : Array Value,#[iv m.id,iv m.kind,.bool m.pub,.slice m.nA m.names.length m.nc,.bool m.doubt,iv m.body.kind,tv m.body.name,tv m.body.more,iv m.body.int,iv m.body.den,.slice m.body.A m.body.sub.length m.body.c] = CM:=⟨_,rfl⟩
 have HC:=Qo0 hCM
 rw [hCM]
 clear hCM
 unfold Dec.v
 by_cases h7 : k = 7
 ·subst h7
  go_enter Tryz.func51,Tryz.ntmps51
  go_wp2
  refine bodyPost_ret (fin _ _ rfl (by rw [← HM.out];exact Qr _ _ (by simp))) rfl ⟨rfl,by rw [← HC.out,← HM.out];rfl⟩
 by_cases h8 : k = 8
 ·subst h8
  go_enter Tryz.func51,Tryz.ntmps51
  go_wp2
  refine bodyPost_ret (fin _ _ rfl (by rw [← HM.out];exact Qr _ _ (by simp))) rfl ⟨rfl,by rw [← HC.out,← HM.out];rfl⟩
 by_cases h9 : k = 9
 ·subst h9
  go_enter Tryz.func51,Tryz.ntmps51
  go_wp2
  refine bodyPost_ret (fin _ _ rfl (by rw [← HM.out];exact Qr _ _ (by simp))) rfl ⟨rfl,by rw [← HC.out,← HM.out];rfl⟩
 ·have HE:=Qo0 (show d.ment k = d by unfold Dec.ment;rw [if_neg h7,if_neg h8,if_neg h9])
  have p7 : (k == 7) = false:=by simpa using h7
  have p8 : (k == 8) = false:=by simpa using h8
  have p9 : (k == 9) = false:=by simpa using h9
  go_enter Tryz.func51,Tryz.ntmps51
  go_wp2
  refine bodyPost_ret (fin _ _ rfl (by rw [← HM.out,HE.out];exact Qr _ _ (by simp))) rfl ⟨rfl,by rw [← HC.out,← HM.out,HE.out]⟩
theorem DRd.tail {w : World} {a : Addr} {c : Nat} {x : Dec} {l : List Dec} (h : DRd w (some a) c (x :: l)) : ∃ A' c',((c = 1 ∧ A' = some a ∧ c' = 0) ∨ (¬ c = 1 ∧ A' = some ⟨a.block,a.off + 11,none⟩ ∧ c' = c - 1)) ∧ DRd w A' c' l:=by
 have hcc : l.length + 1 ≤ c:=by simpa using h.rw.hc
 have hcm:=h.rw.hm
 by_cases h1 : c = 1
 ·obtain rfl : l = []:=List.eq_nil_of_length_eq_zero (by omega)
  exact ⟨some a,0,.inl ⟨h1,rfl,rfl⟩,⟨⟨by simp,by omega,fun h => (by cases h),.inl rfl⟩,by simp⟩⟩
 ·refine ⟨_,_,.inr ⟨h1,rfl,rfl⟩,⟨⟨by omega,by omega,fun h => (by cases h),?_⟩,fun z hz => h.d z (by simp [hz])⟩⟩
  have:=h.r.drop 1 (A':=some ⟨a.block,a.off + 11,none⟩) (fun b hb _ => by cases hb;rw [Qh _ _ (by omega)])
  simpa using this
def edC (k : Int) (l : T) (k1 k2 : Nat) (x y : Dec) : Edt:=⟨k,l,[],some ⟨k1,0,none⟩,1,[x],some ⟨k2,0,none⟩,1,[y]⟩
theorem chgE_er (k : Int) (l : T) (x y : Dec) (k1 k2 : Nat) : X5 k l x.er y.er = if (x.ment k).er = (y.ment k).er then [] else [(edC k l k1 k2 (x.ment k) (y.ment k)).er]:=by
 unfold X5
 rw [Yh,Yh]
 split
 ·rfl
 ·unfold edC Edt.er
  simp [Yh]
def chs (l : T) (x y : PD) (j : Nat) : List PT:=if j = 0 then X5 7 l x y ++ (X5 8 l x y ++ X5 9 l x y) else if j = 1 then X5 8 l x y ++ X5 9 l x y else if j = 2 then X5 9 l x y else []
theorem Qoo (l : T) (x y : PD) (j : Nat) (hj : j < 3) : chs l x y j = X5 (7 + j) l x y ++ chs l x y (j + 1):=by
 have : j = 0 ∨ j = 1 ∨ j = 2:=by omega
 rcases this with rfl | rfl | rfl <;> simp [chs]
theorem Qi5 (l : T) (x y : PD) (a b : List PD) (h1 : ¬ x.id < y.id) (h2 : ¬ y.id < x.id) : Qu l (x :: a) (y :: b) = chs l x y 0 ++ Qu l a b:=by
 rw [Qu,if_neg h1,if_neg h2]
 simp [chs]
theorem chs_len (l : T) (x y : PD) (j : Nat) : (chs l x y j).length ≤ 3:=by
 have h : ∀ k,(X5 k l x y).length ≤ 1:=fun k => by unfold X5;split <;> simp
 have h7:=h 7
 have h8:=h 8
 have h9:=h 9
 unfold chs
 split
 ·simp only [List.length_append];omega
 split
 ·simp only [List.length_append];omega
 split
 ·omega
 ·simp
theorem Yw (l : T) (a b : List PD) : (Qu l a b).length ≤ 3 * (a.length + b.length):=by
 fun_induction Qu l a b with
 | case1 => simp
 | case2 x a ih => simp at ih ⊢;omega
 | case3 y b ih => simp at ih ⊢;omega
 | case4 x a y b h ih => simp at ih ⊢;omega
 | case5 x a y b h k ih => simp at ih ⊢;omega
 | case6 x a y b h k ih =>
   have hc:=chs_len l x y 0
   unfold chs at hc
   simp only [if_true,List.length_append] at hc
   simp only [List.length_append,List.length_cons]
   omega
end Go.Proofs.YtiaenhlflgobfaaGreatDoor
namespace Go.Proofs.YtiaenhlflgobfaaGreatDoor
open Go.RowKit
def Yq : Value → Nat
 | .slice _ n _ => n
 | _ => 0
structure DS (w0 w V : World) (l : T) (v : Value) (R : List PT) (A : Option Addr) (c : Nat) (La : List Dec) (B : Option Addr) (d : Nat) (Lb : List Dec) (Ls : List Edt) : Prop where
 da : DRd w0 A c La
 db : DRd w0 B d Lb
 o : OR 32 5 Edt.cs V w.heap.size v Ls
 e : ∀ e ∈ Ls,ED w0 V e
 q : Ls.map Edt.er ++ Qu l (La.map Dec.er) (Lb.map Dec.er) = R
 g : Gr w V
 g0 : Gr w0 w
 sa : ∀ x ∈ La,(x.body.er.pre 1).length ≤ 400
theorem DS.put {w0 w V V8 w7 : World} {l : T} {v v7 : Value} {R : List PT} {A A' B B' : Option Addr} {c c' d d' : Nat} {La La' Lb Lb' : List Dec} {Ls es : List Edt} (h : DS w0 w V l v R A c La B d Lb Ls) (g8 : Gr V V8) (he : ∀ e ∈ es,ED w0 V8 e) (o7 : OR 32 5 Edt.cs w7 w.heap.size v7 (Ls ++ es)) (g7 : V8.grownBy w7 v.ownBlock) (da : DRd w0 A' c' La') (db : DRd w0 B' d' Lb') (hs : ∀ x ∈ La',x ∈ La) (hq : Qu l (La.map Dec.er) (Lb.map Dec.er) = es.map Edt.er ++ Qu l (La'.map Dec.er) (Lb'.map Dec.er)) : DS w0 w w7 l v7 R A' c' La' B' d' Lb' (Ls ++ es):=by
 have o8:=h.o.gr g8
 refine ⟨da,db,o7,fun e hx => ?_,by rw [List.map_append,List.append_assoc,← hq];exact h.q,OR.grow (h.g.trans g8) o8 (Nat.le_refl _) g7,h.g0,fun x hx => h.sa x (hs x hx)⟩
 rcases List.mem_append.1 hx with hx | hx
 ·exact ((h.e e hx).gr g8).row o8 g7
 ·exact (he e hx).row o8 g7
theorem DS.gg {w0 w V : World} {l : T} {v : Value} {R : List PT} {A B : Option Addr} {c d : Nat} {La Lb : List Dec} {Ls : List Edt} (h : DS w0 w V l v R A c La B d Lb Ls) : Gr w0 V:=h.g0.trans h.g
theorem DS.len {w0 w V : World} {l : T} {v : Value} {R : List PT} {A B : Option Addr} {c d : Nat} {La Lb : List Dec} {Ls : List Edt} (h : DS w0 w V l v R A c La B d Lb Ls) : Ls.length ≤ R.length:=by
 have:=congrArg List.length h.q
 rw [List.length_append,List.length_map] at this
 omega
theorem Zs {w V : World} {a : Addr} {c : Nat} {x : Dec} {l : List Dec} (h : DRd w (some a) c (x :: l)) (g : Gr w V) : a.block < w.heap.size ∧ V.cell? a = some (iv x.id) ∧ V.cell? ⟨a.block,a.off + 1,none⟩ = some (iv x.kind) ∧ V.cell? ⟨a.block,a.off + 2,none⟩ = some (.bool x.pub) ∧ V.cell? ⟨a.block,a.off + 3,none⟩ = some (.slice x.nA x.names.length x.nc) ∧ V.cell? ⟨a.block,a.off + 4,none⟩ = some (.bool x.doubt) ∧ V.cell? ⟨a.block,a.off + 5,none⟩ = some (iv x.body.kind) ∧ V.cell? ⟨a.block,a.off + 6,none⟩ = some (tv x.body.name) ∧ V.cell? ⟨a.block,a.off + 7,none⟩ = some (tv x.body.more) ∧ V.cell? ⟨a.block,a.off + 8,none⟩ = some (iv x.body.int) ∧ V.cell? ⟨a.block,a.off + 9,none⟩ = some (iv x.body.den) ∧ V.cell? ⟨a.block,a.off + 10,none⟩ = some (.slice x.body.A x.body.sub.length x.body.c):=by
 obtain ⟨b,b1,eb,hb1,hbb,d0,d1,d2,d3,d4,d5,d6,d7,d8,d9,d10⟩:=rdD (h.gr g).r (k:=0) (x:=x) rfl
 cases eb
 rw [Nat.zero_mul,add_zero'] at hb1
 subst hb1
 obtain ⟨b',-,eb',-,hbb',-⟩:=rdD h.r (k:=0) (x:=x) rfl
 cases eb'
 exact ⟨by have h1:=rdD h.r (k:=0) (x:=x) rfl;obtain ⟨b2,b3,e2,e3,h3,-⟩:=h1;cases e2;rw [Nat.zero_mul,add_zero'] at e3;subst e3;exact h3,d0,d1,d2,d3,d4,d5,d6,d7,d8,d9,d10⟩
theorem DRd.some {w : World} {A : Option Addr} {c : Nat} {x : Dec} {l : List Dec} (h : DRd w A c (x :: l)) : ∃ a,A = Option.some a:=by
 obtain ⟨a,-,e,-⟩:=rdD h.r (k:=0) (x:=x) rfl
 exact ⟨a,e⟩
end Go.Proofs.YtiaenhlflgobfaaGreatDoor

/- Walks and words: Clt, Aps, Efa, Efb, Efc, Efd, Efe, Eff, Efg, Efx. -/
import Derived.Test.YtiaenhlflgobfaaGreatDoorTb16
import Derived.Test.YtiaenhlflgobfaaGreatDoorTb17
import Derived.Test.YtiaenhlflgobfaaGreatDoorTb28
import Derived.Test.YtiaenhlflgobfaaGreatDoorTb29
import Derived.Test.YtiaenhlflgobfaaGreatDoorTb30
import Derived.Test.YtiaenhlflgobfaaGreatDoorTb31
import Derived.Test.YtiaenhlflgobfaaGreatDoorTb32
import Derived.Test.YtiaenhlflgobfaaGreatDoorTb33
import Derived.Test.YtiaenhlflgobfaaGreatDoorTb34
import Derived.Deep.RegionHeld3
import Derived.Deep.RegionLaw
namespace Go.Proofs.YtiaenhlflgobfaaGreatDoor
open Go.RowKit
theorem Qov {l : List Mod} {p s : Mod} (h : Asc Mod.label (l ++ [p])) (hp : p.label < s.label) : Asc Mod.label (l ++ [p] ++ [s]):=by
 refine List.pairwise_append.2 ⟨h,by simp,fun x hx y hy => ?_⟩
 rw [List.mem_singleton.1 hy]
 rcases List.mem_append.1 hx with hx | hx
 ·exact Ord.tr _ _ _ ((List.pairwise_append.1 h).2.2 x hx p (by simp)) hp
 ·rw [List.mem_singleton.1 hx];exact hp
theorem Qnf (L : List Mod) : oks.Mods (L.map Mod.er) ↔ Asc Mod.label L ∧ ∀ m ∈ L,oks.Mod m.er:=by
 constructor
 ·intro h
  exact ⟨(List.pairwise_map (f:=Mod.er)).1 h.asc,fun m hm => h.mods _ (List.mem_map.2 ⟨m,hm,rfl⟩)⟩
 ·rintro ⟨h1,h2⟩
  refine ⟨(List.pairwise_map (f:=Mod.er)).2 h1,fun m hm => ?_⟩
  obtain ⟨x,hx,rfl⟩:=List.mem_map.1 hm
  exact h2 x hx
set_option maxRecDepth 100000 in
set_option maxHeartbeats 4000000 in
attribute [local irreducible] Calls in
theorem X6 (A : Option Addr) (c : Nat) (L : List Mod) (w : World) (hL : MRd w A c L) :
 Calls Tryz.prog 21 #[.slice A L.length c] w fun e w' => ∃ r,e = .returned (iv r) ∧ (r = 0 ↔ oks.Mods (L.map Mod.er)) ∧ Gr w w':=by
 have CE:=Qo0 (fun V (g : Gr w V) => Qbo A c L V (hL.gr g))
 have MI:=Qo0 (Qnf L)
 obtain ⟨n,hn⟩ : ∃ n,L.length = n:=⟨_,rfl⟩
 have HN:=Qo0 hn
 have hn9 : n ≤ 9223372036854775807:=by rw [← hn];exact Nat.le_trans hL.rw.hc hL.rw.hm
 have HL:=Qo0 (fun V (g : Gr w V) => hL.r.gr g)
 rw [hn] at CE ⊢
 clear hn hL
 go_enter Tryz.func21,Tryz.ntmps21
 go_wp2
 go_loopw [3,6] (fun _ i V => ∃ j : Nat,j ≤ n ∧ i = iv j ∧ Hid (Gr w V ∧ Asc Mod.label (L.take j))) (fun _ i _ => n - (intOf i).toNat)
 case atStart => exact ⟨0,by omega,rfl,Qo0 ⟨Qc _,by simp⟩⟩
 case round =>
  obtain ⟨j,hj,rfl,HG⟩:=hrel
  by_cases hlt : j < n
  ·have hlt2 : (j : Int) < (n : Int):=by omega
   obtain ⟨m,hm⟩ : ∃ m,L[j]? = some m:=⟨_,List.getElem?_eq_getElem (by rw [HN.out];exact hlt)⟩
   obtain ⟨b,b1,eb,hb,hbb,d0,-,-⟩:=rdM (HL.out _ HG.out.1) hm
   have HTJ:=Qo0 (show L.take (j + 1) = L.take j ++ [m] from by
    obtain ⟨hjl,hmm⟩:=List.getElem?_eq_some_iff.1 hm
    rw [List.take_succ_eq_append_getElem hjl,hmm])
   cases j with
   | zero =>
     have TK:=Qo0 (show Asc Mod.label (L.take (0 + 1)) from by rw [HTJ.out];simp)
     subst eb
     clear hm HTJ
     go_upto_region 4 with fail
     go_quiet (fail)
     all_goals go_wp2
     all_goals exact ⟨⟨1,by omega,by simp,Qo0 ⟨HG.out.1.trans (Qq _ _),TK.out⟩⟩,by simp [intOf];omega⟩
   | succ k =>
     obtain ⟨p,hp⟩ : ∃ p,L[k]? = some p:=⟨_,List.getElem?_eq_getElem (by rw [HN.out];omega)⟩
     obtain ⟨b',b2,eb',hb',hbb',e0,-,-⟩:=rdM (HL.out _ HG.out.1) hp
     rw [eb] at eb'
     cases eb'
     subst eb
     have HTK:=Qo0 (show L.take (k + 1) = L.take k ++ [p] from by
      obtain ⟨hjl,hmm⟩:=List.getElem?_eq_some_iff.1 hp
      rw [List.take_succ_eq_append_getElem hjl,hmm])
     have NO:=Qo0 (fun (h : Asc Mod.label L) => show p.label < m.label from by
      obtain ⟨h1,e1⟩:=List.getElem?_eq_some_iff.1 hp
      obtain ⟨h2,e2⟩:=List.getElem?_eq_some_iff.1 hm
      rw [← e1,← e2]
      exact List.pairwise_iff_getElem.1 h k (k + 1) h1 h2 (by omega))
     have hk0 : (0 : Int) < ((k + 1 : Nat) : Int):=by omega
     have wk : IntKind.i64.wrap (((k + 1 : Nat) : Int) - 1) = k:=by rw [IntWalk.i64_in _ ⟨by omega,by omega⟩];omega
     have wk2 : ((k : Int) + 1 - 1) = k:=by omega
     have hkn : k < n:=by omega
     have hkn2 : (k : Int) + 1 < (n : Int):=by omega
     have hb3:=bytesLess_eq m.label p.label
     by_cases hps : p.label < m.label
     ·rw [decide_eq_false (Ord.asym hps)] at hb3
      have hb5 : (m.label == p.label) = false:=by simp only [beq_eq_false_iff_ne,ne_eq];intro h;rw [h] at hps;exact Ord.irr _ hps
      have TK:=Qo0 (show Asc Mod.label (L.take (k + 1 + 1)) from by
       have h:=HG.out.2
       rw [HTJ.out]
       rw [HTK.out] at h ⊢
       exact Qov h hps)
      clear hm hp HTJ HTK hps NO
      go_upto_region 4 with fail
      go_quiet (fail)
      all_goals go_wp2
      all_goals exact ⟨⟨k + 1 + 1,by omega,by simp,Qo0 ⟨HG.out.1.trans (Qq _ _),TK.out⟩⟩,by simp [intOf];omega⟩
     ·have NK:=Qo0 (show ¬ oks.Mods (L.map Mod.er) from fun h => hps (NO.out (MI.out.1 h).1))
      by_cases hmp : m.label < p.label
      ·rw [decide_eq_true hmp] at hb3
       have hb5 : (m.label == p.label) = false:=by simp only [beq_eq_false_iff_ne,ne_eq];intro h;rw [h] at hmp;exact Ord.irr _ hmp
       clear hm hp HTJ HTK hps NO hmp
       go_upto_region 4 with fail
       go_quiet (fail)
       all_goals go_wp2
       all_goals go_ret
       all_goals exact ⟨10,rfl,⟨fun h => by omega,fun h => absurd h NK.out⟩,HG.out.1.trans (Qq _ _)⟩
      ·rw [decide_eq_false hmp] at hb3
       have hb5 : (m.label == p.label) = true:=by simp only [beq_iff_eq];exact Ord.tri _ _ hmp hps
       clear hm hp HTJ HTK hps NO hmp
       go_upto_region 4 with fail
       go_quiet (fail)
       all_goals go_wp2
       all_goals go_ret
       all_goals exact ⟨10,rfl,⟨fun h => by omega,fun h => absurd h NK.out⟩,HG.out.1.trans (Qq _ _)⟩
  ·obtain rfl : j = n:=by omega
   have hnj : ¬ (j : Int) < (j : Int):=by omega
   have FA:=Qo0 (show Asc Mod.label L from by have h:=HG.out.2;rwa [List.take_of_length_le (by rw [HN.out];exact Nat.le_refl _)] at h)
   have FG:=Qo0 HG.out.1
   clear HG
   go_wp2_with (go_at_call 31;(with_reducible refine (CE.out _ FG.out).mono ?_);rintro x w3 ⟨r,rfl,h3,g3⟩;have R3:=Qo0 h3;have G3:=Qo0 (FG.out.trans g3);clear g3 h3)
   go_ret
   exact ⟨r,rfl,R3.out.trans ⟨fun h => MI.out.2 ⟨FA.out,h⟩,fun h => (MI.out.1 h).2⟩,G3.out⟩
end Go.Proofs.YtiaenhlflgobfaaGreatDoor
namespace Go.Proofs.YtiaenhlflgobfaaGreatDoor
open Go.RowKit
theorem OR.apart {α β : Type} {e e' : TypeId} {n n' : Nat} {cs : α → List Value} {cs' : β → List Value} {w V : World} {base base' : Nat} {v v' : Value} {L : List α} {L' : List β} (h : OR e n cs w base v L) (h' : OR e' n' cs' w base' v' L') (hne : e ≠ e') (g : w.grownBy V v'.ownBlock) : OR e n cs V base v L:=by
 refine h.kept g ?_
 cases hb : v.ownBlock with
 | none => exact .inl rfl
 | some k =>
   right
   intro e1
   obtain ⟨-,c,h2⟩:=h.typ hb
   obtain ⟨-,c',h3⟩:=h'.typ e1.symm
   rw [h2] at h3
   cases h3
   exact hne rfl
structure Fr (B : Nat) (V V' : World) : Prop where
 os : V'.os = V.os
 tape : V'.tape = V.tape
 output : V'.output = V.output
 size : V.heap.size ≤ V'.heap.size
 lo : ∀ k,k < B → k < V.heap.size → V'.heap[k]? = V.heap[k]?
 oth : ∀ (k : Nat) (o : Obj),V.heap[k]? = some o → (∀ c,o ≠ .cells c 39 (0,0) ∧ o ≠ .cells c 9 (0,0) ∧ o ≠ .cells c 45 (0,0)) → V'.heap[k]? = some o
theorem Fr.refl (B : Nat) (V : World) : Fr B V V:=⟨rfl,rfl,rfl,Nat.le_refl _,fun _ _ _ => rfl,fun _ _ h _ => h⟩
theorem Fr.trans {B : Nat} {U V W : World} (h : Fr B U V) (k : Fr B V W) : Fr B U W :=
 ⟨k.os.trans h.os,k.tape.trans h.tape,k.output.trans h.output,Nat.le_trans h.size k.size,fun j hj hs => (k.lo j hj (Nat.lt_of_lt_of_le hs h.size)).trans (h.lo j hj hs),fun j o h1 h2 => k.oth j o (h.oth j o h1 h2) h2⟩
theorem Fr.of_gr {B : Nat} {V V' : World} (g : Gr V V') : Fr B V V' :=
 ⟨g.os,g.tape,g.output,g.size,fun k _ hk => g.block k hk (by simp),fun k o h _ => Qe g h⟩
theorem Fr.row {α : Type} {t : TypeId} {n : Nat} {cs : α → List Value} {V V' : World} {B : Nat} {v : Value} {L : List α} (h : OR t n cs V B v L) (ht : t = 39 ∨ t = 9 ∨ t = 45) (g : V.grownBy V' v.ownBlock) : Fr B V V':=by
 refine ⟨g.os,g.tape,g.output,g.size,fun k hk hkv => g.block k hkv (fun e => by have:=(h.lt k e.symm).1;omega),fun k o ho hne => ?_⟩
 ·refine (g.block k (Qn ho) (fun e => ?_)).trans ho
  obtain ⟨-,c,h2⟩:=h.typ e.symm
  rw [ho] at h2
  cases h2
  have:=hne c
  rcases ht with rfl | rfl | rfl
  ·exact this.1 rfl
  ·exact this.2.1 rfl
  ·exact this.2.2 rfl
structure MC (w : World) (M : Nat) (m : Mod) : Prop where
 l : sOk m.label
 us : ∀ s ∈ m.uses,sOk s
 ds : ∀ d ∈ m.decls,d.Rd w ∧ 1 ≤ d.id ∧ d.id ≤ 999999
 nu : m.uses.length ≤ M
 nd : m.decls.length ≤ M
theorem MC.up {w : World} {M : Nat} {m : Mod} (h : MC w M m) : MC w (M + 1) m:=⟨h.l,h.us,h.ds,Nat.le_succ_of_le h.nu,Nat.le_succ_of_le h.nd⟩
structure AS (w : World) (B M : Nat) (V : World) (v : Value) (L : List Mod) : Prop where
 g : Gr w V
 wb : w.heap.size ≤ B
 bv : B ≤ V.heap.size
 o : OR 39 3 Mod.cs V B v L
 u : ∀ m ∈ L,OR 9 1 scs V B (.slice m.uA m.uses.length m.uc) m.uses
 d : ∀ m ∈ L,OR 45 11 Dec.cs V B (.slice m.dA m.decls.length m.dc) m.decls
 un : L.Pairwise (fun m n => ∀ a,m.uA = some a → n.uA ≠ some a)
 dn : L.Pairwise (fun m n => ∀ a,m.dA = some a → n.dA ≠ some a)
 c : ∀ m ∈ L,MC w M m
 n : L.length ≤ M
theorem AS.gr {w : World} {B M : Nat} {V V' : World} {v : Value} {L : List Mod} (h : AS w B M V v L) (g : Gr V V') : AS w B M V' v L :=
 ⟨h.g.trans g,h.wb,Nat.le_trans h.bv g.size,h.o.gr g,fun m hm => (h.u m hm).gr g,fun m hm => (h.d m hm).gr g,h.un,h.dn,h.c,h.n⟩
theorem AS.up {w : World} {B M : Nat} {V : World} {v : Value} {L : List Mod} (h : AS w B M V v L) : AS w B (M + 1) V v L :=
 ⟨h.g,h.wb,h.bv,h.o,h.u,h.d,h.un,h.dn,fun m hm => (h.c m hm).up,Nat.le_succ_of_le h.n⟩
theorem Qh9 {α : Type} {t : TypeId} {n : Nat} {cs : α → List Value} (hn : ∀ x,(cs x).length = n) {V : World} {B : Nat} {a b : Option Addr} {la lb ca cb : Nat} {L L' : List α} (h : OR t n cs V B (.slice a la ca) L) (h' : OR t n cs V B (.slice b lb cb) L') (hne : ∀ x,a = some x → b ≠ some x) : (Value.slice a la ca).ownBlock = none ∨ (Value.slice a la ca).ownBlock ≠ (Value.slice b lb cb).ownBlock:=by
 cases a with
 | none => exact .inl rfl
 | some x =>
   right
   cases b with
   | none => simp [Value.ownBlock]
   | some y =>
     simp only [Value.ownBlock,ne_eq,Option.some.injEq]
     intro e
     obtain ⟨A,c,e1,-,-,-,-,h1⟩:=h.form2 hn
     obtain ⟨A',c',e2,-,-,-,-,h2⟩:=h'.form2 hn
     have q1:=(h1 x (by rw [← (Value.slice.inj e1).1])).2.2
     have q2:=(h2 y (by rw [← (Value.slice.inj e2).1])).2.2
     exact hne x rfl (by rw [q1,q2,e])
theorem Qa2 (pre post : List Mod) (m m' : Mod) (u : Value) (j : Nat) (hj : j < 3) (hc : m.cs.set j u = m'.cs) : ((pre ++ m :: post).flatMap Mod.cs).set (pre.length * 3 + j) u = (pre ++ m' :: post).flatMap Mod.cs:=by
 have hl : (pre.flatMap Mod.cs).length = pre.length * 3:=Qk Mod.cs 3 Mod.cs_len pre
 rw [List.flatMap_append,List.flatMap_append,List.flatMap_cons,List.flatMap_cons,List.set_append_right _ _ (by omega),hl,Nat.add_sub_cancel_left,List.set_append_left _ _ (by rw [Mod.cs_len];exact hj),hc]
theorem Qfj {R : Mod → Mod → Prop} {pre post : List Mod} {m : Mod} (m' : Mod) (hs : ∀ x y,R x y → R y x) (h : (pre ++ m :: post).Pairwise R) (hn : ∀ x ∈ pre ++ m :: post,R x m → R x m') : (pre ++ m' :: post).Pairwise R:=by
 obtain ⟨p1,p2,p3⟩:=List.pairwise_append.1 h
 obtain ⟨p4,p5⟩:=List.pairwise_cons.1 p2
 refine List.pairwise_append.2 ⟨p1,List.pairwise_cons.2 ⟨fun y hy => hs _ _ (hn y (by simp [hy]) (hs _ _ (p4 y hy))),p5⟩,fun x hx y hy => ?_⟩
 rcases List.mem_cons.1 hy with rfl | hy
 ·exact hn x (by simp [hx]) (p3 x hx m (by simp))
 ·exact p3 x hx y (by simp [hy])
theorem Qda {R : Mod → Mod → Prop} {pre post : List Mod} {m : Mod} (m' : Mod) (h : (pre ++ m :: post).Pairwise R) (h1 : ∀ x,R x m ↔ R x m') (h2 : ∀ x,R m x ↔ R m' x) : (pre ++ m' :: post).Pairwise R:=by
 obtain ⟨p1,p2,p3⟩:=List.pairwise_append.1 h
 obtain ⟨p4,p5⟩:=List.pairwise_cons.1 p2
 refine List.pairwise_append.2 ⟨p1,List.pairwise_cons.2 ⟨fun y hy => (h2 y).1 (p4 y hy),p5⟩,fun x hx y hy => ?_⟩
 rcases List.mem_cons.1 hy with rfl | hy
 ·exact (h1 x).1 (p3 x hx m (by simp))
 ·exact p3 x hx y (by simp [hy])
theorem AS.setU {w : World} {B M : Nat} {V : World} {v : Value} {pre post : List Mod} {m : Mod} {gg nn cap : Nat} (h : AS w B M V v (pre ++ m :: post)) (hv : v = .slice (some ⟨gg,0,none⟩) nn cap) {V1 V2 : World} (g1 : Gr V V1) {v' : Value} {xs' : List T} (o' : OR 9 1 scs V2 B v' xs') (g2 : V1.grownBy V2 (Value.slice m.uA m.uses.length m.uc).ownBlock) (b' : v'.ownBlock = (Value.slice m.uA m.uses.length m.uc).ownBlock ∨ v'.ownBlock = some V1.heap.size) (hs : ∀ s ∈ xs',sOk s) (hl : xs'.length ≤ M + 1) :
 ∃ A' c',v' = .slice A' xs'.length c' ∧ AS w B (M + 1) (V2.setCell ⟨gg,pre.length * 3 + 1,none⟩ v') v (pre ++ { m with uA:=A',uc:=c',uses:=xs' } :: post) ∧ Fr B V (V2.setCell ⟨gg,pre.length * 3 + 1,none⟩ v'):=by
 obtain ⟨A',c',rfl,-,-,-,-,hA'⟩:=o'.form2 elS.hn
 have hm0 : m ∈ pre ++ m :: post:=by simp
 have om:=h.u m hm0
 have om1:=om.gr g1
 have ov1:=h.o.gr g1
 have ov2:=ov1.apart om1 (by decide) g2
 subst hv
 have st:=(show V2.ownsRow B 39 3 (.slice (some ⟨gg,0,none⟩) nn cap) (pre ++ m :: post).length ((pre ++ m :: post).flatMap Mod.cs) from ov2)
 have hnn : nn = (pre ++ m :: post).length:=by
  rcases ov2.2 with ⟨h1,_⟩ | ⟨g',cap',cur,e1,_⟩
  ·cases h1
  ·exact (Value.slice.inj e1).2.1
 rw [← hnn] at st
 have s3:=st.stored (pre.length * 3 + 1) (.slice A' xs'.length c')
 have gs : V2.grownBy (V2.setCell ⟨gg,pre.length * 3 + 1,none⟩ (.slice A' xs'.length c')) (Value.slice (some ⟨gg,0,none⟩) nn cap).ownBlock:=s3.2
 have o3 : OR 39 3 Mod.cs (V2.setCell ⟨gg,pre.length * 3 + 1,none⟩ (.slice A' xs'.length c')) B (.slice (some ⟨gg,0,none⟩) nn cap) (pre ++ { m with uA:=A',uc:=c',uses:=xs' } :: post):=by
  have e1:=Qa2 pre post m ({ m with uA:=A',uc:=c',uses:=xs' } : Mod) (.slice A' xs'.length c') 1 (by decide) rfl
  have s4:=s3.1
  rw [e1] at s4
  unfold OR
  have e2 : (pre ++ ({ m with uA:=A',uc:=c',uses:=xs' } : Mod) :: post).length = nn:=by rw [hnn];simp
  rw [e2]
  exact s4
 have mem : ∀ x,x ∈ pre ++ ({ m with uA:=A',uc:=c',uses:=xs' } : Mod) :: post → (x ∈ pre ++ m :: post ∧ ((∀ a,x.uA = some a → m.uA ≠ some a))) ∨ x = { m with uA:=A',uc:=c',uses:=xs' }:=by
  intro x hx
  obtain ⟨p1,p2,p3⟩:=List.pairwise_append.1 h.un
  rcases List.mem_append.1 hx with hx | hx
  ·exact .inl ⟨List.mem_append_left _ hx,p3 x hx m (by simp)⟩
  ·rcases List.mem_cons.1 hx with hx | hx
   ·exact .inr hx
   ·exact .inl ⟨List.mem_append_right _ (List.mem_cons_of_mem _ hx),fun a ha hb => (List.pairwise_cons.1 p2).1 x hx a hb ha⟩
 have fresh : ∀ x ∈ pre ++ m :: post,(∀ a,x.uA = some a → m.uA ≠ some a) → ∀ a,x.uA = some a → A' ≠ some a:=by
  intro x hx hne a ha hA
  obtain ⟨-,q2,q3⟩:=hA' a hA
  rcases b' with b' | b'
  ·rw [hA] at b'
   obtain ⟨Am,cm,em,-,-,-,-,hAm⟩:=om.form2 elS.hn
   obtain ⟨e1,-,-⟩:=Value.slice.inj em
   cases hmA : m.uA with
   | none => rw [hmA] at b';simp [Value.ownBlock] at b'
   | some b =>
     rw [hmA] at b'
     simp only [Value.ownBlock,Option.some.injEq] at b'
     have q4:=(hAm b (by rw [← e1,hmA])).2.2
     have : b = a:=by rw [q4,q3,b']
     exact hne a ha (by rw [hmA,this])
  ·rw [hA] at b'
   simp only [Value.ownBlock,Option.some.injEq] at b'
   obtain ⟨Ax,cx,ex,-,-,-,-,hAx⟩:=(h.u x hx).form2 elS.hn
   obtain ⟨e1,-,-⟩:=Value.slice.inj ex
   have q5:=(hAx a (by rw [← e1,ha])).2.1
   have:=g1.size
   omega
 refine ⟨A',c',rfl,⟨?_,h.wb,?_,o3,?_,?_,?_,?_,?_,?_⟩,?_⟩
 ·exact OR.grow (OR.grow (h.g.trans g1) om1 h.wb g2) ov2 h.wb gs
 ·exact Nat.le_trans h.bv (Nat.le_trans g1.size (Nat.le_trans g2.size gs.size))
 ·intro x hx
  rcases mem x hx with ⟨hx1,hx2⟩ | rfl
  ·exact (((h.u x hx1).gr g1).kept g2 (Qh9 elS.hn (h.u x hx1) om hx2)).apart ov2 (by decide) gs
  ·exact o'.apart ov2 (by decide) gs
 ·intro x hx
  rcases mem x hx with ⟨hx1,hx2⟩ | rfl
  ·exact (((h.d x hx1).gr g1).apart om1 (by decide) g2).apart ov2 (by decide) gs
  ·exact (((h.d m hm0).gr g1).apart om1 (by decide) g2).apart ov2 (by decide) gs
 ·exact Qfj _ (fun x y hxy a ha hb => hxy a hb ha) h.un (fun x hx hxm a ha => fresh x hx hxm a ha)
 ·exact Qda _ h.dn (fun x => Iff.rfl) (fun x => Iff.rfl)
 ·intro x hx
  rcases mem x hx with ⟨hx1,-⟩ | rfl
  ·exact (h.c x hx1).up
  ·have q:=h.c m hm0
   exact ⟨q.l,hs,q.ds,hl,Nat.le_succ_of_le q.nd⟩
 ·have:=h.n
  simp at this ⊢
  omega
 ·exact (Fr.of_gr g1).trans ((Fr.row om1 (by decide) g2).trans (Fr.row ov2 (by decide) gs))
theorem AS.setD {w : World} {B M : Nat} {V : World} {v : Value} {pre post : List Mod} {m : Mod} {gg nn cap : Nat} (h : AS w B M V v (pre ++ m :: post)) (hv : v = .slice (some ⟨gg,0,none⟩) nn cap) {V1 V2 : World} (g1 : Gr V V1) {v' : Value} {xs' : List Dec} (o' : OR 45 11 Dec.cs V2 B v' xs') (g2 : V1.grownBy V2 (Value.slice m.dA m.decls.length m.dc).ownBlock) (b' : v'.ownBlock = (Value.slice m.dA m.decls.length m.dc).ownBlock ∨ v'.ownBlock = some V1.heap.size) (hs : ∀ d ∈ xs',d.Rd w ∧ 1 ≤ d.id ∧ d.id ≤ 999999) (hl : xs'.length ≤ M + 1) :
 ∃ A' c',v' = .slice A' xs'.length c' ∧ AS w B (M + 1) (V2.setCell ⟨gg,pre.length * 3 + 2,none⟩ v') v (pre ++ { m with dA:=A',dc:=c',decls:=xs' } :: post) ∧ Fr B V (V2.setCell ⟨gg,pre.length * 3 + 2,none⟩ v'):=by
 obtain ⟨A',c',rfl,-,-,-,-,hA'⟩:=o'.form2 elD.hn
 have hm0 : m ∈ pre ++ m :: post:=by simp
 have om:=h.d m hm0
 have om1:=om.gr g1
 have ov1:=h.o.gr g1
 have ov2:=ov1.apart om1 (by decide) g2
 subst hv
 have st:=(show V2.ownsRow B 39 3 (.slice (some ⟨gg,0,none⟩) nn cap) (pre ++ m :: post).length ((pre ++ m :: post).flatMap Mod.cs) from ov2)
 have hnn : nn = (pre ++ m :: post).length:=by
  rcases ov2.2 with ⟨h1,_⟩ | ⟨g',cap',cur,e1,_⟩
  ·cases h1
  ·exact (Value.slice.inj e1).2.1
 rw [← hnn] at st
 have s3:=st.stored (pre.length * 3 + 2) (.slice A' xs'.length c')
 have gs : V2.grownBy (V2.setCell ⟨gg,pre.length * 3 + 2,none⟩ (.slice A' xs'.length c')) (Value.slice (some ⟨gg,0,none⟩) nn cap).ownBlock:=s3.2
 have o3 : OR 39 3 Mod.cs (V2.setCell ⟨gg,pre.length * 3 + 2,none⟩ (.slice A' xs'.length c')) B (.slice (some ⟨gg,0,none⟩) nn cap) (pre ++ { m with dA:=A',dc:=c',decls:=xs' } :: post):=by
  have e1:=Qa2 pre post m ({ m with dA:=A',dc:=c',decls:=xs' } : Mod) (.slice A' xs'.length c') 2 (by decide) rfl
  have s4:=s3.1
  rw [e1] at s4
  unfold OR
  have e2 : (pre ++ ({ m with dA:=A',dc:=c',decls:=xs' } : Mod) :: post).length = nn:=by rw [hnn];simp
  rw [e2]
  exact s4
 have mem : ∀ x,x ∈ pre ++ ({ m with dA:=A',dc:=c',decls:=xs' } : Mod) :: post → (x ∈ pre ++ m :: post ∧ ((∀ a,x.dA = some a → m.dA ≠ some a))) ∨ x = { m with dA:=A',dc:=c',decls:=xs' }:=by
  intro x hx
  obtain ⟨p1,p2,p3⟩:=List.pairwise_append.1 h.dn
  rcases List.mem_append.1 hx with hx | hx
  ·exact .inl ⟨List.mem_append_left _ hx,p3 x hx m (by simp)⟩
  ·rcases List.mem_cons.1 hx with hx | hx
   ·exact .inr hx
   ·exact .inl ⟨List.mem_append_right _ (List.mem_cons_of_mem _ hx),fun a ha hb => (List.pairwise_cons.1 p2).1 x hx a hb ha⟩
 have fresh : ∀ x ∈ pre ++ m :: post,(∀ a,x.dA = some a → m.dA ≠ some a) → ∀ a,x.dA = some a → A' ≠ some a:=by
  intro x hx hne a ha hA
  obtain ⟨-,q2,q3⟩:=hA' a hA
  rcases b' with b' | b'
  ·rw [hA] at b'
   obtain ⟨Am,cm,em,-,-,-,-,hAm⟩:=om.form2 elD.hn
   obtain ⟨e1,-,-⟩:=Value.slice.inj em
   cases hmA : m.dA with
   | none => rw [hmA] at b';simp [Value.ownBlock] at b'
   | some b =>
     rw [hmA] at b'
     simp only [Value.ownBlock,Option.some.injEq] at b'
     have q4:=(hAm b (by rw [← e1,hmA])).2.2
     have : b = a:=by rw [q4,q3,b']
     exact hne a ha (by rw [hmA,this])
  ·rw [hA] at b'
   simp only [Value.ownBlock,Option.some.injEq] at b'
   obtain ⟨Ax,cx,ex,-,-,-,-,hAx⟩:=(h.d x hx).form2 elD.hn
   obtain ⟨e1,-,-⟩:=Value.slice.inj ex
   have q5:=(hAx a (by rw [← e1,ha])).2.1
   have:=g1.size
   omega
 refine ⟨A',c',rfl,⟨?_,h.wb,?_,o3,?_,?_,?_,?_,?_,?_⟩,?_⟩
 ·exact OR.grow (OR.grow (h.g.trans g1) om1 h.wb g2) ov2 h.wb gs
 ·exact Nat.le_trans h.bv (Nat.le_trans g1.size (Nat.le_trans g2.size gs.size))
 ·intro x hx
  rcases mem x hx with ⟨hx1,hx2⟩ | rfl
  ·exact (((h.u x hx1).gr g1).apart om1 (by decide) g2).apart ov2 (by decide) gs
  ·exact (((h.u m hm0).gr g1).apart om1 (by decide) g2).apart ov2 (by decide) gs
 ·intro x hx
  rcases mem x hx with ⟨hx1,hx2⟩ | rfl
  ·exact (((h.d x hx1).gr g1).kept g2 (Qh9 elD.hn (h.d x hx1) om hx2)).apart ov2 (by decide) gs
  ·exact o'.apart ov2 (by decide) gs
 ·exact Qda _ h.un (fun x => Iff.rfl) (fun x => Iff.rfl)
 ·exact Qfj _ (fun x y hxy a ha hb => hxy a hb ha) h.dn (fun x hx hxm a ha => fresh x hx hxm a ha)
 ·intro x hx
  rcases mem x hx with ⟨hx1,-⟩ | rfl
  ·exact (h.c x hx1).up
  ·have q:=h.c m hm0
   exact ⟨q.l,q.us,hs,Nat.le_succ_of_le q.nu,hl⟩
 ·have:=h.n
  simp at this ⊢
  omega
 ·exact (Fr.of_gr g1).trans ((Fr.row om1 (by decide) g2).trans (Fr.row ov2 (by decide) gs))
end Go.Proofs.YtiaenhlflgobfaaGreatDoor
namespace Go.Proofs.YtiaenhlflgobfaaGreatDoor
open Go.RowKit
theorem AS.hdr {w : World} {B M : Nat} {V : World} {v : Value} {pre post : List Mod} {m : Mod} {gg nn cap : Nat} (h : AS w B M V v (pre ++ m :: post)) (hv : v = .slice (some ⟨gg,0,none⟩) nn cap) :
 gg < V.heap.size ∧ V.cell? ⟨gg,pre.length * 3,none⟩ = some (tv m.label) ∧ V.cell? ⟨gg,pre.length * 3 + 1,none⟩ = some (.slice m.uA m.uses.length m.uc) ∧ V.cell? ⟨gg,pre.length * 3 + 2,none⟩ = some (.slice m.dA m.decls.length m.dc) ∧ (∀ j,V.frozen? ⟨gg,j,none⟩ = false):=by
 obtain ⟨A,c,e1,hr,-,-,-,hA⟩:=h.o.form2 Mod.cs_len
 rw [hv] at e1
 obtain ⟨e2,-,-⟩:=Value.slice.inj e1
 obtain ⟨a,a1,ea,ha,hb,c0,c1,c2⟩:=rdM hr (k:=pre.length) (x:=m) (by simp)
 rw [← e2] at ea
 cases ea
 have e3 : (⟨gg,0,none⟩ : Addr).add (pre.length * 3) = ⟨gg,pre.length * 3,none⟩:=by
  by_cases h0 : pre.length * 3 = 0
  ·rw [h0,add_zero']
  ·rw [Qh _ _ h0];simp
 rw [e3] at ha
 subst ha
 have ho:=h.o
 rw [hv] at ho
 exact ⟨hb,c0,c1,c2,fun j => OR.frz ho j⟩
theorem AS.ru {w : World} {B M : Nat} {V : World} {v : Value} {L : List Mod} {m : Mod} (h : AS w B M V v L) (hm : m ∈ L) : RD 1 scs V m.uA m.uses:=by
 obtain ⟨A,c,e1,hr,-⟩:=(h.u m hm).form2 elS.hn
 obtain ⟨e2,-,-⟩:=Value.slice.inj e1
 rw [e2];exact hr
theorem AS.rd {w : World} {B M : Nat} {V : World} {v : Value} {L : List Mod} {m : Mod} (h : AS w B M V v L) (hm : m ∈ L) : RD 11 Dec.cs V m.dA m.decls:=by
 obtain ⟨A,c,e1,hr,-⟩:=(h.d m hm).form2 elD.hn
 obtain ⟨e2,-,-⟩:=Value.slice.inj e1
 rw [e2];exact hr
theorem Qjs (m : Mod) (A : Option Addr) (c : Nat) (us : List T) : Mod.er { m with uA:=A,uc:=c,uses:=us } = { m.er with uses:=us }:=rfl
theorem Qjt (m : Mod) (A : Option Addr) (c : Nat) (ds : List Dec) : Mod.er { m with dA:=A,dc:=c,decls:=ds } = { m.er with decls:=ds.map Dec.er }:=rfl
set_option maxRecDepth 100000 in
set_option maxHeartbeats 4000000 in
attribute [local irreducible] Calls in
theorem eff54 (w : World) (B M : Nat) (V : World) (v : Value) (pre post : List Mod) (m : Mod) (gg nn cap : Nat) (e : Edt) (h : AS w B M V v (pre ++ m :: post)) (hv : v = .slice (some ⟨gg,0,none⟩) nn cap) (hM : M ≤ 100000) (he : e.Rd w) (hs : Asc id m.uses) (hn : Zd id m.uses e.text = false) :
 Calls Tryz.prog 54 #[.pointer (some ⟨gg,pre.length * 3,none⟩),e.v] V fun x V' => x = .returned (iv 0) ∧ ∃ m',m'.er = { m.er with uses:=Zt id m.uses e.text } ∧ AS w B (M + 1) V' v (pre ++ m' :: post) ∧ Fr B V V':=by
 have hm0 : m ∈ pre ++ m :: post:=by simp
 have hgv:=(h.hdr hv).1
 obtain ⟨W,hW⟩ : ∃ W,V.alloc (.cells #[iv e.kind,tv e.pack,tv e.text,.slice e.oA e.old.length e.oc,.slice e.nA e.new.length e.nc] 32) = W:=⟨_,rfl⟩
 have GW:=Qo0 (show Gr V W by rw [← hW];exact Qa _ _)
 have CB:=Qo0 (fun V' (g : Gr W V') => Qt (V:=V') (b:=V.heap.size) (e:=e) (Qe g (by rw [← hW];exact Qd _ _)))
 have HD:=Qo0 (fun V' (g : Gr W V') => (h.gr (GW.out.trans g)).hdr hv)
 have mc:=h.c m hm0
 have MS:=Qo0 (show ∀ s ∈ Zt id m.uses e.text,sOk s from by
  intro s hs'
  unfold Zt at hs'
  rcases List.mem_append.1 hs' with h1 | h1
  ·exact mc.us s (List.mem_of_mem_take h1)
  ·rcases List.mem_cons.1 h1 with rfl | h1
   ·exact he.t
   ·exact mc.us s (List.mem_of_mem_drop h1))
 have ML:=Qo0 (show (Zt id m.uses e.text).length ≤ M + 1 from by
  unfold Zt
  have h2:=mc.nu
  have h3:=Ys (key:=id) m.uses e.text
  simp
  omega)
 have C1:=Qo0 (fun V' (g : Gr W V') => Qkr m.uA m.uc m.uses e.text V' (((h.gr (GW.out.trans g))).ru hm0) (by have:=mc.nu;omega) hs)
 have C2:=Qo0 (fun V' (g : Gr W V') (vb : Nat) (hvb : V.heap.size ≤ vb) (hx : V'.heap[vb]? = some (.cells #[tv e.text] 9 (0,0))) => Qnr B (pos id m.uses e.text) vb (.slice m.uA m.uses.length m.uc) m.uses e.text V' ((h.u m hm0).gr (GW.out.trans g)) (Nat.le_trans h.bv (GW.out.trans g).size) (Ys _ _) (by have:=mc.nu;omega) hx (fun e1 => by have:=(h.u m hm0).lt vb e1;omega))
 rw [hn] at C1
 have FN:=Qo0 (fun V1 V2 (g1 : Gr V V1) (v' : Value) (o' : OR 9 1 scs V2 B v' (Zt id m.uses e.text)) (g2 : V1.grownBy V2 (Value.slice m.uA m.uses.length m.uc).ownBlock) (b' : v'.ownBlock = (Value.slice m.uA m.uses.length m.uc).ownBlock ∨ v'.ownBlock = some V1.heap.size) => show (∃ A' c',v' = .slice A' (Zt id m.uses e.text).length c' ∧ (∃ m',m'.er = { m.er with uses:=Zt id m.uses e.text } ∧ AS w B (M + 1) (V2.setCell ⟨gg,pre.length * 3 + 1,none⟩ v') v (pre ++ m' :: post)) ∧ Fr B V (V2.setCell ⟨gg,pre.length * 3 + 1,none⟩ v') ∧ V2.cell? ⟨gg,pre.length * 3 + 1,none⟩ = some (.slice m.uA m.uses.length m.uc) ∧ V2.frozen? ⟨gg,pre.length * 3 + 1,none⟩ = false) from by
  obtain ⟨A',c',e1,e2,e3⟩:=h.setU hv g1 o' g2 b' MS.out ML.out
  have ov:=(h.o.gr g1).apart ((h.u m hm0).gr g1) (by decide) g2
  have hd:=(h.gr g1).hdr hv
  have hne : (Value.slice m.uA m.uses.length m.uc).ownBlock ≠ some gg:=by
   intro e4
   obtain ⟨-,q1,q2⟩:=((h.u m hm0).gr g1).typ e4
   obtain ⟨-,q3,q4⟩:=(h.o.gr g1).typ (k:=gg) (by rw [hv];rfl)
   rw [q2] at q4
   cases q4
  refine ⟨A',c',e1,⟨_,Qjs m A' c' _,e2⟩,e3,g2.cell hd.2.2.1 (fun e4 => hne e4.symm),?_⟩
  rw [hv] at ov
  exact OR.frz ov _)
 unfold Edt.v
 have HW:=Qo0 hW
 obtain ⟨P,hP⟩ : ∃ P,pos id m.uses e.text = P:=⟨_,rfl⟩
 have hP9 : P ≤ 100000:=by rw [← hP];have:=Ys (key:=id) m.uses e.text;have:=mc.nu;omega
 obtain ⟨US,hUS⟩ : ∃ US,Zt id m.uses e.text = US:=⟨_,rfl⟩
 obtain ⟨q,hq⟩ : ∃ q,pre.length * 3 = q:=⟨_,rfl⟩
 obtain ⟨un,hun⟩ : ∃ un,m.uses.length = un:=⟨_,rfl⟩
 simp only [hP] at C1 C2
 simp only [show m.uses.take P ++ e.text :: m.uses.drop P = US from by rw [← hUS,← hP];rfl] at C2
 rw [hUS] at FN ⊢
 simp only [hq] at FN HD ⊢
 simp only [hun] at C1 C2 FN HD
 clear h hv he hs hn mc hm0 hW hP hUS hq MS ML hun
 have lv:=hgv
 go_enter Tryz.func54,Tryz.ntmps54
 go_upto_region 1 with fail
 rw [HW.out]
 obtain ⟨c0,c1,c2,c3,c4⟩:=CB.out _ (Qc _)
 obtain ⟨h0,h1,h2,h3,h4⟩:=HD.out _ (Qc _)
 have SS:=Qo0 (fun V' (g : Gr W V') => And.intro (HD.out _ g).2.2.1 (CB.out _ g).2.2.1)
 clear c0 c1 c3 c4 h0 h1 h3 h4
 go_region_held3 (fun V' => V'.cell? ⟨gg,q + 1,none⟩ = some (.slice m.uA un m.uc) ∧ V'.cell? ⟨V.heap.size,2,none⟩ = some (tv e.text))
  (first | with_reducible exact SS.out _ G1.out | with_reducible exact SS.out _ (Qb _) | go_keep)
  (first | (go_at_call 55;(with_reducible refine (C1.out _ (Qb _)).mono ?_);rintro x w1 ⟨rfl,g1⟩;have G1:=Qo0 ((Qb _).trans g1);clear g1))
 have G1V:=Qo0 (GW.out.trans G1.out)
 obtain ⟨s1,s2⟩:=SS.out _ G1.out
 have lw:=Qo0 (show V.heap.size ≤ w1.heap.size from G1V.out.size)
 have lz : V.heap.size < w1.heap.size:=by have h1:=G1.out.size;have h2:=congrArg (fun V => V.heap.size) HW.out;simp at h2;omega
 have lg : gg < w1.heap.size:=by omega
 go_upto_region 4 with fail
 go_region_law (first
  | (go_simp;go_at_call 56
     refine (C2.out _ (by first | exact (G1.out.trans (Qb _)).trans (Qa _ _) | exact (G1.out.trans (Qa _ _)).trans (Qb _)) w1.heap.size lw.out (by first | exact Qd _ _ | exact Qe (Qb _) (Qd _ _))).mono ?_
     rintro x w6 ⟨v6,rfl,o6,g6,b6⟩
     obtain ⟨A',c',rfl,as6,fr6,f6,z6⟩:=FN.out _ w6 (by first | exact (G1V.out.trans (Qb _)).trans (Qa _ _) | exact (G1V.out.trans (Qa _ _)).trans (Qb _)) v6 o6 g6 b6
     have AS6:=Qo0 (And.intro as6 fr6)
     clear as6 fr6 o6 g6 b6))
 all_goals go_wp2
 all_goals go_ret
 all_goals (obtain ⟨⟨m',e1,e2⟩,e3⟩:=AS6.out;exact ⟨rfl,m',e1,e2,e3⟩)
set_option maxRecDepth 100000 in
set_option maxHeartbeats 4000000 in
attribute [local irreducible] Calls in
theorem eff57 (w : World) (B M : Nat) (V : World) (v : Value) (pre post : List Mod) (m : Mod) (gg nn cap : Nat) (e : Edt) (h : AS w B M V v (pre ++ m :: post)) (hv : v = .slice (some ⟨gg,0,none⟩) nn cap) (hM : M ≤ 100000) (_ : e.Rd w) (hs : Asc id m.uses) (hn : Zd id m.uses e.text = true) :
 Calls Tryz.prog 57 #[.pointer (some ⟨gg,pre.length * 3,none⟩),e.v] V fun x V' => x = .returned (iv 0) ∧ ∃ m',m'.er = { m.er with uses:=Yo id m.uses e.text } ∧ AS w B (M + 1) V' v (pre ++ m' :: post) ∧ Fr B V V':=by
 have hm0 : m ∈ pre ++ m :: post:=by simp
 have hgv:=(h.hdr hv).1
 obtain ⟨W,hW⟩ : ∃ W,V.alloc (.cells #[iv e.kind,tv e.pack,tv e.text,.slice e.oA e.old.length e.oc,.slice e.nA e.new.length e.nc] 32) = W:=⟨_,rfl⟩
 have GW:=Qo0 (show Gr V W by rw [← hW];exact Qa _ _)
 have CB:=Qo0 (fun V' (g : Gr W V') => Qt (V:=V') (b:=V.heap.size) (e:=e) (Qe g (by rw [← hW];exact Qd _ _)))
 have HD:=Qo0 (fun V' (g : Gr W V') => (h.gr (GW.out.trans g)).hdr hv)
 have mc:=h.c m hm0
 have MS:=Qo0 (show ∀ s ∈ Yo id m.uses e.text,sOk s from by
  intro s hs'
  unfold Yo at hs'
  rcases List.mem_append.1 hs' with h1 | h1
  ·exact mc.us s (List.mem_of_mem_take h1)
  ·exact mc.us s (List.mem_of_mem_drop h1))
 have ML:=Qo0 (show (Yo id m.uses e.text).length ≤ M + 1 from by
  unfold Yo
  have h2:=mc.nu
  have h3:=Ys (key:=id) m.uses e.text
  simp
  omega)
 have C1:=Qo0 (fun V' (g : Gr W V') => Qkr m.uA m.uc m.uses e.text V' (((h.gr (GW.out.trans g))).ru hm0) (by have:=mc.nu;omega) hs)
 have C2:=Qo0 (fun V' (g : Gr W V') => Qoe B (pos id m.uses e.text) ((pos id m.uses e.text : Int) + 1) (.slice m.uA m.uses.length m.uc) m.uses V' ((h.u m hm0).gr (GW.out.trans g)) (by
  have h1:=hn
  unfold Zd at h1
  cases hx : m.uses[pos id m.uses e.text]? with
  | none => rw [hx] at h1;cases h1
  | some x => exact (List.getElem?_eq_some_iff.1 hx).1) rfl)
 rw [hn] at C1
 have FN:=Qo0 (fun V1 V2 (g1 : Gr V V1) (v' : Value) (o' : OR 9 1 scs V2 B v' (Yo id m.uses e.text)) (g2 : V1.grownBy V2 (Value.slice m.uA m.uses.length m.uc).ownBlock) (b' : v'.ownBlock = (Value.slice m.uA m.uses.length m.uc).ownBlock ∨ v'.ownBlock = some V1.heap.size) => show (∃ A' c',v' = .slice A' (Yo id m.uses e.text).length c' ∧ (∃ m',m'.er = { m.er with uses:=Yo id m.uses e.text } ∧ AS w B (M + 1) (V2.setCell ⟨gg,pre.length * 3 + 1,none⟩ v') v (pre ++ m' :: post)) ∧ Fr B V (V2.setCell ⟨gg,pre.length * 3 + 1,none⟩ v') ∧ V2.cell? ⟨gg,pre.length * 3 + 1,none⟩ = some (.slice m.uA m.uses.length m.uc) ∧ V2.frozen? ⟨gg,pre.length * 3 + 1,none⟩ = false) from by
  obtain ⟨A',c',e1,e2,e3⟩:=h.setU hv g1 o' g2 b' MS.out ML.out
  have ov:=(h.o.gr g1).apart ((h.u m hm0).gr g1) (by decide) g2
  have hd:=(h.gr g1).hdr hv
  have hne : (Value.slice m.uA m.uses.length m.uc).ownBlock ≠ some gg:=by
   intro e4
   obtain ⟨-,q1,q2⟩:=((h.u m hm0).gr g1).typ e4
   obtain ⟨-,q3,q4⟩:=(h.o.gr g1).typ (k:=gg) (by rw [hv];rfl)
   rw [q2] at q4
   cases q4
  refine ⟨A',c',e1,⟨_,Qjs m A' c' _,e2⟩,e3,g2.cell hd.2.2.1 (fun e4 => hne e4.symm),?_⟩
  rw [hv] at ov
  exact OR.frz ov _)
 unfold Edt.v
 have HW:=Qo0 hW
 obtain ⟨P,hP⟩ : ∃ P,pos id m.uses e.text = P:=⟨_,rfl⟩
 have hP9 : P ≤ 100000:=by rw [← hP];have:=Ys (key:=id) m.uses e.text;have:=mc.nu;omega
 obtain ⟨US,hUS⟩ : ∃ US,Yo id m.uses e.text = US:=⟨_,rfl⟩
 obtain ⟨q,hq⟩ : ∃ q,pre.length * 3 = q:=⟨_,rfl⟩
 obtain ⟨un,hun⟩ : ∃ un,m.uses.length = un:=⟨_,rfl⟩
 simp only [hP] at C1 C2
 simp only [show m.uses.eraseIdx P = US from by rw [← hUS,← hP,List.eraseIdx_eq_take_drop_succ];rfl] at C2
 rw [hUS] at FN ⊢
 simp only [hq] at FN HD ⊢
 simp only [hun] at C1 C2 FN HD
 clear h hv hs hn mc hm0 hW hP hUS hq MS ML hun
 have lv:=hgv
 go_enter Tryz.func57,Tryz.ntmps57
 go_upto_region 1 with fail
 rw [HW.out]
 obtain ⟨c0,c1,c2,c3,c4⟩:=CB.out _ (Qc _)
 obtain ⟨h0,h1,h2,h3,h4⟩:=HD.out _ (Qc _)
 have SS:=Qo0 (fun V' (g : Gr W V') => And.intro (HD.out _ g).2.2.1 (CB.out _ g).2.2.1)
 clear c0 c1 c3 c4 h0 h1 h3 h4
 go_region_held3 (fun V' => V'.cell? ⟨gg,q + 1,none⟩ = some (.slice m.uA un m.uc) ∧ V'.cell? ⟨V.heap.size,2,none⟩ = some (tv e.text))
  (first | with_reducible exact SS.out _ G1.out | with_reducible exact SS.out _ (Qb _) | go_keep)
  (first | (go_at_call 55;(with_reducible refine (C1.out _ (Qb _)).mono ?_);rintro x w1 ⟨rfl,g1⟩;have G1:=Qo0 ((Qb _).trans g1);clear g1))
 have G1V:=Qo0 (GW.out.trans G1.out)
 obtain ⟨s1,s2⟩:=SS.out _ G1.out
 have wp : IntKind.i64.wrap ((P : Int) + 1) = (P : Int) + 1:=IntWalk.i64_in _ ⟨by omega,by omega⟩
 go_wp2_with (go_at_call 58;refine (C2.out _ G1.out).mono ?_;rintro x w6 ⟨v6,rfl,o6,g6,b6⟩;obtain ⟨A',c',rfl,as6,fr6,f6,z6⟩:=FN.out _ w6 G1V.out v6 o6 g6 (.inl b6);have AS6:=Qo0 (And.intro as6 fr6);clear as6 fr6 o6 g6 b6)
 go_ret
 obtain ⟨⟨m',e1,e2⟩,e3⟩:=AS6.out
 exact ⟨rfl,m',e1,e2,e3⟩
end Go.Proofs.YtiaenhlflgobfaaGreatDoor
namespace Go.Proofs.YtiaenhlflgobfaaGreatDoor
open Go.RowKit
set_option maxRecDepth 100000 in
set_option maxHeartbeats 4000000 in
attribute [local irreducible] Calls in
theorem eff59 (w : World) (B M : Nat) (V : World) (v : Value) (pre post : List Mod) (m : Mod) (gg nn cap : Nat) (e : Edt) (x : Dec) (h : AS w B M V v (pre ++ m :: post)) (hv : v = .slice (some ⟨gg,0,none⟩) nn cap) (hM : M ≤ 100000) (he : e.Rd w) (hx : e.new = [x]) (hxi : 1 ≤ x.id ∧ x.id ≤ 999999) (hs : Asc Dec.id m.decls) (hn : Zd Dec.id m.decls x.id = false) :
 Calls Tryz.prog 59 #[.pointer (some ⟨gg,pre.length * 3,none⟩),e.v] V fun y V' => y = .returned (iv 0) ∧ ∃ m',m'.er = { m.er with decls:=(Zt Dec.id m.decls x).map Dec.er } ∧ AS w B (M + 1) V' v (pre ++ m' :: post) ∧ Fr B V V':=by
 have hm0 : m ∈ pre ++ m :: post:=by simp
 have hgv:=(h.hdr hv).1
 obtain ⟨W,hW⟩ : ∃ W,V.alloc (.cells #[iv e.kind,tv e.pack,tv e.text,.slice e.oA e.old.length e.oc,.slice e.nA e.new.length e.nc] 32) = W:=⟨_,rfl⟩
 have GW:=Qo0 (show Gr V W by rw [← hW];exact Qa _ _)
 have CB:=Qo0 (fun V' (g : Gr W V') => Qt (V:=V') (b:=V.heap.size) (e:=e) (Qe g (by rw [← hW];exact Qd _ _)))
 have HD:=Qo0 (fun V' (g : Gr W V') => (h.gr (GW.out.trans g)).hdr hv)
 have mc:=h.c m hm0
 have hen:=he.n
 rw [hx] at hen
 have hxr : x.Rd w:=hen.d x (by simp)
 have MS:=Qo0 (show ∀ s ∈ Zt Dec.id m.decls x,s.Rd w ∧ 1 ≤ s.id ∧ s.id ≤ 999999 from by
  intro s hs'
  unfold Zt at hs'
  rcases List.mem_append.1 hs' with h1 | h1
  ·exact mc.ds s (List.mem_of_mem_take h1)
  ·rcases List.mem_cons.1 h1 with rfl | h1
   ·exact ⟨hxr,hxi⟩
   ·exact mc.ds s (List.mem_of_mem_drop h1))
 have ML:=Qo0 (show (Zt Dec.id m.decls x).length ≤ M + 1 from by
  unfold Zt
  have h2:=mc.nd
  have h3:=Ys (key:=Dec.id) m.decls x.id
  simp
  omega)
 have C1:=Qo0 (fun V' (g : Gr W V') => Yk m.dA m.dc m.decls x.id V' (((h.gr (GW.out.trans g))).rd hm0) (by have:=mc.nd;omega) hs (by omega) (fun y hy => by have:=(mc.ds y hy).2;omega))
 have C2:=Qo0 (fun V' (g : Gr W V') (vb : Nat) (hvb : V.heap.size ≤ vb) (hx : V'.heap[vb]? = some (.cells #[iv x.id,iv x.kind,.bool x.pub,.slice x.nA x.names.length x.nc,.bool x.doubt,iv x.body.kind,tv x.body.name,tv x.body.more,iv x.body.int,iv x.body.den,.slice x.body.A x.body.sub.length x.body.c] 45 (0,0))) => Qnx B (pos Dec.id m.decls x.id) vb (.slice m.dA m.decls.length m.dc) m.decls x V' ((h.d m hm0).gr (GW.out.trans g)) (Nat.le_trans h.bv (GW.out.trans g).size) (Ys _ _) (by have:=mc.nd;omega) hx (fun e1 => by have:=(h.d m hm0).lt vb e1;omega))
 rw [hn] at C1
 have FN:=Qo0 (fun V1 V2 (g1 : Gr V V1) (v' : Value) (o' : OR 45 11 Dec.cs V2 B v' (Zt Dec.id m.decls x)) (g2 : V1.grownBy V2 (Value.slice m.dA m.decls.length m.dc).ownBlock) (b' : v'.ownBlock = (Value.slice m.dA m.decls.length m.dc).ownBlock ∨ v'.ownBlock = some V1.heap.size) => show (∃ A' c',v' = .slice A' (Zt Dec.id m.decls x).length c' ∧ (∃ m',m'.er = { m.er with decls:=(Zt Dec.id m.decls x).map Dec.er } ∧ AS w B (M + 1) (V2.setCell ⟨gg,pre.length * 3 + 2,none⟩ v') v (pre ++ m' :: post)) ∧ Fr B V (V2.setCell ⟨gg,pre.length * 3 + 2,none⟩ v') ∧ V2.cell? ⟨gg,pre.length * 3 + 2,none⟩ = some (.slice m.dA m.decls.length m.dc) ∧ V2.frozen? ⟨gg,pre.length * 3 + 2,none⟩ = false) from by
  obtain ⟨A',c',e1,e2,e3⟩:=h.setD hv g1 o' g2 b' MS.out ML.out
  have ov:=(h.o.gr g1).apart ((h.d m hm0).gr g1) (by decide) g2
  have hd:=(h.gr g1).hdr hv
  have hne : (Value.slice m.dA m.decls.length m.dc).ownBlock ≠ some gg:=by
   intro e4
   obtain ⟨-,q1,q2⟩:=((h.d m hm0).gr g1).typ e4
   obtain ⟨-,q3,q4⟩:=(h.o.gr g1).typ (k:=gg) (by rw [hv];rfl)
   rw [q2] at q4
   cases q4
  refine ⟨A',c',e1,⟨_,Qjt m A' c' _,e2⟩,e3,g2.cell hd.2.2.2.1 (fun e4 => hne e4.symm),?_⟩
  rw [hv] at ov
  exact OR.frz ov _)
 obtain ⟨b,b1,eb,hb1,hbb,-⟩:=rdD hen.r (k:=0) (x:=x) rfl
 rw [Nat.zero_mul,add_zero'] at hb1
 subst hb1
 have XB:=Qo0 (fun V' (g : Gr W V') => show V'.cell? b = some (iv x.id) ∧ V'.cell? ⟨b.block,b.off + 1,none⟩ = some (iv x.kind) ∧ V'.cell? ⟨b.block,b.off + 2,none⟩ = some (.bool x.pub) ∧ V'.cell? ⟨b.block,b.off + 3,none⟩ = some (.slice x.nA x.names.length x.nc) ∧ V'.cell? ⟨b.block,b.off + 4,none⟩ = some (.bool x.doubt) ∧ V'.cell? ⟨b.block,b.off + 5,none⟩ = some (iv x.body.kind) ∧ V'.cell? ⟨b.block,b.off + 6,none⟩ = some (tv x.body.name) ∧ V'.cell? ⟨b.block,b.off + 7,none⟩ = some (tv x.body.more) ∧ V'.cell? ⟨b.block,b.off + 8,none⟩ = some (iv x.body.int) ∧ V'.cell? ⟨b.block,b.off + 9,none⟩ = some (iv x.body.den) ∧ V'.cell? ⟨b.block,b.off + 10,none⟩ = some (.slice x.body.A x.body.sub.length x.body.c) from by
  have h5:=(he.n.gr (h.g.trans (GW.out.trans g))).r
  rw [hx] at h5
  obtain ⟨c,c1,ec,hc1,hcb,d0,d1,d2,d3,d4,d5,d6,d7,d8,d9,d10⟩:=rdD h5 (k:=0) (x:=x) rfl
  rw [eb] at ec
  cases ec
  rw [Nat.zero_mul,add_zero'] at hc1
  subst hc1
  exact ⟨d0,d1,d2,d3,d4,d5,d6,d7,d8,d9,d10⟩)
 have lb : b.block < V.heap.size:=Nat.lt_of_lt_of_le hbb h.g.size
 unfold Edt.v
 have HW:=Qo0 hW
 rw [hx,eb] at CB HW ⊢
 simp only [List.length_cons,List.length_nil,Nat.zero_add] at CB HW ⊢
 obtain ⟨P,hP⟩ : ∃ P,pos Dec.id m.decls x.id = P:=⟨_,rfl⟩
 have hP9 : P ≤ 100000:=by rw [← hP];have:=Ys (key:=Dec.id) m.decls x.id;have:=mc.nd;omega
 obtain ⟨US,hUS⟩ : ∃ US,Zt Dec.id m.decls x = US:=⟨_,rfl⟩
 obtain ⟨q,hq⟩ : ∃ q,pre.length * 3 = q:=⟨_,rfl⟩
 obtain ⟨un,hun⟩ : ∃ un,m.decls.length = un:=⟨_,rfl⟩
 simp only [hP] at C1 C2
 simp only [show m.decls.take P ++ x :: m.decls.drop P = US from by rw [← hUS,← hP];rfl] at C2
 rw [hUS] at FN ⊢
 simp only [hq] at FN HD ⊢
 simp only [hun] at C1 C2 FN HD
 clear h hv he hs hn mc hm0 hW hP hUS hq MS ML hun hen hxr hxi hx eb hbb
 have lv:=hgv
 go_enter Tryz.func59,Tryz.ntmps59
 go_upto_region 1 with fail
 rw [HW.out]
 have SS:=Qo0 (fun V' (g : Gr W V') => And.intro (HD.out _ g).2.2.2.1 (And.intro (CB.out _ g).2.2.2.2 (XB.out _ g)))
 go_region_held3 (fun V' => V'.cell? ⟨gg,q + 2,none⟩ = some (.slice m.dA un m.dc) ∧ V'.cell? ⟨V.heap.size,4,none⟩ = some (.slice (some b) 1 e.nc) ∧ V'.cell? b = some (iv x.id) ∧ V'.cell? ⟨b.block,b.off + 1,none⟩ = some (iv x.kind) ∧ V'.cell? ⟨b.block,b.off + 2,none⟩ = some (.bool x.pub) ∧ V'.cell? ⟨b.block,b.off + 3,none⟩ = some (.slice x.nA x.names.length x.nc) ∧ V'.cell? ⟨b.block,b.off + 4,none⟩ = some (.bool x.doubt) ∧ V'.cell? ⟨b.block,b.off + 5,none⟩ = some (iv x.body.kind) ∧ V'.cell? ⟨b.block,b.off + 6,none⟩ = some (tv x.body.name) ∧ V'.cell? ⟨b.block,b.off + 7,none⟩ = some (tv x.body.more) ∧ V'.cell? ⟨b.block,b.off + 8,none⟩ = some (iv x.body.int) ∧ V'.cell? ⟨b.block,b.off + 9,none⟩ = some (iv x.body.den) ∧ V'.cell? ⟨b.block,b.off + 10,none⟩ = some (.slice x.body.A x.body.sub.length x.body.c))
  (first | with_reducible exact SS.out _ G1.out | with_reducible exact SS.out _ (Qb _) | go_keep)
  (first | (go_at_call 60;(with_reducible refine (C1.out _ (Qb _)).mono ?_);rintro y w1 ⟨rfl,g1⟩;have G1:=Qo0 ((Qb _).trans g1);clear g1))
 have G1V:=Qo0 (GW.out.trans G1.out)
 obtain ⟨s1,s2,d0,d1,d2,d3,d4,d5,d6,d7,d8,d9,d10⟩:=SS.out _ G1.out
 have lw:=Qo0 (show V.heap.size ≤ w1.heap.size from G1V.out.size)
 have lz : V.heap.size < w1.heap.size:=by have h1:=G1.out.size;have h2:=congrArg (fun V => V.heap.size) HW.out;simp at h2;omega
 have lg : gg < w1.heap.size:=by omega
 have lb2 : b.block < w1.heap.size:=by omega
 go_upto_region 4 with fail
 go_region_law (first
  | (go_simp;go_at_call 61
     refine (C2.out _ (by first | exact (G1.out.trans (Qb _)).trans (Qa _ _) | exact (G1.out.trans (Qa _ _)).trans (Qb _)) w1.heap.size lw.out (by first | exact Qd _ _ | exact Qe (Qb _) (Qd _ _))).mono ?_
     rintro y w6 ⟨v6,rfl,o6,g6,b6⟩
     obtain ⟨A',c',rfl,as6,fr6,f6,z6⟩:=FN.out _ w6 (by first | exact (G1V.out.trans (Qb _)).trans (Qa _ _) | exact (G1V.out.trans (Qa _ _)).trans (Qb _)) v6 o6 g6 b6
     have AS6:=Qo0 (And.intro as6 fr6)
     clear as6 fr6 o6 g6 b6))
 all_goals go_wp2
 all_goals go_ret
 all_goals (obtain ⟨⟨m',e1,e2⟩,e3⟩:=AS6.out;exact ⟨rfl,m',e1,e2,e3⟩)
end Go.Proofs.YtiaenhlflgobfaaGreatDoor
namespace Go.Proofs.YtiaenhlflgobfaaGreatDoor
open Go.RowKit
theorem Y1 (P L C : List Value) (n j : Nat) (hn : P.length = n * 11) {u : Value} (hj : j < L.length) : (P ++ L ++ C).set (n * 11 + j) u = P ++ L.set j u ++ C:=by
 rw [List.append_assoc,List.set_append_right _ _ (by omega),hn,Nat.add_sub_cancel_left,List.set_append_left _ _ hj,List.append_assoc]
theorem Qi {V : World} {B gd n c : Nat} {p1 p2 : List Dec} {d : Dec} (o : OR 45 11 Dec.cs V B (.slice (some ⟨gd,0,none⟩) n c) (p1 ++ d :: p2)) (j : Nat) {u : Value} (hu : d.cs[j]? = some u) : V.cell? ⟨gd,p1.length * 11 + j,none⟩ = some u:=by
 obtain ⟨A,c',e,hr⟩:=o.form Dec.cs_len
 obtain ⟨e1,-,-⟩:=Value.slice.inj e
 obtain ⟨a,ea,-,hc⟩:=hr.at (k:=p1.length) (by simp)
 rw [← e1] at ea
 cases ea
 have hx : (p1 ++ d :: p2)[p1.length]'(by simp) = d:=by simp
 have h:=hc j u (by rw [hx];exact hu)
 by_cases h0 : p1.length * 11 + j = 0
 ·rw [h0,add_zero'] at h
  rw [h0];exact h
 ·rw [Qh _ _ h0] at h
  simpa using h
set_option maxRecDepth 100000 in
set_option maxHeartbeats 4000000 in
attribute [local irreducible] Calls in
theorem set63 (B : Nat) (V : World) (gd n c : Nat) (p1 p2 : List Dec) (d x : Dec) (o : OR 45 11 Dec.cs V B (.slice (some ⟨gd,0,none⟩) n c) (p1 ++ d :: p2)) :
 Calls Tryz.prog 63 #[.pointer (some ⟨gd,p1.length * 11,none⟩),x.v] V fun y V' => (∃ r,y = .returned r) ∧ OR 45 11 Dec.cs V' B (.slice (some ⟨gd,0,none⟩) n c) (p1 ++ { d with nA:=x.nA,nc:=x.nc,names:=x.names } :: p2) ∧ V.grownBy V' (some gd):=by
 obtain ⟨W,hW⟩ : ∃ W,V.alloc (.cells #[iv x.id,iv x.kind,.bool x.pub,.slice x.nA x.names.length x.nc,.bool x.doubt,iv x.body.kind,tv x.body.name,tv x.body.more,iv x.body.int,iv x.body.den,.slice x.body.A x.body.sub.length x.body.c] 45) = W:=⟨_,rfl⟩
 have GW:=Qo0 (show Gr V W by rw [← hW];exact Qa _ _)
 have hgd:=(o.lt gd rfl).2
 have f3:=Qo0 (fun V' (g : Gr V V') => show V'.cell? ⟨gd,p1.length * 11 + 3,none⟩ = some (.slice d.nA d.names.length d.nc) from Ze g (Qi o 3 rfl))
 have ZF:=Qo0 (fun V' (g : Gr V V') j => show V'.frozen? ⟨gd,j,none⟩ = false from OR.frz (o.gr g) j)
 have FN:=Qo0 (fun W2 (g : Gr V W2) => show OR 45 11 Dec.cs (World.setCell W2 ⟨gd,p1.length * 11 + 3,none⟩ (.slice x.nA x.names.length x.nc)) B (.slice (some ⟨gd,0,none⟩) n c) (p1 ++ { d with nA:=x.nA,nc:=x.nc,names:=x.names } :: p2) ∧ V.grownBy (World.setCell W2 ⟨gd,p1.length * 11 + 3,none⟩ (.slice x.nA x.names.length x.nc)) (some gd) from by
  have hn : n = (p1 ++ d :: p2).length:=by
   rcases o.2 with ⟨h1,_⟩ | ⟨g',cap',cur,e1,_⟩
   ·cases h1
   ·exact (Value.slice.inj e1).2.1
  have own0 : W2.ownsRow B 45 11 (.slice (some ⟨gd,0,none⟩) n c) n ((p1.flatMap Dec.cs) ++ d.cs ++ p2.flatMap Dec.cs):=by
   have h:=o.gr g
   unfold OR at h
   rw [← hn] at h
   simpa using h
  have hl0 : (p1.flatMap Dec.cs).length = p1.length * 11:=Qk Dec.cs 11 Dec.cs_len p1
  have s0:=own0.stored (p1.length * 11 + 3) (.slice x.nA x.names.length x.nc)
  rw [Y1 _ (d.cs) _ p1.length 3 hl0 (by simp [Dec.cs])] at s0
  refine ⟨?_,(World.grownBy.but g _).trans (s0.2)⟩
  unfold OR
  rw [show (p1 ++ ({ d with nA:=x.nA,nc:=x.nc,names:=x.names } : Dec) :: p2).length = n from by rw [hn];simp,show (p1 ++ ({ d with nA:=x.nA,nc:=x.nc,names:=x.names } : Dec) :: p2).flatMap Dec.cs = (p1.flatMap Dec.cs) ++ ((d.cs).set 3 (.slice x.nA x.names.length x.nc)) ++ p2.flatMap Dec.cs from by rw [List.flatMap_append,List.flatMap_cons,← List.append_assoc];rfl]
  exact s0.1)
 obtain ⟨b0,b1,b2,b3,b4,b5,b6,b7,b8,b9,b10⟩:=Zj (d:=x) (V:=W) (b:=V.heap.size) (by rw [← hW];exact Qd _ _)
 have HW:=Qo0 hW
 have lz : gd < W.heap.size:=Nat.lt_of_lt_of_le hgd GW.out.size
 have lz2 : gd ≠ V.heap.size:=by omega
 clear o hW
 unfold Dec.v
 obtain ⟨q,hq⟩ : ∃ q,p1.length * 11 = q:=⟨_,rfl⟩
 simp only [hq] at FN f3 ⊢
 clear hq
 have z3:=f3.out _ GW.out
 have zf:=ZF.out _ GW.out
 go_enter Tryz.func63,Tryz.ntmps63
 go_upto_region 1 with fail
 rw [HW.out]
 go_wp2
 all_goals (first | go_end0 | go_ret | refine bodyPost_ret (results_none rfl _ _ _) rfl ?_)
 all_goals exact ⟨⟨_,rfl⟩,FN.out _ GW.out⟩
set_option maxRecDepth 100000 in
set_option maxHeartbeats 4000000 in
attribute [local irreducible] Calls in
theorem set64 (B : Nat) (V : World) (gd n c : Nat) (p1 p2 : List Dec) (d x : Dec) (o : OR 45 11 Dec.cs V B (.slice (some ⟨gd,0,none⟩) n c) (p1 ++ d :: p2)) :
 Calls Tryz.prog 64 #[.pointer (some ⟨gd,p1.length * 11,none⟩),x.v] V fun y V' => (∃ r,y = .returned r) ∧ OR 45 11 Dec.cs V' B (.slice (some ⟨gd,0,none⟩) n c) (p1 ++ { d with body:=x.body } :: p2) ∧ V.grownBy V' (some gd):=by
 obtain ⟨W,hW⟩ : ∃ W,V.alloc (.cells #[iv x.id,iv x.kind,.bool x.pub,.slice x.nA x.names.length x.nc,.bool x.doubt,iv x.body.kind,tv x.body.name,tv x.body.more,iv x.body.int,iv x.body.den,.slice x.body.A x.body.sub.length x.body.c] 45) = W:=⟨_,rfl⟩
 have GW:=Qo0 (show Gr V W by rw [← hW];exact Qa _ _)
 have hgd:=(o.lt gd rfl).2
 have f5:=Qo0 (fun V' (g : Gr V V') => show V'.cell? ⟨gd,p1.length * 11 + 5,none⟩ = some (iv d.body.kind) from Ze g (Qi o 5 rfl))
 have f6:=Qo0 (fun V' (g : Gr V V') => show V'.cell? ⟨gd,p1.length * 11 + 6,none⟩ = some (tv d.body.name) from Ze g (Qi o 6 rfl))
 have f7:=Qo0 (fun V' (g : Gr V V') => show V'.cell? ⟨gd,p1.length * 11 + 7,none⟩ = some (tv d.body.more) from Ze g (Qi o 7 rfl))
 have f8:=Qo0 (fun V' (g : Gr V V') => show V'.cell? ⟨gd,p1.length * 11 + 8,none⟩ = some (iv d.body.int) from Ze g (Qi o 8 rfl))
 have f9:=Qo0 (fun V' (g : Gr V V') => show V'.cell? ⟨gd,p1.length * 11 + 9,none⟩ = some (iv d.body.den) from Ze g (Qi o 9 rfl))
 have f10:=Qo0 (fun V' (g : Gr V V') => show V'.cell? ⟨gd,p1.length * 11 + 10,none⟩ = some (.slice d.body.A d.body.sub.length d.body.c) from Ze g (Qi o 10 rfl))
 have ZF:=Qo0 (fun V' (g : Gr V V') j => show V'.frozen? ⟨gd,j,none⟩ = false from OR.frz (o.gr g) j)
 have FN:=Qo0 (fun W2 (g : Gr V W2) => show OR 45 11 Dec.cs (World.setCell (World.setCell (World.setCell (World.setCell (World.setCell (World.setCell W2 ⟨gd,p1.length * 11 + 5,none⟩ (iv x.body.kind)) ⟨gd,p1.length * 11 + 6,none⟩ (tv x.body.name)) ⟨gd,p1.length * 11 + 7,none⟩ (tv x.body.more)) ⟨gd,p1.length * 11 + 8,none⟩ (iv x.body.int)) ⟨gd,p1.length * 11 + 9,none⟩ (iv x.body.den)) ⟨gd,p1.length * 11 + 10,none⟩ (.slice x.body.A x.body.sub.length x.body.c)) B (.slice (some ⟨gd,0,none⟩) n c) (p1 ++ { d with body:=x.body } :: p2) ∧ V.grownBy (World.setCell (World.setCell (World.setCell (World.setCell (World.setCell (World.setCell W2 ⟨gd,p1.length * 11 + 5,none⟩ (iv x.body.kind)) ⟨gd,p1.length * 11 + 6,none⟩ (tv x.body.name)) ⟨gd,p1.length * 11 + 7,none⟩ (tv x.body.more)) ⟨gd,p1.length * 11 + 8,none⟩ (iv x.body.int)) ⟨gd,p1.length * 11 + 9,none⟩ (iv x.body.den)) ⟨gd,p1.length * 11 + 10,none⟩ (.slice x.body.A x.body.sub.length x.body.c)) (some gd) from by
  have hn : n = (p1 ++ d :: p2).length:=by
   rcases o.2 with ⟨h1,_⟩ | ⟨g',cap',cur,e1,_⟩
   ·cases h1
   ·exact (Value.slice.inj e1).2.1
  have own0 : W2.ownsRow B 45 11 (.slice (some ⟨gd,0,none⟩) n c) n ((p1.flatMap Dec.cs) ++ d.cs ++ p2.flatMap Dec.cs):=by
   have h:=o.gr g
   unfold OR at h
   rw [← hn] at h
   simpa using h
  have hl0 : (p1.flatMap Dec.cs).length = p1.length * 11:=Qk Dec.cs 11 Dec.cs_len p1
  have s0:=own0.stored (p1.length * 11 + 5) (iv x.body.kind)
  rw [Y1 _ (d.cs) _ p1.length 5 hl0 (by simp [Dec.cs])] at s0
  have s1:=s0.1.stored (p1.length * 11 + 6) (tv x.body.name)
  rw [Y1 _ ((d.cs).set 5 (iv x.body.kind)) _ p1.length 6 hl0 (by simp [Dec.cs])] at s1
  have s2:=s1.1.stored (p1.length * 11 + 7) (tv x.body.more)
  rw [Y1 _ (((d.cs).set 5 (iv x.body.kind)).set 6 (tv x.body.name)) _ p1.length 7 hl0 (by simp [Dec.cs])] at s2
  have s3:=s2.1.stored (p1.length * 11 + 8) (iv x.body.int)
  rw [Y1 _ ((((d.cs).set 5 (iv x.body.kind)).set 6 (tv x.body.name)).set 7 (tv x.body.more)) _ p1.length 8 hl0 (by simp [Dec.cs])] at s3
  have s4:=s3.1.stored (p1.length * 11 + 9) (iv x.body.den)
  rw [Y1 _ (((((d.cs).set 5 (iv x.body.kind)).set 6 (tv x.body.name)).set 7 (tv x.body.more)).set 8 (iv x.body.int)) _ p1.length 9 hl0 (by simp [Dec.cs])] at s4
  have s5:=s4.1.stored (p1.length * 11 + 10) (.slice x.body.A x.body.sub.length x.body.c)
  rw [Y1 _ ((((((d.cs).set 5 (iv x.body.kind)).set 6 (tv x.body.name)).set 7 (tv x.body.more)).set 8 (iv x.body.int)).set 9 (iv x.body.den)) _ p1.length 10 hl0 (by simp [Dec.cs])] at s5
  refine ⟨?_,(World.grownBy.but g _).trans ((((((s0.2).trans s1.2).trans s2.2).trans s3.2).trans s4.2).trans s5.2)⟩
  unfold OR
  rw [show (p1 ++ ({ d with body:=x.body } : Dec) :: p2).length = n from by rw [hn];simp,show (p1 ++ ({ d with body:=x.body } : Dec) :: p2).flatMap Dec.cs = (p1.flatMap Dec.cs) ++ (((((((d.cs).set 5 (iv x.body.kind)).set 6 (tv x.body.name)).set 7 (tv x.body.more)).set 8 (iv x.body.int)).set 9 (iv x.body.den)).set 10 (.slice x.body.A x.body.sub.length x.body.c)) ++ p2.flatMap Dec.cs from by rw [List.flatMap_append,List.flatMap_cons,← List.append_assoc];rfl]
  exact s5.1)
 obtain ⟨b0,b1,b2,b3,b4,b5,b6,b7,b8,b9,b10⟩:=Zj (d:=x) (V:=W) (b:=V.heap.size) (by rw [← hW];exact Qd _ _)
 have HW:=Qo0 hW
 have lz : gd < W.heap.size:=Nat.lt_of_lt_of_le hgd GW.out.size
 have lz2 : gd ≠ V.heap.size:=by omega
 clear o hW
 unfold Dec.v
 obtain ⟨q,hq⟩ : ∃ q,p1.length * 11 = q:=⟨_,rfl⟩
 simp only [hq] at FN f5 f6 f7 f8 f9 f10 ⊢
 clear hq
 have z5:=f5.out _ GW.out
 have z6:=f6.out _ GW.out
 have z7:=f7.out _ GW.out
 have z8:=f8.out _ GW.out
 have z9:=f9.out _ GW.out
 have z10:=f10.out _ GW.out
 have zf:=ZF.out _ GW.out
 go_enter Tryz.func64,Tryz.ntmps64
 go_upto_region 1 with fail
 rw [HW.out]
 go_wp2
 all_goals (first | go_end0 | go_ret | refine bodyPost_ret (results_none rfl _ _ _) rfl ?_)
 all_goals exact ⟨⟨_,rfl⟩,FN.out _ GW.out⟩
set_option maxRecDepth 100000 in
set_option maxHeartbeats 4000000 in
attribute [local irreducible] Calls in
theorem set65 (B : Nat) (V : World) (gd n c : Nat) (p1 p2 : List Dec) (d x : Dec) (o : OR 45 11 Dec.cs V B (.slice (some ⟨gd,0,none⟩) n c) (p1 ++ d :: p2)) :
 Calls Tryz.prog 65 #[.pointer (some ⟨gd,p1.length * 11,none⟩),x.v] V fun y V' => (∃ r,y = .returned r) ∧ OR 45 11 Dec.cs V' B (.slice (some ⟨gd,0,none⟩) n c) (p1 ++ { d with kind:=x.kind,pub:=x.pub,doubt:=x.doubt } :: p2) ∧ V.grownBy V' (some gd):=by
 obtain ⟨W,hW⟩ : ∃ W,V.alloc (.cells #[iv x.id,iv x.kind,.bool x.pub,.slice x.nA x.names.length x.nc,.bool x.doubt,iv x.body.kind,tv x.body.name,tv x.body.more,iv x.body.int,iv x.body.den,.slice x.body.A x.body.sub.length x.body.c] 45) = W:=⟨_,rfl⟩
 have GW:=Qo0 (show Gr V W by rw [← hW];exact Qa _ _)
 have hgd:=(o.lt gd rfl).2
 have f1:=Qo0 (fun V' (g : Gr V V') => show V'.cell? ⟨gd,p1.length * 11 + 1,none⟩ = some (iv d.kind) from Ze g (Qi o 1 rfl))
 have f2:=Qo0 (fun V' (g : Gr V V') => show V'.cell? ⟨gd,p1.length * 11 + 2,none⟩ = some (.bool d.pub) from Ze g (Qi o 2 rfl))
 have f4:=Qo0 (fun V' (g : Gr V V') => show V'.cell? ⟨gd,p1.length * 11 + 4,none⟩ = some (.bool d.doubt) from Ze g (Qi o 4 rfl))
 have ZF:=Qo0 (fun V' (g : Gr V V') j => show V'.frozen? ⟨gd,j,none⟩ = false from OR.frz (o.gr g) j)
 have FN:=Qo0 (fun W2 (g : Gr V W2) => show OR 45 11 Dec.cs (World.setCell (World.setCell (World.setCell W2 ⟨gd,p1.length * 11 + 1,none⟩ (iv x.kind)) ⟨gd,p1.length * 11 + 2,none⟩ (.bool x.pub)) ⟨gd,p1.length * 11 + 4,none⟩ (.bool x.doubt)) B (.slice (some ⟨gd,0,none⟩) n c) (p1 ++ { d with kind:=x.kind,pub:=x.pub,doubt:=x.doubt } :: p2) ∧ V.grownBy (World.setCell (World.setCell (World.setCell W2 ⟨gd,p1.length * 11 + 1,none⟩ (iv x.kind)) ⟨gd,p1.length * 11 + 2,none⟩ (.bool x.pub)) ⟨gd,p1.length * 11 + 4,none⟩ (.bool x.doubt)) (some gd) from by
  have hn : n = (p1 ++ d :: p2).length:=by
   rcases o.2 with ⟨h1,_⟩ | ⟨g',cap',cur,e1,_⟩
   ·cases h1
   ·exact (Value.slice.inj e1).2.1
  have own0 : W2.ownsRow B 45 11 (.slice (some ⟨gd,0,none⟩) n c) n ((p1.flatMap Dec.cs) ++ d.cs ++ p2.flatMap Dec.cs):=by
   have h:=o.gr g
   unfold OR at h
   rw [← hn] at h
   simpa using h
  have hl0 : (p1.flatMap Dec.cs).length = p1.length * 11:=Qk Dec.cs 11 Dec.cs_len p1
  have s0:=own0.stored (p1.length * 11 + 1) (iv x.kind)
  rw [Y1 _ (d.cs) _ p1.length 1 hl0 (by simp [Dec.cs])] at s0
  have s1:=s0.1.stored (p1.length * 11 + 2) (.bool x.pub)
  rw [Y1 _ ((d.cs).set 1 (iv x.kind)) _ p1.length 2 hl0 (by simp [Dec.cs])] at s1
  have s2:=s1.1.stored (p1.length * 11 + 4) (.bool x.doubt)
  rw [Y1 _ (((d.cs).set 1 (iv x.kind)).set 2 (.bool x.pub)) _ p1.length 4 hl0 (by simp [Dec.cs])] at s2
  refine ⟨?_,(World.grownBy.but g _).trans (((s0.2).trans s1.2).trans s2.2)⟩
  unfold OR
  rw [show (p1 ++ ({ d with kind:=x.kind,pub:=x.pub,doubt:=x.doubt } : Dec) :: p2).length = n from by rw [hn];simp,show (p1 ++ ({ d with kind:=x.kind,pub:=x.pub,doubt:=x.doubt } : Dec) :: p2).flatMap Dec.cs = (p1.flatMap Dec.cs) ++ ((((d.cs).set 1 (iv x.kind)).set 2 (.bool x.pub)).set 4 (.bool x.doubt)) ++ p2.flatMap Dec.cs from by rw [List.flatMap_append,List.flatMap_cons,← List.append_assoc];rfl]
  exact s2.1)
 obtain ⟨b0,b1,b2,b3,b4,b5,b6,b7,b8,b9,b10⟩:=Zj (d:=x) (V:=W) (b:=V.heap.size) (by rw [← hW];exact Qd _ _)
 have HW:=Qo0 hW
 have lz : gd < W.heap.size:=Nat.lt_of_lt_of_le hgd GW.out.size
 have lz2 : gd ≠ V.heap.size:=by omega
 clear o hW
 unfold Dec.v
 obtain ⟨q,hq⟩ : ∃ q,p1.length * 11 = q:=⟨_,rfl⟩
 simp only [hq] at FN f1 f2 f4 ⊢
 clear hq
 have z1:=f1.out _ GW.out
 have z2:=f2.out _ GW.out
 have z4:=f4.out _ GW.out
 have zf:=ZF.out _ GW.out
 go_enter Tryz.func65,Tryz.ntmps65
 go_upto_region 1 with fail
 rw [HW.out]
 go_region_held3 (fun V' => V'.cell? ⟨V.heap.size,1,none⟩ = some (iv x.kind) ∧ V'.cell? ⟨V.heap.size,2,none⟩ = some (.bool x.pub) ∧ V'.cell? ⟨V.heap.size,4,none⟩ = some (.bool x.doubt)) (go_keep) (fail)
 all_goals go_wp2
 all_goals (first | go_end0 | go_ret | refine bodyPost_ret (results_none rfl _ _ _) rfl ?_)
 all_goals exact ⟨⟨_,rfl⟩,FN.out _ (GW.out.trans (Qb _))⟩
end Go.Proofs.YtiaenhlflgobfaaGreatDoor
namespace Go.Proofs.YtiaenhlflgobfaaGreatDoor
open Go.RowKit
theorem AS.setE {w : World} {B M : Nat} {V : World} {v : Value} {pre post : List Mod} {m : Mod} (h : AS w B M V v (pre ++ m :: post)) {V1 V2 : World} (g1 : Gr V V1) {ds : List Dec} (hl : ds.length = m.decls.length) (o' : OR 45 11 Dec.cs V2 B (.slice m.dA m.decls.length m.dc) ds) (g2 : V1.grownBy V2 (Value.slice m.dA m.decls.length m.dc).ownBlock) (hs : ∀ d ∈ ds,d.Rd w ∧ 1 ≤ d.id ∧ d.id ≤ 999999) :
 AS w B M V2 v (pre ++ { m with decls:=ds } :: post) ∧ Fr B V V2:=by
 have hm0 : m ∈ pre ++ m :: post:=by simp
 have om:=h.d m hm0
 have om1:=om.gr g1
 have ov1:=h.o.gr g1
 have ov2:=ov1.apart om1 (by decide) g2
 have mem : ∀ x,x ∈ pre ++ ({ m with decls:=ds } : Mod) :: post → (x ∈ pre ++ m :: post ∧ ((∀ a,x.dA = some a → m.dA ≠ some a))) ∨ x = { m with decls:=ds }:=by
  intro x hx
  obtain ⟨p1,p2,p3⟩:=List.pairwise_append.1 h.dn
  rcases List.mem_append.1 hx with hx | hx
  ·exact .inl ⟨List.mem_append_left _ hx,p3 x hx m (by simp)⟩
  ·rcases List.mem_cons.1 hx with hx | hx
   ·exact .inr hx
   ·exact .inl ⟨List.mem_append_right _ (List.mem_cons_of_mem _ hx),fun a ha hb => (List.pairwise_cons.1 p2).1 x hx a hb ha⟩
 have hcs : ({ m with decls:=ds } : Mod).cs = m.cs:=by unfold Mod.cs;simp only [hl]
 refine ⟨⟨OR.grow (h.g.trans g1) om1 h.wb g2,h.wb,Nat.le_trans h.bv (Nat.le_trans g1.size g2.size),?_,?_,?_,Qda _ h.un (fun x => Iff.rfl) (fun x => Iff.rfl),Qda _ h.dn (fun x => Iff.rfl) (fun x => Iff.rfl),?_,?_⟩,(Fr.of_gr g1).trans (Fr.row om1 (by decide) g2)⟩
 ·unfold OR at ov2 ⊢
  rw [show (pre ++ ({ m with decls:=ds } : Mod) :: post).length = (pre ++ m :: post).length from by simp,show (pre ++ ({ m with decls:=ds } : Mod) :: post).flatMap Mod.cs = (pre ++ m :: post).flatMap Mod.cs from by rw [List.flatMap_append,List.flatMap_append,List.flatMap_cons,List.flatMap_cons,hcs]]
  exact ov2
 ·intro x hx
  rcases mem x hx with ⟨hx1,hx2⟩ | rfl
  ·exact ((h.u x hx1).gr g1).apart om1 (by decide) g2
  ·exact ((h.u m hm0).gr g1).apart om1 (by decide) g2
 ·intro x hx
  rcases mem x hx with ⟨hx1,hx2⟩ | rfl
  ·exact ((h.d x hx1).gr g1).kept g2 (Qh9 elD.hn (h.d x hx1) om hx2)
  ·show OR 45 11 Dec.cs V2 B (.slice m.dA ds.length m.dc) ds
   rw [hl]
   exact o'
 ·intro x hx
  rcases mem x hx with ⟨hx1,-⟩ | rfl
  ·exact h.c x hx1
  ·have q:=h.c m hm0
   exact ⟨q.l,q.us,hs,q.nu,by show ds.length ≤ M;rw [hl];exact q.nd⟩
 ·have:=h.n
  simp at this ⊢
  omega
set_option maxRecDepth 100000 in
set_option maxHeartbeats 4000000 in
attribute [local irreducible] Calls in
theorem Qiv (w : World) (B M : Nat) (V : World) (v : Value) (pre post : List Mod) (m : Mod) (gg nn cap : Nat) (e : Edt) (cb : Nat) (K : Int) (hK6 : K = 6) (o d : Dec) (p1 p2 : List Dec) (h : AS w B M V v (pre ++ m :: post)) (hv : v = .slice (some ⟨gg,0,none⟩) nn cap) (hM : M ≤ 100000) (he : e.Rd w) (hK : e.kind = K) (ho : e.old = [o]) (hs : Asc Dec.id m.decls) (hd : m.decls = p1 ++ d :: p2) (hid : d.id = o.id) (hm : (d.ment K).er = o.er) (hb : (d.body.er.pre 1).length ≤ 400) :
 Calls Tryz.prog 106 #[.pointer (some ⟨gg,pre.length * 3,none⟩),e.v,.pointer (some ⟨cb,0,none⟩)] V fun y V' => y = .returned (iv 0) ∧ ∃ m',m'.er = { m.er with decls:=(p1 ++ p2).map Dec.er } ∧ AS w B (M + 1) V' v (pre ++ m' :: post) ∧ Fr B V V':=by
 have hm0 : m ∈ pre ++ m :: post:=by simp
 have hgv:=(h.hdr hv).1
 have mc:=h.c m hm0
 obtain ⟨gd,hgd⟩ : ∃ gd,m.dA = some ⟨gd,0,none⟩:=by
  obtain ⟨A,c,e1,-,-,-,-,hA⟩:=(h.d m hm0).form2 elD.hn
  obtain ⟨e2,-,e3⟩:=Value.slice.inj e1
  cases hA2 : m.dA with
  | none =>
    rcases (h.d m hm0).2 with ⟨-,h1⟩ | ⟨g',cap',cur,e4,-⟩
    ·rw [hd] at h1;simp at h1
    ·rw [hA2] at e4;cases e4
  | some a => exact ⟨_,congrArg some (hA a (by rw [← e2,hA2])).2.2⟩
 have hpos : pos Dec.id m.decls o.id = p1.length:=by rw [hd,← hid];exact Q5 (by rw [← hd];exact hs)
 have hhas : Zd Dec.id m.decls o.id = true:=by rw [hd,← hid];exact Zi (by rw [← hd];exact hs)
 obtain ⟨W,hW⟩ : ∃ W,V.alloc (.cells #[iv e.kind,tv e.pack,tv e.text,.slice e.oA e.old.length e.oc,.slice e.nA e.new.length e.nc] 32) = W:=⟨_,rfl⟩
 obtain ⟨W1,hW1⟩ : ∃ W1,W.alloc (.cells #[iv o.id,iv o.kind,.bool o.pub,.slice o.nA o.names.length o.nc,.bool o.doubt,iv o.body.kind,tv o.body.name,tv o.body.more,iv o.body.int,iv o.body.den,.slice o.body.A o.body.sub.length o.body.c] 45) = W1:=⟨_,rfl⟩
 have GW0:=Qo0 (show Gr V W by rw [← hW];exact Qa _ _)
 have GW:=Qo0 (show Gr V W1 by rw [← hW1];exact GW0.out.trans (Qa _ _))
 have CB:=Qo0 (fun V' (g : Gr W V') => Qt (V:=V') (b:=V.heap.size) (e:=e) (Qe g (by rw [← hW];exact Qd _ _)))
 have OB:=Qo0 (fun V' (g : Gr W1 V') => Zj (d:=o) (V:=V') (b:=W.heap.size) (Qe g (by rw [← hW1];exact Qd _ _)))
 have HD:=Qo0 (fun V' (g : Gr W1 V') => (h.gr (GW.out.trans g)).hdr hv)
 have dr:=h.d m hm0
 rw [hgd,hd] at dr
 have DB:=Qo0 (fun V' (g : Gr W1 V') => And.intro (Qi (dr.gr (GW.out.trans g)) 0 (u:=iv d.id) rfl) (And.intro (Qi (dr.gr (GW.out.trans g)) 1 (u:=iv d.kind) rfl) (And.intro (Qi (dr.gr (GW.out.trans g)) 2 (u:=.bool d.pub) rfl) (And.intro (Qi (dr.gr (GW.out.trans g)) 3 (u:=.slice d.nA d.names.length d.nc) rfl) (And.intro (Qi (dr.gr (GW.out.trans g)) 4 (u:=.bool d.doubt) rfl) (And.intro (Qi (dr.gr (GW.out.trans g)) 5 (u:=iv d.body.kind) rfl) (And.intro (Qi (dr.gr (GW.out.trans g)) 6 (u:=tv d.body.name) rfl) (And.intro (Qi (dr.gr (GW.out.trans g)) 7 (u:=tv d.body.more) rfl) (And.intro (Qi (dr.gr (GW.out.trans g)) 8 (u:=iv d.body.int) rfl) (And.intro (Qi (dr.gr (GW.out.trans g)) 9 (u:=iv d.body.den) rfl) (Qi (dr.gr (GW.out.trans g)) 10 (u:=.slice d.body.A d.body.sub.length d.body.c) rfl)))))))))))
 have hdr : d.Rd w ∧ 1 ≤ d.id ∧ d.id ≤ 999999:=mc.ds d (by rw [hd];simp)
 have heo:=he.o
 rw [ho] at heo
 have hor : o.Rd w:=heo.d o (by simp)
 have C1:=Qo0 (fun V' (g : Gr W1 V') => Yk m.dA m.dc m.decls o.id V' (((h.gr (GW.out.trans g))).rd hm0) (by have:=mc.nd;omega) hs (by rw [← hid];have:=hdr.2;omega) (fun y hy => by have:=(mc.ds y hy).2;omega))
 rw [hpos,hhas] at C1
 have C2:=Qo0 (fun V' (_ : Gr W1 V') => Zy K d V')
 have C3:=Qo0 (fun V' (g : Gr W1 V') => Zf (d.ment K) o V' (Y2 K (hdr.1.gr (h.g.trans (GW.out.trans g)))) (hor.gr (h.g.trans (GW.out.trans g))) (by
  have h1:=Xs K (d:=d.er) hb
  rw [← Yh] at h1
  exact h1))
 rw [decide_eq_true hm] at C3
 obtain ⟨vO,hvO⟩ : ∃ v,(d.ment K).v = v:=⟨_,rfl⟩
 rw [hvO] at C2 C3
 obtain ⟨b,b1,eb,hb1,hbb,d0,d1,d2,d3,d4,d5,d6,d7,d8,d9,d10⟩:=rdD (heo.gr (h.g.trans GW0.out)).r (k:=0) (x:=o) rfl
 rw [Nat.zero_mul,add_zero'] at hb1
 subst hb1
 have C4:=Qo0 (fun V' (g : Gr W1 V') => Qoi B p1.length ((p1.length : Int) + 1) (.slice m.dA m.decls.length m.dc) m.decls V' ((h.d m hm0).gr (GW.out.trans g)) (by rw [hd];simp) rfl)
 rw [show m.decls.eraseIdx p1.length = p1 ++ p2 from by rw [hd];simp [List.eraseIdx_append_of_length_le]] at C4
 have FN:=Qo0 (fun V1 V2 (g1 : Gr V V1) (v' : Value) (o' : OR 45 11 Dec.cs V2 B v' (p1 ++ p2)) (g2 : V1.grownBy V2 (Value.slice m.dA m.decls.length m.dc).ownBlock) (b' : v'.ownBlock = (Value.slice m.dA m.decls.length m.dc).ownBlock ∨ v'.ownBlock = some V1.heap.size) => show (∃ A' c',v' = .slice A' (p1 ++ p2).length c' ∧ (∃ m',m'.er = { m.er with decls:=(p1 ++ p2).map Dec.er } ∧ AS w B (M + 1) (V2.setCell ⟨gg,pre.length * 3 + 2,none⟩ v') v (pre ++ m' :: post)) ∧ Fr B V (V2.setCell ⟨gg,pre.length * 3 + 2,none⟩ v') ∧ V2.cell? ⟨gg,pre.length * 3 + 2,none⟩ = some (.slice m.dA m.decls.length m.dc) ∧ V2.frozen? ⟨gg,pre.length * 3 + 2,none⟩ = false) from by
  obtain ⟨A',c',e1,e2,e3⟩:=h.setD hv g1 o' g2 b' (fun x hx => mc.ds x (by rw [hd];rcases List.mem_append.1 hx with hx | hx <;> simp [hx])) (by have h1:=mc.nd;rw [hd] at h1;simp at h1 ⊢;omega)
  have ov:=(h.o.gr g1).apart ((h.d m hm0).gr g1) (by decide) g2
  have hd2:=(h.gr g1).hdr hv
  have hne : (Value.slice m.dA m.decls.length m.dc).ownBlock ≠ some gg:=by
   intro e4
   obtain ⟨-,q1,q2⟩:=((h.d m hm0).gr g1).typ e4
   obtain ⟨-,q3,q4⟩:=(h.o.gr g1).typ (k:=gg) (by rw [hv];rfl)
   rw [q2] at q4
   cases q4
  refine ⟨A',c',e1,⟨_,Qjt m A' c' _,e2⟩,e3,g2.cell hd2.2.2.2.1 (fun e4 => hne e4.symm),?_⟩
  rw [hv] at ov
  exact OR.frz ov _)
 unfold Dec.v at C2 C3
 unfold Edt.v
 have HW:=Qo0 hW
 have HW1:=Qo0 hW1
 rw [ho,eb,hK] at CB HW ⊢
 simp only [List.length_cons,List.length_nil,Nat.zero_add] at CB HW ⊢
 obtain ⟨q,hq⟩ : ∃ q,p1.length * 11 = q:=⟨_,rfl⟩
 obtain ⟨P,hP⟩ : ∃ P,p1.length = P:=⟨_,rfl⟩
 obtain ⟨g3,hg3⟩ : ∃ g3,pre.length * 3 = g3:=⟨_,rfl⟩
 obtain ⟨un,hun⟩ : ∃ un,m.decls.length = un:=⟨_,rfl⟩
 have hPu : P < un:=by rw [← hun,hd,← hP];simp
 have hPq : P * 11 = q:=by rw [← hP];exact hq
 have hu9 : un ≤ 100000:=by have:=mc.nd;omega
 simp only [hq] at DB
 simp only [Nat.add_zero] at DB
 simp only [hgd,hun,hP] at C1
 simp only [hgd,hun,hg3] at HD
 rw [hg3]
 simp only [hgd,hun,hP] at C4
 simp only [hgd,hun,hg3] at FN
 obtain ⟨DS,hDS⟩ : ∃ DS,p1 ++ p2 = DS:=⟨_,rfl⟩
 simp only [hDS] at C4 FN ⊢
 clear hDS
 clear h hv he ho hs hd hid hm hb mc hm0 hgd hpos hhas hW hW1 hdr heo hor hvO dr hq hP hg3 hun hbb eb hK
 subst hK6
 go_enter Tryz.func106,Tryz.ntmps106
 go_upto_region 1 with fail
 rw [HW.out]
 obtain ⟨c0,c1,c2,c3,c4⟩:=CB.out _ (Qc _)
 go_upto_region 2 with fail
 rw [HW1.out]
 clear d0 d1 d2 d3 d4 d5 d6 d7 d8 d9 d10 c0 c1 c2 c3 c4
 have GWW:=Qo0 (show Gr W W1 by rw [← HW1.out];exact Qa _ _)
 have SS:=Qo0 (fun V' (g : Gr W1 V') => And.intro (HD.out _ g).2.2.2.1 (OB.out _ g).1)
 go_region_held3 (fun V' => V'.cell? ⟨gg,g3 + 2,none⟩ = some (.slice (some ⟨gd,0,none⟩) un m.dc) ∧ V'.cell? ⟨W.heap.size,0,none⟩ = some (iv o.id))
  (first | with_reducible exact SS.out _ G1.out | with_reducible exact SS.out _ (Qb _) | go_keep)
  (first | (go_at_call 60;(with_reducible refine (C1.out _ (Qb _)).mono ?_);rintro y w1 ⟨rfl,g1⟩;have G1:=Qo0 ((Qb _).trans g1);clear g1))
 have S5:=Qo0 (fun V' (g : Gr W1 V') => And.intro (CB.out _ (GWW.out.trans g)).1 (And.intro (HD.out _ g).2.2.2.1 (And.intro (DB.out _ g) (OB.out _ g))))
 go_upto_region 5 with fail
 go_region_held3 (fun V' => V'.cell? ⟨V.heap.size,0,none⟩ = some (iv 6) ∧ V'.cell? ⟨gg,g3 + 2,none⟩ = some (.slice (some ⟨gd,0,none⟩) un m.dc) ∧ (V'.cell? ⟨gd,q,none⟩ = some (iv d.id) ∧ V'.cell? ⟨gd,q + 1,none⟩ = some (iv d.kind) ∧ V'.cell? ⟨gd,q + 2,none⟩ = some (.bool d.pub) ∧ V'.cell? ⟨gd,q + 3,none⟩ = some (.slice d.nA d.names.length d.nc) ∧ V'.cell? ⟨gd,q + 4,none⟩ = some (.bool d.doubt) ∧ V'.cell? ⟨gd,q + 5,none⟩ = some (iv d.body.kind) ∧ V'.cell? ⟨gd,q + 6,none⟩ = some (tv d.body.name) ∧ V'.cell? ⟨gd,q + 7,none⟩ = some (tv d.body.more) ∧ V'.cell? ⟨gd,q + 8,none⟩ = some (iv d.body.int) ∧ V'.cell? ⟨gd,q + 9,none⟩ = some (iv d.body.den) ∧ V'.cell? ⟨gd,q + 10,none⟩ = some (.slice d.body.A d.body.sub.length d.body.c)) ∧ (V'.cell? ⟨W.heap.size,0,none⟩ = some (iv o.id) ∧ V'.cell? ⟨W.heap.size,1,none⟩ = some (iv o.kind) ∧ V'.cell? ⟨W.heap.size,2,none⟩ = some (.bool o.pub) ∧ V'.cell? ⟨W.heap.size,3,none⟩ = some (.slice o.nA o.names.length o.nc) ∧ V'.cell? ⟨W.heap.size,4,none⟩ = some (.bool o.doubt) ∧ V'.cell? ⟨W.heap.size,5,none⟩ = some (iv o.body.kind) ∧ V'.cell? ⟨W.heap.size,6,none⟩ = some (tv o.body.name) ∧ V'.cell? ⟨W.heap.size,7,none⟩ = some (tv o.body.more) ∧ V'.cell? ⟨W.heap.size,8,none⟩ = some (iv o.body.int) ∧ V'.cell? ⟨W.heap.size,9,none⟩ = some (iv o.body.den) ∧ V'.cell? ⟨W.heap.size,10,none⟩ = some (.slice o.body.A o.body.sub.length o.body.c)))
  (first | with_reducible exact S5.out _ G3.out | with_reducible exact S5.out _ G2.out | with_reducible exact S5.out _ (G1.out.trans (Qb _)) | go_keep)
  (first
    | (go_at_call 51;(with_reducible refine (C2.out _ (G1.out.trans (Qb _))).mono ?_);rintro y w2 ⟨rfl,g2⟩;have G2:=Qo0 ((G1.out.trans (Qb _)).trans g2);clear g2)
    | (go_at_call 52;(with_reducible refine (C3.out _ G2.out).mono ?_);rintro y w3 ⟨rfl,g3'⟩;have G3:=Qo0 (G2.out.trans g3');clear g3'))
 obtain ⟨e0,e1,-⟩:=S5.out _ G3.out
 have wp : IntKind.i64.wrap ((P : Int) + 1) = (P : Int) + 1:=IntWalk.i64_in _ ⟨by omega,by omega⟩
 go_wp2_with (go_at_call 107;refine (C4.out _ G3.out).mono ?_;rintro y w6 ⟨v6,rfl,o6,g6,b6⟩;obtain ⟨A',c',rfl,as6,fr6,f6,z6⟩:=FN.out _ w6 (GW.out.trans G3.out) v6 o6 g6 (.inl b6);have AS6:=Qo0 (And.intro as6 fr6);clear as6 fr6 o6 g6 b6)
 go_ret
 obtain ⟨⟨m',e1,e2⟩,e3⟩:=AS6.out
 exact ⟨rfl,m',e1,e2,e3⟩
end Go.Proofs.YtiaenhlflgobfaaGreatDoor
namespace Go.Proofs.YtiaenhlflgobfaaGreatDoor
open Go.RowKit
set_option maxRecDepth 100000 in
set_option maxHeartbeats 4000000 in
attribute [local irreducible] Calls in
theorem Ql9 (w : World) (B M : Nat) (V : World) (v : Value) (pre post : List Mod) (m : Mod) (gg nn cap : Nat) (e : Edt) (cb : Nat) (x : Dec) (o d : Dec) (p1 p2 : List Dec) (h : AS w B M V v (pre ++ m :: post)) (hv : v = .slice (some ⟨gg,0,none⟩) nn cap) (hM : M ≤ 100000) (he : e.Rd w) (hK : e.kind = 7) (ho : e.old = [o]) (hs : Asc Dec.id m.decls) (hd : m.decls = p1 ++ d :: p2) (hid : d.id = o.id) (hm : (d.ment 7).er = o.er) (hb : (d.body.er.pre 1).length ≤ 400) (hx : e.new = [x]) (hcb : V.heap[cb]? = some (.cells #[.func (.func 63) #[] #[]] 125 (0,0))) :
 Calls Tryz.prog 106 #[.pointer (some ⟨gg,pre.length * 3,none⟩),e.v,.pointer (some ⟨cb,0,none⟩)] V fun y V' => y = .returned (iv 0) ∧ ∃ m',m'.er = { m.er with decls:=(p1 ++ ({ d with nA:=x.nA,nc:=x.nc,names:=x.names } : Dec) :: p2).map Dec.er } ∧ AS w B (M + 1) V' v (pre ++ m' :: post) ∧ Fr B V V':=by
 have hm0 : m ∈ pre ++ m :: post:=by simp
 have hgv:=(h.hdr hv).1
 have mc:=h.c m hm0
 obtain ⟨gd,hgd⟩ : ∃ gd,m.dA = some ⟨gd,0,none⟩:=by
  obtain ⟨A,c,e1,-,-,-,-,hA⟩:=(h.d m hm0).form2 elD.hn
  obtain ⟨e2,-,e3⟩:=Value.slice.inj e1
  cases hA2 : m.dA with
  | none =>
    rcases (h.d m hm0).2 with ⟨-,h1⟩ | ⟨g',cap',cur,e4,-⟩
    ·rw [hd] at h1;simp at h1
    ·rw [hA2] at e4;cases e4
  | some a => exact ⟨_,congrArg some (hA a (by rw [← e2,hA2])).2.2⟩
 have hpos : pos Dec.id m.decls o.id = p1.length:=by rw [hd,← hid];exact Q5 (by rw [← hd];exact hs)
 have hhas : Zd Dec.id m.decls o.id = true:=by rw [hd,← hid];exact Zi (by rw [← hd];exact hs)
 obtain ⟨W,hW⟩ : ∃ W,V.alloc (.cells #[iv e.kind,tv e.pack,tv e.text,.slice e.oA e.old.length e.oc,.slice e.nA e.new.length e.nc] 32) = W:=⟨_,rfl⟩
 obtain ⟨W1,hW1⟩ : ∃ W1,W.alloc (.cells #[iv o.id,iv o.kind,.bool o.pub,.slice o.nA o.names.length o.nc,.bool o.doubt,iv o.body.kind,tv o.body.name,tv o.body.more,iv o.body.int,iv o.body.den,.slice o.body.A o.body.sub.length o.body.c] 45) = W1:=⟨_,rfl⟩
 have GW0:=Qo0 (show Gr V W by rw [← hW];exact Qa _ _)
 have GW:=Qo0 (show Gr V W1 by rw [← hW1];exact GW0.out.trans (Qa _ _))
 have CB:=Qo0 (fun V' (g : Gr W V') => Qt (V:=V') (b:=V.heap.size) (e:=e) (Qe g (by rw [← hW];exact Qd _ _)))
 have OB:=Qo0 (fun V' (g : Gr W1 V') => Zj (d:=o) (V:=V') (b:=W.heap.size) (Qe g (by rw [← hW1];exact Qd _ _)))
 have HD:=Qo0 (fun V' (g : Gr W1 V') => (h.gr (GW.out.trans g)).hdr hv)
 have dr:=h.d m hm0
 rw [hgd,hd] at dr
 have DB:=Qo0 (fun V' (g : Gr W1 V') => And.intro (Qi (dr.gr (GW.out.trans g)) 0 (u:=iv d.id) rfl) (And.intro (Qi (dr.gr (GW.out.trans g)) 1 (u:=iv d.kind) rfl) (And.intro (Qi (dr.gr (GW.out.trans g)) 2 (u:=.bool d.pub) rfl) (And.intro (Qi (dr.gr (GW.out.trans g)) 3 (u:=.slice d.nA d.names.length d.nc) rfl) (And.intro (Qi (dr.gr (GW.out.trans g)) 4 (u:=.bool d.doubt) rfl) (And.intro (Qi (dr.gr (GW.out.trans g)) 5 (u:=iv d.body.kind) rfl) (And.intro (Qi (dr.gr (GW.out.trans g)) 6 (u:=tv d.body.name) rfl) (And.intro (Qi (dr.gr (GW.out.trans g)) 7 (u:=tv d.body.more) rfl) (And.intro (Qi (dr.gr (GW.out.trans g)) 8 (u:=iv d.body.int) rfl) (And.intro (Qi (dr.gr (GW.out.trans g)) 9 (u:=iv d.body.den) rfl) (Qi (dr.gr (GW.out.trans g)) 10 (u:=.slice d.body.A d.body.sub.length d.body.c) rfl)))))))))))
 have hdr : d.Rd w ∧ 1 ≤ d.id ∧ d.id ≤ 999999:=mc.ds d (by rw [hd];simp)
 have heo:=he.o
 rw [ho] at heo
 have hor : o.Rd w:=heo.d o (by simp)
 have C1:=Qo0 (fun V' (g : Gr W1 V') => Yk m.dA m.dc m.decls o.id V' (((h.gr (GW.out.trans g))).rd hm0) (by have:=mc.nd;omega) hs (by rw [← hid];have:=hdr.2;omega) (fun y hy => by have:=(mc.ds y hy).2;omega))
 rw [hpos,hhas] at C1
 have C2:=Qo0 (fun V' (_ : Gr W1 V') => Zy 7 d V')
 have C3:=Qo0 (fun V' (g : Gr W1 V') => Zf (d.ment 7) o V' (Y2 7 (hdr.1.gr (h.g.trans (GW.out.trans g)))) (hor.gr (h.g.trans (GW.out.trans g))) (by
  have h1:=Xs 7 (d:=d.er) hb
  rw [← Yh] at h1
  exact h1))
 rw [decide_eq_true hm] at C3
 obtain ⟨vO,hvO⟩ : ∃ v,(d.ment 7).v = v:=⟨_,rfl⟩
 rw [hvO] at C2 C3
 obtain ⟨b,b1,eb,hb1,hbb,d0,d1,d2,d3,d4,d5,d6,d7,d8,d9,d10⟩:=rdD (heo.gr (h.g.trans GW0.out)).r (k:=0) (x:=o) rfl
 rw [Nat.zero_mul,add_zero'] at hb1
 subst hb1
 have hen:=he.n
 rw [hx] at hen
 have hxr : x.Rd w:=hen.d x (by simp)
 obtain ⟨bx,bx1,ebx,hbx1,hbbx,-⟩:=rdD hen.r (k:=0) (x:=x) rfl
 rw [Nat.zero_mul,add_zero'] at hbx1
 subst hbx1
 have XB:=Qo0 (fun V' (g : Gr W1 V') => show V'.cell? bx = some (iv x.id) ∧ V'.cell? ⟨bx.block,bx.off + 1,none⟩ = some (iv x.kind) ∧ V'.cell? ⟨bx.block,bx.off + 2,none⟩ = some (.bool x.pub) ∧ V'.cell? ⟨bx.block,bx.off + 3,none⟩ = some (.slice x.nA x.names.length x.nc) ∧ V'.cell? ⟨bx.block,bx.off + 4,none⟩ = some (.bool x.doubt) ∧ V'.cell? ⟨bx.block,bx.off + 5,none⟩ = some (iv x.body.kind) ∧ V'.cell? ⟨bx.block,bx.off + 6,none⟩ = some (tv x.body.name) ∧ V'.cell? ⟨bx.block,bx.off + 7,none⟩ = some (tv x.body.more) ∧ V'.cell? ⟨bx.block,bx.off + 8,none⟩ = some (iv x.body.int) ∧ V'.cell? ⟨bx.block,bx.off + 9,none⟩ = some (iv x.body.den) ∧ V'.cell? ⟨bx.block,bx.off + 10,none⟩ = some (.slice x.body.A x.body.sub.length x.body.c) from by
  have h5:=(he.n.gr (h.g.trans (GW.out.trans g))).r
  rw [hx] at h5
  obtain ⟨c,c1,ec,hc1,hcb',x0,x1,x2,x3,x4,x5,x6,x7,x8,x9,x10⟩:=rdD h5 (k:=0) (x:=x) rfl
  rw [ebx] at ec
  cases ec
  rw [Nat.zero_mul,add_zero'] at hc1
  subst hc1
  exact ⟨x0,x1,x2,x3,x4,x5,x6,x7,x8,x9,x10⟩)
 have CP:=Qo0 (fun V' (g : Gr W1 V') => show V'.cell? ⟨cb,0,none⟩ = some (.func (.func 63) #[] #[]) from by rw [Lib.cell_of_heap (Qe (GW.out.trans g) hcb)];rfl)
 have hdl : m.decls.length = (p1 ++ d :: p2).length:=by rw [hd]
 have C4:=Qo0 (fun V' (g : Gr W1 V') => set63 B V' gd m.decls.length m.dc p1 p2 d x (by rw [hdl];exact dr.gr (GW.out.trans g)))
 have gdB : B ≤ gd:=(dr.lt gd rfl).1
 have NEB:=Qo0 (show cb ≠ gd ∧ gg ≠ gd ∧ V.heap.size ≠ gd ∧ bx.block ≠ gd from by
  obtain ⟨-,q1,q2⟩:=dr.typ (k:=gd) rfl
  refine ⟨fun e1 => ?_,fun e1 => ?_,?_,?_⟩
  ·rw [e1,q2] at hcb;cases hcb
  ·obtain ⟨-,q3,q4⟩:=h.o.typ (k:=gg) (by rw [hv];rfl)
   rw [e1,q2] at q4;cases q4
  ·have:=(dr.lt gd rfl).2;omega
  ·have:=h.wb;omega)
 have FN:=Qo0 (fun V1 V2 (g1 : Gr V V1) (o' : OR 45 11 Dec.cs V2 B (.slice (some ⟨gd,0,none⟩) m.decls.length m.dc) (p1 ++ ({ d with nA:=x.nA,nc:=x.nc,names:=x.names } : Dec) :: p2)) (g2 : V1.grownBy V2 (some gd)) => show (∃ m',m'.er = { m.er with decls:=(p1 ++ ({ d with nA:=x.nA,nc:=x.nc,names:=x.names } : Dec) :: p2).map Dec.er } ∧ AS w B (M + 1) V2 v (pre ++ m' :: post)) ∧ Fr B V V2 from by
  obtain ⟨e1,e2⟩:=h.setE (ds:=p1 ++ ({ d with nA:=x.nA,nc:=x.nc,names:=x.names } : Dec) :: p2) g1 (by rw [hd];simp) (by rw [hgd];exact o') (by rw [hgd];exact g2) (fun y hy => by
   rcases List.mem_append.1 hy with hy | hy
   ·exact mc.ds y (by rw [hd];simp [hy])
   ·rcases List.mem_cons.1 hy with rfl | hy
    ·obtain ⟨q1,q2⟩:=mc.ds d (by rw [hd];simp)
     exact ⟨⟨hxr.n,q1.b⟩,q2⟩
    ·exact mc.ds y (by rw [hd];simp [hy]))
  exact ⟨⟨_,rfl,e1.up⟩,e2⟩)
 unfold Dec.v at C2 C3
 unfold Edt.v
 have HW:=Qo0 hW
 have HW1:=Qo0 hW1
 rw [ho,eb,hK] at CB HW ⊢
 simp only [List.length_cons,List.length_nil,Nat.zero_add] at CB HW ⊢
 obtain ⟨q,hq⟩ : ∃ q,p1.length * 11 = q:=⟨_,rfl⟩
 obtain ⟨P,hP⟩ : ∃ P,p1.length = P:=⟨_,rfl⟩
 obtain ⟨g3,hg3⟩ : ∃ g3,pre.length * 3 = g3:=⟨_,rfl⟩
 obtain ⟨un,hun⟩ : ∃ un,m.decls.length = un:=⟨_,rfl⟩
 have hPu : P < un:=by rw [← hun,hd,← hP];simp
 have hPq : P * 11 = q:=by rw [← hP];exact hq
 have hu9 : un ≤ 100000:=by have:=mc.nd;omega
 simp only [hq] at DB
 simp only [Nat.add_zero] at DB
 simp only [hgd,hun,hP] at C1
 simp only [hgd,hun,hg3] at HD
 rw [hg3]
 rw [hx,ebx] at CB HW ⊢
 simp only [List.length_cons,List.length_nil,Nat.zero_add] at CB HW ⊢
 simp only [hun,hq] at C4
 simp only [hun] at FN
 obtain ⟨DS,hDS⟩ : ∃ DS,p1 ++ ({ d with nA:=x.nA,nc:=x.nc,names:=x.names } : Dec) :: p2 = DS:=⟨_,rfl⟩
 simp only [hDS] at C4 FN ⊢
 unfold Dec.v at C4
 clear hDS hcb hen hxr hbbx hdl gdB hx ebx
 clear h hv he ho hs hd hid hm hb mc hm0 hgd hpos hhas hW hW1 hdr heo hor hvO dr hq hP hg3 hun hbb eb hK
 go_enter Tryz.func106,Tryz.ntmps106
 go_upto_region 1 with fail
 rw [HW.out]
 obtain ⟨c0,c1,c2,c3,c4⟩:=CB.out _ (Qc _)
 go_upto_region 2 with fail
 rw [HW1.out]
 clear d0 d1 d2 d3 d4 d5 d6 d7 d8 d9 d10 c0 c1 c2 c3 c4
 have GWW:=Qo0 (show Gr W W1 by rw [← HW1.out];exact Qa _ _)
 have SS:=Qo0 (fun V' (g : Gr W1 V') => And.intro (HD.out _ g).2.2.2.1 (OB.out _ g).1)
 go_region_held3 (fun V' => V'.cell? ⟨gg,g3 + 2,none⟩ = some (.slice (some ⟨gd,0,none⟩) un m.dc) ∧ V'.cell? ⟨W.heap.size,0,none⟩ = some (iv o.id))
  (first | with_reducible exact SS.out _ G1.out | with_reducible exact SS.out _ (Qb _) | go_keep)
  (first | (go_at_call 60;(with_reducible refine (C1.out _ (Qb _)).mono ?_);rintro y w1 ⟨rfl,g1⟩;have G1:=Qo0 ((Qb _).trans g1);clear g1))
 have S5:=Qo0 (fun V' (g : Gr W1 V') => And.intro (CB.out _ (GWW.out.trans g)).1 (And.intro (HD.out _ g).2.2.2.1 (And.intro (DB.out _ g) (OB.out _ g))))
 go_upto_region 5 with fail
 go_region_held3 (fun V' => V'.cell? ⟨V.heap.size,0,none⟩ = some (iv 7) ∧ V'.cell? ⟨gg,g3 + 2,none⟩ = some (.slice (some ⟨gd,0,none⟩) un m.dc) ∧ (V'.cell? ⟨gd,q,none⟩ = some (iv d.id) ∧ V'.cell? ⟨gd,q + 1,none⟩ = some (iv d.kind) ∧ V'.cell? ⟨gd,q + 2,none⟩ = some (.bool d.pub) ∧ V'.cell? ⟨gd,q + 3,none⟩ = some (.slice d.nA d.names.length d.nc) ∧ V'.cell? ⟨gd,q + 4,none⟩ = some (.bool d.doubt) ∧ V'.cell? ⟨gd,q + 5,none⟩ = some (iv d.body.kind) ∧ V'.cell? ⟨gd,q + 6,none⟩ = some (tv d.body.name) ∧ V'.cell? ⟨gd,q + 7,none⟩ = some (tv d.body.more) ∧ V'.cell? ⟨gd,q + 8,none⟩ = some (iv d.body.int) ∧ V'.cell? ⟨gd,q + 9,none⟩ = some (iv d.body.den) ∧ V'.cell? ⟨gd,q + 10,none⟩ = some (.slice d.body.A d.body.sub.length d.body.c)) ∧ (V'.cell? ⟨W.heap.size,0,none⟩ = some (iv o.id) ∧ V'.cell? ⟨W.heap.size,1,none⟩ = some (iv o.kind) ∧ V'.cell? ⟨W.heap.size,2,none⟩ = some (.bool o.pub) ∧ V'.cell? ⟨W.heap.size,3,none⟩ = some (.slice o.nA o.names.length o.nc) ∧ V'.cell? ⟨W.heap.size,4,none⟩ = some (.bool o.doubt) ∧ V'.cell? ⟨W.heap.size,5,none⟩ = some (iv o.body.kind) ∧ V'.cell? ⟨W.heap.size,6,none⟩ = some (tv o.body.name) ∧ V'.cell? ⟨W.heap.size,7,none⟩ = some (tv o.body.more) ∧ V'.cell? ⟨W.heap.size,8,none⟩ = some (iv o.body.int) ∧ V'.cell? ⟨W.heap.size,9,none⟩ = some (iv o.body.den) ∧ V'.cell? ⟨W.heap.size,10,none⟩ = some (.slice o.body.A o.body.sub.length o.body.c)))
  (first | with_reducible exact S5.out _ G3.out | with_reducible exact S5.out _ G2.out | with_reducible exact S5.out _ (G1.out.trans (Qb _)) | go_keep)
  (first
    | (go_at_call 51;(with_reducible refine (C2.out _ (G1.out.trans (Qb _))).mono ?_);rintro y w2 ⟨rfl,g2⟩;have G2:=Qo0 ((G1.out.trans (Qb _)).trans g2);clear g2)
    | (go_at_call 52;(with_reducible refine (C3.out _ G2.out).mono ?_);rintro y w3 ⟨rfl,g3'⟩;have G3:=Qo0 (G2.out.trans g3');clear g3'))
 obtain ⟨e0,e1,-⟩:=S5.out _ G3.out
 have SX:=Qo0 (fun V' (g : Gr W1 V') => show V'.cell? ⟨cb,0,none⟩ = some (.func (.func 63) #[] #[]) ∧ V'.cell? ⟨gg,g3 + 2,none⟩ = some (.slice (some ⟨gd,0,none⟩) un m.dc) ∧ V'.cell? ⟨V.heap.size,4,none⟩ = some (.slice (some bx) 1 e.nc) ∧ (V'.cell? bx = some (iv x.id) ∧ V'.cell? ⟨bx.block,bx.off + 1,none⟩ = some (iv x.kind) ∧ V'.cell? ⟨bx.block,bx.off + 2,none⟩ = some (.bool x.pub) ∧ V'.cell? ⟨bx.block,bx.off + 3,none⟩ = some (.slice x.nA x.names.length x.nc) ∧ V'.cell? ⟨bx.block,bx.off + 4,none⟩ = some (.bool x.doubt) ∧ V'.cell? ⟨bx.block,bx.off + 5,none⟩ = some (iv x.body.kind) ∧ V'.cell? ⟨bx.block,bx.off + 6,none⟩ = some (tv x.body.name) ∧ V'.cell? ⟨bx.block,bx.off + 7,none⟩ = some (tv x.body.more) ∧ V'.cell? ⟨bx.block,bx.off + 8,none⟩ = some (iv x.body.int) ∧ V'.cell? ⟨bx.block,bx.off + 9,none⟩ = some (iv x.body.den) ∧ V'.cell? ⟨bx.block,bx.off + 10,none⟩ = some (.slice x.body.A x.body.sub.length x.body.c)) from ⟨CP.out _ g,(HD.out _ g).2.2.2.1,(CB.out _ (GWW.out.trans g)).2.2.2.2,XB.out _ g⟩)
 have SY:=Qo0 (fun V' V'' (g : Gr W1 V') (g' : V'.grownBy V'' (some gd)) => show V''.cell? ⟨cb,0,none⟩ = some (.func (.func 63) #[] #[]) ∧ V''.cell? ⟨gg,g3 + 2,none⟩ = some (.slice (some ⟨gd,0,none⟩) un m.dc) ∧ V''.cell? ⟨V.heap.size,4,none⟩ = some (.slice (some bx) 1 e.nc) ∧ (V''.cell? bx = some (iv x.id) ∧ V''.cell? ⟨bx.block,bx.off + 1,none⟩ = some (iv x.kind) ∧ V''.cell? ⟨bx.block,bx.off + 2,none⟩ = some (.bool x.pub) ∧ V''.cell? ⟨bx.block,bx.off + 3,none⟩ = some (.slice x.nA x.names.length x.nc) ∧ V''.cell? ⟨bx.block,bx.off + 4,none⟩ = some (.bool x.doubt) ∧ V''.cell? ⟨bx.block,bx.off + 5,none⟩ = some (iv x.body.kind) ∧ V''.cell? ⟨bx.block,bx.off + 6,none⟩ = some (tv x.body.name) ∧ V''.cell? ⟨bx.block,bx.off + 7,none⟩ = some (tv x.body.more) ∧ V''.cell? ⟨bx.block,bx.off + 8,none⟩ = some (iv x.body.int) ∧ V''.cell? ⟨bx.block,bx.off + 9,none⟩ = some (iv x.body.den) ∧ V''.cell? ⟨bx.block,bx.off + 10,none⟩ = some (.slice x.body.A x.body.sub.length x.body.c)) from by
  obtain ⟨n1,n2,n3,n4⟩:=NEB.out
  obtain ⟨t1,t2,t3,t4,t5,t6,t7,t8,t9,t10,t11,t12,t13,t14⟩:=SX.out _ g
  have k1 : ∀ (a : Addr) (u : Value),a.block ≠ gd → V'.cell? a = some u → V''.cell? a = some u:=fun a u hne hc => g'.cell hc (by simp only [ne_eq,Option.some.injEq];exact hne)
  exact ⟨k1 _ _ n1 t1,k1 _ _ n2 t2,k1 _ _ n3 t3,k1 _ _ n4 t4,k1 _ _ n4 t5,k1 _ _ n4 t6,k1 _ _ n4 t7,k1 _ _ n4 t8,k1 _ _ n4 t9,k1 _ _ n4 t10,k1 _ _ n4 t11,k1 _ _ n4 t12,k1 _ _ n4 t13,k1 _ _ n4 t14⟩)
 go_upto_region 10 with fail
 go_region_held3 (fun V' => V'.cell? ⟨cb,0,none⟩ = some (.func (.func 63) #[] #[]) ∧ V'.cell? ⟨gg,g3 + 2,none⟩ = some (.slice (some ⟨gd,0,none⟩) un m.dc) ∧ V'.cell? ⟨V.heap.size,4,none⟩ = some (.slice (some bx) 1 e.nc) ∧ (V'.cell? bx = some (iv x.id) ∧ V'.cell? ⟨bx.block,bx.off + 1,none⟩ = some (iv x.kind) ∧ V'.cell? ⟨bx.block,bx.off + 2,none⟩ = some (.bool x.pub) ∧ V'.cell? ⟨bx.block,bx.off + 3,none⟩ = some (.slice x.nA x.names.length x.nc) ∧ V'.cell? ⟨bx.block,bx.off + 4,none⟩ = some (.bool x.doubt) ∧ V'.cell? ⟨bx.block,bx.off + 5,none⟩ = some (iv x.body.kind) ∧ V'.cell? ⟨bx.block,bx.off + 6,none⟩ = some (tv x.body.name) ∧ V'.cell? ⟨bx.block,bx.off + 7,none⟩ = some (tv x.body.more) ∧ V'.cell? ⟨bx.block,bx.off + 8,none⟩ = some (iv x.body.int) ∧ V'.cell? ⟨bx.block,bx.off + 9,none⟩ = some (iv x.body.den) ∧ V'.cell? ⟨bx.block,bx.off + 10,none⟩ = some (.slice x.body.A x.body.sub.length x.body.c)))
  (first | with_reducible exact SY.out _ _ (G3.out.trans (Qb _)) G6.out | with_reducible exact SX.out _ (G3.out.trans (Qb _)) | go_keep)
  (first | (go_at_call 63;(with_reducible refine (C4.out _ (G3.out.trans (Qb _))).mono ?_);rintro y w6 ⟨⟨r,rfl⟩,o6,g6⟩;have G6:=Qo0 g6;have AS6:=Qo0 (FN.out _ w6 (GW.out.trans (G3.out.trans (Qb _))) o6 g6);clear o6 g6))
 go_wp2
 go_ret
 obtain ⟨⟨m',e1,e2⟩,e3⟩:=AS6.out
 exact ⟨rfl,m',e1,e2,e3⟩
end Go.Proofs.YtiaenhlflgobfaaGreatDoor
namespace Go.Proofs.YtiaenhlflgobfaaGreatDoor
open Go.RowKit
set_option maxRecDepth 100000 in
set_option maxHeartbeats 4000000 in
attribute [local irreducible] Calls in
theorem Ql8 (w : World) (B M : Nat) (V : World) (v : Value) (pre post : List Mod) (m : Mod) (gg nn cap : Nat) (e : Edt) (cb : Nat) (x : Dec) (o d : Dec) (p1 p2 : List Dec) (h : AS w B M V v (pre ++ m :: post)) (hv : v = .slice (some ⟨gg,0,none⟩) nn cap) (hM : M ≤ 100000) (he : e.Rd w) (hK : e.kind = 8) (ho : e.old = [o]) (hs : Asc Dec.id m.decls) (hd : m.decls = p1 ++ d :: p2) (hid : d.id = o.id) (hm : (d.ment 8).er = o.er) (hb : (d.body.er.pre 1).length ≤ 400) (hx : e.new = [x]) (hcb : V.heap[cb]? = some (.cells #[.func (.func 64) #[] #[]] 125 (0,0))) :
 Calls Tryz.prog 106 #[.pointer (some ⟨gg,pre.length * 3,none⟩),e.v,.pointer (some ⟨cb,0,none⟩)] V fun y V' => y = .returned (iv 0) ∧ ∃ m',m'.er = { m.er with decls:=(p1 ++ ({ d with body:=x.body } : Dec) :: p2).map Dec.er } ∧ AS w B (M + 1) V' v (pre ++ m' :: post) ∧ Fr B V V':=by
 have hm0 : m ∈ pre ++ m :: post:=by simp
 have hgv:=(h.hdr hv).1
 have mc:=h.c m hm0
 obtain ⟨gd,hgd⟩ : ∃ gd,m.dA = some ⟨gd,0,none⟩:=by
  obtain ⟨A,c,e1,-,-,-,-,hA⟩:=(h.d m hm0).form2 elD.hn
  obtain ⟨e2,-,e3⟩:=Value.slice.inj e1
  cases hA2 : m.dA with
  | none =>
    rcases (h.d m hm0).2 with ⟨-,h1⟩ | ⟨g',cap',cur,e4,-⟩
    ·rw [hd] at h1;simp at h1
    ·rw [hA2] at e4;cases e4
  | some a => exact ⟨_,congrArg some (hA a (by rw [← e2,hA2])).2.2⟩
 have hpos : pos Dec.id m.decls o.id = p1.length:=by rw [hd,← hid];exact Q5 (by rw [← hd];exact hs)
 have hhas : Zd Dec.id m.decls o.id = true:=by rw [hd,← hid];exact Zi (by rw [← hd];exact hs)
 obtain ⟨W,hW⟩ : ∃ W,V.alloc (.cells #[iv e.kind,tv e.pack,tv e.text,.slice e.oA e.old.length e.oc,.slice e.nA e.new.length e.nc] 32) = W:=⟨_,rfl⟩
 obtain ⟨W1,hW1⟩ : ∃ W1,W.alloc (.cells #[iv o.id,iv o.kind,.bool o.pub,.slice o.nA o.names.length o.nc,.bool o.doubt,iv o.body.kind,tv o.body.name,tv o.body.more,iv o.body.int,iv o.body.den,.slice o.body.A o.body.sub.length o.body.c] 45) = W1:=⟨_,rfl⟩
 have GW0:=Qo0 (show Gr V W by rw [← hW];exact Qa _ _)
 have GW:=Qo0 (show Gr V W1 by rw [← hW1];exact GW0.out.trans (Qa _ _))
 have CB:=Qo0 (fun V' (g : Gr W V') => Qt (V:=V') (b:=V.heap.size) (e:=e) (Qe g (by rw [← hW];exact Qd _ _)))
 have OB:=Qo0 (fun V' (g : Gr W1 V') => Zj (d:=o) (V:=V') (b:=W.heap.size) (Qe g (by rw [← hW1];exact Qd _ _)))
 have HD:=Qo0 (fun V' (g : Gr W1 V') => (h.gr (GW.out.trans g)).hdr hv)
 have dr:=h.d m hm0
 rw [hgd,hd] at dr
 have DB:=Qo0 (fun V' (g : Gr W1 V') => And.intro (Qi (dr.gr (GW.out.trans g)) 0 (u:=iv d.id) rfl) (And.intro (Qi (dr.gr (GW.out.trans g)) 1 (u:=iv d.kind) rfl) (And.intro (Qi (dr.gr (GW.out.trans g)) 2 (u:=.bool d.pub) rfl) (And.intro (Qi (dr.gr (GW.out.trans g)) 3 (u:=.slice d.nA d.names.length d.nc) rfl) (And.intro (Qi (dr.gr (GW.out.trans g)) 4 (u:=.bool d.doubt) rfl) (And.intro (Qi (dr.gr (GW.out.trans g)) 5 (u:=iv d.body.kind) rfl) (And.intro (Qi (dr.gr (GW.out.trans g)) 6 (u:=tv d.body.name) rfl) (And.intro (Qi (dr.gr (GW.out.trans g)) 7 (u:=tv d.body.more) rfl) (And.intro (Qi (dr.gr (GW.out.trans g)) 8 (u:=iv d.body.int) rfl) (And.intro (Qi (dr.gr (GW.out.trans g)) 9 (u:=iv d.body.den) rfl) (Qi (dr.gr (GW.out.trans g)) 10 (u:=.slice d.body.A d.body.sub.length d.body.c) rfl)))))))))))
 have hdr : d.Rd w ∧ 1 ≤ d.id ∧ d.id ≤ 999999:=mc.ds d (by rw [hd];simp)
 have heo:=he.o
 rw [ho] at heo
 have hor : o.Rd w:=heo.d o (by simp)
 have C1:=Qo0 (fun V' (g : Gr W1 V') => Yk m.dA m.dc m.decls o.id V' (((h.gr (GW.out.trans g))).rd hm0) (by have:=mc.nd;omega) hs (by rw [← hid];have:=hdr.2;omega) (fun y hy => by have:=(mc.ds y hy).2;omega))
 rw [hpos,hhas] at C1
 have C2:=Qo0 (fun V' (_ : Gr W1 V') => Zy 8 d V')
 have C3:=Qo0 (fun V' (g : Gr W1 V') => Zf (d.ment 8) o V' (Y2 8 (hdr.1.gr (h.g.trans (GW.out.trans g)))) (hor.gr (h.g.trans (GW.out.trans g))) (by
  have h1:=Xs 8 (d:=d.er) hb
  rw [← Yh] at h1
  exact h1))
 rw [decide_eq_true hm] at C3
 obtain ⟨vO,hvO⟩ : ∃ v,(d.ment 8).v = v:=⟨_,rfl⟩
 rw [hvO] at C2 C3
 obtain ⟨b,b1,eb,hb1,hbb,d0,d1,d2,d3,d4,d5,d6,d7,d8,d9,d10⟩:=rdD (heo.gr (h.g.trans GW0.out)).r (k:=0) (x:=o) rfl
 rw [Nat.zero_mul,add_zero'] at hb1
 subst hb1
 have hen:=he.n
 rw [hx] at hen
 have hxr : x.Rd w:=hen.d x (by simp)
 obtain ⟨bx,bx1,ebx,hbx1,hbbx,-⟩:=rdD hen.r (k:=0) (x:=x) rfl
 rw [Nat.zero_mul,add_zero'] at hbx1
 subst hbx1
 have XB:=Qo0 (fun V' (g : Gr W1 V') => show V'.cell? bx = some (iv x.id) ∧ V'.cell? ⟨bx.block,bx.off + 1,none⟩ = some (iv x.kind) ∧ V'.cell? ⟨bx.block,bx.off + 2,none⟩ = some (.bool x.pub) ∧ V'.cell? ⟨bx.block,bx.off + 3,none⟩ = some (.slice x.nA x.names.length x.nc) ∧ V'.cell? ⟨bx.block,bx.off + 4,none⟩ = some (.bool x.doubt) ∧ V'.cell? ⟨bx.block,bx.off + 5,none⟩ = some (iv x.body.kind) ∧ V'.cell? ⟨bx.block,bx.off + 6,none⟩ = some (tv x.body.name) ∧ V'.cell? ⟨bx.block,bx.off + 7,none⟩ = some (tv x.body.more) ∧ V'.cell? ⟨bx.block,bx.off + 8,none⟩ = some (iv x.body.int) ∧ V'.cell? ⟨bx.block,bx.off + 9,none⟩ = some (iv x.body.den) ∧ V'.cell? ⟨bx.block,bx.off + 10,none⟩ = some (.slice x.body.A x.body.sub.length x.body.c) from by
  have h5:=(he.n.gr (h.g.trans (GW.out.trans g))).r
  rw [hx] at h5
  obtain ⟨c,c1,ec,hc1,hcb',x0,x1,x2,x3,x4,x5,x6,x7,x8,x9,x10⟩:=rdD h5 (k:=0) (x:=x) rfl
  rw [ebx] at ec
  cases ec
  rw [Nat.zero_mul,add_zero'] at hc1
  subst hc1
  exact ⟨x0,x1,x2,x3,x4,x5,x6,x7,x8,x9,x10⟩)
 have CP:=Qo0 (fun V' (g : Gr W1 V') => show V'.cell? ⟨cb,0,none⟩ = some (.func (.func 64) #[] #[]) from by rw [Lib.cell_of_heap (Qe (GW.out.trans g) hcb)];rfl)
 have hdl : m.decls.length = (p1 ++ d :: p2).length:=by rw [hd]
 have C4:=Qo0 (fun V' (g : Gr W1 V') => set64 B V' gd m.decls.length m.dc p1 p2 d x (by rw [hdl];exact dr.gr (GW.out.trans g)))
 have gdB : B ≤ gd:=(dr.lt gd rfl).1
 have NEB:=Qo0 (show cb ≠ gd ∧ gg ≠ gd ∧ V.heap.size ≠ gd ∧ bx.block ≠ gd from by
  obtain ⟨-,q1,q2⟩:=dr.typ (k:=gd) rfl
  refine ⟨fun e1 => ?_,fun e1 => ?_,?_,?_⟩
  ·rw [e1,q2] at hcb;cases hcb
  ·obtain ⟨-,q3,q4⟩:=h.o.typ (k:=gg) (by rw [hv];rfl)
   rw [e1,q2] at q4;cases q4
  ·have:=(dr.lt gd rfl).2;omega
  ·have:=h.wb;omega)
 have FN:=Qo0 (fun V1 V2 (g1 : Gr V V1) (o' : OR 45 11 Dec.cs V2 B (.slice (some ⟨gd,0,none⟩) m.decls.length m.dc) (p1 ++ ({ d with body:=x.body } : Dec) :: p2)) (g2 : V1.grownBy V2 (some gd)) => show (∃ m',m'.er = { m.er with decls:=(p1 ++ ({ d with body:=x.body } : Dec) :: p2).map Dec.er } ∧ AS w B (M + 1) V2 v (pre ++ m' :: post)) ∧ Fr B V V2 from by
  obtain ⟨e1,e2⟩:=h.setE (ds:=p1 ++ ({ d with body:=x.body } : Dec) :: p2) g1 (by rw [hd];simp) (by rw [hgd];exact o') (by rw [hgd];exact g2) (fun y hy => by
   rcases List.mem_append.1 hy with hy | hy
   ·exact mc.ds y (by rw [hd];simp [hy])
   ·rcases List.mem_cons.1 hy with rfl | hy
    ·obtain ⟨q1,q2⟩:=mc.ds d (by rw [hd];simp)
     exact ⟨⟨q1.n,hxr.b⟩,q2⟩
    ·exact mc.ds y (by rw [hd];simp [hy]))
  exact ⟨⟨_,rfl,e1.up⟩,e2⟩)
 unfold Dec.v at C2 C3
 unfold Edt.v
 have HW:=Qo0 hW
 have HW1:=Qo0 hW1
 rw [ho,eb,hK] at CB HW ⊢
 simp only [List.length_cons,List.length_nil,Nat.zero_add] at CB HW ⊢
 obtain ⟨q,hq⟩ : ∃ q,p1.length * 11 = q:=⟨_,rfl⟩
 obtain ⟨P,hP⟩ : ∃ P,p1.length = P:=⟨_,rfl⟩
 obtain ⟨g3,hg3⟩ : ∃ g3,pre.length * 3 = g3:=⟨_,rfl⟩
 obtain ⟨un,hun⟩ : ∃ un,m.decls.length = un:=⟨_,rfl⟩
 have hPu : P < un:=by rw [← hun,hd,← hP];simp
 have hPq : P * 11 = q:=by rw [← hP];exact hq
 have hu9 : un ≤ 100000:=by have:=mc.nd;omega
 simp only [hq] at DB
 simp only [Nat.add_zero] at DB
 simp only [hgd,hun,hP] at C1
 simp only [hgd,hun,hg3] at HD
 rw [hg3]
 rw [hx,ebx] at CB HW ⊢
 simp only [List.length_cons,List.length_nil,Nat.zero_add] at CB HW ⊢
 simp only [hun,hq] at C4
 simp only [hun] at FN
 obtain ⟨DS,hDS⟩ : ∃ DS,p1 ++ ({ d with body:=x.body } : Dec) :: p2 = DS:=⟨_,rfl⟩
 simp only [hDS] at C4 FN ⊢
 unfold Dec.v at C4
 clear hDS hcb hen hxr hbbx hdl gdB hx ebx
 clear h hv he ho hs hd hid hm hb mc hm0 hgd hpos hhas hW hW1 hdr heo hor hvO dr hq hP hg3 hun hbb eb hK
 go_enter Tryz.func106,Tryz.ntmps106
 go_upto_region 1 with fail
 rw [HW.out]
 obtain ⟨c0,c1,c2,c3,c4⟩:=CB.out _ (Qc _)
 go_upto_region 2 with fail
 rw [HW1.out]
 clear d0 d1 d2 d3 d4 d5 d6 d7 d8 d9 d10 c0 c1 c2 c3 c4
 have GWW:=Qo0 (show Gr W W1 by rw [← HW1.out];exact Qa _ _)
 have SS:=Qo0 (fun V' (g : Gr W1 V') => And.intro (HD.out _ g).2.2.2.1 (OB.out _ g).1)
 go_region_held3 (fun V' => V'.cell? ⟨gg,g3 + 2,none⟩ = some (.slice (some ⟨gd,0,none⟩) un m.dc) ∧ V'.cell? ⟨W.heap.size,0,none⟩ = some (iv o.id))
  (first | with_reducible exact SS.out _ G1.out | with_reducible exact SS.out _ (Qb _) | go_keep)
  (first | (go_at_call 60;(with_reducible refine (C1.out _ (Qb _)).mono ?_);rintro y w1 ⟨rfl,g1⟩;have G1:=Qo0 ((Qb _).trans g1);clear g1))
 have S5:=Qo0 (fun V' (g : Gr W1 V') => And.intro (CB.out _ (GWW.out.trans g)).1 (And.intro (HD.out _ g).2.2.2.1 (And.intro (DB.out _ g) (OB.out _ g))))
 go_upto_region 5 with fail
 go_region_held3 (fun V' => V'.cell? ⟨V.heap.size,0,none⟩ = some (iv 8) ∧ V'.cell? ⟨gg,g3 + 2,none⟩ = some (.slice (some ⟨gd,0,none⟩) un m.dc) ∧ (V'.cell? ⟨gd,q,none⟩ = some (iv d.id) ∧ V'.cell? ⟨gd,q + 1,none⟩ = some (iv d.kind) ∧ V'.cell? ⟨gd,q + 2,none⟩ = some (.bool d.pub) ∧ V'.cell? ⟨gd,q + 3,none⟩ = some (.slice d.nA d.names.length d.nc) ∧ V'.cell? ⟨gd,q + 4,none⟩ = some (.bool d.doubt) ∧ V'.cell? ⟨gd,q + 5,none⟩ = some (iv d.body.kind) ∧ V'.cell? ⟨gd,q + 6,none⟩ = some (tv d.body.name) ∧ V'.cell? ⟨gd,q + 7,none⟩ = some (tv d.body.more) ∧ V'.cell? ⟨gd,q + 8,none⟩ = some (iv d.body.int) ∧ V'.cell? ⟨gd,q + 9,none⟩ = some (iv d.body.den) ∧ V'.cell? ⟨gd,q + 10,none⟩ = some (.slice d.body.A d.body.sub.length d.body.c)) ∧ (V'.cell? ⟨W.heap.size,0,none⟩ = some (iv o.id) ∧ V'.cell? ⟨W.heap.size,1,none⟩ = some (iv o.kind) ∧ V'.cell? ⟨W.heap.size,2,none⟩ = some (.bool o.pub) ∧ V'.cell? ⟨W.heap.size,3,none⟩ = some (.slice o.nA o.names.length o.nc) ∧ V'.cell? ⟨W.heap.size,4,none⟩ = some (.bool o.doubt) ∧ V'.cell? ⟨W.heap.size,5,none⟩ = some (iv o.body.kind) ∧ V'.cell? ⟨W.heap.size,6,none⟩ = some (tv o.body.name) ∧ V'.cell? ⟨W.heap.size,7,none⟩ = some (tv o.body.more) ∧ V'.cell? ⟨W.heap.size,8,none⟩ = some (iv o.body.int) ∧ V'.cell? ⟨W.heap.size,9,none⟩ = some (iv o.body.den) ∧ V'.cell? ⟨W.heap.size,10,none⟩ = some (.slice o.body.A o.body.sub.length o.body.c)))
  (first | with_reducible exact S5.out _ G3.out | with_reducible exact S5.out _ G2.out | with_reducible exact S5.out _ (G1.out.trans (Qb _)) | go_keep)
  (first
    | (go_at_call 51;(with_reducible refine (C2.out _ (G1.out.trans (Qb _))).mono ?_);rintro y w2 ⟨rfl,g2⟩;have G2:=Qo0 ((G1.out.trans (Qb _)).trans g2);clear g2)
    | (go_at_call 52;(with_reducible refine (C3.out _ G2.out).mono ?_);rintro y w3 ⟨rfl,g3'⟩;have G3:=Qo0 (G2.out.trans g3');clear g3'))
 obtain ⟨e0,e1,-⟩:=S5.out _ G3.out
 have SX:=Qo0 (fun V' (g : Gr W1 V') => show V'.cell? ⟨cb,0,none⟩ = some (.func (.func 64) #[] #[]) ∧ V'.cell? ⟨gg,g3 + 2,none⟩ = some (.slice (some ⟨gd,0,none⟩) un m.dc) ∧ V'.cell? ⟨V.heap.size,4,none⟩ = some (.slice (some bx) 1 e.nc) ∧ (V'.cell? bx = some (iv x.id) ∧ V'.cell? ⟨bx.block,bx.off + 1,none⟩ = some (iv x.kind) ∧ V'.cell? ⟨bx.block,bx.off + 2,none⟩ = some (.bool x.pub) ∧ V'.cell? ⟨bx.block,bx.off + 3,none⟩ = some (.slice x.nA x.names.length x.nc) ∧ V'.cell? ⟨bx.block,bx.off + 4,none⟩ = some (.bool x.doubt) ∧ V'.cell? ⟨bx.block,bx.off + 5,none⟩ = some (iv x.body.kind) ∧ V'.cell? ⟨bx.block,bx.off + 6,none⟩ = some (tv x.body.name) ∧ V'.cell? ⟨bx.block,bx.off + 7,none⟩ = some (tv x.body.more) ∧ V'.cell? ⟨bx.block,bx.off + 8,none⟩ = some (iv x.body.int) ∧ V'.cell? ⟨bx.block,bx.off + 9,none⟩ = some (iv x.body.den) ∧ V'.cell? ⟨bx.block,bx.off + 10,none⟩ = some (.slice x.body.A x.body.sub.length x.body.c)) from ⟨CP.out _ g,(HD.out _ g).2.2.2.1,(CB.out _ (GWW.out.trans g)).2.2.2.2,XB.out _ g⟩)
 have SY:=Qo0 (fun V' V'' (g : Gr W1 V') (g' : V'.grownBy V'' (some gd)) => show V''.cell? ⟨cb,0,none⟩ = some (.func (.func 64) #[] #[]) ∧ V''.cell? ⟨gg,g3 + 2,none⟩ = some (.slice (some ⟨gd,0,none⟩) un m.dc) ∧ V''.cell? ⟨V.heap.size,4,none⟩ = some (.slice (some bx) 1 e.nc) ∧ (V''.cell? bx = some (iv x.id) ∧ V''.cell? ⟨bx.block,bx.off + 1,none⟩ = some (iv x.kind) ∧ V''.cell? ⟨bx.block,bx.off + 2,none⟩ = some (.bool x.pub) ∧ V''.cell? ⟨bx.block,bx.off + 3,none⟩ = some (.slice x.nA x.names.length x.nc) ∧ V''.cell? ⟨bx.block,bx.off + 4,none⟩ = some (.bool x.doubt) ∧ V''.cell? ⟨bx.block,bx.off + 5,none⟩ = some (iv x.body.kind) ∧ V''.cell? ⟨bx.block,bx.off + 6,none⟩ = some (tv x.body.name) ∧ V''.cell? ⟨bx.block,bx.off + 7,none⟩ = some (tv x.body.more) ∧ V''.cell? ⟨bx.block,bx.off + 8,none⟩ = some (iv x.body.int) ∧ V''.cell? ⟨bx.block,bx.off + 9,none⟩ = some (iv x.body.den) ∧ V''.cell? ⟨bx.block,bx.off + 10,none⟩ = some (.slice x.body.A x.body.sub.length x.body.c)) from by
  obtain ⟨n1,n2,n3,n4⟩:=NEB.out
  obtain ⟨t1,t2,t3,t4,t5,t6,t7,t8,t9,t10,t11,t12,t13,t14⟩:=SX.out _ g
  have k1 : ∀ (a : Addr) (u : Value),a.block ≠ gd → V'.cell? a = some u → V''.cell? a = some u:=fun a u hne hc => g'.cell hc (by simp only [ne_eq,Option.some.injEq];exact hne)
  exact ⟨k1 _ _ n1 t1,k1 _ _ n2 t2,k1 _ _ n3 t3,k1 _ _ n4 t4,k1 _ _ n4 t5,k1 _ _ n4 t6,k1 _ _ n4 t7,k1 _ _ n4 t8,k1 _ _ n4 t9,k1 _ _ n4 t10,k1 _ _ n4 t11,k1 _ _ n4 t12,k1 _ _ n4 t13,k1 _ _ n4 t14⟩)
 go_upto_region 10 with fail
 go_region_held3 (fun V' => V'.cell? ⟨cb,0,none⟩ = some (.func (.func 64) #[] #[]) ∧ V'.cell? ⟨gg,g3 + 2,none⟩ = some (.slice (some ⟨gd,0,none⟩) un m.dc) ∧ V'.cell? ⟨V.heap.size,4,none⟩ = some (.slice (some bx) 1 e.nc) ∧ (V'.cell? bx = some (iv x.id) ∧ V'.cell? ⟨bx.block,bx.off + 1,none⟩ = some (iv x.kind) ∧ V'.cell? ⟨bx.block,bx.off + 2,none⟩ = some (.bool x.pub) ∧ V'.cell? ⟨bx.block,bx.off + 3,none⟩ = some (.slice x.nA x.names.length x.nc) ∧ V'.cell? ⟨bx.block,bx.off + 4,none⟩ = some (.bool x.doubt) ∧ V'.cell? ⟨bx.block,bx.off + 5,none⟩ = some (iv x.body.kind) ∧ V'.cell? ⟨bx.block,bx.off + 6,none⟩ = some (tv x.body.name) ∧ V'.cell? ⟨bx.block,bx.off + 7,none⟩ = some (tv x.body.more) ∧ V'.cell? ⟨bx.block,bx.off + 8,none⟩ = some (iv x.body.int) ∧ V'.cell? ⟨bx.block,bx.off + 9,none⟩ = some (iv x.body.den) ∧ V'.cell? ⟨bx.block,bx.off + 10,none⟩ = some (.slice x.body.A x.body.sub.length x.body.c)))
  (first | with_reducible exact SY.out _ _ (G3.out.trans (Qb _)) G6.out | with_reducible exact SX.out _ (G3.out.trans (Qb _)) | go_keep)
  (first | (go_at_call 64;(with_reducible refine (C4.out _ (G3.out.trans (Qb _))).mono ?_);rintro y w6 ⟨⟨r,rfl⟩,o6,g6⟩;have G6:=Qo0 g6;have AS6:=Qo0 (FN.out _ w6 (GW.out.trans (G3.out.trans (Qb _))) o6 g6);clear o6 g6))
 go_wp2
 go_ret
 obtain ⟨⟨m',e1,e2⟩,e3⟩:=AS6.out
 exact ⟨rfl,m',e1,e2,e3⟩
end Go.Proofs.YtiaenhlflgobfaaGreatDoor
namespace Go.Proofs.YtiaenhlflgobfaaGreatDoor
open Go.RowKit
set_option maxRecDepth 100000 in
set_option maxHeartbeats 4000000 in
attribute [local irreducible] Calls in
theorem Ql7 (w : World) (B M : Nat) (V : World) (v : Value) (pre post : List Mod) (m : Mod) (gg nn cap : Nat) (e : Edt) (cb : Nat) (x : Dec) (o d : Dec) (p1 p2 : List Dec) (h : AS w B M V v (pre ++ m :: post)) (hv : v = .slice (some ⟨gg,0,none⟩) nn cap) (hM : M ≤ 100000) (he : e.Rd w) (hK : e.kind = 9) (ho : e.old = [o]) (hs : Asc Dec.id m.decls) (hd : m.decls = p1 ++ d :: p2) (hid : d.id = o.id) (hm : (d.ment 9).er = o.er) (hb : (d.body.er.pre 1).length ≤ 400) (hx : e.new = [x]) (hcb : V.heap[cb]? = some (.cells #[.func (.func 65) #[] #[]] 125 (0,0))) :
 Calls Tryz.prog 106 #[.pointer (some ⟨gg,pre.length * 3,none⟩),e.v,.pointer (some ⟨cb,0,none⟩)] V fun y V' => y = .returned (iv 0) ∧ ∃ m',m'.er = { m.er with decls:=(p1 ++ ({ d with kind:=x.kind,pub:=x.pub,doubt:=x.doubt } : Dec) :: p2).map Dec.er } ∧ AS w B (M + 1) V' v (pre ++ m' :: post) ∧ Fr B V V':=by
 have hm0 : m ∈ pre ++ m :: post:=by simp
 have hgv:=(h.hdr hv).1
 have mc:=h.c m hm0
 obtain ⟨gd,hgd⟩ : ∃ gd,m.dA = some ⟨gd,0,none⟩:=by
  obtain ⟨A,c,e1,-,-,-,-,hA⟩:=(h.d m hm0).form2 elD.hn
  obtain ⟨e2,-,e3⟩:=Value.slice.inj e1
  cases hA2 : m.dA with
  | none =>
    rcases (h.d m hm0).2 with ⟨-,h1⟩ | ⟨g',cap',cur,e4,-⟩
    ·rw [hd] at h1;simp at h1
    ·rw [hA2] at e4;cases e4
  | some a => exact ⟨_,congrArg some (hA a (by rw [← e2,hA2])).2.2⟩
 have hpos : pos Dec.id m.decls o.id = p1.length:=by rw [hd,← hid];exact Q5 (by rw [← hd];exact hs)
 have hhas : Zd Dec.id m.decls o.id = true:=by rw [hd,← hid];exact Zi (by rw [← hd];exact hs)
 obtain ⟨W,hW⟩ : ∃ W,V.alloc (.cells #[iv e.kind,tv e.pack,tv e.text,.slice e.oA e.old.length e.oc,.slice e.nA e.new.length e.nc] 32) = W:=⟨_,rfl⟩
 obtain ⟨W1,hW1⟩ : ∃ W1,W.alloc (.cells #[iv o.id,iv o.kind,.bool o.pub,.slice o.nA o.names.length o.nc,.bool o.doubt,iv o.body.kind,tv o.body.name,tv o.body.more,iv o.body.int,iv o.body.den,.slice o.body.A o.body.sub.length o.body.c] 45) = W1:=⟨_,rfl⟩
 have GW0:=Qo0 (show Gr V W by rw [← hW];exact Qa _ _)
 have GW:=Qo0 (show Gr V W1 by rw [← hW1];exact GW0.out.trans (Qa _ _))
 have CB:=Qo0 (fun V' (g : Gr W V') => Qt (V:=V') (b:=V.heap.size) (e:=e) (Qe g (by rw [← hW];exact Qd _ _)))
 have OB:=Qo0 (fun V' (g : Gr W1 V') => Zj (d:=o) (V:=V') (b:=W.heap.size) (Qe g (by rw [← hW1];exact Qd _ _)))
 have HD:=Qo0 (fun V' (g : Gr W1 V') => (h.gr (GW.out.trans g)).hdr hv)
 have dr:=h.d m hm0
 rw [hgd,hd] at dr
 have DB:=Qo0 (fun V' (g : Gr W1 V') => And.intro (Qi (dr.gr (GW.out.trans g)) 0 (u:=iv d.id) rfl) (And.intro (Qi (dr.gr (GW.out.trans g)) 1 (u:=iv d.kind) rfl) (And.intro (Qi (dr.gr (GW.out.trans g)) 2 (u:=.bool d.pub) rfl) (And.intro (Qi (dr.gr (GW.out.trans g)) 3 (u:=.slice d.nA d.names.length d.nc) rfl) (And.intro (Qi (dr.gr (GW.out.trans g)) 4 (u:=.bool d.doubt) rfl) (And.intro (Qi (dr.gr (GW.out.trans g)) 5 (u:=iv d.body.kind) rfl) (And.intro (Qi (dr.gr (GW.out.trans g)) 6 (u:=tv d.body.name) rfl) (And.intro (Qi (dr.gr (GW.out.trans g)) 7 (u:=tv d.body.more) rfl) (And.intro (Qi (dr.gr (GW.out.trans g)) 8 (u:=iv d.body.int) rfl) (And.intro (Qi (dr.gr (GW.out.trans g)) 9 (u:=iv d.body.den) rfl) (Qi (dr.gr (GW.out.trans g)) 10 (u:=.slice d.body.A d.body.sub.length d.body.c) rfl)))))))))))
 have hdr : d.Rd w ∧ 1 ≤ d.id ∧ d.id ≤ 999999:=mc.ds d (by rw [hd];simp)
 have heo:=he.o
 rw [ho] at heo
 have hor : o.Rd w:=heo.d o (by simp)
 have C1:=Qo0 (fun V' (g : Gr W1 V') => Yk m.dA m.dc m.decls o.id V' (((h.gr (GW.out.trans g))).rd hm0) (by have:=mc.nd;omega) hs (by rw [← hid];have:=hdr.2;omega) (fun y hy => by have:=(mc.ds y hy).2;omega))
 rw [hpos,hhas] at C1
 have C2:=Qo0 (fun V' (_ : Gr W1 V') => Zy 9 d V')
 have C3:=Qo0 (fun V' (g : Gr W1 V') => Zf (d.ment 9) o V' (Y2 9 (hdr.1.gr (h.g.trans (GW.out.trans g)))) (hor.gr (h.g.trans (GW.out.trans g))) (by
  have h1:=Xs 9 (d:=d.er) hb
  rw [← Yh] at h1
  exact h1))
 rw [decide_eq_true hm] at C3
 obtain ⟨vO,hvO⟩ : ∃ v,(d.ment 9).v = v:=⟨_,rfl⟩
 rw [hvO] at C2 C3
 obtain ⟨b,b1,eb,hb1,hbb,d0,d1,d2,d3,d4,d5,d6,d7,d8,d9,d10⟩:=rdD (heo.gr (h.g.trans GW0.out)).r (k:=0) (x:=o) rfl
 rw [Nat.zero_mul,add_zero'] at hb1
 subst hb1
 have hen:=he.n
 rw [hx] at hen
 have hxr : x.Rd w:=hen.d x (by simp)
 obtain ⟨bx,bx1,ebx,hbx1,hbbx,-⟩:=rdD hen.r (k:=0) (x:=x) rfl
 rw [Nat.zero_mul,add_zero'] at hbx1
 subst hbx1
 have XB:=Qo0 (fun V' (g : Gr W1 V') => show V'.cell? bx = some (iv x.id) ∧ V'.cell? ⟨bx.block,bx.off + 1,none⟩ = some (iv x.kind) ∧ V'.cell? ⟨bx.block,bx.off + 2,none⟩ = some (.bool x.pub) ∧ V'.cell? ⟨bx.block,bx.off + 3,none⟩ = some (.slice x.nA x.names.length x.nc) ∧ V'.cell? ⟨bx.block,bx.off + 4,none⟩ = some (.bool x.doubt) ∧ V'.cell? ⟨bx.block,bx.off + 5,none⟩ = some (iv x.body.kind) ∧ V'.cell? ⟨bx.block,bx.off + 6,none⟩ = some (tv x.body.name) ∧ V'.cell? ⟨bx.block,bx.off + 7,none⟩ = some (tv x.body.more) ∧ V'.cell? ⟨bx.block,bx.off + 8,none⟩ = some (iv x.body.int) ∧ V'.cell? ⟨bx.block,bx.off + 9,none⟩ = some (iv x.body.den) ∧ V'.cell? ⟨bx.block,bx.off + 10,none⟩ = some (.slice x.body.A x.body.sub.length x.body.c) from by
  have h5:=(he.n.gr (h.g.trans (GW.out.trans g))).r
  rw [hx] at h5
  obtain ⟨c,c1,ec,hc1,hcb',x0,x1,x2,x3,x4,x5,x6,x7,x8,x9,x10⟩:=rdD h5 (k:=0) (x:=x) rfl
  rw [ebx] at ec
  cases ec
  rw [Nat.zero_mul,add_zero'] at hc1
  subst hc1
  exact ⟨x0,x1,x2,x3,x4,x5,x6,x7,x8,x9,x10⟩)
 have CP:=Qo0 (fun V' (g : Gr W1 V') => show V'.cell? ⟨cb,0,none⟩ = some (.func (.func 65) #[] #[]) from by rw [Lib.cell_of_heap (Qe (GW.out.trans g) hcb)];rfl)
 have hdl : m.decls.length = (p1 ++ d :: p2).length:=by rw [hd]
 have C4:=Qo0 (fun V' (g : Gr W1 V') => set65 B V' gd m.decls.length m.dc p1 p2 d x (by rw [hdl];exact dr.gr (GW.out.trans g)))
 have gdB : B ≤ gd:=(dr.lt gd rfl).1
 have NEB:=Qo0 (show cb ≠ gd ∧ gg ≠ gd ∧ V.heap.size ≠ gd ∧ bx.block ≠ gd from by
  obtain ⟨-,q1,q2⟩:=dr.typ (k:=gd) rfl
  refine ⟨fun e1 => ?_,fun e1 => ?_,?_,?_⟩
  ·rw [e1,q2] at hcb;cases hcb
  ·obtain ⟨-,q3,q4⟩:=h.o.typ (k:=gg) (by rw [hv];rfl)
   rw [e1,q2] at q4;cases q4
  ·have:=(dr.lt gd rfl).2;omega
  ·have:=h.wb;omega)
 have FN:=Qo0 (fun V1 V2 (g1 : Gr V V1) (o' : OR 45 11 Dec.cs V2 B (.slice (some ⟨gd,0,none⟩) m.decls.length m.dc) (p1 ++ ({ d with kind:=x.kind,pub:=x.pub,doubt:=x.doubt } : Dec) :: p2)) (g2 : V1.grownBy V2 (some gd)) => show (∃ m',m'.er = { m.er with decls:=(p1 ++ ({ d with kind:=x.kind,pub:=x.pub,doubt:=x.doubt } : Dec) :: p2).map Dec.er } ∧ AS w B (M + 1) V2 v (pre ++ m' :: post)) ∧ Fr B V V2 from by
  obtain ⟨e1,e2⟩:=h.setE (ds:=p1 ++ ({ d with kind:=x.kind,pub:=x.pub,doubt:=x.doubt } : Dec) :: p2) g1 (by rw [hd];simp) (by rw [hgd];exact o') (by rw [hgd];exact g2) (fun y hy => by
   rcases List.mem_append.1 hy with hy | hy
   ·exact mc.ds y (by rw [hd];simp [hy])
   ·rcases List.mem_cons.1 hy with rfl | hy
    ·obtain ⟨q1,q2⟩:=mc.ds d (by rw [hd];simp)
     exact ⟨⟨q1.n,q1.b⟩,q2⟩
    ·exact mc.ds y (by rw [hd];simp [hy]))
  exact ⟨⟨_,rfl,e1.up⟩,e2⟩)
 unfold Dec.v at C2 C3
 unfold Edt.v
 have HW:=Qo0 hW
 have HW1:=Qo0 hW1
 rw [ho,eb,hK] at CB HW ⊢
 simp only [List.length_cons,List.length_nil,Nat.zero_add] at CB HW ⊢
 obtain ⟨q,hq⟩ : ∃ q,p1.length * 11 = q:=⟨_,rfl⟩
 obtain ⟨P,hP⟩ : ∃ P,p1.length = P:=⟨_,rfl⟩
 obtain ⟨g3,hg3⟩ : ∃ g3,pre.length * 3 = g3:=⟨_,rfl⟩
 obtain ⟨un,hun⟩ : ∃ un,m.decls.length = un:=⟨_,rfl⟩
 have hPu : P < un:=by rw [← hun,hd,← hP];simp
 have hPq : P * 11 = q:=by rw [← hP];exact hq
 have hu9 : un ≤ 100000:=by have:=mc.nd;omega
 simp only [hq] at DB
 simp only [Nat.add_zero] at DB
 simp only [hgd,hun,hP] at C1
 simp only [hgd,hun,hg3] at HD
 rw [hg3]
 rw [hx,ebx] at CB HW ⊢
 simp only [List.length_cons,List.length_nil,Nat.zero_add] at CB HW ⊢
 simp only [hun,hq] at C4
 simp only [hun] at FN
 obtain ⟨DS,hDS⟩ : ∃ DS,p1 ++ ({ d with kind:=x.kind,pub:=x.pub,doubt:=x.doubt } : Dec) :: p2 = DS:=⟨_,rfl⟩
 simp only [hDS] at C4 FN ⊢
 unfold Dec.v at C4
 clear hDS hcb hen hxr hbbx hdl gdB hx ebx
 clear h hv he ho hs hd hid hm hb mc hm0 hgd hpos hhas hW hW1 hdr heo hor hvO dr hq hP hg3 hun hbb eb hK
 go_enter Tryz.func106,Tryz.ntmps106
 go_upto_region 1 with fail
 rw [HW.out]
 obtain ⟨c0,c1,c2,c3,c4⟩:=CB.out _ (Qc _)
 go_upto_region 2 with fail
 rw [HW1.out]
 clear d0 d1 d2 d3 d4 d5 d6 d7 d8 d9 d10 c0 c1 c2 c3 c4
 have GWW:=Qo0 (show Gr W W1 by rw [← HW1.out];exact Qa _ _)
 have SS:=Qo0 (fun V' (g : Gr W1 V') => And.intro (HD.out _ g).2.2.2.1 (OB.out _ g).1)
 go_region_held3 (fun V' => V'.cell? ⟨gg,g3 + 2,none⟩ = some (.slice (some ⟨gd,0,none⟩) un m.dc) ∧ V'.cell? ⟨W.heap.size,0,none⟩ = some (iv o.id))
  (first | with_reducible exact SS.out _ G1.out | with_reducible exact SS.out _ (Qb _) | go_keep)
  (first | (go_at_call 60;(with_reducible refine (C1.out _ (Qb _)).mono ?_);rintro y w1 ⟨rfl,g1⟩;have G1:=Qo0 ((Qb _).trans g1);clear g1))
 have S5:=Qo0 (fun V' (g : Gr W1 V') => And.intro (CB.out _ (GWW.out.trans g)).1 (And.intro (HD.out _ g).2.2.2.1 (And.intro (DB.out _ g) (OB.out _ g))))
 go_upto_region 5 with fail
 go_region_held3 (fun V' => V'.cell? ⟨V.heap.size,0,none⟩ = some (iv 9) ∧ V'.cell? ⟨gg,g3 + 2,none⟩ = some (.slice (some ⟨gd,0,none⟩) un m.dc) ∧ (V'.cell? ⟨gd,q,none⟩ = some (iv d.id) ∧ V'.cell? ⟨gd,q + 1,none⟩ = some (iv d.kind) ∧ V'.cell? ⟨gd,q + 2,none⟩ = some (.bool d.pub) ∧ V'.cell? ⟨gd,q + 3,none⟩ = some (.slice d.nA d.names.length d.nc) ∧ V'.cell? ⟨gd,q + 4,none⟩ = some (.bool d.doubt) ∧ V'.cell? ⟨gd,q + 5,none⟩ = some (iv d.body.kind) ∧ V'.cell? ⟨gd,q + 6,none⟩ = some (tv d.body.name) ∧ V'.cell? ⟨gd,q + 7,none⟩ = some (tv d.body.more) ∧ V'.cell? ⟨gd,q + 8,none⟩ = some (iv d.body.int) ∧ V'.cell? ⟨gd,q + 9,none⟩ = some (iv d.body.den) ∧ V'.cell? ⟨gd,q + 10,none⟩ = some (.slice d.body.A d.body.sub.length d.body.c)) ∧ (V'.cell? ⟨W.heap.size,0,none⟩ = some (iv o.id) ∧ V'.cell? ⟨W.heap.size,1,none⟩ = some (iv o.kind) ∧ V'.cell? ⟨W.heap.size,2,none⟩ = some (.bool o.pub) ∧ V'.cell? ⟨W.heap.size,3,none⟩ = some (.slice o.nA o.names.length o.nc) ∧ V'.cell? ⟨W.heap.size,4,none⟩ = some (.bool o.doubt) ∧ V'.cell? ⟨W.heap.size,5,none⟩ = some (iv o.body.kind) ∧ V'.cell? ⟨W.heap.size,6,none⟩ = some (tv o.body.name) ∧ V'.cell? ⟨W.heap.size,7,none⟩ = some (tv o.body.more) ∧ V'.cell? ⟨W.heap.size,8,none⟩ = some (iv o.body.int) ∧ V'.cell? ⟨W.heap.size,9,none⟩ = some (iv o.body.den) ∧ V'.cell? ⟨W.heap.size,10,none⟩ = some (.slice o.body.A o.body.sub.length o.body.c)))
  (first | with_reducible exact S5.out _ G3.out | with_reducible exact S5.out _ G2.out | with_reducible exact S5.out _ (G1.out.trans (Qb _)) | go_keep)
  (first
    | (go_at_call 51;(with_reducible refine (C2.out _ (G1.out.trans (Qb _))).mono ?_);rintro y w2 ⟨rfl,g2⟩;have G2:=Qo0 ((G1.out.trans (Qb _)).trans g2);clear g2)
    | (go_at_call 52;(with_reducible refine (C3.out _ G2.out).mono ?_);rintro y w3 ⟨rfl,g3'⟩;have G3:=Qo0 (G2.out.trans g3');clear g3'))
 obtain ⟨e0,e1,-⟩:=S5.out _ G3.out
 have SX:=Qo0 (fun V' (g : Gr W1 V') => show V'.cell? ⟨cb,0,none⟩ = some (.func (.func 65) #[] #[]) ∧ V'.cell? ⟨gg,g3 + 2,none⟩ = some (.slice (some ⟨gd,0,none⟩) un m.dc) ∧ V'.cell? ⟨V.heap.size,4,none⟩ = some (.slice (some bx) 1 e.nc) ∧ (V'.cell? bx = some (iv x.id) ∧ V'.cell? ⟨bx.block,bx.off + 1,none⟩ = some (iv x.kind) ∧ V'.cell? ⟨bx.block,bx.off + 2,none⟩ = some (.bool x.pub) ∧ V'.cell? ⟨bx.block,bx.off + 3,none⟩ = some (.slice x.nA x.names.length x.nc) ∧ V'.cell? ⟨bx.block,bx.off + 4,none⟩ = some (.bool x.doubt) ∧ V'.cell? ⟨bx.block,bx.off + 5,none⟩ = some (iv x.body.kind) ∧ V'.cell? ⟨bx.block,bx.off + 6,none⟩ = some (tv x.body.name) ∧ V'.cell? ⟨bx.block,bx.off + 7,none⟩ = some (tv x.body.more) ∧ V'.cell? ⟨bx.block,bx.off + 8,none⟩ = some (iv x.body.int) ∧ V'.cell? ⟨bx.block,bx.off + 9,none⟩ = some (iv x.body.den) ∧ V'.cell? ⟨bx.block,bx.off + 10,none⟩ = some (.slice x.body.A x.body.sub.length x.body.c)) from ⟨CP.out _ g,(HD.out _ g).2.2.2.1,(CB.out _ (GWW.out.trans g)).2.2.2.2,XB.out _ g⟩)
 have SY:=Qo0 (fun V' V'' (g : Gr W1 V') (g' : V'.grownBy V'' (some gd)) => show V''.cell? ⟨cb,0,none⟩ = some (.func (.func 65) #[] #[]) ∧ V''.cell? ⟨gg,g3 + 2,none⟩ = some (.slice (some ⟨gd,0,none⟩) un m.dc) ∧ V''.cell? ⟨V.heap.size,4,none⟩ = some (.slice (some bx) 1 e.nc) ∧ (V''.cell? bx = some (iv x.id) ∧ V''.cell? ⟨bx.block,bx.off + 1,none⟩ = some (iv x.kind) ∧ V''.cell? ⟨bx.block,bx.off + 2,none⟩ = some (.bool x.pub) ∧ V''.cell? ⟨bx.block,bx.off + 3,none⟩ = some (.slice x.nA x.names.length x.nc) ∧ V''.cell? ⟨bx.block,bx.off + 4,none⟩ = some (.bool x.doubt) ∧ V''.cell? ⟨bx.block,bx.off + 5,none⟩ = some (iv x.body.kind) ∧ V''.cell? ⟨bx.block,bx.off + 6,none⟩ = some (tv x.body.name) ∧ V''.cell? ⟨bx.block,bx.off + 7,none⟩ = some (tv x.body.more) ∧ V''.cell? ⟨bx.block,bx.off + 8,none⟩ = some (iv x.body.int) ∧ V''.cell? ⟨bx.block,bx.off + 9,none⟩ = some (iv x.body.den) ∧ V''.cell? ⟨bx.block,bx.off + 10,none⟩ = some (.slice x.body.A x.body.sub.length x.body.c)) from by
  obtain ⟨n1,n2,n3,n4⟩:=NEB.out
  obtain ⟨t1,t2,t3,t4,t5,t6,t7,t8,t9,t10,t11,t12,t13,t14⟩:=SX.out _ g
  have k1 : ∀ (a : Addr) (u : Value),a.block ≠ gd → V'.cell? a = some u → V''.cell? a = some u:=fun a u hne hc => g'.cell hc (by simp only [ne_eq,Option.some.injEq];exact hne)
  exact ⟨k1 _ _ n1 t1,k1 _ _ n2 t2,k1 _ _ n3 t3,k1 _ _ n4 t4,k1 _ _ n4 t5,k1 _ _ n4 t6,k1 _ _ n4 t7,k1 _ _ n4 t8,k1 _ _ n4 t9,k1 _ _ n4 t10,k1 _ _ n4 t11,k1 _ _ n4 t12,k1 _ _ n4 t13,k1 _ _ n4 t14⟩)
 go_upto_region 10 with fail
 go_region_held3 (fun V' => V'.cell? ⟨cb,0,none⟩ = some (.func (.func 65) #[] #[]) ∧ V'.cell? ⟨gg,g3 + 2,none⟩ = some (.slice (some ⟨gd,0,none⟩) un m.dc) ∧ V'.cell? ⟨V.heap.size,4,none⟩ = some (.slice (some bx) 1 e.nc) ∧ (V'.cell? bx = some (iv x.id) ∧ V'.cell? ⟨bx.block,bx.off + 1,none⟩ = some (iv x.kind) ∧ V'.cell? ⟨bx.block,bx.off + 2,none⟩ = some (.bool x.pub) ∧ V'.cell? ⟨bx.block,bx.off + 3,none⟩ = some (.slice x.nA x.names.length x.nc) ∧ V'.cell? ⟨bx.block,bx.off + 4,none⟩ = some (.bool x.doubt) ∧ V'.cell? ⟨bx.block,bx.off + 5,none⟩ = some (iv x.body.kind) ∧ V'.cell? ⟨bx.block,bx.off + 6,none⟩ = some (tv x.body.name) ∧ V'.cell? ⟨bx.block,bx.off + 7,none⟩ = some (tv x.body.more) ∧ V'.cell? ⟨bx.block,bx.off + 8,none⟩ = some (iv x.body.int) ∧ V'.cell? ⟨bx.block,bx.off + 9,none⟩ = some (iv x.body.den) ∧ V'.cell? ⟨bx.block,bx.off + 10,none⟩ = some (.slice x.body.A x.body.sub.length x.body.c)))
  (first | with_reducible exact SY.out _ _ (G3.out.trans (Qb _)) G6.out | with_reducible exact SX.out _ (G3.out.trans (Qb _)) | go_keep)
  (first | (go_at_call 65;(with_reducible refine (C4.out _ (G3.out.trans (Qb _))).mono ?_);rintro y w6 ⟨⟨r,rfl⟩,o6,g6⟩;have G6:=Qo0 g6;have AS6:=Qo0 (FN.out _ w6 (GW.out.trans (G3.out.trans (Qb _))) o6 g6);clear o6 g6))
 go_wp2
 go_ret
 obtain ⟨⟨m',e1,e2⟩,e3⟩:=AS6.out
 exact ⟨rfl,m',e1,e2,e3⟩
end Go.Proofs.YtiaenhlflgobfaaGreatDoor
namespace Go.Proofs.YtiaenhlflgobfaaGreatDoor
open Go.RowKit Go.Maps
abbrev iOk (k : Int) : Prop:=(Lit.int .i64 k).wf = true
theorem ktI : KT (κ:=Int) 3 iv iOk where
 K:=int_keyed Tryz.underlying3
 lit k hk:=by
  refine ⟨.int .i64 k,?_⟩
  unfold keyOf
  rw [Tryz.underlying3]
  simp [mapKey,Tryz.underlying3,hk]
 inj a b h:=by simpa using h
set_option maxRecDepth 100000 in
theorem Qi8 (w : World) : Calls Tryz.prog 62 #[Value.nilFunc] w fun e w' => e = .returned (.func (.func 106) #[] #[.pointer (some ⟨w.heap.size,0,none⟩)]) ∧ w' = w.alloc (.cells #[Value.nilFunc] 125):=by
 have hmf : ∀ (fn : Fn) (first cap : Array Value) (w : World),(Instr.makeFunc fn first cap).run Tryz.prog w = .ok (.func fn first cap) w:=fun _ _ _ _ => rfl
 go_enter Tryz.func62,Tryz.ntmps62
 go_wp2
 go_ret
 exact ⟨rfl,rfl⟩
set_option maxRecDepth 100000 in
theorem Qhx (w : World) : Calls Tryz.prog 62 #[(.func (.func 63) #[] #[])] w fun e w' => e = .returned (.func (.func 106) #[] #[.pointer (some ⟨w.heap.size,0,none⟩)]) ∧ w' = w.alloc (.cells #[(.func (.func 63) #[] #[])] 125):=by
 have hmf : ∀ (fn : Fn) (first cap : Array Value) (w : World),(Instr.makeFunc fn first cap).run Tryz.prog w = .ok (.func fn first cap) w:=fun _ _ _ _ => rfl
 go_enter Tryz.func62,Tryz.ntmps62
 go_wp2
 go_ret
 exact ⟨rfl,rfl⟩
set_option maxRecDepth 100000 in
theorem Qhw (w : World) : Calls Tryz.prog 62 #[(.func (.func 64) #[] #[])] w fun e w' => e = .returned (.func (.func 106) #[] #[.pointer (some ⟨w.heap.size,0,none⟩)]) ∧ w' = w.alloc (.cells #[(.func (.func 64) #[] #[])] 125):=by
 have hmf : ∀ (fn : Fn) (first cap : Array Value) (w : World),(Instr.makeFunc fn first cap).run Tryz.prog w = .ok (.func fn first cap) w:=fun _ _ _ _ => rfl
 go_enter Tryz.func62,Tryz.ntmps62
 go_wp2
 go_ret
 exact ⟨rfl,rfl⟩
set_option maxRecDepth 100000 in
theorem Qhv (w : World) : Calls Tryz.prog 62 #[(.func (.func 65) #[] #[])] w fun e w' => e = .returned (.func (.func 106) #[] #[.pointer (some ⟨w.heap.size,0,none⟩)]) ∧ w' = w.alloc (.cells #[(.func (.func 65) #[] #[])] 125):=by
 have hmf : ∀ (fn : Fn) (first cap : Array Value) (w : World),(Instr.makeFunc fn first cap).run Tryz.prog w = .ok (.func fn first cap) w:=fun _ _ _ _ => rfl
 go_enter Tryz.func62,Tryz.ntmps62
 go_wp2
 go_ret
 exact ⟨rfl,rfl⟩
def efL (b6 b7 b8 b9 : Nat) : MK Int:=[(3,.func (.func 54) #[] #[]),(4,.func (.func 57) #[] #[]),(5,.func (.func 59) #[] #[]),(6,.func (.func 106) #[] #[.pointer (some ⟨b6,0,none⟩)]),(7,.func (.func 106) #[] #[.pointer (some ⟨b7,0,none⟩)]),(8,.func (.func 106) #[] #[.pointer (some ⟨b8,0,none⟩)]),(9,.func (.func 106) #[] #[.pointer (some ⟨b9,0,none⟩)])]
structure EM (V : World) (mb b6 b7 b8 b9 : Nat) : Prop where
 m : MP iv V mb (efL b6 b7 b8 b9)
 b7 : V.heap[b7]? = some (.cells #[.func (.func 63) #[] #[]] 125 (0,0))
 b8 : V.heap[b8]? = some (.cells #[.func (.func 64) #[] #[]] 125 (0,0))
 b9 : V.heap[b9]? = some (.cells #[.func (.func 65) #[] #[]] 125 (0,0))
theorem Qbw (b6 b7 b8 b9 : Nat) : LK iOk (efL b6 b7 b8 b9):=by
 refine ⟨fun p hp => ?_,by simp [efL]⟩
 simp only [efL,List.mem_cons,List.not_mem_nil,or_false] at hp
 rcases hp with rfl | rfl | rfl | rfl | rfl | rfl | rfl <;> rfl
theorem EM.gr {V V' : World} {mb b6 b7 b8 b9 : Nat} (h : EM V mb b6 b7 b8 b9) (g : Gr V V') : EM V' mb b6 b7 b8 b9 :=
 ⟨h.m.keep (g.block _ (MP.lt h.m) (by simp)),Qe g h.b7,Qe g h.b8,Qe g h.b9⟩
theorem EM.fr {V V' : World} {B mb b6 b7 b8 b9 : Nat} (h : EM V mb b6 b7 b8 b9) (g : Fr B V V') : EM V' mb b6 b7 b8 b9 :=
 ⟨g.oth _ _ h.m (fun c => ⟨by simp,by simp,by simp⟩),g.oth _ _ h.b7 (fun c => ⟨by simp,by simp,by simp⟩),g.oth _ _ h.b8 (fun c => ⟨by simp,by simp,by simp⟩),g.oth _ _ h.b9 (fun c => ⟨by simp,by simp,by simp⟩)⟩
set_option maxRecDepth 100000 in
set_option maxHeartbeats 4000000 in
attribute [local irreducible] Calls in
theorem Qhm (w : World) : Calls Tryz.prog 28 #[] w fun e w' => ∃ mb b6 b7 b8 b9,e = .returned (.map (some mb)) ∧ EM w' mb b6 b7 b8 b9 ∧ Gr w w':=by
 have m2 : MP iv (w.alloc (.map #[] 0)) w.heap.size []:=MP.made iv w
 have k2 : LK iOk ([] : MK Int):=LK.nil
 obtain ⟨Y3,hY3⟩ : ∃ Y,Zp iv (w.alloc (.map #[] 0)) w.heap.size ([(3,.func (.func 54) #[] #[])]) = Y:=⟨_,rfl⟩
 have u3 : (Instr.mapUpdate 79 (.map (some w.heap.size)) (.int .i64 3) (.func (.func 54) #[] #[])).run Tryz.prog (w.alloc (.map #[] 0)) = .ok () Y3:=by
  have h:=Q4 ktI m2 k2 Tryz.underlying79 (k:=3) (by decide) (by rfl) (.func (.func 54) #[] #[])
  rw [← hY3]
  exact h
 have m3 : MP iv Y3 w.heap.size ([(3,.func (.func 54) #[] #[])]):=by rw [← hY3];exact MP.set m2
 have k3 : LK iOk ([(3,.func (.func 54) #[] #[])]):=LK.snoc k2 (by decide) (by rfl) _
 have g3 : (w.alloc (.map #[] 0)).grownBy Y3 (some w.heap.size):=by rw [← hY3];exact Zu _ _ _
 obtain ⟨Y4,hY4⟩ : ∃ Y,Zp iv Y3 w.heap.size ([(3,.func (.func 54) #[] #[]),(4,.func (.func 57) #[] #[])]) = Y:=⟨_,rfl⟩
 have u4 : (Instr.mapUpdate 79 (.map (some w.heap.size)) (.int .i64 4) (.func (.func 57) #[] #[])).run Tryz.prog Y3 = .ok () Y4:=by
  have h:=Q4 ktI m3 k3 Tryz.underlying79 (k:=4) (by decide) (by rfl) (.func (.func 57) #[] #[])
  rw [← hY4]
  exact h
 have m4 : MP iv Y4 w.heap.size ([(3,.func (.func 54) #[] #[]),(4,.func (.func 57) #[] #[])]):=by rw [← hY4];exact MP.set m3
 have k4 : LK iOk ([(3,.func (.func 54) #[] #[]),(4,.func (.func 57) #[] #[])]):=LK.snoc k3 (by decide) (by rfl) _
 have g4 : Y3.grownBy Y4 (some w.heap.size):=by rw [← hY4];exact Zu _ _ _
 obtain ⟨Y5,hY5⟩ : ∃ Y,Zp iv Y4 w.heap.size ([(3,.func (.func 54) #[] #[]),(4,.func (.func 57) #[] #[]),(5,.func (.func 59) #[] #[])]) = Y:=⟨_,rfl⟩
 have u5 : (Instr.mapUpdate 79 (.map (some w.heap.size)) (.int .i64 5) (.func (.func 59) #[] #[])).run Tryz.prog Y4 = .ok () Y5:=by
  have h:=Q4 ktI m4 k4 Tryz.underlying79 (k:=5) (by decide) (by rfl) (.func (.func 59) #[] #[])
  rw [← hY5]
  exact h
 have m5 : MP iv Y5 w.heap.size ([(3,.func (.func 54) #[] #[]),(4,.func (.func 57) #[] #[]),(5,.func (.func 59) #[] #[])]):=by rw [← hY5];exact MP.set m4
 have k5 : LK iOk ([(3,.func (.func 54) #[] #[]),(4,.func (.func 57) #[] #[]),(5,.func (.func 59) #[] #[])]):=LK.snoc k4 (by decide) (by rfl) _
 have g5 : Y4.grownBy Y5 (some w.heap.size):=by rw [← hY5];exact Zu _ _ _
 have ma6 : MP iv (Y5.alloc (.cells #[Value.nilFunc] 125)) w.heap.size ([(3,.func (.func 54) #[] #[]),(4,.func (.func 57) #[] #[]),(5,.func (.func 59) #[] #[])]):=m5.keep (World.grownBy.block (Qa Y5 (.cells #[Value.nilFunc] 125)) _ (MP.lt m5) (by simp))
 obtain ⟨Y6,hY6⟩ : ∃ Y,Zp iv (Y5.alloc (.cells #[Value.nilFunc] 125)) w.heap.size ([(3,.func (.func 54) #[] #[]),(4,.func (.func 57) #[] #[]),(5,.func (.func 59) #[] #[]),(6,.func (.func 106) #[] #[.pointer (some ⟨Y5.heap.size,0,none⟩)])]) = Y:=⟨_,rfl⟩
 have u6 : (Instr.mapUpdate 79 (.map (some w.heap.size)) (.int .i64 6) (.func (.func 106) #[] #[.pointer (some ⟨Y5.heap.size,0,none⟩)])).run Tryz.prog (Y5.alloc (.cells #[Value.nilFunc] 125)) = .ok () Y6:=by
  have h:=Q4 ktI ma6 k5 Tryz.underlying79 (k:=6) (by decide) (by rfl) (.func (.func 106) #[] #[.pointer (some ⟨Y5.heap.size,0,none⟩)])
  rw [← hY6]
  exact h
 have m6 : MP iv Y6 w.heap.size ([(3,.func (.func 54) #[] #[]),(4,.func (.func 57) #[] #[]),(5,.func (.func 59) #[] #[]),(6,.func (.func 106) #[] #[.pointer (some ⟨Y5.heap.size,0,none⟩)])]):=by rw [← hY6];exact MP.set ma6
 have k6 : LK iOk ([(3,.func (.func 54) #[] #[]),(4,.func (.func 57) #[] #[]),(5,.func (.func 59) #[] #[]),(6,.func (.func 106) #[] #[.pointer (some ⟨Y5.heap.size,0,none⟩)])]):=LK.snoc k5 (by decide) (by rfl) _
 have g6 : (Y5.alloc (.cells #[Value.nilFunc] 125)).grownBy Y6 (some w.heap.size):=by rw [← hY6];exact Zu _ _ _
 have ma7 : MP iv (Y6.alloc (.cells #[.func (.func 63) #[] #[]] 125)) w.heap.size ([(3,.func (.func 54) #[] #[]),(4,.func (.func 57) #[] #[]),(5,.func (.func 59) #[] #[]),(6,.func (.func 106) #[] #[.pointer (some ⟨Y5.heap.size,0,none⟩)])]):=m6.keep (World.grownBy.block (Qa Y6 (.cells #[.func (.func 63) #[] #[]] 125)) _ (MP.lt m6) (by simp))
 obtain ⟨Y7,hY7⟩ : ∃ Y,Zp iv (Y6.alloc (.cells #[.func (.func 63) #[] #[]] 125)) w.heap.size ([(3,.func (.func 54) #[] #[]),(4,.func (.func 57) #[] #[]),(5,.func (.func 59) #[] #[]),(6,.func (.func 106) #[] #[.pointer (some ⟨Y5.heap.size,0,none⟩)]),(7,.func (.func 106) #[] #[.pointer (some ⟨Y6.heap.size,0,none⟩)])]) = Y:=⟨_,rfl⟩
 have u7 : (Instr.mapUpdate 79 (.map (some w.heap.size)) (.int .i64 7) (.func (.func 106) #[] #[.pointer (some ⟨Y6.heap.size,0,none⟩)])).run Tryz.prog (Y6.alloc (.cells #[.func (.func 63) #[] #[]] 125)) = .ok () Y7:=by
  have h:=Q4 ktI ma7 k6 Tryz.underlying79 (k:=7) (by decide) (by rfl) (.func (.func 106) #[] #[.pointer (some ⟨Y6.heap.size,0,none⟩)])
  rw [← hY7]
  exact h
 have m7 : MP iv Y7 w.heap.size ([(3,.func (.func 54) #[] #[]),(4,.func (.func 57) #[] #[]),(5,.func (.func 59) #[] #[]),(6,.func (.func 106) #[] #[.pointer (some ⟨Y5.heap.size,0,none⟩)]),(7,.func (.func 106) #[] #[.pointer (some ⟨Y6.heap.size,0,none⟩)])]):=by rw [← hY7];exact MP.set ma7
 have k7 : LK iOk ([(3,.func (.func 54) #[] #[]),(4,.func (.func 57) #[] #[]),(5,.func (.func 59) #[] #[]),(6,.func (.func 106) #[] #[.pointer (some ⟨Y5.heap.size,0,none⟩)]),(7,.func (.func 106) #[] #[.pointer (some ⟨Y6.heap.size,0,none⟩)])]):=LK.snoc k6 (by decide) (by rfl) _
 have g7 : (Y6.alloc (.cells #[.func (.func 63) #[] #[]] 125)).grownBy Y7 (some w.heap.size):=by rw [← hY7];exact Zu _ _ _
 have ma8 : MP iv (Y7.alloc (.cells #[.func (.func 64) #[] #[]] 125)) w.heap.size ([(3,.func (.func 54) #[] #[]),(4,.func (.func 57) #[] #[]),(5,.func (.func 59) #[] #[]),(6,.func (.func 106) #[] #[.pointer (some ⟨Y5.heap.size,0,none⟩)]),(7,.func (.func 106) #[] #[.pointer (some ⟨Y6.heap.size,0,none⟩)])]):=m7.keep (World.grownBy.block (Qa Y7 (.cells #[.func (.func 64) #[] #[]] 125)) _ (MP.lt m7) (by simp))
 obtain ⟨Y8,hY8⟩ : ∃ Y,Zp iv (Y7.alloc (.cells #[.func (.func 64) #[] #[]] 125)) w.heap.size ([(3,.func (.func 54) #[] #[]),(4,.func (.func 57) #[] #[]),(5,.func (.func 59) #[] #[]),(6,.func (.func 106) #[] #[.pointer (some ⟨Y5.heap.size,0,none⟩)]),(7,.func (.func 106) #[] #[.pointer (some ⟨Y6.heap.size,0,none⟩)]),(8,.func (.func 106) #[] #[.pointer (some ⟨Y7.heap.size,0,none⟩)])]) = Y:=⟨_,rfl⟩
 have u8 : (Instr.mapUpdate 79 (.map (some w.heap.size)) (.int .i64 8) (.func (.func 106) #[] #[.pointer (some ⟨Y7.heap.size,0,none⟩)])).run Tryz.prog (Y7.alloc (.cells #[.func (.func 64) #[] #[]] 125)) = .ok () Y8:=by
  have h:=Q4 ktI ma8 k7 Tryz.underlying79 (k:=8) (by decide) (by rfl) (.func (.func 106) #[] #[.pointer (some ⟨Y7.heap.size,0,none⟩)])
  rw [← hY8]
  exact h
 have m8 : MP iv Y8 w.heap.size ([(3,.func (.func 54) #[] #[]),(4,.func (.func 57) #[] #[]),(5,.func (.func 59) #[] #[]),(6,.func (.func 106) #[] #[.pointer (some ⟨Y5.heap.size,0,none⟩)]),(7,.func (.func 106) #[] #[.pointer (some ⟨Y6.heap.size,0,none⟩)]),(8,.func (.func 106) #[] #[.pointer (some ⟨Y7.heap.size,0,none⟩)])]):=by rw [← hY8];exact MP.set ma8
 have k8 : LK iOk ([(3,.func (.func 54) #[] #[]),(4,.func (.func 57) #[] #[]),(5,.func (.func 59) #[] #[]),(6,.func (.func 106) #[] #[.pointer (some ⟨Y5.heap.size,0,none⟩)]),(7,.func (.func 106) #[] #[.pointer (some ⟨Y6.heap.size,0,none⟩)]),(8,.func (.func 106) #[] #[.pointer (some ⟨Y7.heap.size,0,none⟩)])]):=LK.snoc k7 (by decide) (by rfl) _
 have g8 : (Y7.alloc (.cells #[.func (.func 64) #[] #[]] 125)).grownBy Y8 (some w.heap.size):=by rw [← hY8];exact Zu _ _ _
 have ma9 : MP iv (Y8.alloc (.cells #[.func (.func 65) #[] #[]] 125)) w.heap.size ([(3,.func (.func 54) #[] #[]),(4,.func (.func 57) #[] #[]),(5,.func (.func 59) #[] #[]),(6,.func (.func 106) #[] #[.pointer (some ⟨Y5.heap.size,0,none⟩)]),(7,.func (.func 106) #[] #[.pointer (some ⟨Y6.heap.size,0,none⟩)]),(8,.func (.func 106) #[] #[.pointer (some ⟨Y7.heap.size,0,none⟩)])]):=m8.keep (World.grownBy.block (Qa Y8 (.cells #[.func (.func 65) #[] #[]] 125)) _ (MP.lt m8) (by simp))
 obtain ⟨Y9,hY9⟩ : ∃ Y,Zp iv (Y8.alloc (.cells #[.func (.func 65) #[] #[]] 125)) w.heap.size ([(3,.func (.func 54) #[] #[]),(4,.func (.func 57) #[] #[]),(5,.func (.func 59) #[] #[]),(6,.func (.func 106) #[] #[.pointer (some ⟨Y5.heap.size,0,none⟩)]),(7,.func (.func 106) #[] #[.pointer (some ⟨Y6.heap.size,0,none⟩)]),(8,.func (.func 106) #[] #[.pointer (some ⟨Y7.heap.size,0,none⟩)]),(9,.func (.func 106) #[] #[.pointer (some ⟨Y8.heap.size,0,none⟩)])]) = Y:=⟨_,rfl⟩
 have u9 : (Instr.mapUpdate 79 (.map (some w.heap.size)) (.int .i64 9) (.func (.func 106) #[] #[.pointer (some ⟨Y8.heap.size,0,none⟩)])).run Tryz.prog (Y8.alloc (.cells #[.func (.func 65) #[] #[]] 125)) = .ok () Y9:=by
  have h:=Q4 ktI ma9 k8 Tryz.underlying79 (k:=9) (by decide) (by rfl) (.func (.func 106) #[] #[.pointer (some ⟨Y8.heap.size,0,none⟩)])
  rw [← hY9]
  exact h
 have m9 : MP iv Y9 w.heap.size ([(3,.func (.func 54) #[] #[]),(4,.func (.func 57) #[] #[]),(5,.func (.func 59) #[] #[]),(6,.func (.func 106) #[] #[.pointer (some ⟨Y5.heap.size,0,none⟩)]),(7,.func (.func 106) #[] #[.pointer (some ⟨Y6.heap.size,0,none⟩)]),(8,.func (.func 106) #[] #[.pointer (some ⟨Y7.heap.size,0,none⟩)]),(9,.func (.func 106) #[] #[.pointer (some ⟨Y8.heap.size,0,none⟩)])]):=by rw [← hY9];exact MP.set ma9
 have k9 : LK iOk ([(3,.func (.func 54) #[] #[]),(4,.func (.func 57) #[] #[]),(5,.func (.func 59) #[] #[]),(6,.func (.func 106) #[] #[.pointer (some ⟨Y5.heap.size,0,none⟩)]),(7,.func (.func 106) #[] #[.pointer (some ⟨Y6.heap.size,0,none⟩)]),(8,.func (.func 106) #[] #[.pointer (some ⟨Y7.heap.size,0,none⟩)]),(9,.func (.func 106) #[] #[.pointer (some ⟨Y8.heap.size,0,none⟩)])]):=LK.snoc k8 (by decide) (by rfl) _
 have g9 : (Y8.alloc (.cells #[.func (.func 65) #[] #[]] 125)).grownBy Y9 (some w.heap.size):=by rw [← hY9];exact Zu _ _ _
 have ga : ∀ (o : Obj) (Y Z : World),w.grownBy Y (some w.heap.size) → (Y.alloc o).grownBy Z (some w.heap.size) → w.grownBy Z (some w.heap.size):=fun o Y Z h1 h2 => (h1.trans (World.grownBy.but (Qa _ _) _)).trans h2
 have t3 : w.grownBy Y3 (some w.heap.size):=(World.grownBy.but (Qa w (.map #[] 0)) _).trans g3
 have t4:=t3.trans g4
 have t5:=t4.trans g5
 have t6:=ga _ _ _ t5 g6
 have t7:=ga _ _ _ t6 g7
 have t8:=ga _ _ _ t7 g8
 have t9:=ga _ _ _ t8 g9
 have bx : ∀ (o : Obj) (Y Z Z' : World),w.grownBy Y (some w.heap.size) → w.heap.size < Y.heap.size → (Y.alloc o).grownBy Z (some w.heap.size) → Z.grownBy Z' (some w.heap.size) → Z'.heap[Y.heap.size]? = some o:=fun o Y Z Z' _ h2 h3 h4 => by
  refine (h4.block _ (Qn ((h3.block _ (by simp) (by simp only [ne_eq,Option.some.injEq];omega)).trans (Qd _ _))) (by simp only [ne_eq,Option.some.injEq];omega)).trans ?_
  exact (h3.block _ (by simp) (by simp only [ne_eq,Option.some.injEq];omega)).trans (Qd _ _)
 have s5:=MP.lt m5
 have s6:=MP.lt m6
 have s7:=MP.lt m7
 have s8:=MP.lt m8
 have al : ∀ (o : Obj) (Y : World),Y.grownBy (Y.alloc o) (some w.heap.size):=fun o Y => World.grownBy.but (Qa _ _) _
 have e67:=((al (.cells #[.func (.func 63) #[] #[]] 125) Y6).trans g7)
 have e78:=((al (.cells #[.func (.func 64) #[] #[]] 125) Y7).trans g8)
 have e89:=((al (.cells #[.func (.func 65) #[] #[]] 125) Y8).trans g9)
 have b7:=bx _ Y6 Y7 Y9 t6 s6 g7 (e78.trans e89)
 have b8:=bx _ Y7 Y8 Y9 t7 s7 g8 e89
 have b9:=bx _ Y8 Y9 Y9 t8 s8 g9 (World.grownBy.refl _ _)
 have FIN:=Qo0 (show EM Y9 w.heap.size Y5.heap.size Y6.heap.size Y7.heap.size Y8.heap.size ∧ Gr w Y9 from ⟨⟨m9,b7,b8,b9⟩,⟨t9.os,t9.tape,t9.output,t9.size,fun k hk _ => t9.block k hk (by simp only [ne_eq,Option.some.injEq];omega)⟩⟩)
 have hmm:=@run_makeMap Tryz.prog
 clear ga t3 t4 t5 t6 t7 t8 t9 bx s5 s6 s7 s8 al e67 e78 e89 b7 b8 b9 m2 k2 m3 m4 m5 m6 m7 m8 m9 k3 k4 k5 k6 k7 k8 k9 g3 g4 g5 g6 g7 g8 g9 hY3 hY4 hY5 hY6 hY7 hY8 hY9 ma6 ma7 ma8 ma9
 go_enter Tryz.func28,Tryz.ntmps28
 go_wp2_with (go_at_call 62;first | ((with_reducible refine (Qi8 _).mono ?_);rintro e w6 ⟨rfl,rfl⟩) | ((with_reducible refine (Qhx _).mono ?_);rintro e w6 ⟨rfl,rfl⟩) | ((with_reducible refine (Qhw _).mono ?_);rintro e w6 ⟨rfl,rfl⟩) | ((with_reducible refine (Qhv _).mono ?_);rintro e w6 ⟨rfl,rfl⟩))
 go_ret
 exact ⟨_,_,_,_,_,rfl,FIN.out⟩
end Go.Proofs.YtiaenhlflgobfaaGreatDoor

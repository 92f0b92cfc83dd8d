/- Walks and words: Apo, Apw, Apx, Apy, Apz, Apl. -/
import Derived.Test.YtiaenhlflgobfaaGreatDoorTb35
namespace Go.Proofs.YtiaenhlflgobfaaGreatDoor
open Go.RowKit
section
variable {α β κ : Type} [LT κ] [DecidableRel (fun a b : κ => a < b)] {f : α → β} {key : α → κ} {key' : β → κ}
theorem Qb5 (h : ∀ x,key' (f x) = key x) (l : List α) (p : κ) : pos key' (l.map f) p = pos key l p:=by
 unfold pos
 rw [List.countP_map]
 congr 1
 funext x
 simp [h]
theorem Qhc [DecidableEq κ] (h : ∀ x,key' (f x) = key x) (l : List α) (p : κ) : Zd key' (l.map f) p = Zd key l p:=by
 unfold Zd
 rw [Qb5 h,List.getElem?_map]
 cases l[pos key l p]? <;> simp [h]
theorem Qg9 (h : ∀ x,key' (f x) = key x) (l : List α) (x : α) : Zt key' (l.map f) (f x) = (Zt key l x).map f:=by
 unfold Zt
 rw [h,Qb5 h,List.map_append,List.map_cons,List.map_take,List.map_drop]
theorem Qog (h : ∀ x,key' (f x) = key x) (l : List α) (p : κ) : Yo key' (l.map f) p = (Yo key l p).map f:=by
 unfold Yo
 rw [Qb5 h,List.map_append,List.map_take,List.map_drop]
end
section
variable {α β κ : Type} [LT κ] {f : α → β} {key : α → κ} {key' : β → κ}
theorem Qhz (h : ∀ x,key' (f x) = key x) (l : List α) : Asc key' (l.map f) ↔ Asc key l:=by
 unfold Asc
 rw [List.pairwise_map]
 simp only [h]
end
theorem Qdy (d : Dec) : PD.id d.er = d.id:=rfl
theorem Qba (m : Mod) : PM.label m.er = m.label:=rfl
def SmM (m : PM) : Prop:=∀ d ∈ m.decls,(d.body.pre 1).length ≤ 400
def SmL (l : List PM) : Prop:=∀ m ∈ l,SmM m
theorem Qg2 {α κ : Type} [LT κ] [DecidableRel (fun a b : κ => a < b)] {key : α → κ} {l : List α} {x y : α} (h : y ∈ Zt key l x) : y = x ∨ y ∈ l:=by
 unfold Zt at h
 rcases List.mem_append.1 h with h | h
 ·exact .inr (List.mem_of_mem_take h)
 ·rcases List.mem_cons.1 h with h | h
  ·exact .inl h
  ·exact .inr (List.mem_of_mem_drop h)
theorem Qg3 {α κ : Type} [LT κ] [DecidableRel (fun a b : κ => a < b)] {key : α → κ} {l : List α} {p : κ} {y : α} (h : y ∈ Yo key l p) : y ∈ l:=by
 unfold Yo at h
 rcases List.mem_append.1 h with h | h
 ·exact List.mem_of_mem_take h
 ·exact List.mem_of_mem_drop h
theorem Qgd {m r : PM} {e : PT} (hm : SmM m) (he : ∀ d ∈ e.old ++ e.new,(d.body.pre 1).length ≤ 400) (h : Qz m e = some r) : SmM r:=by
 unfold Qz at h
 split at h
 ·split at h
  ·cases h
  ·cases h;exact hm
 split at h
 ·split at h
  ·cases h;exact hm
  ·cases h
 split at h
 ·split at h
  ·rename_i n ns hn
   split at h
   ·cases h
   ·cases h
    intro d hd
    rcases Qg2 hd with rfl | hd
    ·exact he _ (by rw [hn];simp)
    ·exact hm d hd
  ·cases h
 split at h
 ·split at h
  ·rename_i o os ho d hd
   split at h
   ·split at h
    ·split at h
     ·cases h
      intro x hx
      exact hm x (Qg3 hx)
     ·split at h
      ·rename_i n ns hn
       cases h
       intro x hx
       rcases List.mem_or_eq_of_mem_set hx with hx | hx
       ·exact hm x hx
       ·rw [hx]
        unfold upd
        split
        ·exact hm d (List.mem_of_getElem? hd)
        split
        ·exact he n (by rw [hn];simp)
        ·exact hm d (List.mem_of_getElem? hd)
      ·cases h
    ·cases h
   ·cases h
  ·cases h
 ·cases h
theorem Qgf {l r : List PM} {e : PT} (hl : SmL l) (he : ∀ d ∈ e.old ++ e.new,(d.body.pre 1).length ≤ 400) (h : Zn l e = some r) : SmL r:=by
 unfold Zn at h
 split at h
 ·split at h
  ·cases h
  ·cases h
   intro m hm
   rcases Qg2 hm with rfl | hm
   ·intro d hd;simp at hd
   ·exact hl m hm
 split at h
 ·rename_i m hm
  split at h
  ·split at h
   ·split at h
    ·cases h
     intro x hx
     exact hl x (Qg3 hx)
    ·cases h
   ·cases hq : Qz m e with
    | none => rw [hq] at h;cases h
    | some m' =>
      rw [hq] at h
      cases h
      intro x hx
      rcases List.mem_or_eq_of_mem_set hx with hx | hx
      ·exact hl x hx
      ·rw [hx];exact Qgd (hl m (List.mem_of_getElem? hm)) he hq
  ·cases h
 ·cases h
theorem Qge {m : Mod} {e : Edt} {o : Dec} {r : PM} (h6 : 6 ≤ e.kind) (ho : e.old = [o]) (h : Qz m.er e.er = some r) :
 ∃ p1 d p2,m.decls = p1 ++ d :: p2 ∧ d.id = o.id ∧ (d.ment e.kind).er = o.er ∧ ((e.kind = 6 ∧ r = { m.er with decls:=(p1 ++ p2).map Dec.er }) ∨ (e.kind ≠ 6 ∧ ∃ x xs,e.new = x :: xs ∧ r = { m.er with decls:=p1.map Dec.er ++ upd e.kind d.er x.er :: p2.map Dec.er })):=by
 have hek : e.er.kind = e.kind:=rfl
 unfold Qz at h
 rw [hek,if_neg (by omega),if_neg (by omega),if_neg (by omega)] at h
 have heo : e.er.old = [o.er]:=by simp [Edt.er,ho]
 rw [heo] at h
 simp only at h
 have hp : pos PD.id m.er.decls o.er.id = pos Dec.id m.decls o.id:=Qb5 Qdy m.decls o.id
 rw [hp] at h
 split at h
 ·rename_i d0 hd0
  have hd1 : (m.decls.map Dec.er)[pos Dec.id m.decls o.id]? = some d0:=hd0
  rw [List.getElem?_map] at hd1
  obtain ⟨d,hd2,rfl⟩:=Option.map_eq_some_iff.1 hd1
  obtain ⟨hlt,hd3⟩:=List.getElem?_eq_some_iff.1 hd2
  have hsp : m.decls = m.decls.take (pos Dec.id m.decls o.id) ++ d :: m.decls.drop (pos Dec.id m.decls o.id + 1):=by
   rw [← hd3,List.getElem_cons_drop,List.take_append_drop]
  split at h
  ·rename_i hid
   split at h
   ·rename_i hme
    refine ⟨_,d,_,hsp,hid,(Yh e.kind d).trans hme,?_⟩
    split at h
    ·rename_i h66
     cases h
     refine .inl ⟨h66,?_⟩
     have : Yo PD.id m.er.decls o.er.id = (m.decls.take (pos Dec.id m.decls o.id) ++ m.decls.drop (pos Dec.id m.decls o.id + 1)).map Dec.er:=by
      rw [show Yo PD.id m.er.decls o.er.id = (Yo Dec.id m.decls o.id).map Dec.er from Qog Qdy m.decls o.id]
      rfl
     rw [this]
    ·rename_i h66
     split at h
     ·rename_i n ns hn
      cases h
      refine .inr ⟨h66,?_⟩
      have hn2 : e.new.map Dec.er = n :: ns:=hn
      cases hen : e.new with
      | nil => rw [hen] at hn2;cases hn2
      | cons x xs =>
        rw [hen,List.map_cons] at hn2
        obtain ⟨rfl,rfl⟩:=List.cons.inj hn2
        refine ⟨x,xs,rfl,?_⟩
        have hset : m.er.decls.set (pos Dec.id m.decls o.id) (upd e.kind d.er x.er) = (m.decls.take (pos Dec.id m.decls o.id)).map Dec.er ++ upd e.kind d.er x.er :: (m.decls.drop (pos Dec.id m.decls o.id + 1)).map Dec.er:=by
         show (m.decls.map Dec.er).set _ _ = _
         rw [List.set_eq_take_append_cons_drop,if_pos (by simpa using hlt),List.map_take,List.map_drop]
        rw [hset]
     ·cases h
   ·cases h
  ·cases h
 ·cases h
theorem AS.ins {w : World} {B M : Nat} {V V2 : World} {v v' : Value} {L : List Mod} {x : Mod} (h : AS w B M V v L) {i : Nat} {V1 : World} (g1 : Gr V V1) (hx : x.uA = none ∧ x.uc = 0 ∧ x.uses = [] ∧ x.dA = none ∧ x.dc = 0 ∧ x.decls = []) (hxl : sOk x.label) (o' : OR 39 3 Mod.cs V2 B v' (L.take i ++ x :: L.drop i)) (g2 : V1.grownBy V2 v.ownBlock) : AS w B (M + 1) V2 v' (L.take i ++ x :: L.drop i) ∧ Fr B V V2:=by
 obtain ⟨x1,x2,x3,x4,x5,x6⟩:=hx
 have ov1:=h.o.gr g1
 have mem : ∀ y ∈ L.take i ++ x :: L.drop i,y = x ∨ y ∈ L:=by
  intro y hy
  rcases List.mem_append.1 hy with hy | hy
  ·exact .inr (List.mem_of_mem_take hy)
  ·rcases List.mem_cons.1 hy with hy | hy
   ·exact .inl hy
   ·exact .inr (List.mem_of_mem_drop hy)
 have pw : ∀ (R : Mod → Mod → Prop),L.Pairwise R → (∀ y,R y x) → (∀ y,R x y) → (L.take i ++ x :: L.drop i).Pairwise R:=by
  intro R hR h1 h2
  have hR2:=hR
  rw [← List.take_append_drop i L] at hR2
  obtain ⟨p1,p2,p3⟩:=List.pairwise_append.1 hR2
  refine List.pairwise_append.2 ⟨p1,List.pairwise_cons.2 ⟨fun y _ => h2 y,p2⟩,fun y hy z hz => ?_⟩
  rcases List.mem_cons.1 hz with rfl | hz
  ·exact h1 y
  ·exact p3 y hy z hz
 refine ⟨⟨OR.grow (h.g.trans g1) ov1 h.wb g2,h.wb,Nat.le_trans h.bv (Nat.le_trans g1.size g2.size),o',?_,?_,?_,?_,?_,?_⟩,(Fr.of_gr g1).trans (Fr.row ov1 (by decide) g2)⟩
 ·intro y hy
  rcases mem y hy with rfl | hy
  ·rw [x1,x2,x3];exact OR.nil
  ·exact ((h.u y hy).gr g1).apart ov1 (by decide) g2
 ·intro y hy
  rcases mem y hy with rfl | hy
  ·rw [x4,x5,x6];exact OR.nil
  ·exact ((h.d y hy).gr g1).apart ov1 (by decide) g2
 ·exact pw _ h.un (fun y a ha hb => by rw [x1] at hb;cases hb) (fun y a ha => by rw [x1] at ha;cases ha)
 ·exact pw _ h.dn (fun y a ha hb => by rw [x4] at hb;cases hb) (fun y a ha => by rw [x4] at ha;cases ha)
 ·intro y hy
  rcases mem y hy with rfl | hy
  ·exact ⟨hxl,by rw [x3];simp,by rw [x6];simp,by rw [x3];simp,by rw [x6];simp⟩
  ·exact (h.c y hy).up
 ·have:=h.n
  simp
  omega
theorem AS.del {w : World} {B M : Nat} {V V2 : World} {v v' : Value} {L : List Mod} (h : AS w B M V v L) {i : Nat} {V1 : World} (g1 : Gr V V1) (o' : OR 39 3 Mod.cs V2 B v' (L.eraseIdx i)) (g2 : V1.grownBy V2 v.ownBlock) : AS w B (M + 1) V2 v' (L.eraseIdx i) ∧ Fr B V V2:=by
 have ov1:=h.o.gr g1
 have sub:=List.eraseIdx_sublist L i
 refine ⟨⟨OR.grow (h.g.trans g1) ov1 h.wb g2,h.wb,Nat.le_trans h.bv (Nat.le_trans g1.size g2.size),o',?_,?_,h.un.sublist sub,h.dn.sublist sub,fun y hy => (h.c y (sub.mem hy)).up,?_⟩,(Fr.of_gr g1).trans (Fr.row ov1 (by decide) g2)⟩
 ·intro y hy
  exact ((h.u y (sub.mem hy)).gr g1).apart ov1 (by decide) g2
 ·intro y hy
  exact ((h.d y (sub.mem hy)).gr g1).apart ov1 (by decide) g2
 ·have:=h.n
  have:=sub.length_le
  omega
end Go.Proofs.YtiaenhlflgobfaaGreatDoor
namespace Go.Proofs.YtiaenhlflgobfaaGreatDoor
open Go.RowKit Go.Maps
set_option maxRecDepth 100000 in
set_option maxHeartbeats 4000000 in
attribute [local irreducible] Calls in
theorem Qji (w : World) (B M : Nat) (V : World) (v : Value) (pre post : List Mod) (m : Mod) (e : Edt) (mb b6 b7 b8 b9 : Nat) (h : AS w B M V v (pre ++ m :: post)) (hM : M ≤ 90000) (hK : e.kind = 3) (ha : Asc Mod.label (pre ++ m :: post)) (hl : m.label = e.pack) (hm : EM V mb b6 b7 b8 b9) (Q : World → Prop)
 (hC : ∀ V' gg nn cap,Gr V V' → v = .slice (some ⟨gg,0,none⟩) nn cap → Calls Tryz.prog 54 #[.pointer (some ⟨gg,pre.length * 3,none⟩),e.v] V' fun y V'' => y = .returned (iv 0) ∧ Q V'' ∧ Fr B V' V'') :
 Calls Tryz.prog 30 #[v,e.v,.map (some mb)] V fun y V' => y = .returned (.tuple #[v,iv 0]) ∧ Q V' ∧ Fr B V V':=by
 obtain ⟨gg,nn,cap,rfl⟩ : ∃ gg nn cap,v = .slice (some ⟨gg,0,none⟩) nn cap:=by
  rcases h.o.2 with ⟨-,h1⟩ | ⟨g',cap',cur,e4,-⟩
  ·simp at h1
  ·exact ⟨_,_,_,e4⟩
 obtain ⟨A0,c0',e0,hr0,hlc,hcm,-,-⟩:=h.o.form2 Mod.cs_len
 obtain ⟨rfl,rfl,rfl⟩:=Value.slice.inj e0
 clear e0
 have hn9 : (pre ++ m :: post).length ≤ 100000:=by have:=h.n;omega
 obtain ⟨W,hW⟩ : ∃ W,V.alloc (.cells #[iv e.kind,tv e.pack,tv e.text,.slice e.oA e.old.length e.oc,.slice e.nA e.new.length e.nc] 32) = W:=⟨_,rfl⟩
 have GW:=Qo0 (show Gr V W by rw [← hW];exact Qa _ _)
 have CB:=Qo0 (fun V' (g : Gr W V') => Qt (V:=V') (b:=V.heap.size) (e:=e) (Qe g (by rw [← hW];exact Qd _ _)))
 have BX:=Qo0 (fun V' V'' (g : Gr W V') (r : Fr B V' V'') => Qt (V:=V'') (b:=V.heap.size) (e:=e) (r.oth _ _ (Qe g (by rw [← hW];exact Qd _ _)) (fun c => ⟨by simp,by simp,by simp⟩)))
 have C1:=Qo0 (fun V' (g : Gr W V') => Q8 (some ⟨gg,0,none⟩) cap (pre ++ m :: post) e.pack V' (hr0.gr (GW.out.trans g)) (by omega) ha)
 rw [← hl,Q5 ha,Zi ha,hl] at C1
 have C2:=Qo0 (fun V' (g : Gr W V') => hC V' gg _ cap (GW.out.trans g) rfl)
 have LK:=Qo0 (fun V' (g : Gr W V') => show (Instr.lookup 79 (.map (some mb)) (.int .i64 3) false).run Tryz.prog V' = .ok (.func (.func 54) #[] #[]) V' from
  (Q7 ktI (hm.gr (GW.out.trans g)).m (Qbw b6 b7 b8 b9) Tryz.underlying79 (z:=Value.nilFunc) (by kernel_rfl) (k:=3) (by decide)).1)
 obtain ⟨un,hun⟩ : ∃ un,(pre ++ m :: post).length = un:=⟨_,rfl⟩
 have hPu : pre.length < un:=by rw [← hun];simp
 obtain ⟨q,hq⟩ : ∃ q,pre.length * 3 = q:=⟨_,rfl⟩
 obtain ⟨P,hP⟩ : ∃ P,pre.length = P:=⟨_,rfl⟩
 have hPq : P * 3 = q:=by rw [← hP];exact hq
 simp only [hq] at C2
 simp only [hP,hun] at C1
 rw [hP] at hPu
 rw [hun] at hlc hn9 ⊢
 unfold Edt.v at C2 ⊢
 rw [hK] at CB BX C2 hW ⊢
 have HW:=Qo0 hW
 clear h hW hr0 ha hl hm hC hK hP hun hq
 go_enter Tryz.func30,Tryz.ntmps30
 go_upto_region 1 with fail
 rw [HW.out]
 obtain ⟨c0,c1,c2,c3,c4⟩:=CB.out _ (Qc _)
 go_upto_region 12 with (go_at_call 68;(with_reducible refine (C1.out _ (Qc _)).mono ?_);rintro y w1 ⟨rfl,g1⟩;have G1:=Qo0 g1;obtain ⟨f0,f1,f2,f3,f4⟩:=CB.out _ g1;clear g1 c0 c1 c2 c3 c4)
 have lk:=LK.out _ (G1.out.trans (Qb _))
 clear f0 f1 f2 f3 f4
 go_region_held3 (fun V' => V'.cell? ⟨V.heap.size,0,none⟩ = some (iv 3) ∧ V'.cell? ⟨V.heap.size,1,none⟩ = some (tv e.pack) ∧ V'.cell? ⟨V.heap.size,2,none⟩ = some (tv e.text) ∧ V'.cell? ⟨V.heap.size,3,none⟩ = some (.slice e.oA e.old.length e.oc) ∧ V'.cell? ⟨V.heap.size,4,none⟩ = some (.slice e.nA e.new.length e.nc))
  (first | with_reducible exact CB.out _ (G1.out.trans (Qb _)) | with_reducible exact K6.out | go_keep)
  (first | (go_at_call 54;(with_reducible refine (C2.out _ (G1.out.trans (Qb _))).mono ?_);rintro y w6 ⟨rfl,q6,r6⟩;have Q6:=Qo0 q6;have K6:=Qo0 (BX.out _ w6 (G1.out.trans (Qb _)) r6);have R6:=Qo0 ((Fr.of_gr (GW.out.trans (G1.out.trans (Qb _)))).trans r6);clear q6 r6))
 go_wp2
 go_ret2
 exact ⟨rfl,Q6.out,R6.out⟩
set_option maxRecDepth 100000 in
set_option maxHeartbeats 4000000 in
attribute [local irreducible] Calls in
theorem Qjh (w : World) (B M : Nat) (V : World) (v : Value) (pre post : List Mod) (m : Mod) (e : Edt) (mb b6 b7 b8 b9 : Nat) (h : AS w B M V v (pre ++ m :: post)) (hM : M ≤ 90000) (hK : e.kind = 4) (ha : Asc Mod.label (pre ++ m :: post)) (hl : m.label = e.pack) (hm : EM V mb b6 b7 b8 b9) (Q : World → Prop)
 (hC : ∀ V' gg nn cap,Gr V V' → v = .slice (some ⟨gg,0,none⟩) nn cap → Calls Tryz.prog 57 #[.pointer (some ⟨gg,pre.length * 3,none⟩),e.v] V' fun y V'' => y = .returned (iv 0) ∧ Q V'' ∧ Fr B V' V'') :
 Calls Tryz.prog 30 #[v,e.v,.map (some mb)] V fun y V' => y = .returned (.tuple #[v,iv 0]) ∧ Q V' ∧ Fr B V V':=by
 obtain ⟨gg,nn,cap,rfl⟩ : ∃ gg nn cap,v = .slice (some ⟨gg,0,none⟩) nn cap:=by
  rcases h.o.2 with ⟨-,h1⟩ | ⟨g',cap',cur,e4,-⟩
  ·simp at h1
  ·exact ⟨_,_,_,e4⟩
 obtain ⟨A0,c0',e0,hr0,hlc,hcm,-,-⟩:=h.o.form2 Mod.cs_len
 obtain ⟨rfl,rfl,rfl⟩:=Value.slice.inj e0
 clear e0
 have hn9 : (pre ++ m :: post).length ≤ 100000:=by have:=h.n;omega
 obtain ⟨W,hW⟩ : ∃ W,V.alloc (.cells #[iv e.kind,tv e.pack,tv e.text,.slice e.oA e.old.length e.oc,.slice e.nA e.new.length e.nc] 32) = W:=⟨_,rfl⟩
 have GW:=Qo0 (show Gr V W by rw [← hW];exact Qa _ _)
 have CB:=Qo0 (fun V' (g : Gr W V') => Qt (V:=V') (b:=V.heap.size) (e:=e) (Qe g (by rw [← hW];exact Qd _ _)))
 have BX:=Qo0 (fun V' V'' (g : Gr W V') (r : Fr B V' V'') => Qt (V:=V'') (b:=V.heap.size) (e:=e) (r.oth _ _ (Qe g (by rw [← hW];exact Qd _ _)) (fun c => ⟨by simp,by simp,by simp⟩)))
 have C1:=Qo0 (fun V' (g : Gr W V') => Q8 (some ⟨gg,0,none⟩) cap (pre ++ m :: post) e.pack V' (hr0.gr (GW.out.trans g)) (by omega) ha)
 rw [← hl,Q5 ha,Zi ha,hl] at C1
 have C2:=Qo0 (fun V' (g : Gr W V') => hC V' gg _ cap (GW.out.trans g) rfl)
 have LK:=Qo0 (fun V' (g : Gr W V') => show (Instr.lookup 79 (.map (some mb)) (.int .i64 4) false).run Tryz.prog V' = .ok (.func (.func 57) #[] #[]) V' from
  (Q7 ktI (hm.gr (GW.out.trans g)).m (Qbw b6 b7 b8 b9) Tryz.underlying79 (z:=Value.nilFunc) (by kernel_rfl) (k:=4) (by decide)).1)
 obtain ⟨un,hun⟩ : ∃ un,(pre ++ m :: post).length = un:=⟨_,rfl⟩
 have hPu : pre.length < un:=by rw [← hun];simp
 obtain ⟨q,hq⟩ : ∃ q,pre.length * 3 = q:=⟨_,rfl⟩
 obtain ⟨P,hP⟩ : ∃ P,pre.length = P:=⟨_,rfl⟩
 have hPq : P * 3 = q:=by rw [← hP];exact hq
 simp only [hq] at C2
 simp only [hP,hun] at C1
 rw [hP] at hPu
 rw [hun] at hlc hn9 ⊢
 unfold Edt.v at C2 ⊢
 rw [hK] at CB BX C2 hW ⊢
 have HW:=Qo0 hW
 clear h hW hr0 ha hl hm hC hK hP hun hq
 go_enter Tryz.func30,Tryz.ntmps30
 go_upto_region 1 with fail
 rw [HW.out]
 obtain ⟨c0,c1,c2,c3,c4⟩:=CB.out _ (Qc _)
 go_upto_region 12 with (go_at_call 68;(with_reducible refine (C1.out _ (Qc _)).mono ?_);rintro y w1 ⟨rfl,g1⟩;have G1:=Qo0 g1;obtain ⟨f0,f1,f2,f3,f4⟩:=CB.out _ g1;clear g1 c0 c1 c2 c3 c4)
 have lk:=LK.out _ (G1.out.trans (Qb _))
 clear f0 f1 f2 f3 f4
 go_region_held3 (fun V' => V'.cell? ⟨V.heap.size,0,none⟩ = some (iv 4) ∧ V'.cell? ⟨V.heap.size,1,none⟩ = some (tv e.pack) ∧ V'.cell? ⟨V.heap.size,2,none⟩ = some (tv e.text) ∧ V'.cell? ⟨V.heap.size,3,none⟩ = some (.slice e.oA e.old.length e.oc) ∧ V'.cell? ⟨V.heap.size,4,none⟩ = some (.slice e.nA e.new.length e.nc))
  (first | with_reducible exact CB.out _ (G1.out.trans (Qb _)) | with_reducible exact K6.out | go_keep)
  (first | (go_at_call 57;(with_reducible refine (C2.out _ (G1.out.trans (Qb _))).mono ?_);rintro y w6 ⟨rfl,q6,r6⟩;have Q6:=Qo0 q6;have K6:=Qo0 (BX.out _ w6 (G1.out.trans (Qb _)) r6);have R6:=Qo0 ((Fr.of_gr (GW.out.trans (G1.out.trans (Qb _)))).trans r6);clear q6 r6))
 go_wp2
 go_ret2
 exact ⟨rfl,Q6.out,R6.out⟩
set_option maxRecDepth 100000 in
set_option maxHeartbeats 4000000 in
attribute [local irreducible] Calls in
theorem Qjg (w : World) (B M : Nat) (V : World) (v : Value) (pre post : List Mod) (m : Mod) (e : Edt) (mb b6 b7 b8 b9 : Nat) (h : AS w B M V v (pre ++ m :: post)) (hM : M ≤ 90000) (hK : e.kind = 5) (ha : Asc Mod.label (pre ++ m :: post)) (hl : m.label = e.pack) (hm : EM V mb b6 b7 b8 b9) (Q : World → Prop)
 (hC : ∀ V' gg nn cap,Gr V V' → v = .slice (some ⟨gg,0,none⟩) nn cap → Calls Tryz.prog 59 #[.pointer (some ⟨gg,pre.length * 3,none⟩),e.v] V' fun y V'' => y = .returned (iv 0) ∧ Q V'' ∧ Fr B V' V'') :
 Calls Tryz.prog 30 #[v,e.v,.map (some mb)] V fun y V' => y = .returned (.tuple #[v,iv 0]) ∧ Q V' ∧ Fr B V V':=by
 obtain ⟨gg,nn,cap,rfl⟩ : ∃ gg nn cap,v = .slice (some ⟨gg,0,none⟩) nn cap:=by
  rcases h.o.2 with ⟨-,h1⟩ | ⟨g',cap',cur,e4,-⟩
  ·simp at h1
  ·exact ⟨_,_,_,e4⟩
 obtain ⟨A0,c0',e0,hr0,hlc,hcm,-,-⟩:=h.o.form2 Mod.cs_len
 obtain ⟨rfl,rfl,rfl⟩:=Value.slice.inj e0
 clear e0
 have hn9 : (pre ++ m :: post).length ≤ 100000:=by have:=h.n;omega
 obtain ⟨W,hW⟩ : ∃ W,V.alloc (.cells #[iv e.kind,tv e.pack,tv e.text,.slice e.oA e.old.length e.oc,.slice e.nA e.new.length e.nc] 32) = W:=⟨_,rfl⟩
 have GW:=Qo0 (show Gr V W by rw [← hW];exact Qa _ _)
 have CB:=Qo0 (fun V' (g : Gr W V') => Qt (V:=V') (b:=V.heap.size) (e:=e) (Qe g (by rw [← hW];exact Qd _ _)))
 have BX:=Qo0 (fun V' V'' (g : Gr W V') (r : Fr B V' V'') => Qt (V:=V'') (b:=V.heap.size) (e:=e) (r.oth _ _ (Qe g (by rw [← hW];exact Qd _ _)) (fun c => ⟨by simp,by simp,by simp⟩)))
 have C1:=Qo0 (fun V' (g : Gr W V') => Q8 (some ⟨gg,0,none⟩) cap (pre ++ m :: post) e.pack V' (hr0.gr (GW.out.trans g)) (by omega) ha)
 rw [← hl,Q5 ha,Zi ha,hl] at C1
 have C2:=Qo0 (fun V' (g : Gr W V') => hC V' gg _ cap (GW.out.trans g) rfl)
 have LK:=Qo0 (fun V' (g : Gr W V') => show (Instr.lookup 79 (.map (some mb)) (.int .i64 5) false).run Tryz.prog V' = .ok (.func (.func 59) #[] #[]) V' from
  (Q7 ktI (hm.gr (GW.out.trans g)).m (Qbw b6 b7 b8 b9) Tryz.underlying79 (z:=Value.nilFunc) (by kernel_rfl) (k:=5) (by decide)).1)
 obtain ⟨un,hun⟩ : ∃ un,(pre ++ m :: post).length = un:=⟨_,rfl⟩
 have hPu : pre.length < un:=by rw [← hun];simp
 obtain ⟨q,hq⟩ : ∃ q,pre.length * 3 = q:=⟨_,rfl⟩
 obtain ⟨P,hP⟩ : ∃ P,pre.length = P:=⟨_,rfl⟩
 have hPq : P * 3 = q:=by rw [← hP];exact hq
 simp only [hq] at C2
 simp only [hP,hun] at C1
 rw [hP] at hPu
 rw [hun] at hlc hn9 ⊢
 unfold Edt.v at C2 ⊢
 rw [hK] at CB BX C2 hW ⊢
 have HW:=Qo0 hW
 clear h hW hr0 ha hl hm hC hK hP hun hq
 go_enter Tryz.func30,Tryz.ntmps30
 go_upto_region 1 with fail
 rw [HW.out]
 obtain ⟨c0,c1,c2,c3,c4⟩:=CB.out _ (Qc _)
 go_upto_region 12 with (go_at_call 68;(with_reducible refine (C1.out _ (Qc _)).mono ?_);rintro y w1 ⟨rfl,g1⟩;have G1:=Qo0 g1;obtain ⟨f0,f1,f2,f3,f4⟩:=CB.out _ g1;clear g1 c0 c1 c2 c3 c4)
 have lk:=LK.out _ (G1.out.trans (Qb _))
 clear f0 f1 f2 f3 f4
 go_region_held3 (fun V' => V'.cell? ⟨V.heap.size,0,none⟩ = some (iv 5) ∧ V'.cell? ⟨V.heap.size,1,none⟩ = some (tv e.pack) ∧ V'.cell? ⟨V.heap.size,2,none⟩ = some (tv e.text) ∧ V'.cell? ⟨V.heap.size,3,none⟩ = some (.slice e.oA e.old.length e.oc) ∧ V'.cell? ⟨V.heap.size,4,none⟩ = some (.slice e.nA e.new.length e.nc))
  (first | with_reducible exact CB.out _ (G1.out.trans (Qb _)) | with_reducible exact K6.out | go_keep)
  (first | (go_at_call 59;(with_reducible refine (C2.out _ (G1.out.trans (Qb _))).mono ?_);rintro y w6 ⟨rfl,q6,r6⟩;have Q6:=Qo0 q6;have K6:=Qo0 (BX.out _ w6 (G1.out.trans (Qb _)) r6);have R6:=Qo0 ((Fr.of_gr (GW.out.trans (G1.out.trans (Qb _)))).trans r6);clear q6 r6))
 go_wp2
 go_ret2
 exact ⟨rfl,Q6.out,R6.out⟩
set_option maxRecDepth 100000 in
set_option maxHeartbeats 4000000 in
attribute [local irreducible] Calls in
theorem Qjf (w : World) (B M : Nat) (V : World) (v : Value) (pre post : List Mod) (m : Mod) (e : Edt) (mb b6 b7 b8 b9 : Nat) (h : AS w B M V v (pre ++ m :: post)) (hM : M ≤ 90000) (hK : e.kind = 6) (ha : Asc Mod.label (pre ++ m :: post)) (hl : m.label = e.pack) (hm : EM V mb b6 b7 b8 b9) (Q : World → Prop)
 (hC : ∀ V' gg nn cap,Gr V V' → v = .slice (some ⟨gg,0,none⟩) nn cap → Calls Tryz.prog 106 #[.pointer (some ⟨gg,pre.length * 3,none⟩),e.v,.pointer (some ⟨b6,0,none⟩)] V' fun y V'' => y = .returned (iv 0) ∧ Q V'' ∧ Fr B V' V'') :
 Calls Tryz.prog 30 #[v,e.v,.map (some mb)] V fun y V' => y = .returned (.tuple #[v,iv 0]) ∧ Q V' ∧ Fr B V V':=by
 obtain ⟨gg,nn,cap,rfl⟩ : ∃ gg nn cap,v = .slice (some ⟨gg,0,none⟩) nn cap:=by
  rcases h.o.2 with ⟨-,h1⟩ | ⟨g',cap',cur,e4,-⟩
  ·simp at h1
  ·exact ⟨_,_,_,e4⟩
 obtain ⟨A0,c0',e0,hr0,hlc,hcm,-,-⟩:=h.o.form2 Mod.cs_len
 obtain ⟨rfl,rfl,rfl⟩:=Value.slice.inj e0
 clear e0
 have hn9 : (pre ++ m :: post).length ≤ 100000:=by have:=h.n;omega
 obtain ⟨W,hW⟩ : ∃ W,V.alloc (.cells #[iv e.kind,tv e.pack,tv e.text,.slice e.oA e.old.length e.oc,.slice e.nA e.new.length e.nc] 32) = W:=⟨_,rfl⟩
 have GW:=Qo0 (show Gr V W by rw [← hW];exact Qa _ _)
 have CB:=Qo0 (fun V' (g : Gr W V') => Qt (V:=V') (b:=V.heap.size) (e:=e) (Qe g (by rw [← hW];exact Qd _ _)))
 have BX:=Qo0 (fun V' V'' (g : Gr W V') (r : Fr B V' V'') => Qt (V:=V'') (b:=V.heap.size) (e:=e) (r.oth _ _ (Qe g (by rw [← hW];exact Qd _ _)) (fun c => ⟨by simp,by simp,by simp⟩)))
 have C1:=Qo0 (fun V' (g : Gr W V') => Q8 (some ⟨gg,0,none⟩) cap (pre ++ m :: post) e.pack V' (hr0.gr (GW.out.trans g)) (by omega) ha)
 rw [← hl,Q5 ha,Zi ha,hl] at C1
 have C2:=Qo0 (fun V' (g : Gr W V') => hC V' gg _ cap (GW.out.trans g) rfl)
 have LK:=Qo0 (fun V' (g : Gr W V') => show (Instr.lookup 79 (.map (some mb)) (.int .i64 6) false).run Tryz.prog V' = .ok (.func (.func 106) #[] #[.pointer (some ⟨b6,0,none⟩)]) V' from
  (Q7 ktI (hm.gr (GW.out.trans g)).m (Qbw b6 b7 b8 b9) Tryz.underlying79 (z:=Value.nilFunc) (by kernel_rfl) (k:=6) (by decide)).1)
 obtain ⟨un,hun⟩ : ∃ un,(pre ++ m :: post).length = un:=⟨_,rfl⟩
 have hPu : pre.length < un:=by rw [← hun];simp
 obtain ⟨q,hq⟩ : ∃ q,pre.length * 3 = q:=⟨_,rfl⟩
 obtain ⟨P,hP⟩ : ∃ P,pre.length = P:=⟨_,rfl⟩
 have hPq : P * 3 = q:=by rw [← hP];exact hq
 simp only [hq] at C2
 simp only [hP,hun] at C1
 rw [hP] at hPu
 rw [hun] at hlc hn9 ⊢
 unfold Edt.v at C2 ⊢
 rw [hK] at CB BX C2 hW ⊢
 have HW:=Qo0 hW
 clear h hW hr0 ha hl hm hC hK hP hun hq
 go_enter Tryz.func30,Tryz.ntmps30
 go_upto_region 1 with fail
 rw [HW.out]
 obtain ⟨c0,c1,c2,c3,c4⟩:=CB.out _ (Qc _)
 go_upto_region 12 with (go_at_call 68;(with_reducible refine (C1.out _ (Qc _)).mono ?_);rintro y w1 ⟨rfl,g1⟩;have G1:=Qo0 g1;obtain ⟨f0,f1,f2,f3,f4⟩:=CB.out _ g1;clear g1 c0 c1 c2 c3 c4)
 have lk:=LK.out _ (G1.out.trans (Qb _))
 clear f0 f1 f2 f3 f4
 go_region_held3 (fun V' => V'.cell? ⟨V.heap.size,0,none⟩ = some (iv 6) ∧ V'.cell? ⟨V.heap.size,1,none⟩ = some (tv e.pack) ∧ V'.cell? ⟨V.heap.size,2,none⟩ = some (tv e.text) ∧ V'.cell? ⟨V.heap.size,3,none⟩ = some (.slice e.oA e.old.length e.oc) ∧ V'.cell? ⟨V.heap.size,4,none⟩ = some (.slice e.nA e.new.length e.nc))
  (first | with_reducible exact CB.out _ (G1.out.trans (Qb _)) | with_reducible exact K6.out | go_keep)
  (first | (go_at_call 106;(with_reducible refine (C2.out _ (G1.out.trans (Qb _))).mono ?_);rintro y w6 ⟨rfl,q6,r6⟩;have Q6:=Qo0 q6;have K6:=Qo0 (BX.out _ w6 (G1.out.trans (Qb _)) r6);have R6:=Qo0 ((Fr.of_gr (GW.out.trans (G1.out.trans (Qb _)))).trans r6);clear q6 r6))
 go_wp2
 go_ret2
 exact ⟨rfl,Q6.out,R6.out⟩
set_option maxRecDepth 100000 in
set_option maxHeartbeats 4000000 in
attribute [local irreducible] Calls in
theorem Qje (w : World) (B M : Nat) (V : World) (v : Value) (pre post : List Mod) (m : Mod) (e : Edt) (mb b6 b7 b8 b9 : Nat) (h : AS w B M V v (pre ++ m :: post)) (hM : M ≤ 90000) (hK : e.kind = 7) (ha : Asc Mod.label (pre ++ m :: post)) (hl : m.label = e.pack) (hm : EM V mb b6 b7 b8 b9) (Q : World → Prop)
 (hC : ∀ V' gg nn cap,Gr V V' → v = .slice (some ⟨gg,0,none⟩) nn cap → Calls Tryz.prog 106 #[.pointer (some ⟨gg,pre.length * 3,none⟩),e.v,.pointer (some ⟨b7,0,none⟩)] V' fun y V'' => y = .returned (iv 0) ∧ Q V'' ∧ Fr B V' V'') :
 Calls Tryz.prog 30 #[v,e.v,.map (some mb)] V fun y V' => y = .returned (.tuple #[v,iv 0]) ∧ Q V' ∧ Fr B V V':=by
 obtain ⟨gg,nn,cap,rfl⟩ : ∃ gg nn cap,v = .slice (some ⟨gg,0,none⟩) nn cap:=by
  rcases h.o.2 with ⟨-,h1⟩ | ⟨g',cap',cur,e4,-⟩
  ·simp at h1
  ·exact ⟨_,_,_,e4⟩
 obtain ⟨A0,c0',e0,hr0,hlc,hcm,-,-⟩:=h.o.form2 Mod.cs_len
 obtain ⟨rfl,rfl,rfl⟩:=Value.slice.inj e0
 clear e0
 have hn9 : (pre ++ m :: post).length ≤ 100000:=by have:=h.n;omega
 obtain ⟨W,hW⟩ : ∃ W,V.alloc (.cells #[iv e.kind,tv e.pack,tv e.text,.slice e.oA e.old.length e.oc,.slice e.nA e.new.length e.nc] 32) = W:=⟨_,rfl⟩
 have GW:=Qo0 (show Gr V W by rw [← hW];exact Qa _ _)
 have CB:=Qo0 (fun V' (g : Gr W V') => Qt (V:=V') (b:=V.heap.size) (e:=e) (Qe g (by rw [← hW];exact Qd _ _)))
 have BX:=Qo0 (fun V' V'' (g : Gr W V') (r : Fr B V' V'') => Qt (V:=V'') (b:=V.heap.size) (e:=e) (r.oth _ _ (Qe g (by rw [← hW];exact Qd _ _)) (fun c => ⟨by simp,by simp,by simp⟩)))
 have C1:=Qo0 (fun V' (g : Gr W V') => Q8 (some ⟨gg,0,none⟩) cap (pre ++ m :: post) e.pack V' (hr0.gr (GW.out.trans g)) (by omega) ha)
 rw [← hl,Q5 ha,Zi ha,hl] at C1
 have C2:=Qo0 (fun V' (g : Gr W V') => hC V' gg _ cap (GW.out.trans g) rfl)
 have LK:=Qo0 (fun V' (g : Gr W V') => show (Instr.lookup 79 (.map (some mb)) (.int .i64 7) false).run Tryz.prog V' = .ok (.func (.func 106) #[] #[.pointer (some ⟨b7,0,none⟩)]) V' from
  (Q7 ktI (hm.gr (GW.out.trans g)).m (Qbw b6 b7 b8 b9) Tryz.underlying79 (z:=Value.nilFunc) (by kernel_rfl) (k:=7) (by decide)).1)
 obtain ⟨un,hun⟩ : ∃ un,(pre ++ m :: post).length = un:=⟨_,rfl⟩
 have hPu : pre.length < un:=by rw [← hun];simp
 obtain ⟨q,hq⟩ : ∃ q,pre.length * 3 = q:=⟨_,rfl⟩
 obtain ⟨P,hP⟩ : ∃ P,pre.length = P:=⟨_,rfl⟩
 have hPq : P * 3 = q:=by rw [← hP];exact hq
 simp only [hq] at C2
 simp only [hP,hun] at C1
 rw [hP] at hPu
 rw [hun] at hlc hn9 ⊢
 unfold Edt.v at C2 ⊢
 rw [hK] at CB BX C2 hW ⊢
 have HW:=Qo0 hW
 clear h hW hr0 ha hl hm hC hK hP hun hq
 go_enter Tryz.func30,Tryz.ntmps30
 go_upto_region 1 with fail
 rw [HW.out]
 obtain ⟨c0,c1,c2,c3,c4⟩:=CB.out _ (Qc _)
 go_upto_region 12 with (go_at_call 68;(with_reducible refine (C1.out _ (Qc _)).mono ?_);rintro y w1 ⟨rfl,g1⟩;have G1:=Qo0 g1;obtain ⟨f0,f1,f2,f3,f4⟩:=CB.out _ g1;clear g1 c0 c1 c2 c3 c4)
 have lk:=LK.out _ (G1.out.trans (Qb _))
 clear f0 f1 f2 f3 f4
 go_region_held3 (fun V' => V'.cell? ⟨V.heap.size,0,none⟩ = some (iv 7) ∧ V'.cell? ⟨V.heap.size,1,none⟩ = some (tv e.pack) ∧ V'.cell? ⟨V.heap.size,2,none⟩ = some (tv e.text) ∧ V'.cell? ⟨V.heap.size,3,none⟩ = some (.slice e.oA e.old.length e.oc) ∧ V'.cell? ⟨V.heap.size,4,none⟩ = some (.slice e.nA e.new.length e.nc))
  (first | with_reducible exact CB.out _ (G1.out.trans (Qb _)) | with_reducible exact K6.out | go_keep)
  (first | (go_at_call 106;(with_reducible refine (C2.out _ (G1.out.trans (Qb _))).mono ?_);rintro y w6 ⟨rfl,q6,r6⟩;have Q6:=Qo0 q6;have K6:=Qo0 (BX.out _ w6 (G1.out.trans (Qb _)) r6);have R6:=Qo0 ((Fr.of_gr (GW.out.trans (G1.out.trans (Qb _)))).trans r6);clear q6 r6))
 go_wp2
 go_ret2
 exact ⟨rfl,Q6.out,R6.out⟩
set_option maxRecDepth 100000 in
set_option maxHeartbeats 4000000 in
attribute [local irreducible] Calls in
theorem Qjd (w : World) (B M : Nat) (V : World) (v : Value) (pre post : List Mod) (m : Mod) (e : Edt) (mb b6 b7 b8 b9 : Nat) (h : AS w B M V v (pre ++ m :: post)) (hM : M ≤ 90000) (hK : e.kind = 8) (ha : Asc Mod.label (pre ++ m :: post)) (hl : m.label = e.pack) (hm : EM V mb b6 b7 b8 b9) (Q : World → Prop)
 (hC : ∀ V' gg nn cap,Gr V V' → v = .slice (some ⟨gg,0,none⟩) nn cap → Calls Tryz.prog 106 #[.pointer (some ⟨gg,pre.length * 3,none⟩),e.v,.pointer (some ⟨b8,0,none⟩)] V' fun y V'' => y = .returned (iv 0) ∧ Q V'' ∧ Fr B V' V'') :
 Calls Tryz.prog 30 #[v,e.v,.map (some mb)] V fun y V' => y = .returned (.tuple #[v,iv 0]) ∧ Q V' ∧ Fr B V V':=by
 obtain ⟨gg,nn,cap,rfl⟩ : ∃ gg nn cap,v = .slice (some ⟨gg,0,none⟩) nn cap:=by
  rcases h.o.2 with ⟨-,h1⟩ | ⟨g',cap',cur,e4,-⟩
  ·simp at h1
  ·exact ⟨_,_,_,e4⟩
 obtain ⟨A0,c0',e0,hr0,hlc,hcm,-,-⟩:=h.o.form2 Mod.cs_len
 obtain ⟨rfl,rfl,rfl⟩:=Value.slice.inj e0
 clear e0
 have hn9 : (pre ++ m :: post).length ≤ 100000:=by have:=h.n;omega
 obtain ⟨W,hW⟩ : ∃ W,V.alloc (.cells #[iv e.kind,tv e.pack,tv e.text,.slice e.oA e.old.length e.oc,.slice e.nA e.new.length e.nc] 32) = W:=⟨_,rfl⟩
 have GW:=Qo0 (show Gr V W by rw [← hW];exact Qa _ _)
 have CB:=Qo0 (fun V' (g : Gr W V') => Qt (V:=V') (b:=V.heap.size) (e:=e) (Qe g (by rw [← hW];exact Qd _ _)))
 have BX:=Qo0 (fun V' V'' (g : Gr W V') (r : Fr B V' V'') => Qt (V:=V'') (b:=V.heap.size) (e:=e) (r.oth _ _ (Qe g (by rw [← hW];exact Qd _ _)) (fun c => ⟨by simp,by simp,by simp⟩)))
 have C1:=Qo0 (fun V' (g : Gr W V') => Q8 (some ⟨gg,0,none⟩) cap (pre ++ m :: post) e.pack V' (hr0.gr (GW.out.trans g)) (by omega) ha)
 rw [← hl,Q5 ha,Zi ha,hl] at C1
 have C2:=Qo0 (fun V' (g : Gr W V') => hC V' gg _ cap (GW.out.trans g) rfl)
 have LK:=Qo0 (fun V' (g : Gr W V') => show (Instr.lookup 79 (.map (some mb)) (.int .i64 8) false).run Tryz.prog V' = .ok (.func (.func 106) #[] #[.pointer (some ⟨b8,0,none⟩)]) V' from
  (Q7 ktI (hm.gr (GW.out.trans g)).m (Qbw b6 b7 b8 b9) Tryz.underlying79 (z:=Value.nilFunc) (by kernel_rfl) (k:=8) (by decide)).1)
 obtain ⟨un,hun⟩ : ∃ un,(pre ++ m :: post).length = un:=⟨_,rfl⟩
 have hPu : pre.length < un:=by rw [← hun];simp
 obtain ⟨q,hq⟩ : ∃ q,pre.length * 3 = q:=⟨_,rfl⟩
 obtain ⟨P,hP⟩ : ∃ P,pre.length = P:=⟨_,rfl⟩
 have hPq : P * 3 = q:=by rw [← hP];exact hq
 simp only [hq] at C2
 simp only [hP,hun] at C1
 rw [hP] at hPu
 rw [hun] at hlc hn9 ⊢
 unfold Edt.v at C2 ⊢
 rw [hK] at CB BX C2 hW ⊢
 have HW:=Qo0 hW
 clear h hW hr0 ha hl hm hC hK hP hun hq
 go_enter Tryz.func30,Tryz.ntmps30
 go_upto_region 1 with fail
 rw [HW.out]
 obtain ⟨c0,c1,c2,c3,c4⟩:=CB.out _ (Qc _)
 go_upto_region 12 with (go_at_call 68;(with_reducible refine (C1.out _ (Qc _)).mono ?_);rintro y w1 ⟨rfl,g1⟩;have G1:=Qo0 g1;obtain ⟨f0,f1,f2,f3,f4⟩:=CB.out _ g1;clear g1 c0 c1 c2 c3 c4)
 have lk:=LK.out _ (G1.out.trans (Qb _))
 clear f0 f1 f2 f3 f4
 go_region_held3 (fun V' => V'.cell? ⟨V.heap.size,0,none⟩ = some (iv 8) ∧ V'.cell? ⟨V.heap.size,1,none⟩ = some (tv e.pack) ∧ V'.cell? ⟨V.heap.size,2,none⟩ = some (tv e.text) ∧ V'.cell? ⟨V.heap.size,3,none⟩ = some (.slice e.oA e.old.length e.oc) ∧ V'.cell? ⟨V.heap.size,4,none⟩ = some (.slice e.nA e.new.length e.nc))
  (first | with_reducible exact CB.out _ (G1.out.trans (Qb _)) | with_reducible exact K6.out | go_keep)
  (first | (go_at_call 106;(with_reducible refine (C2.out _ (G1.out.trans (Qb _))).mono ?_);rintro y w6 ⟨rfl,q6,r6⟩;have Q6:=Qo0 q6;have K6:=Qo0 (BX.out _ w6 (G1.out.trans (Qb _)) r6);have R6:=Qo0 ((Fr.of_gr (GW.out.trans (G1.out.trans (Qb _)))).trans r6);clear q6 r6))
 go_wp2
 go_ret2
 exact ⟨rfl,Q6.out,R6.out⟩
set_option maxRecDepth 100000 in
set_option maxHeartbeats 4000000 in
attribute [local irreducible] Calls in
theorem Qjc (w : World) (B M : Nat) (V : World) (v : Value) (pre post : List Mod) (m : Mod) (e : Edt) (mb b6 b7 b8 b9 : Nat) (h : AS w B M V v (pre ++ m :: post)) (hM : M ≤ 90000) (hK : e.kind = 9) (ha : Asc Mod.label (pre ++ m :: post)) (hl : m.label = e.pack) (hm : EM V mb b6 b7 b8 b9) (Q : World → Prop)
 (hC : ∀ V' gg nn cap,Gr V V' → v = .slice (some ⟨gg,0,none⟩) nn cap → Calls Tryz.prog 106 #[.pointer (some ⟨gg,pre.length * 3,none⟩),e.v,.pointer (some ⟨b9,0,none⟩)] V' fun y V'' => y = .returned (iv 0) ∧ Q V'' ∧ Fr B V' V'') :
 Calls Tryz.prog 30 #[v,e.v,.map (some mb)] V fun y V' => y = .returned (.tuple #[v,iv 0]) ∧ Q V' ∧ Fr B V V':=by
 obtain ⟨gg,nn,cap,rfl⟩ : ∃ gg nn cap,v = .slice (some ⟨gg,0,none⟩) nn cap:=by
  rcases h.o.2 with ⟨-,h1⟩ | ⟨g',cap',cur,e4,-⟩
  ·simp at h1
  ·exact ⟨_,_,_,e4⟩
 obtain ⟨A0,c0',e0,hr0,hlc,hcm,-,-⟩:=h.o.form2 Mod.cs_len
 obtain ⟨rfl,rfl,rfl⟩:=Value.slice.inj e0
 clear e0
 have hn9 : (pre ++ m :: post).length ≤ 100000:=by have:=h.n;omega
 obtain ⟨W,hW⟩ : ∃ W,V.alloc (.cells #[iv e.kind,tv e.pack,tv e.text,.slice e.oA e.old.length e.oc,.slice e.nA e.new.length e.nc] 32) = W:=⟨_,rfl⟩
 have GW:=Qo0 (show Gr V W by rw [← hW];exact Qa _ _)
 have CB:=Qo0 (fun V' (g : Gr W V') => Qt (V:=V') (b:=V.heap.size) (e:=e) (Qe g (by rw [← hW];exact Qd _ _)))
 have BX:=Qo0 (fun V' V'' (g : Gr W V') (r : Fr B V' V'') => Qt (V:=V'') (b:=V.heap.size) (e:=e) (r.oth _ _ (Qe g (by rw [← hW];exact Qd _ _)) (fun c => ⟨by simp,by simp,by simp⟩)))
 have C1:=Qo0 (fun V' (g : Gr W V') => Q8 (some ⟨gg,0,none⟩) cap (pre ++ m :: post) e.pack V' (hr0.gr (GW.out.trans g)) (by omega) ha)
 rw [← hl,Q5 ha,Zi ha,hl] at C1
 have C2:=Qo0 (fun V' (g : Gr W V') => hC V' gg _ cap (GW.out.trans g) rfl)
 have LK:=Qo0 (fun V' (g : Gr W V') => show (Instr.lookup 79 (.map (some mb)) (.int .i64 9) false).run Tryz.prog V' = .ok (.func (.func 106) #[] #[.pointer (some ⟨b9,0,none⟩)]) V' from
  (Q7 ktI (hm.gr (GW.out.trans g)).m (Qbw b6 b7 b8 b9) Tryz.underlying79 (z:=Value.nilFunc) (by kernel_rfl) (k:=9) (by decide)).1)
 obtain ⟨un,hun⟩ : ∃ un,(pre ++ m :: post).length = un:=⟨_,rfl⟩
 have hPu : pre.length < un:=by rw [← hun];simp
 obtain ⟨q,hq⟩ : ∃ q,pre.length * 3 = q:=⟨_,rfl⟩
 obtain ⟨P,hP⟩ : ∃ P,pre.length = P:=⟨_,rfl⟩
 have hPq : P * 3 = q:=by rw [← hP];exact hq
 simp only [hq] at C2
 simp only [hP,hun] at C1
 rw [hP] at hPu
 rw [hun] at hlc hn9 ⊢
 unfold Edt.v at C2 ⊢
 rw [hK] at CB BX C2 hW ⊢
 have HW:=Qo0 hW
 clear h hW hr0 ha hl hm hC hK hP hun hq
 go_enter Tryz.func30,Tryz.ntmps30
 go_upto_region 1 with fail
 rw [HW.out]
 obtain ⟨c0,c1,c2,c3,c4⟩:=CB.out _ (Qc _)
 go_upto_region 12 with (go_at_call 68;(with_reducible refine (C1.out _ (Qc _)).mono ?_);rintro y w1 ⟨rfl,g1⟩;have G1:=Qo0 g1;obtain ⟨f0,f1,f2,f3,f4⟩:=CB.out _ g1;clear g1 c0 c1 c2 c3 c4)
 have lk:=LK.out _ (G1.out.trans (Qb _))
 clear f0 f1 f2 f3 f4
 go_region_held3 (fun V' => V'.cell? ⟨V.heap.size,0,none⟩ = some (iv 9) ∧ V'.cell? ⟨V.heap.size,1,none⟩ = some (tv e.pack) ∧ V'.cell? ⟨V.heap.size,2,none⟩ = some (tv e.text) ∧ V'.cell? ⟨V.heap.size,3,none⟩ = some (.slice e.oA e.old.length e.oc) ∧ V'.cell? ⟨V.heap.size,4,none⟩ = some (.slice e.nA e.new.length e.nc))
  (first | with_reducible exact CB.out _ (G1.out.trans (Qb _)) | with_reducible exact K6.out | go_keep)
  (first | (go_at_call 106;(with_reducible refine (C2.out _ (G1.out.trans (Qb _))).mono ?_);rintro y w6 ⟨rfl,q6,r6⟩;have Q6:=Qo0 q6;have K6:=Qo0 (BX.out _ w6 (G1.out.trans (Qb _)) r6);have R6:=Qo0 ((Fr.of_gr (GW.out.trans (G1.out.trans (Qb _)))).trans r6);clear q6 r6))
 go_wp2
 go_ret2
 exact ⟨rfl,Q6.out,R6.out⟩
end Go.Proofs.YtiaenhlflgobfaaGreatDoor
namespace Go.Proofs.YtiaenhlflgobfaaGreatDoor
open Go.RowKit Go.Maps
def Qcn (l : T) : Mod:=⟨l,none,0,[],none,0,[]⟩
set_option maxRecDepth 100000 in
set_option maxHeartbeats 4000000 in
attribute [local irreducible] Calls in
theorem Qjk (w : World) (B M : Nat) (V : World) (v : Value) (L : List Mod) (e : Edt) (mv : Value) (h : AS w B M V v L) (hM : M ≤ 90000) (he : e.Rd w) (hK : e.kind = 1) (ha : Asc Mod.label L) (hn : Zd Mod.label L e.pack = false) :
 Calls Tryz.prog 30 #[v,e.v,mv] V fun y V' => ∃ v',y = .returned (.tuple #[v',iv 0]) ∧ AS w B (M + 1) V' v' (Zt Mod.label L (Qcn e.pack)) ∧ Fr B V V':=by
 obtain ⟨A0,c0',e0,hr0,hlc,hcm,hA0,hA⟩:=h.o.form2 Mod.cs_len
 have hn9 : L.length ≤ 100000:=by have:=h.n;omega
 obtain ⟨W,hW⟩ : ∃ W,V.alloc (.cells #[iv e.kind,tv e.pack,tv e.text,.slice e.oA e.old.length e.oc,.slice e.nA e.new.length e.nc] 32) = W:=⟨_,rfl⟩
 have GW:=Qo0 (show Gr V W by rw [← hW];exact Qa _ _)
 have CB:=Qo0 (fun V' (g : Gr W V') => Qt (V:=V') (b:=V.heap.size) (e:=e) (Qe g (by rw [← hW];exact Qd _ _)))
 have C1:=Qo0 (fun V' (g : Gr W V') => Q8 A0 c0' L e.pack V' (hr0.gr (GW.out.trans g)) (by omega) ha)
 rw [hn] at C1
 have C2:=Qo0 (fun V' (g : Gr W V') (vb : Nat) (hvb : V.heap.size ≤ vb) (hx : V'.heap[vb]? = some (.cells #[tv e.pack,.slice none 0 0,.slice none 0 0] 39 (0,0))) => Qnu B (pos Mod.label L e.pack) vb v L (Qcn e.pack) V' (h.o.gr (GW.out.trans g)) (Nat.le_trans h.bv (GW.out.trans g).size) (Ys _ _) (by omega) hx (fun e1 => by have:=h.o.lt vb e1;omega))
 have FN:=Qo0 (fun V1 V2 (g1 : Gr V V1) (v' : Value) (o' : OR 39 3 Mod.cs V2 B v' (L.take (pos Mod.label L e.pack) ++ Qcn e.pack :: L.drop (pos Mod.label L e.pack))) (g2 : V1.grownBy V2 v.ownBlock) => show AS w B (M + 1) V2 v' (Zt Mod.label L (Qcn e.pack)) ∧ Fr B V V2 from h.ins (x:=Qcn e.pack) g1 ⟨rfl,rfl,rfl,rfl,rfl,rfl⟩ he.p o' g2)
 subst e0
 obtain ⟨P,hP⟩ : ∃ P,pos Mod.label L e.pack = P:=⟨_,rfl⟩
 obtain ⟨un,hun⟩ : ∃ un,L.length = un:=⟨_,rfl⟩
 have hP9 : P ≤ un:=by rw [← hP,← hun];exact Ys _ _
 obtain ⟨v0,hv0⟩ : ∃ v0,Value.slice A0 L.length c0' = v0:=⟨_,rfl⟩
 simp only [hP,hv0] at C1 C2 FN
 rw [hv0]
 unfold Edt.v
 rw [hK] at CB hW ⊢
 have HW:=Qo0 hW
 clear h hW hr0 ha he hn hK hP hun hv0 hA0 hA hlc hcm hn9
 go_enter Tryz.func30,Tryz.ntmps30
 go_upto_region 1 with fail
 rw [HW.out]
 obtain ⟨c0,c1,c2,c3,c4⟩:=CB.out _ (Qc _)
 go_wp2_with (first
  | (go_at_call 68;(with_reducible refine (C1.out _ (Qc _)).mono ?_);rintro y w1 ⟨rfl,g1⟩;have G1:=Qo0 g1;obtain ⟨f0,f1,f2,f3,f4⟩:=CB.out _ g1;clear g1 c0 c1 c2 c3 c4;(try dsimp only))
  | (go_at_call 69
     refine (C2.out _ (G1.out.trans (Qa _ _)) w1.heap.size (Nat.le_trans GW.out.size G1.out.size) (Qd _ _)).mono ?_
     rintro y w6 ⟨v6,rfl,o6,g6,b6⟩
     have AS6:=Qo0 (FN.out _ w6 (GW.out.trans (G1.out.trans (Qa _ _))) v6 o6 g6)
     clear o6 g6 b6))
 go_ret2
 exact ⟨_,rfl,AS6.out⟩
set_option maxRecDepth 100000 in
set_option maxHeartbeats 4000000 in
attribute [local irreducible] Calls in
theorem Qjj (w : World) (B M : Nat) (V : World) (v : Value) (pre post : List Mod) (m : Mod) (e : Edt) (mv : Value) (h : AS w B M V v (pre ++ m :: post)) (hM : M ≤ 90000) (hK : e.kind = 2) (ha : Asc Mod.label (pre ++ m :: post)) (hl : m.label = e.pack) (hu : m.uses = []) (hd : m.decls = []) :
 Calls Tryz.prog 30 #[v,e.v,mv] V fun y V' => ∃ v',y = .returned (.tuple #[v',iv 0]) ∧ AS w B (M + 1) V' v' (pre ++ post) ∧ Fr B V V':=by
 obtain ⟨gg,nn,cap,rfl⟩ : ∃ gg nn cap,v = .slice (some ⟨gg,0,none⟩) nn cap:=by
  rcases h.o.2 with ⟨-,h1⟩ | ⟨g',cap',cur,e4,-⟩
  ·simp at h1
  ·exact ⟨_,_,_,e4⟩
 obtain ⟨A0,c0',e0,hr0,hlc,hcm,-,-⟩:=h.o.form2 Mod.cs_len
 obtain ⟨rfl,rfl,rfl⟩:=Value.slice.inj e0
 clear e0
 have hn9 : (pre ++ m :: post).length ≤ 100000:=by have:=h.n;omega
 obtain ⟨W,hW⟩ : ∃ W,V.alloc (.cells #[iv e.kind,tv e.pack,tv e.text,.slice e.oA e.old.length e.oc,.slice e.nA e.new.length e.nc] 32) = W:=⟨_,rfl⟩
 have GW:=Qo0 (show Gr V W by rw [← hW];exact Qa _ _)
 have CB:=Qo0 (fun V' (g : Gr W V') => Qt (V:=V') (b:=V.heap.size) (e:=e) (Qe g (by rw [← hW];exact Qd _ _)))
 have HD:=Qo0 (fun V' (g : Gr W V') => (h.gr (GW.out.trans g)).hdr rfl)
 have C1:=Qo0 (fun V' (g : Gr W V') => Q8 (some ⟨gg,0,none⟩) cap (pre ++ m :: post) e.pack V' (hr0.gr (GW.out.trans g)) (by omega) ha)
 rw [← hl,Q5 ha,Zi ha,hl] at C1
 have C2:=Qo0 (fun V' (g : Gr W V') => Qof B pre.length ((pre.length : Int) + 1) (.slice (some ⟨gg,0,none⟩) (pre ++ m :: post).length cap) (pre ++ m :: post) V' (h.o.gr (GW.out.trans g)) (by simp) rfl)
 have FN:=Qo0 (fun V1 V2 (g1 : Gr V V1) (v' : Value) (o' : OR 39 3 Mod.cs V2 B v' ((pre ++ m :: post).eraseIdx pre.length)) (g2 : V1.grownBy V2 (Value.slice (some ⟨gg,0,none⟩) (pre ++ m :: post).length cap).ownBlock) => show AS w B (M + 1) V2 v' (pre ++ post) ∧ Fr B V V2 from by
  have e1 : (pre ++ m :: post).eraseIdx pre.length = pre ++ post:=by simp [List.eraseIdx_append_of_length_le]
  have h2:=h.del g1 o' g2
  rw [e1] at h2
  exact h2)
 obtain ⟨LL,hLL⟩ : ∃ LL,(pre ++ m :: post).eraseIdx pre.length = LL:=⟨_,rfl⟩
 obtain ⟨un,hun⟩ : ∃ un,(pre ++ m :: post).length = un:=⟨_,rfl⟩
 have hPu : pre.length < un:=by rw [← hun];simp
 obtain ⟨q,hq⟩ : ∃ q,pre.length * 3 = q:=⟨_,rfl⟩
 obtain ⟨P,hP⟩ : ∃ P,pre.length = P:=⟨_,rfl⟩
 have hPq : P * 3 = q:=by rw [← hP];exact hq
 simp only [hLL] at C2 FN
 simp only [hP,hun] at C1 C2
 simp only [hun] at FN
 simp only [hq,hu,hd,List.length_nil] at HD
 rw [hP] at hPu
 rw [hun] at hlc hn9 ⊢
 unfold Edt.v
 rw [hK] at CB hW ⊢
 have HW:=Qo0 hW
 clear h hW hr0 ha hl hK hP hun hq hLL hu hd
 have wp : IntKind.i64.wrap ((P : Int) + 1) = (P : Int) + 1:=IntWalk.i64_in _ ⟨by omega,by omega⟩
 go_enter Tryz.func30,Tryz.ntmps30
 go_upto_region 1 with fail
 rw [HW.out]
 obtain ⟨c0,c1,c2,c3,c4⟩:=CB.out _ (Qc _)
 go_wp2_with (first
  | (go_at_call 68;(with_reducible refine (C1.out _ (Qc _)).mono ?_);rintro y w1 ⟨rfl,g1⟩;have G1:=Qo0 g1;obtain ⟨f0,f1,f2,f3,f4⟩:=CB.out _ g1;obtain ⟨d0,d1,d2,d3,d4⟩:=HD.out _ g1;clear g1 c0 c1 c2 c3 c4;(try dsimp only))
  | (go_at_call 70
     refine (C2.out _ G1.out).mono ?_
     rintro y w6 ⟨v6,rfl,o6,g6,b6⟩
     have AS6:=Qo0 (FN.out _ w6 (GW.out.trans G1.out) v6 o6 g6)
     clear o6 g6 b6))
 go_ret2
 exact ⟨_,rfl,AS6.out⟩
end Go.Proofs.YtiaenhlflgobfaaGreatDoor
namespace Go.Proofs.YtiaenhlflgobfaaGreatDoor
open Go.RowKit Go.Maps
theorem Qmu {L : List Mod} {p : T} {x : PM} (h : (L.map Mod.er)[pos PM.label (L.map Mod.er) p]? = some x) : ∃ pre m post,L = pre ++ m :: post ∧ m.er = x ∧ pre.length = pos Mod.label L p ∧ pos PM.label (L.map Mod.er) p = pre.length:=by
 have hp : pos PM.label (L.map Mod.er) p = pos Mod.label L p:=Qb5 Qba L p
 rw [hp,List.getElem?_map] at h
 obtain ⟨m,hm,rfl⟩:=Option.map_eq_some_iff.1 h
 obtain ⟨hlt,hmm⟩:=List.getElem?_eq_some_iff.1 hm
 refine ⟨L.take (pos Mod.label L p),m,L.drop (pos Mod.label L p + 1),?_,rfl,by rw [List.length_take];omega,by rw [hp,List.length_take];omega⟩
 rw [← hmm,List.getElem_cons_drop,List.take_append_drop]
theorem Qgc (w : World) (B M : Nat) (V : World) (v : Value) (L : List Mod) (e : Edt) (mb b6 b7 b8 b9 : Nat) (h : AS w B M V v L) (hM : M ≤ 90000) (he : e.Rd w) (hE : oks.Edit e.er) (hSt : St (L.map Mod.er)) (hSm : SmL (L.map Mod.er)) (hm : EM V mb b6 b7 b8 b9) (r : List PM) (hr : Zn (L.map Mod.er) e.er = some r) :
 Calls Tryz.prog 30 #[v,e.v,.map (some mb)] V fun y V' => ∃ v' L',y = .returned (.tuple #[v',iv 0]) ∧ L'.map Mod.er = r ∧ AS w B (M + 1) V' v' L' ∧ Fr B V V':=by
 have ha : Asc Mod.label L:=(Qhz Qba L).1 hSt.asc
 have hek : e.er.kind = e.kind:=rfl
 have h0:=hE.k0
 have h9:=hE.k1
 rw [hek] at h0 h9
 unfold Zn at hr
 rw [hek] at hr
 by_cases h1 : e.kind = 1
 ·rw [if_pos h1] at hr
  have hpk : e.er.pack = e.pack:=rfl
  have hh : Zd PM.label (L.map Mod.er) e.pack = Zd Mod.label L e.pack:=Qhc Qba L e.pack
  rw [hpk,hh] at hr
  cases hq : Zd Mod.label L e.pack with
  | true => rw [hq] at hr;simp at hr
  | false =>
    rw [hq] at hr
    simp only [Bool.false_eq_true,if_false,Option.some.injEq] at hr
    refine (Qjk w B M V v L e (.map (some mb)) h hM he h1 ha hq).mono ?_
    rintro y V' ⟨v',e1,e2,e3⟩
    refine ⟨v',_,e1,?_,e2,e3⟩
    rw [← hr]
    exact (Qg9 Qba L (Qcn e.pack)).symm
 rw [if_neg h1] at hr
 have hpk : e.er.pack = e.pack:=rfl
 rw [hpk] at hr
 split at hr
 ·rename_i x hx
  obtain ⟨pre,m,post,rfl,rfl,hpl,hpp⟩:=Qmu hx
  split at hr
  ·rename_i hlab0
   have hlab : m.label = e.pack:=hlab0
   have hm0 : m ∈ pre ++ m :: post:=by simp
   by_cases h2 : e.kind = 2
   ·rw [if_pos h2] at hr
    split at hr
    ·rename_i hud
     have hu : m.uses = []:=hud.1
     have hd : m.decls = []:=by have h3:=hud.2;unfold Mod.er at h3;simpa using h3
     refine (Qjj w B M V v pre post m e (.map (some mb)) h hM h2 ha hlab hu hd).mono ?_
     rintro y V' ⟨v',e1,e2,e3⟩
     refine ⟨v',_,e1,?_,e2,e3⟩
     cases hr
     unfold Yo
     rw [hpp,List.map_append,List.map_append,List.map_cons]
     simp [List.drop_append]
    ·cases hr
   rw [if_neg h2] at hr
   obtain ⟨m',hq,rfl⟩:=Option.map_eq_some_iff.1 hr
   have fin : ∀ {Pz : World → Prop},Calls Tryz.prog 30 #[v,e.v,.map (some mb)] V (fun y V' => y = .returned (.tuple #[v,iv 0]) ∧ (∃ m'',m''.er = m' ∧ AS w B (M + 1) V' v (pre ++ m'' :: post)) ∧ Fr B V V') → Calls Tryz.prog 30 #[v,e.v,.map (some mb)] V (fun y V' => ∃ v' L',y = .returned (.tuple #[v',iv 0]) ∧ L'.map Mod.er = (List.map Mod.er (pre ++ m :: post)).set (pos PM.label (List.map Mod.er (pre ++ m :: post)) e.pack) m' ∧ AS w B (M + 1) V' v' L' ∧ Fr B V V'):=by
    intro _ hC
    refine hC.mono ?_
    rintro y V' ⟨e1,⟨m'',e2,e3⟩,e4⟩
    refine ⟨v,_,e1,?_,e3,e4⟩
    rw [hpp,List.map_append,List.map_append,List.map_cons,List.map_cons,e2]
    rw [show pre.length = (pre.map Mod.er).length from by simp,set_mid]
   replace fin:=@fin (fun _ => True)
   have hus : Asc id m.uses:=hSt.us m.er (List.mem_map.2 ⟨m,hm0,rfl⟩)
   have hds : Asc Dec.id m.decls:=(Qhz Qdy m.decls).1 (hSt.ds m.er (List.mem_map.2 ⟨m,hm0,rfl⟩))
   have hq0:=hq
   unfold Qz at hq
   rw [hek] at hq
   by_cases h3 : e.kind = 3
   ·rw [if_pos h3] at hq
    cases hh : Zd id m.uses e.text with
    | true => rw [show Zd id m.er.uses e.er.text = true from hh] at hq;simp at hq
    | false =>
      rw [show Zd id m.er.uses e.er.text = false from hh] at hq
      simp only [Bool.false_eq_true,if_false,Option.some.injEq] at hq
      have hC:=Qji w B M V v pre post m e mb b6 b7 b8 b9 h hM h3 ha hlab hm (fun V'' => ∃ m'',m''.er = m' ∧ AS w B (M + 1) V'' v (pre ++ m'' :: post)) (fun V' gg nn cap g hv => by
       refine (eff54 w B M V' v pre post m gg nn cap e (h.gr g) hv (by omega) he hus hh).mono ?_
       rintro y V'' ⟨h1,m'',h2,h3,h4⟩
       exact ⟨h1,⟨m'',h2.trans hq,h3⟩,h4⟩)
      exact fin hC
   rw [if_neg h3] at hq
   by_cases h4 : e.kind = 4
   ·rw [if_pos h4] at hq
    cases hh : Zd id m.uses e.text with
    | false => rw [show Zd id m.er.uses e.er.text = false from hh] at hq;simp at hq
    | true =>
      rw [show Zd id m.er.uses e.er.text = true from hh] at hq
      simp only [if_true,Option.some.injEq] at hq
      have hC:=Qjh w B M V v pre post m e mb b6 b7 b8 b9 h hM h4 ha hlab hm (fun V'' => ∃ m'',m''.er = m' ∧ AS w B (M + 1) V'' v (pre ++ m'' :: post)) (fun V' gg nn cap g hv => by
       refine (eff57 w B M V' v pre post m gg nn cap e (h.gr g) hv (by omega) he hus hh).mono ?_
       rintro y V'' ⟨h1,m'',h2,h3,h4⟩
       exact ⟨h1,⟨m'',h2.trans hq,h3⟩,h4⟩)
      exact fin hC
   rw [if_neg h4] at hq
   obtain ⟨q1,q2,-,-⟩:=Zv hE.fit
   rw [hek] at q1 q2
   by_cases h5 : e.kind = 5
   ·rw [if_pos h5] at hq
    rw [if_pos (Or.inl h5)] at q2
    obtain ⟨x,hx1⟩ : ∃ x,e.new = [x]:=by
     have hl1 : e.new.length = 1:=by simpa [Edt.er] using q2
     exact X2 hl1
    rw [show e.er.new = [x.er] from by simp [Edt.er,hx1]] at hq
    simp only at hq
    have hh0 : Zd PD.id m.er.decls x.er.id = Zd Dec.id m.decls x.id:=Qhc Qdy m.decls x.id
    rw [hh0] at hq
    cases hh : Zd Dec.id m.decls x.id with
    | true => rw [hh] at hq;simp at hq
    | false =>
      rw [hh] at hq
      simp only [Bool.false_eq_true,if_false,Option.some.injEq] at hq
      have hxr : 1 ≤ x.id ∧ x.id ≤ 999999:=by
       have ht:=hE.ts ⟨e.pack,[],[Ql 5 x.er]⟩ (by
        unfold Zh
        rw [hek,if_neg (by omega),if_neg (by omega)]
        refine List.mem_map.2 ⟨x.er,?_,by rw [h5];rfl⟩
        simp [Edt.er,hx1])
       have hd:=ht.decls (Ql 5 x.er) (by simp)
       exact ⟨hd.id0,hd.id1⟩
      have hC:=Qjg w B M V v pre post m e mb b6 b7 b8 b9 h hM h5 ha hlab hm (fun V'' => ∃ m'',m''.er = m' ∧ AS w B (M + 1) V'' v (pre ++ m'' :: post)) (fun V' gg nn cap g hv => by
       refine (eff59 w B M V' v pre post m gg nn cap e x (h.gr g) hv (by omega) he hx1 hxr hds hh).mono ?_
       rintro y V'' ⟨h1,m'',h2,h3,h4⟩
       refine ⟨h1,⟨m'',?_,h3⟩,h4⟩
       rw [h2,← hq]
       have:=Qg9 (f:=Dec.er) (key:=Dec.id) (key':=PD.id) Qdy m.decls x
       rw [← this]
       rfl)
      exact fin hC
   have h6 : 6 ≤ e.kind:=by omega
   rw [if_pos (by omega)] at q1
   obtain ⟨o,ho⟩ : ∃ o,e.old = [o]:=by
    have hl1 : e.old.length = 1:=by simpa [Edt.er] using q1
    exact X2 hl1
   obtain ⟨p1,d,p2,hsp,hid,hme,hR⟩:=Qge h6 ho hq0
   have hbs : (d.body.er.pre 1).length ≤ 400:=hSm m.er (List.mem_map.2 ⟨m,hm0,rfl⟩) d.er (by show d.er ∈ m.decls.map Dec.er;rw [hsp];simp)
   have hc : e.kind = 6 ∨ e.kind = 7 ∨ e.kind = 8 ∨ e.kind = 9:=by omega
   have hnl : e.kind ≠ 6 → e.new.length = 1:=fun h => by
    rw [if_pos (by omega)] at q2
    simpa [Edt.er] using q2
   rcases hc with hk | hk | hk | hk
   ·rcases hR with ⟨-,hrr⟩ | ⟨h66,-⟩
    ·have hC:=Qjf w B M V v pre post m e mb b6 b7 b8 b9 h hM hk ha hlab hm (fun V'' => ∃ m'',m''.er = m' ∧ AS w B (M + 1) V'' v (pre ++ m'' :: post)) (fun V' gg nn cap g hv => by
      refine (Qiv w B M V' v pre post m gg nn cap e b6 6 rfl o d p1 p2 (h.gr g) hv (by omega) he hk ho hds hsp hid (by rw [← hk];exact hme) hbs).mono ?_
      rintro y V'' ⟨h1,m'',h2,h3,h4⟩
      exact ⟨h1,⟨m'',h2.trans hrr.symm,h3⟩,h4⟩)
     exact fin hC
    ·exact absurd hk h66
   ·-- kind 7
    rcases hR with ⟨h6,-⟩ | ⟨-,x,xs,hxn,hrr⟩
    ·omega
    obtain rfl : xs = []:=by have h77:=hnl (by omega);rw [hxn] at h77;simpa using h77
    have hC:=Qje w B M V v pre post m e mb b6 b7 b8 b9 h hM hk ha hlab hm (fun V'' => ∃ m'',m''.er = m' ∧ AS w B (M + 1) V'' v (pre ++ m'' :: post)) (fun V' gg nn cap g hv => by
     refine (Ql9 w B M V' v pre post m gg nn cap e b7 x o d p1 p2 (h.gr g) hv (by omega) he hk ho hds hsp hid (by rw [← hk];exact hme) hbs hxn (hm.gr g).b7).mono ?_
     rintro y V'' ⟨h1,m'',h2,h3,h4⟩
     refine ⟨h1,⟨m'',?_,h3⟩,h4⟩
     rw [h2,hrr,hk,List.map_append,List.map_cons]
     rfl)
    exact fin hC
   ·-- kind 8
    rcases hR with ⟨h6,-⟩ | ⟨-,x,xs,hxn,hrr⟩
    ·omega
    obtain rfl : xs = []:=by have h77:=hnl (by omega);rw [hxn] at h77;simpa using h77
    have hC:=Qjd w B M V v pre post m e mb b6 b7 b8 b9 h hM hk ha hlab hm (fun V'' => ∃ m'',m''.er = m' ∧ AS w B (M + 1) V'' v (pre ++ m'' :: post)) (fun V' gg nn cap g hv => by
     refine (Ql8 w B M V' v pre post m gg nn cap e b8 x o d p1 p2 (h.gr g) hv (by omega) he hk ho hds hsp hid (by rw [← hk];exact hme) hbs hxn (hm.gr g).b8).mono ?_
     rintro y V'' ⟨h1,m'',h2,h3,h4⟩
     refine ⟨h1,⟨m'',?_,h3⟩,h4⟩
     rw [h2,hrr,hk,List.map_append,List.map_cons]
     rfl)
    exact fin hC
   ·-- kind 9
    rcases hR with ⟨h6,-⟩ | ⟨-,x,xs,hxn,hrr⟩
    ·omega
    obtain rfl : xs = []:=by have h77:=hnl (by omega);rw [hxn] at h77;simpa using h77
    have hC:=Qjc w B M V v pre post m e mb b6 b7 b8 b9 h hM hk ha hlab hm (fun V'' => ∃ m'',m''.er = m' ∧ AS w B (M + 1) V'' v (pre ++ m'' :: post)) (fun V' gg nn cap g hv => by
     refine (Ql7 w B M V' v pre post m gg nn cap e b9 x o d p1 p2 (h.gr g) hv (by omega) he hk ho hds hsp hid (by rw [← hk];exact hme) hbs hxn (hm.gr g).b9).mono ?_
     rintro y V'' ⟨h1,m'',h2,h3,h4⟩
     refine ⟨h1,⟨m'',?_,h3⟩,h4⟩
     rw [h2,hrr,hk,List.map_append,List.map_cons]
     rfl)
    exact fin hC
  ·cases hr
 ·cases hr
end Go.Proofs.YtiaenhlflgobfaaGreatDoor
namespace Go.Proofs.YtiaenhlflgobfaaGreatDoor
open Go.RowKit Go.Maps
def Z1 : Mod:=⟨[],none,0,[],none,0,[]⟩
theorem Qll (n : Nat) : (madeCells (Value.cells (.agg #[.string ⟨#[]⟩,.slice none 0 0,.slice none 0 0])) (n * 3)).toList = (List.replicate n Z1).flatMap Mod.cs:=by
 have hl : ((List.replicate n Z1).flatMap Mod.cs).length = n * 3:=by rw [Qk Mod.cs 3 Mod.cs_len,List.length_replicate]
 apply List.ext_getElem?
 intro j
 by_cases hj : j < n * 3
 ·have h3 : j % 3 < 3:=Nat.mod_lt _ (by omega)
  have hd : j / 3 < n:=Nat.div_lt_of_lt_mul (by omega)
  have e2 : j / 3 * 3 + j % 3 = j:=by omega
  have e4:=Qai Mod.cs 3 Mod.cs_len h3 (List.replicate n Z1) (j / 3) (x:=Z1) (by rw [List.getElem?_replicate,if_pos hd])
  rw [e2] at e4
  rw [e4]
  unfold madeCells
  rw [Array.getElem?_toList,Array.getElem?_map,Array.getElem?_range,if_pos hj]
  have h012 : j % 3 = 0 ∨ j % 3 = 1 ∨ j % 3 = 2:=by omega
  have hsz : (Value.cells (.agg #[.string ⟨#[]⟩,.slice none 0 0,.slice none 0 0])).size = 3:=rfl
  simp only [Option.map_some,hsz]
  rcases h012 with h | h | h <;> rw [h] <;> rfl
 ·rw [List.getElem?_eq_none (by rw [Array.length_toList,size_madeCells];omega),List.getElem?_eq_none (by rw [hl];omega)]
theorem AS.fill {w : World} {B M : Nat} {V V2 : World} {v : Value} {pre post : List Mod} {z m' : Mod} {gg nn cap : Nat} (h : AS w B M V v (pre ++ z :: post)) (hv : v = .slice (some ⟨gg,0,none⟩) nn cap) (g : Gr V V2) (ou : OR 9 1 scs V2 V.heap.size (.slice m'.uA m'.uses.length m'.uc) m'.uses) (od : OR 45 11 Dec.cs V2 V.heap.size (.slice m'.dA m'.decls.length m'.dc) m'.decls) (mc : MC w M m') :
 AS w B M (((V2.setCell ⟨gg,pre.length * 3,none⟩ (tv m'.label)).setCell ⟨gg,pre.length * 3 + 1,none⟩ (.slice m'.uA m'.uses.length m'.uc)).setCell ⟨gg,pre.length * 3 + 2,none⟩ (.slice m'.dA m'.decls.length m'.dc)) v (pre ++ m' :: post):=by
 have hz0 : z ∈ pre ++ z :: post:=by simp
 have ov:=h.o.gr g
 subst hv
 have hnn : nn = (pre ++ z :: post).length:=by
  rcases ov.2 with ⟨h1,_⟩ | ⟨g',cap',cur,e1,_⟩
  ·cases h1
  ·exact (Value.slice.inj e1).2.1
 have st : V2.ownsRow B 39 3 (.slice (some ⟨gg,0,none⟩) nn cap) nn ((pre ++ z :: post).flatMap Mod.cs):=by have h1:=ov;unfold OR at h1;rw [← hnn] at h1;exact h1
 have s1:=st.stored (pre.length * 3 + 0) (tv m'.label)
 rw [Qa2 pre post z ({ z with label:=m'.label } : Mod) (tv m'.label) 0 (by decide) rfl,Nat.add_zero] at s1
 have s2:=s1.1.stored (pre.length * 3 + 1) (.slice m'.uA m'.uses.length m'.uc)
 rw [Qa2 pre post ({ z with label:=m'.label } : Mod) ({ z with label:=m'.label,uA:=m'.uA,uc:=m'.uc,uses:=m'.uses } : Mod) (.slice m'.uA m'.uses.length m'.uc) 1 (by decide) rfl] at s2
 have s3:=s2.1.stored (pre.length * 3 + 2) (.slice m'.dA m'.decls.length m'.dc)
 rw [Qa2 pre post ({ z with label:=m'.label,uA:=m'.uA,uc:=m'.uc,uses:=m'.uses } : Mod) m' (.slice m'.dA m'.decls.length m'.dc) 2 (by decide) rfl] at s3
 have gs : V2.grownBy (((V2.setCell ⟨gg,pre.length * 3,none⟩ (tv m'.label)).setCell ⟨gg,pre.length * 3 + 1,none⟩ (.slice m'.uA m'.uses.length m'.uc)).setCell ⟨gg,pre.length * 3 + 2,none⟩ (.slice m'.dA m'.decls.length m'.dc)) (Value.slice (some ⟨gg,0,none⟩) nn cap).ownBlock:=(s1.2.trans s2.2).trans s3.2
 have mem : ∀ x,x ∈ pre ++ m' :: post → x ∈ pre ++ z :: post ∨ x = m':=by
  intro x hx
  rcases List.mem_append.1 hx with hx | hx
  ·exact .inl (by simp [hx])
  ·rcases List.mem_cons.1 hx with hx | hx
   ·exact .inr hx
   ·exact .inl (by simp [hx])
 refine ⟨OR.grow (h.g.trans g) ov h.wb gs,h.wb,Nat.le_trans h.bv (Nat.le_trans g.size gs.size),?_,?_,?_,?_,?_,?_,by have:=h.n;simp at this ⊢;omega⟩
 ·unfold OR
  rw [show (pre ++ m' :: post).length = nn from by rw [hnn];simp]
  exact s3.1
 ·intro x hx
  rcases mem x hx with hx | rfl
  ·exact ((h.u x hx).gr g).apart ov (by decide) gs
  ·exact Xr (ou.apart ov (by decide) gs) h.bv
 ·intro x hx
  rcases mem x hx with hx | rfl
  ·exact ((h.d x hx).gr g).apart ov (by decide) gs
  ·exact Xr (od.apart ov (by decide) gs) h.bv
 ·refine Qfj m' (fun x y hxy a ha hb => hxy a hb ha) h.un (fun x hx _ a ha hb => ?_)
  obtain ⟨A1,c1,e1,-,-,-,-,k1⟩:=(h.u x hx).form2 elS.hn
  obtain ⟨A2,c2,e2,-,-,-,-,k2⟩:=ou.form2 elS.hn
  have q1:=(k1 a (by rw [← (Value.slice.inj e1).1,ha])).2.1
  have q2:=(k2 a (by rw [← (Value.slice.inj e2).1,hb])).1
  omega
 ·refine Qfj m' (fun x y hxy a ha hb => hxy a hb ha) h.dn (fun x hx _ a ha hb => ?_)
  obtain ⟨A1,c1,e1,-,-,-,-,k1⟩:=(h.d x hx).form2 elD.hn
  obtain ⟨A2,c2,e2,-,-,-,-,k2⟩:=od.form2 elD.hn
  have q1:=(k1 a (by rw [← (Value.slice.inj e1).1,ha])).2.1
  have q2:=(k2 a (by rw [← (Value.slice.inj e2).1,hb])).1
  omega
 ·intro x hx
  rcases mem x hx with hx | rfl
  ·exact h.c x hx
  ·exact mc
theorem AS.mrd {w : World} {B M : Nat} {V : World} {A : Option Addr} {c : Nat} {L : List Mod} (h : AS w B M V (.slice A L.length c) L) : MRd V A c L:=by
 have rwf : ∀ {α : Type} {e : TypeId} {n : Nat} {cs : α → List Value} (hn : ∀ x,(cs x).length = n) {A : Option Addr} {c : Nat} {X : List α},OR e n cs V B (.slice A X.length c) X → RW n cs V A c X:=by
  intro α e n cs hn A c X o
  obtain ⟨A',c',e1,hr,hlc,hcm,h0,-⟩:=o.form2 hn
  obtain ⟨rfl,-,rfl⟩:=Value.slice.inj e1
  exact ⟨hlc,hcm,h0,hr⟩
 refine ⟨rwf Mod.cs_len h.o,fun m hm => ?_⟩
 have mc:=h.c m hm
 exact ⟨mc.l,⟨rwf Yy (h.u m hm),mc.us⟩,⟨rwf Dec.cs_len (h.d m hm),fun d hd => (mc.ds d hd).1.gr h.g⟩⟩
end Go.Proofs.YtiaenhlflgobfaaGreatDoor
namespace Go.Proofs.YtiaenhlflgobfaaGreatDoor
open Go.RowKit Go.Maps
theorem Qng {V : World} {b : Nat} {m : Mod} (h : V.heap[b]? = some (.cells #[tv m.label,.slice m.uA m.uses.length m.uc,.slice m.dA m.decls.length m.dc] 39 (0,0))) : V.cell? ⟨b,0,none⟩ = some (tv m.label) ∧ V.cell? ⟨b,1,none⟩ = some (.slice m.uA m.uses.length m.uc) ∧ V.cell? ⟨b,2,none⟩ = some (.slice m.dA m.decls.length m.dc):=by
 refine ⟨?_,?_,?_⟩ <;> (rw [Lib.cell_of_heap h];rfl)
theorem rdT {w : World} {A : Option Addr} {L : List Edt} (h : RD 5 Edt.cs w A L) {k : Nat} {e : Edt} (hx : L[k]? = some e) : ∃ a a1 : Addr,A = some a ∧ a.add (k * 5) = a1 ∧ a1.block < w.heap.size ∧ w.cell? a1 = some (iv e.kind) ∧ w.cell? ⟨a1.block,a1.off + 1,none⟩ = some (tv e.pack) ∧ w.cell? ⟨a1.block,a1.off + 2,none⟩ = some (tv e.text) ∧ w.cell? ⟨a1.block,a1.off + 3,none⟩ = some (.slice e.oA e.old.length e.oc) ∧ w.cell? ⟨a1.block,a1.off + 4,none⟩ = some (.slice e.nA e.new.length e.nc):=by
 obtain ⟨hk,rfl⟩:=List.getElem?_eq_some_iff.1 hx
 obtain ⟨a,e,hb,hc⟩:=h.at hk
 refine ⟨a,_,e,rfl,by rw [add_block];exact hb,by simpa using hc 0 _ rfl,?_,?_,?_,?_⟩
 ·rw [← Qh _ 1 (by omega),add_add'];exact hc 1 _ rfl
 ·rw [← Qh _ 2 (by omega),add_add'];exact hc 2 _ rfl
 ·rw [← Qh _ 3 (by omega),add_add'];exact hc 3 _ rfl
 ·rw [← Qh _ 4 (by omega),add_add'];exact hc 4 _ rfl
structure AQ (w : World) (B M j : Nat) (V : World) (v : Value) (mb b6 b7 b8 b9 : Nat) (es : List Edt) (r : List PM) (L : List Mod) : Prop where
 a : AS w B (M + j) V v L
 e : EM V mb b6 b7 b8 b9
 r : Zc (L.map Mod.er) ((es.drop j).map Edt.er) = some r
 st : St (L.map Mod.er)
 sm : SmL (L.map Mod.er)
set_option maxRecDepth 100000 in
set_option maxHeartbeats 4000000 in
attribute [local irreducible] Calls in
theorem Qbj (Aa : Option Addr) (c : Nat) (L : List Mod) (Ea : Option Addr) (ec : Nat) (es : List Edt) (w : World) (hL : MRd w Aa c L) (hE : TRd w Ea ec es) (hn : L.length ≤ 1000) (hes : es.length ≤ 10000) (hsz : ∀ m ∈ L,m.uses.length ≤ 1000 ∧ m.decls.length ≤ 1000) (hv : oks.Mods (L.map Mod.er)) (hev : ∀ e ∈ es,oks.Edit e.er) (r : List PM) (hr : Zc (L.map Mod.er) (es.map Edt.er) = some r) (hrv : ∀ m ∈ r,oks.Mod m) :
 Calls Tryz.prog 10 #[.slice Aa L.length c,.slice Ea es.length ec] w fun y w' => ∃ A' c' L',y = .returned (.tuple #[.slice A' L'.length c',iv 0]) ∧ L'.map Mod.er = r ∧ MRd w' A' c' L' ∧ Gr w w':=by
 have C1:=Qo0 (show Calls Tryz.prog 21 #[.slice Aa L.length c] w fun e w' => e = .returned (iv 0) ∧ Gr w w' from by
  refine (X6 Aa c L w hL).mono ?_
  rintro e w' ⟨q,rfl,h1,h2⟩
  rw [h1.2 hv]
  exact ⟨rfl,h2⟩)
 obtain ⟨n,hln⟩ : ∃ n,L.length = n:=⟨_,rfl⟩
 obtain ⟨k,hek⟩ : ∃ k,es.length = k:=⟨_,rfl⟩
 have HN:=Qo0 hln
 have HK:=Qo0 hek
 have HL:=Qo0 (fun V (g : Gr w V) => hL.gr g)
 have HE:=Qo0 (fun V (g : Gr w V) => hE.gr g)
 have HSZ:=Qo0 hsz
 have HV:=Qo0 hv
 have HEV:=Qo0 hev
 have HR:=Qo0 hr
 have HRV:=Qo0 hrv
 have SM0:=Qo0 (show SmL (L.map Mod.er) from fun m hm d hd => Qby ((hv.mods m hm).decls d hd).body)
 have MC0:=Qo0 (fun m (hm : m ∈ L) => show MC w 1000 m from by
  have hmr:=hL.m m hm
  have hok:=hv.mods m.er (List.mem_map.2 ⟨m,hm,rfl⟩)
  refine ⟨hmr.l,hmr.u.ok,fun d hd => ⟨hmr.d.d d hd,?_⟩,(hsz m hm).1,(hsz m hm).2⟩
  have h2:=hok.decls d.er (List.mem_map.2 ⟨d,hd,rfl⟩)
  exact ⟨h2.id0,h2.id1⟩)
 obtain ⟨i22,hi22,hz22,hs22,hb22⟩:=info_parts (show (Tryz.prog.info? 39).map (fun i => (i.zero,i.size,i.bytes)) = some (some (.agg #[.string ⟨#[]⟩,.slice none 0 0,.slice none 0 0]),3,64) by kernel_rfl)
 rw [hln] at C1 hn ⊢
 rw [hek] at hes ⊢
 clear hL hE hsz hv hev hr hrv hln hek
 go_enter Tryz.func10,Tryz.ntmps10
 go_wp2_with (first
  | (go_at_call 21;(with_reducible refine C1.out.mono ?_);rintro y w1 ⟨rfl,g1⟩;have G1:=Qo0 g1;clear g1)
  | (refine wpList_make_full _ rfl _ _ 22 rfl w.heap.size 39 i22 (.agg #[.string ⟨#[]⟩,.slice none 0 0,.slice none 0 0]) 3 Tryz.underlying22 hi22 hz22 hs22 .i64 .i64 _ _ n rfl rfl rfl rfl (by rw [hb22];omega) (by unfold maxLen;omega) G1.out.size ?_;intro w2 r2 g2;have R2:=Qo0 r2;have G2:=Qo0 (G1.out.trans g2);clear r2 g2))
 have GB:=Qo0 (show w.heap.size ≤ w1.heap.size from G1.out.size)
 have A0:=Qo0 (show AS w w.heap.size 1000 w2 (.slice (some ⟨w1.heap.size,0,none⟩) n n) (L.take 0 ++ List.replicate n Z1) from by
  have zin : ∀ m ∈ L.take 0 ++ List.replicate n Z1,m = Z1:=fun m hm => (List.mem_replicate.1 (by simpa using hm)).2
  refine ⟨G2.out,Nat.le_refl _,G2.out.size,?_,?_,?_,?_,?_,?_,by simp;omega⟩
  ·have h:=R2.out
   rw [Qll] at h
   unfold OR
   simpa using h
  ·intro m hm;rw [zin m hm];exact OR.nil
  ·intro m hm;rw [zin m hm];exact OR.nil
  ·rw [List.take_zero,List.nil_append];exact List.pairwise_replicate.2 (.inr (fun a ha => by cases ha))
  ·rw [List.take_zero,List.nil_append];exact List.pairwise_replicate.2 (.inr (fun a ha => by cases ha))
  ·intro m hm;rw [zin m hm];exact ⟨by simp [Z1,sOk],by simp [Z1],by simp [Z1],by simp [Z1],by simp [Z1]⟩)
 obtain ⟨gg,hgg⟩ : ∃ gg,w1.heap.size = gg:=⟨_,rfl⟩
 rw [hgg] at A0 ⊢
 clear hgg R2 GB hi22 hz22 hs22 hb22
 go_loopw [8,9,25] (fun _ _ i V => ∃ j : Nat,j ≤ n ∧ i = iv j ∧ ∃ Ms : List Mod,Hid (Ms.length = j ∧ Ms.map Mod.er = (L.take j).map Mod.er ∧ AS w w.heap.size 1000 V (.slice (some ⟨gg,0,none⟩) n n) (Ms ++ List.replicate (n - j) Z1))) (fun _ _ i _ => n - (intOf i).toNat)
 case atStart => exact ⟨0,by omega,rfl,[],Qo0 ⟨rfl,by simp,by simpa using A0.out⟩⟩
 case round =>
  obtain ⟨j,hj,rfl,Ms,HI⟩:=hrel
  have GV:=Qo0 HI.out.2.2.g
  clear A0
  by_cases hlt : j < n
  ·obtain ⟨m,hm⟩ : ∃ m,L[j]? = some m:=⟨_,List.getElem?_eq_getElem (by rw [HN.out];exact hlt)⟩
   obtain ⟨a,a1,ea,ha,hab,d0,d1,d2⟩:=rdM (HL.out _ GV.out).r hm
   subst ea
   have hmem:=List.mem_of_getElem? hm
   have MCm:=Qo0 (MC0.out m hmem)
   have MR:=Qo0 (fun V (g : Gr w V) => (HL.out V g).m m hmem)
   have HT:=Qo0 (show (L.take (j + 1)).map Mod.er = (L.take j).map Mod.er ++ [m.er] from by
    obtain ⟨hjl,hmm⟩:=List.getElem?_eq_some_iff.1 hm
    rw [List.take_succ_eq_append_getElem hjl,hmm,List.map_append]
    rfl)
   have AH:=Qo0 (show AS w w.heap.size 1000 wr (.slice (some ⟨gg,0,none⟩) n n) (Ms ++ Z1 :: List.replicate (n - (j + 1)) Z1) from by
    have h:=HI.out.2.2
    rw [show n - j = (n - (j + 1)) + 1 from by omega,List.replicate_succ] at h
    exact h)
   have ML:=Qo0 HI.out.1
   have ME:=Qo0 HI.out.2.1
   have hlt2 : (j : Int) < (n : Int):=by omega
   clear hm hmem HI
   obtain ⟨U,hU⟩ : ∃ U,wr.alloc (.cells #[tv m.label,.slice m.uA m.uses.length m.uc,.slice m.dA m.decls.length m.dc] 39) = U:=⟨_,rfl⟩
   have HU:=Qo0 hU
   have GU:=Qo0 (show Gr wr U by rw [← hU];exact Qa _ _)
   obtain ⟨bx,hbx⟩ : ∃ bx,wr.heap.size = bx:=⟨_,rfl⟩
   have BX:=Qo0 (fun V' (g : Gr U V') => Qng (V:=V') (b:=bx) (m:=m) (Qe g (by rw [← hU,← hbx];exact Qd _ _)))
   have RC:=Qo0 (fun V' (g : Gr U V') => show gg < V'.heap.size ∧ V'.cell? ⟨gg,j * 3,none⟩ = some (tv []) ∧ V'.cell? ⟨gg,j * 3 + 1,none⟩ = some (.slice none 0 0) ∧ V'.cell? ⟨gg,j * 3 + 2,none⟩ = some (.slice none 0 0) ∧ (∀ q,V'.frozen? ⟨gg,q,none⟩ = false) from by
    have h:=(AH.out.gr (GU.out.trans g)).hdr rfl
    rw [ML.out] at h
    exact h)
   have hgb : gg < bx:=by rw [← hbx];exact (AH.out.hdr rfl).1
   have NE : ∀ (W : World) (q : Nat) (u : Value) (k : Nat),(W.setCell ⟨gg,q,none⟩ u).cell? ⟨bx,k,none⟩ = W.cell? ⟨bx,k,none⟩:=fun W q u k => World.cell?_setCell_other _ _ _ _ (by simp only [ne_eq,Addr.mk.injEq,not_and];omega)
   have NEH:=Qo0 NE
   clear NE
   have CU:=Qo0 (fun V' (g : Gr U V') => Qaj m.uA m.uc m.uses V' (MR.out _ (GV.out.trans (GU.out.trans g))).u.r (by have:=MCm.out.nu;omega))
   have CD:=Qo0 (fun V' (g : Gr U V') => Qi7 m.dA m.dc m.decls V' (MR.out _ (GV.out.trans (GU.out.trans g))).d.r (by have:=MCm.out.nd;omega))
   clear hU
   go_upto_region 8 with fail
   rw [HU.out]
   have HBX:=Qo0 hbx
   clear hbx
   go_region_held3 (fun V' => V'.cell? ⟨bx,0,none⟩ = some (tv m.label) ∧ V'.cell? ⟨bx,1,none⟩ = some (.slice m.uA m.uses.length m.uc) ∧ V'.cell? ⟨bx,2,none⟩ = some (.slice m.dA m.decls.length m.dc))
    (first | with_reducible exact BX.out _ G7.out | with_reducible exact BX.out _ G6.out | with_reducible exact BX.out _ (Qb _) | (obtain ⟨q0,q1,q2⟩:=BX.out _ G7.out;refine ⟨?_,?_,?_⟩ <;> (rw [NEH.out,NEH.out,NEH.out];assumption)) | go_keep)
    (first
      | (go_at_call 26;(with_reducible refine (CU.out _ (Qb _)).mono ?_);rintro y w6 ⟨v6,rfl,o6,g6⟩;obtain ⟨A6,c6,rfl,-⟩:=o6.form2 elS.hn;have O6:=Qo0 o6;have G6:=Qo0 ((Qb _).trans g6);clear o6 g6)
      | (go_at_call 27;(with_reducible refine (CD.out _ G6.out).mono ?_);rintro y w7 ⟨v7,rfl,o7,g7⟩;obtain ⟨A7,c7,rfl,-⟩:=o7.form2 elD.hn;have O7:=Qo0 o7;have G67:=Qo0 g7;have G7:=Qo0 (G6.out.trans g7);obtain ⟨r0,r1,r2,r3,r4⟩:=RC.out _ G7.out;clear o7 g7))
   obtain ⟨M',hM'⟩ : ∃ M' : Mod,M' = ⟨m.label,A6,c6,m.uses,A7,c7,m.decls⟩:=⟨_,rfl⟩
   have HM':=Qo0 hM'
   have FN:=Qo0 (show AS w w.heap.size 1000 (((w7.setCell ⟨gg,j * 3,none⟩ (.string ⟨m.label.toArray⟩)).setCell ⟨gg,j * 3 + 1,none⟩ (.slice A6 m.uses.length c6)).setCell ⟨gg,j * 3 + 2,none⟩ (.slice A7 m.decls.length c7)) (.slice (some ⟨gg,0,none⟩) n n) (Ms ++ M' :: List.replicate (n - (j + 1)) Z1) from by
    have h:=AH.out.fill (m':=M') rfl (GU.out.trans G7.out) (by rw [hM'];exact Xr (O6.out.gr G67.out) (GU.out.size)) (by rw [hM'];exact Xr O7.out (GU.out.trans G6.out).size) (by rw [hM'];exact ⟨MCm.out.l,MCm.out.us,MCm.out.ds,MCm.out.nu,MCm.out.nd⟩)
    rw [hM',ML.out] at h
    rw [hM']
    exact h)
   clear hM'
   go_wp2
   exact ⟨⟨j + 1,by omega,by simp,Ms ++ [M'],Qo0 ⟨by rw [List.length_append,ML.out];rfl,by rw [HT.out,List.map_append,ME.out];congr 1;rw [HM'.out];rfl,by rw [List.append_assoc];exact FN.out⟩⟩,by simp [intOf];omega⟩
  ·obtain rfl : j = n:=by omega
   have A1:=Qo0 (show AS w w.heap.size 1000 wr (.slice (some ⟨gg,0,none⟩) j j) Ms from by have h:=HI.out.2.2;rw [Nat.sub_self,List.replicate_zero,List.append_nil] at h;exact h)
   have E1:=Qo0 (show Ms.map Mod.er = L.map Mod.er from by have h:=HI.out.2.1;rwa [List.take_of_length_le (by rw [HN.out];exact Nat.le_refl _)] at h)
   have hnj : ¬ (j : Int) < (j : Int):=by omega
   clear HI
   go_wp2_with (go_at_call 28;(with_reducible refine (Qhm _).mono ?_);rintro y w3 ⟨mb,b6,b7,b8,b9,rfl,em3,g3⟩;have EM3:=Qo0 em3;have G3:=Qo0 g3;clear em3 g3)
   have Q0:=Qo0 (show AQ w w.heap.size 1000 0 w3 (.slice (some ⟨gg,0,none⟩) j j) mb b6 b7 b8 b9 es r Ms from ⟨A1.out.gr G3.out,EM3.out,by rw [E1.out,List.drop_zero];exact HR.out,by rw [E1.out];exact HV.out.st,by rw [E1.out];exact SM0.out⟩)
   clear A1 E1 EM3 hnj
   go_loopw [7,12,13,46] (fun v _ _ i V => ∃ q : Nat,q ≤ k ∧ i = iv q ∧ ∃ Ls : List Mod,Hid (AQ w w.heap.size 1000 q V v mb b6 b7 b8 b9 es r Ls)) (fun _ _ _ i _ => k - (intOf i).toNat)
   case atStart => exact ⟨0,by omega,rfl,Ms,Q0⟩
   case round =>
    obtain ⟨q,hq,rfl,Ls,HI⟩:=hrel
    clear Q0
    have GV2:=Qo0 HI.out.a.g
    by_cases hlt : q < k
    ·obtain ⟨e,he⟩ : ∃ e,es[q]? = some e:=⟨_,List.getElem?_eq_getElem (by rw [HK.out];exact hlt)⟩
     obtain ⟨a,a1,ea,ha,hab,d0,d1,d2,d3,d4⟩:=rdT (HE.out _ GV2.out).r he
     subst ea
     have hmem:=List.mem_of_getElem? he
     have ER:=Qo0 ((HE.out _ (Qc w)).e e hmem)
     have EO:=Qo0 (HEV.out e hmem)
     have hlt2 : (q : Int) < (k : Int):=by omega
     obtain ⟨l1,hl1,hl2⟩ : ∃ l1,Zn (Ls.map Mod.er) e.er = some l1 ∧ Zc l1 ((es.drop (q + 1)).map Edt.er) = some r:=by
      have h:=HI.out.r
      obtain ⟨hqe,hee⟩:=List.getElem?_eq_some_iff.1 he
      rw [List.drop_eq_getElem_cons hqe,hee,List.map_cons] at h
      unfold Zc at h
      cases hq1 : Zn (Ls.map Mod.er) e.er with
      | none => rw [hq1] at h;cases h
      | some l1 => rw [hq1] at h;exact ⟨l1,rfl,h⟩
     have H1:=Qo0 (And.intro hl1 hl2)
     clear he hmem hl1 hl2
     have CK:=Qo0 (fun V' (g : Gr wr V') => Qd5 e V' (ER.out.gr (GV2.out.trans g)) EO.out)
     have CA:=Qo0 (fun V' (g : Gr wr V') => Qgc w w.heap.size (1000 + q) V' u7 Ls e mb b6 b7 b8 b9 (HI.out.a.gr g) (by omega) ER.out EO.out HI.out.st HI.out.sm (HI.out.e.gr g) l1 H1.out.1)
     obtain ⟨bx,hbx⟩ : ∃ bx,wr.heap.size = bx:=⟨_,rfl⟩
     obtain ⟨U,hU⟩ : ∃ U,wr.alloc (.cells #[iv e.kind,tv e.pack,tv e.text,.slice e.oA e.old.length e.oc,.slice e.nA e.new.length e.nc] 32) = U:=⟨_,rfl⟩
     have GU:=Qo0 (show Gr wr U by rw [← hU];exact Qa _ _)
     have BX:=Qo0 (fun V' (g : Gr U V') => Qt (V:=V') (b:=bx) (e:=e) (Qe g (by rw [← hU,← hbx];exact Qd _ _)))
     have HU:=Qo0 hU
     have HBX:=Qo0 hbx
     clear hU
     unfold Edt.v at CK CA
     go_upto_region 14 with fail
     rw [HU.out]
     clear hbx
     obtain ⟨x0,x1,x2,x3,x4⟩:=BX.out _ (Qc _)
     go_wp2_with (first
      | (go_at_call 29;(with_reducible refine (CK.out _ GU.out).mono ?_);rintro y w4 ⟨rfl,g4⟩;clear x0 x1 x2 x3 x4;obtain ⟨x0,x1,x2,x3,x4⟩:=BX.out _ g4;have G4:=Qo0 (GU.out.trans g4);clear g4)
      | (go_at_call 30;(with_reducible refine (CA.out _ G4.out).mono ?_);rintro y w5 ⟨v5,L5,rfl,e5,a5,f5⟩;have A5:=Qo0 (And.intro e5 (And.intro a5 f5));clear e5 a5 f5 x0 x1 x2 x3 x4))
     refine ⟨⟨q + 1,by omega,by simp,L5,Qo0 ⟨A5.out.2.1,(HI.out.e.gr G4.out).fr A5.out.2.2,by rw [A5.out.1];exact H1.out.2,by rw [A5.out.1];exact (Qea EO.out HI.out.st H1.out.1).1,by rw [A5.out.1];exact Qgf HI.out.sm (Qdu EO.out) H1.out.1⟩⟩,by simp [intOf];omega⟩
    ·obtain rfl : q = k:=by omega
     have hnj : ¬ (q : Int) < (q : Int):=by omega
     have RR:=Qo0 (show Ls.map Mod.er = r from by
      have h:=HI.out.r
      rw [List.drop_eq_nil_of_le (by rw [HK.out];exact Nat.le_refl _)] at h
      exact Option.some.inj h)
     have AA:=Qo0 HI.out.a
     obtain ⟨A9,c9,hv9,-⟩:=HI.out.a.o.form2 Mod.cs_len
     subst hv9
     have MM:=Qo0 AA.out.mrd
     have C9:=Qo0 (show Calls Tryz.prog 31 #[.slice A9 Ls.length c9] wr fun e w' => e = .returned (iv 0) ∧ Gr wr w' from by
      refine (Qbo A9 c9 Ls wr MM.out).mono ?_
      rintro e w' ⟨z,rfl,h1,h2⟩
      rw [h1.2 (fun m hm => HRV.out m.er (by rw [← RR.out];exact List.mem_map.2 ⟨m,hm,rfl⟩))]
      exact ⟨rfl,h2⟩)
     obtain ⟨ln,hln⟩ : ∃ ln,Ls.length = ln:=⟨_,rfl⟩
     have HLN:=Qo0 hln
     rw [hln] at C9 ⊢
     clear hln HI
     go_wp2_with (go_at_call 31;(with_reducible refine C9.out.mono ?_);rintro y w6 ⟨rfl,g6⟩;have G6:=Qo0 g6;clear g6)
     go_ret2
     exact ⟨A9,c9,Ls,by rw [HLN.out];rfl,RR.out,MM.out.gr G6.out,GV2.out.trans G6.out⟩
end Go.Proofs.YtiaenhlflgobfaaGreatDoor

/- Words. -/
import Derived.Test.YtiaenhlflgobfaaGreatDoorTb40
import Derived.Test.YtiaenhlflgobfaaGreatDoorTb41
namespace Go.Proofs.YtiaenhlflgobfaaGreatDoor
open Go.RowKit
theorem Qbe {α β : Type} {f : α → List β} {k : Nat} : ∀ (ps : List α),(∀ p ∈ ps,(f p).length ≤ k) → (ps.flatMap f).length ≤ ps.length * k
 | [],_ => by simp
 | p :: ps,h => by
   rw [List.flatMap_cons,List.length_append,List.length_cons,Nat.succ_mul]
   have h1:=h p (by simp)
   have h2:=Qbe ps (fun q hq => h q (by simp [hq]))
   omega
theorem Zx (k : Int) (l : T) (us vs : List T) : (Yp k l us vs).length ≤ us.length:=by
 unfold Yp
 rw [List.length_map]
 exact List.length_filter_le _ _
theorem Qb7 {m : PM} (h : oks.Mod m) : m.uses.length ≤ 20 ∧ m.decls.length ≤ 100:=by
 have h1:=h.rest
 simp only [oks,Bool.and_eq_true,decide_eq_true_eq] at h1
 exact ⟨h1.1.1,h1.1.2⟩
structure Sm (p : Bo) : Prop where
 au : p.a.uses.length ≤ 20
 ad : p.a.decls.length ≤ 100
 bu : p.b.uses.length ≤ 20
 bd : p.b.decls.length ≤ 100
theorem Sm.e1 {p : Bo} : (Yx p).length ≤ 1:=by unfold Yx;split <;> simp
theorem Sm.e2 {p : Bo} (h : Sm p) : (Yp 3 p.label p.b.uses p.a.uses).length ≤ 20:=Nat.le_trans (Zx _ _ _ _) h.bu
theorem Sm.e3 {p : Bo} (h : Sm p) : (Qu p.label p.a.decls p.b.decls).length ≤ 600:=by
 have:=Yw p.label p.a.decls p.b.decls
 have:=h.ad
 have:=h.bd
 omega
theorem Sm.e4 {p : Bo} (h : Sm p) : (Yp 4 p.label p.a.uses p.b.uses).length ≤ 20:=Nat.le_trans (Zx _ _ _ _) h.au
theorem Sm.e5 {p : Bo} : (Yr p).length ≤ 1:=by unfold Yr;split <;> simp
structure FS (w0 w1 V : World) (l : List (Value × List Edt)) : Prop where
 o : ∀ p ∈ l,OR 32 5 Edt.cs V w1.heap.size p.1 p.2
 s : l.Pairwise (fun p q => p.1.ownBlock = none ∨ p.1.ownBlock ≠ q.1.ownBlock)
 e : ∀ p ∈ l,∀ e ∈ p.2,ED w0 V e
 g : Gr w1 V
theorem FS.gr {w0 w1 V V' : World} {l : List (Value × List Edt)} (h : FS w0 w1 V l) (g : Gr V V') : FS w0 w1 V' l:=⟨fun p hp => (h.o p hp).gr g,h.s,fun p hp e he => (h.e p hp e he).gr g,h.g.trans g⟩
theorem FS.put {w0 w1 V V8 w7 : World} {pre post : List (Value × List Edt)} {v v' : Value} {L es : List Edt} (h : FS w0 w1 V (pre ++ (v,L) :: post)) (g8 : Gr V V8) (he : ∀ e ∈ es,ED w0 V8 e) (o7 : OR 32 5 Edt.cs w7 w1.heap.size v' (L ++ es)) (g7 : V8.grownBy w7 v.ownBlock) (b7 : v'.ownBlock = v.ownBlock ∨ v'.ownBlock = some V8.heap.size) : FS w0 w1 w7 (pre ++ (v',L ++ es) :: post):=by
 have h8:=h.gr g8
 have ov:=h8.o (v,L) (by simp)
 have hs:=List.pairwise_append.1 h8.s
 obtain ⟨s1,s2,s3⟩:=hs
 obtain ⟨s4,s5⟩:=List.pairwise_cons.1 s2
 have key : ∀ q ∈ pre ++ post,q.1.ownBlock = none ∨ q.1.ownBlock ≠ v.ownBlock:=by
  intro q hq
  rcases List.mem_append.1 hq with hq | hq
  ·exact s3 q hq (v,L) (by simp)
  ·rcases s4 q hq with h1 | h1
   ·cases h2 : q.1.ownBlock with
    | none => exact .inl rfl
    | some b => right;rw [h1];simp
   ·right;exact fun h2 => h1 h2.symm
 have fresh : ∀ q ∈ pre ++ post,q.1.ownBlock = none ∨ q.1.ownBlock ≠ v'.ownBlock:=by
  intro q hq
  rcases b7 with b7 | b7
  ·rw [b7];exact key q hq
  ·cases h2 : q.1.ownBlock with
   | none => exact .inl rfl
   | some b =>
     right
     rw [b7]
     intro h3
     cases h3
     have:=((h8.o q (by rcases List.mem_append.1 hq with h | h <;> simp [h])).lt _ h2).2
     omega
 refine ⟨fun p hp => ?_,?_,fun p hp e hx => ?_,OR.grow h8.g ov (Nat.le_refl _) g7⟩
 ·rcases List.mem_append.1 hp with hp | hp
  ·exact (h8.o p (by simp [hp])).kept g7 (key p (by simp [hp]))
  ·rcases List.mem_cons.1 hp with rfl | hp
   ·exact o7
   ·exact (h8.o p (by simp [hp])).kept g7 (key p (by simp [hp]))
 ·refine List.pairwise_append.2 ⟨s1,List.pairwise_cons.2 ⟨fun q hq => ?_,s5⟩,fun p hp q hq => ?_⟩
  ·rcases fresh q (by simp [hq]) with h1 | h1
   ·cases h2 : v'.ownBlock with
    | none => exact .inl rfl
    | some b => right;rw [h1];simp
   ·right;exact fun h2 => h1 h2.symm
  ·rcases List.mem_cons.1 hq with rfl | hq
   ·exact fresh p (by simp [hp])
   ·exact s3 p hp q (by simp [hq])
 ·rcases List.mem_append.1 hp with hp | hp
  ·exact (h8.e p (by simp [hp]) e hx).row ov g7
  ·rcases List.mem_cons.1 hp with rfl | hp
   ·rcases List.mem_append.1 hx with hx | hx
    ·exact (h8.e (v,L) (by simp) e hx).row ov g7
    ·exact (he e hx).row ov g7
   ·exact (h8.e p (by simp [hp]) e hx).row ov g7
theorem fs_nil {w0 w1 : World} : FS w0 w1 w1 [(.slice none 0 0,[]),(.slice none 0 0,[]),(.slice none 0 0,[]),(.slice none 0 0,[]),(.slice none 0 0,[])]:=by
 refine ⟨fun p hp => ?_,?_,fun p hp e he => ?_,Qc _⟩
 ·simp only [List.mem_cons,List.not_mem_nil,or_false,or_self] at hp
  rw [hp];exact OR.nil
 ·simp [Value.ownBlock]
 ·simp only [List.mem_cons,List.not_mem_nil,or_false,or_self] at hp
  rw [hp] at he;cases he
structure FE (P : List Bo) (j : Nat) (L1 L2 L3 L4 L5 : List Edt) : Prop where
 e1 : L1.map Edt.er = (P.take j).flatMap Yx
 e2 : L2.map Edt.er = (P.take j).flatMap (fun p => Yp 3 p.label p.b.uses p.a.uses)
 e3 : L3.map Edt.er = (P.take j).flatMap (fun p => Qu p.label p.a.decls p.b.decls)
 e4 : L4.map Edt.er = (P.take j).flatMap (fun p => Yp 4 p.label p.a.uses p.b.uses)
 e5 : L5.map Edt.er = (P.take j).flatMap Yr
theorem Qaa {α β : Type} {f : α → List β} {P : List α} {j : Nat} {p : α} (h : P[j]? = some p) : (P.take (j + 1)).flatMap f = (P.take j).flatMap f ++ f p:=by
 obtain ⟨hj,hp⟩:=List.getElem?_eq_some_iff.1 h
 rw [List.take_succ_eq_append_getElem hj,hp,List.flatMap_append]
 simp
theorem FE.step {P : List Bo} {j : Nat} {p : Bo} {L1 L2 L3 L4 L5 M1 M2 M3 M4 M5 : List Edt} (h : FE P j L1 L2 L3 L4 L5) (hp : P[j]? = some p) (h1 : M1.map Edt.er = Yx p) (h2 : M2.map Edt.er = Yp 3 p.label p.b.uses p.a.uses) (h3 : M3.map Edt.er = Qu p.label p.a.decls p.b.decls) (h4 : M4.map Edt.er = Yp 4 p.label p.a.uses p.b.uses) (h5 : M5.map Edt.er = Yr p) : FE P (j + 1) (L1 ++ M1) (L2 ++ M2) (L3 ++ M3) (L4 ++ M4) (L5 ++ M5):=by
 refine ⟨?_,?_,?_,?_,?_⟩
 ·rw [List.map_append,h.e1,h1,Qaa hp]
 ·rw [List.map_append,h.e2,h2,Qaa hp]
 ·rw [List.map_append,h.e3,h3,Qaa hp]
 ·rw [List.map_append,h.e4,h4,Qaa hp]
 ·rw [List.map_append,h.e5,h5,Qaa hp]
theorem FE.len {P : List Bo} {j : Nat} {L1 L2 L3 L4 L5 : List Edt} (h : FE P j L1 L2 L3 L4 L5) (hP : P.length ≤ 8) (hs : ∀ p ∈ P,Sm p) : L1.length ≤ 8 ∧ L2.length ≤ 160 ∧ L3.length ≤ 4800 ∧ L4.length ≤ 160 ∧ L5.length ≤ 8:=by
 have hm : ∀ p ∈ P.take j,Sm p:=fun p hp => hs p (List.mem_of_mem_take hp)
 have hl : (P.take j).length ≤ 8:=by rw [List.length_take];omega
 have k1:=congrArg List.length h.e1
 have k2:=congrArg List.length h.e2
 have k3:=congrArg List.length h.e3
 have k4:=congrArg List.length h.e4
 have k5:=congrArg List.length h.e5
 rw [List.length_map] at k1 k2 k3 k4 k5
 have m1:=Qbe (P.take j) (fun p _ => Sm.e1 (p:=p))
 have m2:=Qbe (P.take j) (fun p hp => (hm p hp).e2)
 have m3:=Qbe (P.take j) (fun p hp => (hm p hp).e3)
 have m4:=Qbe (P.take j) (fun p hp => (hm p hp).e4)
 have m5:=Qbe (P.take j) (fun p _ => Sm.e5 (p:=p))
 refine ⟨?_,?_,?_,?_,?_⟩ <;> omega
theorem Zg {V : World} {k : Nat} {p : Bth} (h : HF V k #[tv p.label,.bool p.inA,.bool p.inB,tv p.a.label,.slice p.a.uA p.a.uses.length p.a.uc,.slice p.a.dA p.a.decls.length p.a.dc,tv p.b.label,.slice p.b.uA p.b.uses.length p.b.uc,.slice p.b.dA p.b.decls.length p.b.dc]) : V.cell? ⟨k,0,none⟩ = some (tv p.label) ∧ V.cell? ⟨k,1,none⟩ = some (.bool p.inA) ∧ V.cell? ⟨k,2,none⟩ = some (.bool p.inB) ∧ V.cell? ⟨k,3,none⟩ = some (tv p.a.label) ∧ V.cell? ⟨k,4,none⟩ = some (.slice p.a.uA p.a.uses.length p.a.uc) ∧ V.cell? ⟨k,5,none⟩ = some (.slice p.a.dA p.a.decls.length p.a.dc) ∧ V.cell? ⟨k,6,none⟩ = some (tv p.b.label) ∧ V.cell? ⟨k,7,none⟩ = some (.slice p.b.uA p.b.uses.length p.b.uc) ∧ V.cell? ⟨k,8,none⟩ = some (.slice p.b.dA p.b.decls.length p.b.dc) :=
 ⟨h.at 0,h.at 1,h.at 2,h.at 3,h.at 4,h.at 5,h.at 6,h.at 7,h.at 8⟩
theorem Xy {w V : World} {k : Int} {l : T} {us vs : List T} (hl : sOk l) (hu : ∀ u ∈ us,sOk u) : ∀ e ∈ Qw k l us vs,ED w V e:=by
 intro e he
 obtain ⟨u,hu2,rfl⟩:=List.mem_map.1 he
 exact Qdv hl (hu u (List.mem_filter.1 hu2).1)
structure Bth.Rd (w : World) (p : Bth) : Prop where
 l : sOk p.label
 a : p.a.Rd w
 b : p.b.Rd w
 au : ∀ u ∈ p.a.uses,sOk u
 bu : ∀ u ∈ p.b.uses,sOk u
theorem Qjn (w : World) : Z1.Rd w:=⟨by simp [Z1,sOk],SRd.nil w,DRd.nil w⟩
theorem bth_rd {w : World} {A B : Option Addr} {c d : Nat} {Ma Mb : List Mod} (hA : MRd w A c Ma) (hB : MRd w B d Mb) {p : Bth} (h : (p.a = Z1 ∨ p.a ∈ Ma) ∧ (p.b = Z1 ∨ p.b ∈ Mb) ∧ sOk p.label) : p.Rd w:=by
 have h1 : p.a.Rd w:=by
  rcases h.1 with h1 | h1
  ·rw [h1];exact Qjn w
  ·exact hA.m _ h1
 have h2 : p.b.Rd w:=by
  rcases h.2.1 with h1 | h1
  ·rw [h1];exact Qjn w
  ·exact hB.m _ h1
 exact ⟨h.2.2,h1,h2,h1.u.ok,h2.u.ok⟩
theorem Qja {Ma Mb : List Mod} (hA : oks.Mods (Ma.map Mod.er)) (hB : oks.Mods (Mb.map Mod.er)) {p : Bth} (h : (p.a = Z1 ∨ p.a ∈ Ma) ∧ (p.b = Z1 ∨ p.b ∈ Mb) ∧ sOk p.label) : Sm p.er ∧ ∀ d ∈ p.a.decls,(d.body.er.pre 1).length ≤ 400:=by
 have h1 : (p.er.a.uses.length ≤ 20 ∧ p.er.a.decls.length ≤ 100) ∧ ∀ d ∈ p.a.decls,(d.body.er.pre 1).length ≤ 400:=by
  rcases h.1 with h1 | h1
  ·refine ⟨?_,fun d hd => ?_⟩
   ·show p.a.er.uses.length ≤ 20 ∧ p.a.er.decls.length ≤ 100
    rw [h1];simp [Z1,Mod.er]
   ·rw [h1] at hd;cases hd
  ·have hm:=hA.mods p.a.er (List.mem_map.2 ⟨_,h1,rfl⟩)
   exact ⟨Qb7 hm,fun d hd => Qby (hm.decls d.er (List.mem_map.2 ⟨d,hd,rfl⟩)).body⟩
 have h2 : p.er.b.uses.length ≤ 20 ∧ p.er.b.decls.length ≤ 100:=by
  rcases h.2.1 with h1 | h1
  ·show p.b.er.uses.length ≤ 20 ∧ p.b.er.decls.length ≤ 100
   rw [h1];simp [Z1,Mod.er]
  ·exact Qb7 (hB.mods p.b.er (List.mem_map.2 ⟨_,h1,rfl⟩))
 exact ⟨⟨h1.1.1,h1.1.2,h2.1,h2.2⟩,h1.2⟩
theorem rdB {w : World} {A : Option Addr} {S : List Bth} (h : RD 9 Bth.cs w A S) {k : Nat} {x : Bth} (hx : S[k]? = some x) : ∃ a a1 : Addr,A = some a ∧ a.add (k * 9) = a1 ∧ a1.block < w.heap.size ∧ w.cell? a1 = some (tv x.label) ∧ w.cell? ⟨a1.block,a1.off + 1,none⟩ = some (.bool x.inA) ∧ w.cell? ⟨a1.block,a1.off + 2,none⟩ = some (.bool x.inB) ∧ w.cell? ⟨a1.block,a1.off + 3,none⟩ = some (tv x.a.label) ∧ w.cell? ⟨a1.block,a1.off + 4,none⟩ = some (.slice x.a.uA x.a.uses.length x.a.uc) ∧ w.cell? ⟨a1.block,a1.off + 5,none⟩ = some (.slice x.a.dA x.a.decls.length x.a.dc) ∧ w.cell? ⟨a1.block,a1.off + 6,none⟩ = some (tv x.b.label) ∧ w.cell? ⟨a1.block,a1.off + 7,none⟩ = some (.slice x.b.uA x.b.uses.length x.b.uc) ∧ w.cell? ⟨a1.block,a1.off + 8,none⟩ = some (.slice x.b.dA x.b.decls.length x.b.dc):=by
 obtain ⟨hk,rfl⟩:=List.getElem?_eq_some_iff.1 hx
 obtain ⟨a,e,hb,hc⟩:=h.at hk
 refine ⟨a,_,e,rfl,by rw [add_block];exact hb,by simpa using hc 0 _ rfl,?_,?_,?_,?_,?_,?_,?_,?_⟩
 ·rw [← Qh _ 1 (by omega),add_add'];exact hc 1 _ rfl
 ·rw [← Qh _ 2 (by omega),add_add'];exact hc 2 _ rfl
 ·rw [← Qh _ 3 (by omega),add_add'];exact hc 3 _ rfl
 ·rw [← Qh _ 4 (by omega),add_add'];exact hc 4 _ rfl
 ·rw [← Qh _ 5 (by omega),add_add'];exact hc 5 _ rfl
 ·rw [← Qh _ 6 (by omega),add_add'];exact hc 6 _ rfl
 ·rw [← Qh _ 7 (by omega),add_add'];exact hc 7 _ rfl
 ·rw [← Qh _ 8 (by omega),add_add'];exact hc 8 _ rfl
def DL (w0 w1 V : World) (v1 v2 v3 v4 v5 : Value) (P : List Bo) (j : Nat) (L1 L2 L3 L4 L5 : List Edt) : Prop :=
 FS w0 w1 V [(v1,L1),(v2,L2),(v3,L3),(v4,L4),(v5,L5)] ∧ FE P j L1 L2 L3 L4 L5
set_option maxRecDepth 100000 in
set_option maxHeartbeats 16000000 in
attribute [local irreducible] Calls in
theorem Qdx (A : Option Addr) (c : Nat) (Ma : List Mod) (B : Option Addr) (d : Nat) (Mb : List Mod) (w : World) (hA : MRd w A c Ma) (hB : MRd w B d Mb) (hn : Ma.length ≤ 4) (hm : Mb.length ≤ 4) :
 Calls Tryz.prog 8 #[.slice A Ma.length c,.slice B Mb.length d] w fun e w' => Gr w w' ∧ ((∃ r,r ≠ 0 ∧ e = .returned (.tuple #[.slice none 0 0,iv r]) ∧ ¬ (oks.Mods (Ma.map Mod.er) ∧ oks.Mods (Mb.map Mod.er))) ∨ (∃ A' c' L,e = .returned (.tuple #[.slice A' L.length c',iv 0]) ∧ oks.Mods (Ma.map Mod.er) ∧ oks.Mods (Mb.map Mod.er) ∧ TRd w' A' c' L ∧ L.map Edt.er = Xc (Ma.map Mod.er) (Mb.map Mod.er))):=by
 have C1:=Qo0 (X6 A c Ma w hA)
 have C2:=Qo0 (fun V (g : Gr w V) => X6 B d Mb V (hB.gr g))
 have C22:=Qo0 (fun V (g : Gr w V) => Qlg A c Ma B d Mb V (hA.gr g) (hB.gr g) (by omega) (by omega))
 have HA:=Qo0 hA
 have HB:=Qo0 hB
 have HNM:=Qo0 (And.intro hn hm)
 clear hA hB hn hm
 go_enter Tryz.func8,Tryz.ntmps8
 go_upto_region 2 with (go_at_call 21;(with_reducible refine C1.out.mono ?_);rintro e w3 ⟨r,rfl,h1,g3⟩;have R1:=Qo0 h1;have G3:=Qo0 g3;clear h1 g3)
 by_cases hr : r = 0
 rotate_left
 ·have hrb : ((r : Int) == 0) = false:=by rw [beq_eq_false_iff_ne];exact hr
  have FN:=Qo0 (show ¬ (oks.Mods (Ma.map Mod.er) ∧ oks.Mods (Mb.map Mod.er)) from fun h => hr (R1.out.2 h.1))
  have HR:=Qo0 hr
  clear C1 R1
  go_wp2
  go_ret2
  exact ⟨G3.out,.inl ⟨r,HR.out,rfl,FN.out⟩⟩
 have M1:=Qo0 (R1.out.1 hr)
 subst hr
 clear R1 C1
 go_upto_region 5 with (go_at_call 21;(with_reducible refine (C2.out _ G3.out).mono ?_);rintro e w4 ⟨r,rfl,h1,g4⟩;have R2:=Qo0 h1;have G4:=Qo0 (G3.out.trans g4);clear h1 g4)
 by_cases hr : r = 0
 rotate_left
 ·have hrb : ((r : Int) == 0) = false:=by rw [beq_eq_false_iff_ne];exact hr
  have FN:=Qo0 (show ¬ (oks.Mods (Ma.map Mod.er) ∧ oks.Mods (Mb.map Mod.er)) from fun h => hr (R2.out.2 h.2))
  have HR:=Qo0 hr
  clear C2 R2
  go_wp2
  go_ret2
  exact ⟨G4.out,.inl ⟨r,HR.out,rfl,FN.out⟩⟩
 have M2:=Qo0 (R2.out.1 hr)
 subst hr
 clear R2 C2
 go_wp2_with (go_at_call 22;(with_reducible refine (C22.out _ G4.out).mono ?_);rintro e w1 ⟨vp,Ls,rfl,op,mp,ep,g1⟩;obtain ⟨pA,pc,rfl,rp,-⟩:=op.form2 Bth.cs_len;have RP:=Qo0 rp;have MP:=Qo0 mp;have EP:=Qo0 ep;have G1:=Qo0 (G4.out.trans g1);clear op rp mp ep g1)
 obtain ⟨n,hln⟩ : ∃ n,Ls.length = n:=⟨_,rfl⟩
 have HN:=Qo0 hln
 obtain ⟨P,hP⟩ : ∃ P,Ls.map Bth.er = P:=⟨_,rfl⟩
 have HP0:=Qo0 hP
 have PN:=Qo0 (show P.length ≤ 8 ∧ P.length = n from by
  have h1:=Qb6 (Ma.map Mod.er) (Mb.map Mod.er)
  rw [← EP.out,hP,List.length_map,List.length_map] at h1
  have:=HNM.out
  exact ⟨by omega,by rw [← hP,List.length_map];exact hln⟩)
 have PS0:=Qo0 (show ∀ p ∈ P,Sm p from by
  intro p hp
  rw [← hP] at hp
  obtain ⟨q,hq,rfl⟩:=List.mem_map.1 hp
  exact (Qja M1.out M2.out (MP.out q hq)).1)
 obtain ⟨w0,hw0⟩ : ∃ w0,w = w0:=⟨_,rfl⟩
 have HW0:=Qo0 hw0
 have D0:=Qo0 (show DL w0 w1 w1 (.slice none 0 0) (.slice none 0 0) (.slice none 0 0) (.slice none 0 0) (.slice none 0 0) P 0 [] [] [] [] [] from ⟨fs_nil,by refine ⟨?_,?_,?_,?_,?_⟩ <;> simp⟩)
 rw [hln]
 clear hln hP hw0 C22
 go_loopw [8,9,10,11,12,14,29] (fun t8 t9 t10 t11 t12 _ i V => ∃ j : Nat,j ≤ n ∧ i = iv j ∧ ∃ L1 L2 L3 L4 L5,Hid (DL w0 w1 V t8 t9 t10 t11 t12 P j L1 L2 L3 L4 L5)) (fun _ _ _ _ _ _ i _ => n - (intOf i).toNat)
 case atStart => exact ⟨0,by omega,by first | rfl | trivial,[],[],[],[],[],D0⟩
 case round =>
  obtain ⟨j,hj,rfl,L1,L2,L3,L4,L5,HI⟩:=hrel
  clear D0
  have LN:=Qo0 (HI.out.2.len PN.out.1 PS0.out)
  have hn9 : n ≤ 8:=by have:=PN.out;omega
  by_cases hlt : j < n
  ·obtain ⟨p,hp⟩ : ∃ p,Ls[j]? = some p:=⟨_,List.getElem?_eq_getElem (by rw [HN.out];exact hlt)⟩
   have HPJ:=Qo0 (show P[j]? = some p.er from by rw [← HP0.out,List.getElem?_map,hp];rfl)
   have hmem:=List.mem_of_getElem? hp
   have HP:=Qo0 (bth_rd HA.out HB.out (MP.out p hmem))
   have SMP:=Qo0 (Qja M1.out M2.out (MP.out p hmem)).1
   have SMD:=Qo0 (Qja M1.out M2.out (MP.out p hmem)).2
   have GW:=Qo0 (fun V (g : Gr w1 V) => show Gr w V from G1.out.trans g)
   have MN0:=Qo0 (show True from trivial)
   have MN4:=Qo0 (show True from trivial)
   have MN1:=Qo0 (show (Qw 3 p.label p.b.uses p.a.uses).length ≤ 20 from Nat.le_trans (Qdj _ _ _ _) SMP.out.bu)
   have MN3:=Qo0 (show (Qw 4 p.label p.a.uses p.b.uses).length ≤ 20 from Nat.le_trans (Qdj _ _ _ _) SMP.out.au)
   have C3:=Qo0 (fun V (g : Gr w1 V) => Qb2 3 p.label p.b.uA p.b.uc p.b.uses p.a.uA p.a.uc p.a.uses V ((HP.out.b.u.gr (GW.out V g)).r) ((HP.out.a.u.gr (GW.out V g)).r) (by have h : p.b.uses.length ≤ 20:=SMP.out.bu;omega) (by have h : p.a.uses.length ≤ 20:=SMP.out.au;omega))
   have C4:=Qo0 (fun V (g : Gr w1 V) => Qb2 4 p.label p.a.uA p.a.uc p.a.uses p.b.uA p.b.uc p.b.uses V ((HP.out.a.u.gr (GW.out V g)).r) ((HP.out.b.u.gr (GW.out V g)).r) (by have h : p.a.uses.length ≤ 20:=SMP.out.au;omega) (by have h : p.b.uses.length ≤ 20:=SMP.out.bu;omega))
   have C24:=Qo0 (fun V (g : Gr w1 V) => Qeh p.label p.a.dA p.a.dc p.a.decls p.b.dA p.b.dc p.b.decls w V (GW.out V g) HP.out.l HP.out.a.d HP.out.b.d (by have h:=SMP.out.ad;have h2 : p.er.a.decls.length = p.a.decls.length:=List.length_map ..;omega) (by have h:=SMP.out.bd;have h2 : p.er.b.decls.length = p.b.decls.length:=List.length_map ..;omega) SMD.out)
   rw [HW0.out] at C24
   obtain ⟨a,a1,rfl,ha1,hab,x0,x1,x2,x3,x4,x5,x6,x7,x8⟩:=rdB (RP.out.gr HI.out.1.g) hp
   have hlt2 : (j : Int) < (n : Int):=by omega
   obtain ⟨W0,hW0⟩ : ∃ W0,wr.alloc (.cells #[tv p.label,.bool p.inA,.bool p.inB,tv p.a.label,.slice p.a.uA p.a.uses.length p.a.uc,.slice p.a.dA p.a.decls.length p.a.dc,tv p.b.label,.slice p.b.uA p.b.uses.length p.b.uc,.slice p.b.dA p.b.decls.length p.b.dc] 73) = W0:=⟨_,rfl⟩
   obtain ⟨bk,hbk⟩ : ∃ bk,wr.heap.size = bk:=⟨_,rfl⟩
   have F0:=Qo0 (show FS w0 w1 W0 [(u8,L1),(u9,L2),(u10,L3),(u11,L4),(u12,L5)] from HI.out.1.gr (by rw [← hW0];exact Qa _ _))
   have B0:=Qo0 (show HF W0 bk #[tv p.label,.bool p.inA,.bool p.inB,tv p.a.label,.slice p.a.uA p.a.uses.length p.a.uc,.slice p.a.dA p.a.decls.length p.a.dc,tv p.b.label,.slice p.b.uA p.b.uses.length p.b.uc,.slice p.b.dA p.b.decls.length p.b.dc] from by rw [← hW0,← hbk];exact Qd _ _)
   have HW:=Qo0 hW0
   clear hp hmem hW0
   go_upto_region 11 with fail
   rw [HW.out]
   have HBK:=Qo0 hbk
   clear hbk x0 x1 x2 x3 x4 x5 x6 x7 x8 hab ha1
   cases qa : p.inA <;> cases qb : p.inB
   ·have QA:=Qo0 qa
    have QB:=Qo0 qb
    clear qa qb
    obtain ⟨p0,p1,p2,p3,p4,p5,p6,p7,p8⟩:=Zg B0.out
    (try rw [QA.out] at p1)
    (try rw [QB.out] at p2)
    go_wp2_with (first
     | (at_builtin;refine Qf elT rfl (.tmp 36) (.tmp 40) rfl w1.heap.size (v:=u8) rfl ((F0.out.o (u8,L1) (by simp)).gr (Qa _ _)) (A:=some ⟨_,0,none⟩) (M:=([edU 1 p.label []] : List Edt)) (m:=1) (c:=1) rfl rfl (Qj (t:=32) Edt.cs_len (Qd _ _)) (by have:=LN.out;have:=MN0.out;simp;omega) ((F0.out.g.trans (Qa _ _)).size) ?_;intro va wa o7 g7 b7;have F1:=Qo0 (show FS w0 w1 wa [(va,(L1 ++ ([edU 1 p.label []] : List Edt))),(u9,L2),(u10,L3),(u11,L4),(u12,L5)] from FS.put (pre:=[]) (post:=[(u9,L2),(u10,L3),(u11,L4),(u12,L5)]) (v:=u8) (L:=L1) F0.out (Qa _ _) (fun e he => by rw [List.mem_singleton.1 he];exact Qdv HP.out.l (by simp [sOk])) o7 g7 b7);have B1:=Qo0 (show HF wa bk #[tv p.label,.bool p.inA,.bool p.inB,tv p.a.label,.slice p.a.uA p.a.uses.length p.a.uc,.slice p.a.dA p.a.decls.length p.a.dc,tv p.b.label,.slice p.b.uA p.b.uses.length p.b.uc,.slice p.b.dA p.b.decls.length p.b.dc] from ((F0.out.o (u8,L1) (by simp)).gr (Qa _ _)).keepT g7 (by decide) (Qe (Qa _ _) B0.out));clear p0 p1 p2 p3 p4 p5 p6 p7 p8 o7 g7 b7;obtain ⟨p0,p1,p2,p3,p4,p5,p6,p7,p8⟩:=Zg B1.out;(try rw [QA.out] at p1);(try rw [QB.out] at p2))
     | (go_at_call 23;(with_reducible refine (C3.out _ F1.out.g).mono ?_);rintro e w51 ⟨v51,rfl,o51,g51⟩;obtain ⟨A51,c51,rfl,r51,-⟩:=o51.form2 Edt.cs_len;have R51:=Qo0 r51;have F2:=Qo0 (F1.out.gr g51);have B2:=Qo0 (show HF w51 bk #[tv p.label,.bool p.inA,.bool p.inB,tv p.a.label,.slice p.a.uA p.a.uses.length p.a.uc,.slice p.a.dA p.a.decls.length p.a.dc,tv p.b.label,.slice p.b.uA p.b.uses.length p.b.uc,.slice p.b.dA p.b.decls.length p.b.dc] from Qe g51 B1.out);clear o51 r51;clear p0 p1 p2 p3 p4 p5 p6 p7 p8 g51;obtain ⟨p0,p1,p2,p3,p4,p5,p6,p7,p8⟩:=Zg B2.out;(try rw [QA.out] at p1);(try rw [QB.out] at p2))
     | (at_builtin;refine Qf elT rfl (.tmp 42) (.tmp 51) rfl w1.heap.size (v:=u9) rfl ((F2.out.o (u9,L2) (by simp)).gr (Qc _)) (A:=A51) (M:=(Qw 3 p.label p.b.uses p.a.uses)) (m:=_) (c:=c51) rfl rfl R51.out (by have:=LN.out;have:=MN1.out;simp;omega) ((F2.out.g.trans (Qc _)).size) ?_;intro vb wb o7 g7 b7;have F3:=Qo0 (show FS w0 w1 wb [(va,(L1 ++ ([edU 1 p.label []] : List Edt))),(vb,(L2 ++ (Qw 3 p.label p.b.uses p.a.uses))),(u10,L3),(u11,L4),(u12,L5)] from FS.put (pre:=[(va,(L1 ++ ([edU 1 p.label []] : List Edt)))]) (post:=[(u10,L3),(u11,L4),(u12,L5)]) (v:=u9) (L:=L2) F2.out (Qc _) (fun e he => Xy HP.out.l HP.out.bu e he) o7 g7 b7);have B3:=Qo0 (show HF wb bk #[tv p.label,.bool p.inA,.bool p.inB,tv p.a.label,.slice p.a.uA p.a.uses.length p.a.uc,.slice p.a.dA p.a.decls.length p.a.dc,tv p.b.label,.slice p.b.uA p.b.uses.length p.b.uc,.slice p.b.dA p.b.decls.length p.b.dc] from ((F2.out.o (u9,L2) (by simp)).gr (Qc _)).keepT g7 (by decide) (Qe (Qc _) B2.out));clear p0 p1 p2 p3 p4 p5 p6 p7 p8 o7 g7 b7;obtain ⟨p0,p1,p2,p3,p4,p5,p6,p7,p8⟩:=Zg B3.out;(try rw [QA.out] at p1);(try rw [QB.out] at p2))
     | (go_at_call 24;(with_reducible refine (C24.out _ F3.out.g).mono ?_);rintro e w62 ⟨v62,X,rfl,o62,ed62,er62,g62⟩;obtain ⟨A62,c62,rfl,r62,-⟩:=o62.form2 Edt.cs_len;have R62:=Qo0 r62;have E62:=Qo0 ed62;have Q62:=Qo0 er62;have N62:=Qo0 (show X.length ≤ 600 from by have h1:=congrArg List.length er62;rw [List.length_map] at h1;rw [h1];exact SMP.out.e3);have F4:=Qo0 (F3.out.gr g62);have B4:=Qo0 (show HF w62 bk #[tv p.label,.bool p.inA,.bool p.inB,tv p.a.label,.slice p.a.uA p.a.uses.length p.a.uc,.slice p.a.dA p.a.decls.length p.a.dc,tv p.b.label,.slice p.b.uA p.b.uses.length p.b.uc,.slice p.b.dA p.b.decls.length p.b.dc] from Qe g62 B3.out);clear o62 r62 ed62 er62;clear p0 p1 p2 p3 p4 p5 p6 p7 p8 g62;obtain ⟨p0,p1,p2,p3,p4,p5,p6,p7,p8⟩:=Zg B4.out;(try rw [QA.out] at p1);(try rw [QB.out] at p2))
     | (at_builtin;refine Qf elT rfl (.tmp 53) (.tmp 62) rfl w1.heap.size (v:=u10) rfl ((F4.out.o (u10,L3) (by simp)).gr (Qc _)) (A:=A62) (M:=X) (m:=_) (c:=c62) rfl rfl R62.out (by have:=LN.out;have:=N62.out;simp;omega) ((F4.out.g.trans (Qc _)).size) ?_;intro vc wc o7 g7 b7;have F5:=Qo0 (show FS w0 w1 wc [(va,(L1 ++ ([edU 1 p.label []] : List Edt))),(vb,(L2 ++ (Qw 3 p.label p.b.uses p.a.uses))),(vc,(L3 ++ X)),(u11,L4),(u12,L5)] from FS.put (pre:=[(va,(L1 ++ ([edU 1 p.label []] : List Edt))),(vb,(L2 ++ (Qw 3 p.label p.b.uses p.a.uses)))]) (post:=[(u11,L4),(u12,L5)]) (v:=u10) (L:=L3) F4.out (Qc _) E62.out o7 g7 b7);have B5:=Qo0 (show HF wc bk #[tv p.label,.bool p.inA,.bool p.inB,tv p.a.label,.slice p.a.uA p.a.uses.length p.a.uc,.slice p.a.dA p.a.decls.length p.a.dc,tv p.b.label,.slice p.b.uA p.b.uses.length p.b.uc,.slice p.b.dA p.b.decls.length p.b.dc] from ((F4.out.o (u10,L3) (by simp)).gr (Qc _)).keepT g7 (by decide) (Qe (Qc _) B4.out));clear p0 p1 p2 p3 p4 p5 p6 p7 p8 o7 g7 b7;obtain ⟨p0,p1,p2,p3,p4,p5,p6,p7,p8⟩:=Zg B5.out;(try rw [QA.out] at p1);(try rw [QB.out] at p2))
     | (go_at_call 23;(with_reducible refine (C4.out _ F5.out.g).mono ?_);rintro e w73 ⟨v73,rfl,o73,g73⟩;obtain ⟨A73,c73,rfl,r73,-⟩:=o73.form2 Edt.cs_len;have R73:=Qo0 r73;have F6:=Qo0 (F5.out.gr g73);have B6:=Qo0 (show HF w73 bk #[tv p.label,.bool p.inA,.bool p.inB,tv p.a.label,.slice p.a.uA p.a.uses.length p.a.uc,.slice p.a.dA p.a.decls.length p.a.dc,tv p.b.label,.slice p.b.uA p.b.uses.length p.b.uc,.slice p.b.dA p.b.decls.length p.b.dc] from Qe g73 B5.out);clear o73 r73;clear p0 p1 p2 p3 p4 p5 p6 p7 p8 g73;obtain ⟨p0,p1,p2,p3,p4,p5,p6,p7,p8⟩:=Zg B6.out;(try rw [QA.out] at p1);(try rw [QB.out] at p2))
     | (at_builtin;refine Qf elT rfl (.tmp 64) (.tmp 73) rfl w1.heap.size (v:=u11) rfl ((F6.out.o (u11,L4) (by simp)).gr (Qc _)) (A:=A73) (M:=(Qw 4 p.label p.a.uses p.b.uses)) (m:=_) (c:=c73) rfl rfl R73.out (by have:=LN.out;have:=MN3.out;simp;omega) ((F6.out.g.trans (Qc _)).size) ?_;intro vd wd o7 g7 b7;have F7:=Qo0 (show FS w0 w1 wd [(va,(L1 ++ ([edU 1 p.label []] : List Edt))),(vb,(L2 ++ (Qw 3 p.label p.b.uses p.a.uses))),(vc,(L3 ++ X)),(vd,(L4 ++ (Qw 4 p.label p.a.uses p.b.uses))),(u12,L5)] from FS.put (pre:=[(va,(L1 ++ ([edU 1 p.label []] : List Edt))),(vb,(L2 ++ (Qw 3 p.label p.b.uses p.a.uses))),(vc,(L3 ++ X))]) (post:=[(u12,L5)]) (v:=u11) (L:=L4) F6.out (Qc _) (fun e he => Xy HP.out.l HP.out.au e he) o7 g7 b7);have B7:=Qo0 (show HF wd bk #[tv p.label,.bool p.inA,.bool p.inB,tv p.a.label,.slice p.a.uA p.a.uses.length p.a.uc,.slice p.a.dA p.a.decls.length p.a.dc,tv p.b.label,.slice p.b.uA p.b.uses.length p.b.uc,.slice p.b.dA p.b.decls.length p.b.dc] from ((F6.out.o (u11,L4) (by simp)).gr (Qc _)).keepT g7 (by decide) (Qe (Qc _) B6.out));clear p0 p1 p2 p3 p4 p5 p6 p7 p8 o7 g7 b7;obtain ⟨p0,p1,p2,p3,p4,p5,p6,p7,p8⟩:=Zg B7.out;(try rw [QA.out] at p1);(try rw [QB.out] at p2))
     | (at_builtin;refine Qf elT rfl (.tmp 78) (.tmp 82) rfl w1.heap.size (v:=u12) rfl ((F7.out.o (u12,L5) (by simp)).gr (Qa _ _)) (A:=some ⟨_,0,none⟩) (M:=([edU 2 p.label []] : List Edt)) (m:=1) (c:=1) rfl rfl (Qj (t:=32) Edt.cs_len (Qd _ _)) (by have:=LN.out;have:=MN4.out;simp;omega) ((F7.out.g.trans (Qa _ _)).size) ?_;intro ve we o7 g7 b7;have F8:=Qo0 (show FS w0 w1 we [(va,(L1 ++ ([edU 1 p.label []] : List Edt))),(vb,(L2 ++ (Qw 3 p.label p.b.uses p.a.uses))),(vc,(L3 ++ X)),(vd,(L4 ++ (Qw 4 p.label p.a.uses p.b.uses))),(ve,(L5 ++ ([edU 2 p.label []] : List Edt)))] from FS.put (pre:=[(va,(L1 ++ ([edU 1 p.label []] : List Edt))),(vb,(L2 ++ (Qw 3 p.label p.b.uses p.a.uses))),(vc,(L3 ++ X)),(vd,(L4 ++ (Qw 4 p.label p.a.uses p.b.uses)))]) (post:=[]) (v:=u12) (L:=L5) F7.out (Qa _ _) (fun e he => by rw [List.mem_singleton.1 he];exact Qdv HP.out.l (by simp [sOk])) o7 g7 b7);have B8:=Qo0 (show HF we bk #[tv p.label,.bool p.inA,.bool p.inB,tv p.a.label,.slice p.a.uA p.a.uses.length p.a.uc,.slice p.a.dA p.a.decls.length p.a.dc,tv p.b.label,.slice p.b.uA p.b.uses.length p.b.uc,.slice p.b.dA p.b.decls.length p.b.dc] from ((F7.out.o (u12,L5) (by simp)).gr (Qa _ _)).keepT g7 (by decide) (Qe (Qa _ _) B7.out));clear p0 p1 p2 p3 p4 p5 p6 p7 p8 o7 g7 b7;obtain ⟨p0,p1,p2,p3,p4,p5,p6,p7,p8⟩:=Zg B8.out;(try rw [QA.out] at p1);(try rw [QB.out] at p2)))
    exact ⟨⟨j + 1,by omega,by simp,(L1 ++ ([edU 1 p.label []] : List Edt)),(L2 ++ (Qw 3 p.label p.b.uses p.a.uses)),(L3 ++ X),(L4 ++ (Qw 4 p.label p.a.uses p.b.uses)),(L5 ++ ([edU 2 p.label []] : List Edt)),Qo0 ⟨F8.out,by
     have h:=FE.step (M1:=[edU 1 p.label []]) (M2:=(Qw 3 p.label p.b.uses p.a.uses)) (M3:=X) (M4:=(Qw 4 p.label p.a.uses p.b.uses)) (M5:=[edU 2 p.label []]) HI.out.2 HPJ.out (by simp [Yx,Bth.er,QA.out,Edt.er,edU]) (Xx _ _ _ _) Q62.out (Xx _ _ _ _) (by simp [Yr,Bth.er,QB.out,Edt.er,edU])
     simpa using h⟩⟩,by simp [intOf];omega⟩
   ·have QA:=Qo0 qa
    have QB:=Qo0 qb
    clear qa qb
    obtain ⟨p0,p1,p2,p3,p4,p5,p6,p7,p8⟩:=Zg B0.out
    (try rw [QA.out] at p1)
    (try rw [QB.out] at p2)
    go_wp2_with (first
     | (at_builtin;refine Qf elT rfl (.tmp 36) (.tmp 40) rfl w1.heap.size (v:=u8) rfl ((F0.out.o (u8,L1) (by simp)).gr (Qa _ _)) (A:=some ⟨_,0,none⟩) (M:=([edU 1 p.label []] : List Edt)) (m:=1) (c:=1) rfl rfl (Qj (t:=32) Edt.cs_len (Qd _ _)) (by have:=LN.out;have:=MN0.out;simp;omega) ((F0.out.g.trans (Qa _ _)).size) ?_;intro va wa o7 g7 b7;have F1:=Qo0 (show FS w0 w1 wa [(va,(L1 ++ ([edU 1 p.label []] : List Edt))),(u9,L2),(u10,L3),(u11,L4),(u12,L5)] from FS.put (pre:=[]) (post:=[(u9,L2),(u10,L3),(u11,L4),(u12,L5)]) (v:=u8) (L:=L1) F0.out (Qa _ _) (fun e he => by rw [List.mem_singleton.1 he];exact Qdv HP.out.l (by simp [sOk])) o7 g7 b7);have B1:=Qo0 (show HF wa bk #[tv p.label,.bool p.inA,.bool p.inB,tv p.a.label,.slice p.a.uA p.a.uses.length p.a.uc,.slice p.a.dA p.a.decls.length p.a.dc,tv p.b.label,.slice p.b.uA p.b.uses.length p.b.uc,.slice p.b.dA p.b.decls.length p.b.dc] from ((F0.out.o (u8,L1) (by simp)).gr (Qa _ _)).keepT g7 (by decide) (Qe (Qa _ _) B0.out));clear p0 p1 p2 p3 p4 p5 p6 p7 p8 o7 g7 b7;obtain ⟨p0,p1,p2,p3,p4,p5,p6,p7,p8⟩:=Zg B1.out;(try rw [QA.out] at p1);(try rw [QB.out] at p2))
     | (go_at_call 23;(with_reducible refine (C3.out _ F1.out.g).mono ?_);rintro e w51 ⟨v51,rfl,o51,g51⟩;obtain ⟨A51,c51,rfl,r51,-⟩:=o51.form2 Edt.cs_len;have R51:=Qo0 r51;have F2:=Qo0 (F1.out.gr g51);have B2:=Qo0 (show HF w51 bk #[tv p.label,.bool p.inA,.bool p.inB,tv p.a.label,.slice p.a.uA p.a.uses.length p.a.uc,.slice p.a.dA p.a.decls.length p.a.dc,tv p.b.label,.slice p.b.uA p.b.uses.length p.b.uc,.slice p.b.dA p.b.decls.length p.b.dc] from Qe g51 B1.out);clear o51 r51;clear p0 p1 p2 p3 p4 p5 p6 p7 p8 g51;obtain ⟨p0,p1,p2,p3,p4,p5,p6,p7,p8⟩:=Zg B2.out;(try rw [QA.out] at p1);(try rw [QB.out] at p2))
     | (at_builtin;refine Qf elT rfl (.tmp 42) (.tmp 51) rfl w1.heap.size (v:=u9) rfl ((F2.out.o (u9,L2) (by simp)).gr (Qc _)) (A:=A51) (M:=(Qw 3 p.label p.b.uses p.a.uses)) (m:=_) (c:=c51) rfl rfl R51.out (by have:=LN.out;have:=MN1.out;simp;omega) ((F2.out.g.trans (Qc _)).size) ?_;intro vb wb o7 g7 b7;have F3:=Qo0 (show FS w0 w1 wb [(va,(L1 ++ ([edU 1 p.label []] : List Edt))),(vb,(L2 ++ (Qw 3 p.label p.b.uses p.a.uses))),(u10,L3),(u11,L4),(u12,L5)] from FS.put (pre:=[(va,(L1 ++ ([edU 1 p.label []] : List Edt)))]) (post:=[(u10,L3),(u11,L4),(u12,L5)]) (v:=u9) (L:=L2) F2.out (Qc _) (fun e he => Xy HP.out.l HP.out.bu e he) o7 g7 b7);have B3:=Qo0 (show HF wb bk #[tv p.label,.bool p.inA,.bool p.inB,tv p.a.label,.slice p.a.uA p.a.uses.length p.a.uc,.slice p.a.dA p.a.decls.length p.a.dc,tv p.b.label,.slice p.b.uA p.b.uses.length p.b.uc,.slice p.b.dA p.b.decls.length p.b.dc] from ((F2.out.o (u9,L2) (by simp)).gr (Qc _)).keepT g7 (by decide) (Qe (Qc _) B2.out));clear p0 p1 p2 p3 p4 p5 p6 p7 p8 o7 g7 b7;obtain ⟨p0,p1,p2,p3,p4,p5,p6,p7,p8⟩:=Zg B3.out;(try rw [QA.out] at p1);(try rw [QB.out] at p2))
     | (go_at_call 24;(with_reducible refine (C24.out _ F3.out.g).mono ?_);rintro e w62 ⟨v62,X,rfl,o62,ed62,er62,g62⟩;obtain ⟨A62,c62,rfl,r62,-⟩:=o62.form2 Edt.cs_len;have R62:=Qo0 r62;have E62:=Qo0 ed62;have Q62:=Qo0 er62;have N62:=Qo0 (show X.length ≤ 600 from by have h1:=congrArg List.length er62;rw [List.length_map] at h1;rw [h1];exact SMP.out.e3);have F4:=Qo0 (F3.out.gr g62);have B4:=Qo0 (show HF w62 bk #[tv p.label,.bool p.inA,.bool p.inB,tv p.a.label,.slice p.a.uA p.a.uses.length p.a.uc,.slice p.a.dA p.a.decls.length p.a.dc,tv p.b.label,.slice p.b.uA p.b.uses.length p.b.uc,.slice p.b.dA p.b.decls.length p.b.dc] from Qe g62 B3.out);clear o62 r62 ed62 er62;clear p0 p1 p2 p3 p4 p5 p6 p7 p8 g62;obtain ⟨p0,p1,p2,p3,p4,p5,p6,p7,p8⟩:=Zg B4.out;(try rw [QA.out] at p1);(try rw [QB.out] at p2))
     | (at_builtin;refine Qf elT rfl (.tmp 53) (.tmp 62) rfl w1.heap.size (v:=u10) rfl ((F4.out.o (u10,L3) (by simp)).gr (Qc _)) (A:=A62) (M:=X) (m:=_) (c:=c62) rfl rfl R62.out (by have:=LN.out;have:=N62.out;simp;omega) ((F4.out.g.trans (Qc _)).size) ?_;intro vc wc o7 g7 b7;have F5:=Qo0 (show FS w0 w1 wc [(va,(L1 ++ ([edU 1 p.label []] : List Edt))),(vb,(L2 ++ (Qw 3 p.label p.b.uses p.a.uses))),(vc,(L3 ++ X)),(u11,L4),(u12,L5)] from FS.put (pre:=[(va,(L1 ++ ([edU 1 p.label []] : List Edt))),(vb,(L2 ++ (Qw 3 p.label p.b.uses p.a.uses)))]) (post:=[(u11,L4),(u12,L5)]) (v:=u10) (L:=L3) F4.out (Qc _) E62.out o7 g7 b7);have B5:=Qo0 (show HF wc bk #[tv p.label,.bool p.inA,.bool p.inB,tv p.a.label,.slice p.a.uA p.a.uses.length p.a.uc,.slice p.a.dA p.a.decls.length p.a.dc,tv p.b.label,.slice p.b.uA p.b.uses.length p.b.uc,.slice p.b.dA p.b.decls.length p.b.dc] from ((F4.out.o (u10,L3) (by simp)).gr (Qc _)).keepT g7 (by decide) (Qe (Qc _) B4.out));clear p0 p1 p2 p3 p4 p5 p6 p7 p8 o7 g7 b7;obtain ⟨p0,p1,p2,p3,p4,p5,p6,p7,p8⟩:=Zg B5.out;(try rw [QA.out] at p1);(try rw [QB.out] at p2))
     | (go_at_call 23;(with_reducible refine (C4.out _ F5.out.g).mono ?_);rintro e w73 ⟨v73,rfl,o73,g73⟩;obtain ⟨A73,c73,rfl,r73,-⟩:=o73.form2 Edt.cs_len;have R73:=Qo0 r73;have F6:=Qo0 (F5.out.gr g73);have B6:=Qo0 (show HF w73 bk #[tv p.label,.bool p.inA,.bool p.inB,tv p.a.label,.slice p.a.uA p.a.uses.length p.a.uc,.slice p.a.dA p.a.decls.length p.a.dc,tv p.b.label,.slice p.b.uA p.b.uses.length p.b.uc,.slice p.b.dA p.b.decls.length p.b.dc] from Qe g73 B5.out);clear o73 r73;clear p0 p1 p2 p3 p4 p5 p6 p7 p8 g73;obtain ⟨p0,p1,p2,p3,p4,p5,p6,p7,p8⟩:=Zg B6.out;(try rw [QA.out] at p1);(try rw [QB.out] at p2))
     | (at_builtin;refine Qf elT rfl (.tmp 64) (.tmp 73) rfl w1.heap.size (v:=u11) rfl ((F6.out.o (u11,L4) (by simp)).gr (Qc _)) (A:=A73) (M:=(Qw 4 p.label p.a.uses p.b.uses)) (m:=_) (c:=c73) rfl rfl R73.out (by have:=LN.out;have:=MN3.out;simp;omega) ((F6.out.g.trans (Qc _)).size) ?_;intro vd wd o7 g7 b7;have F7:=Qo0 (show FS w0 w1 wd [(va,(L1 ++ ([edU 1 p.label []] : List Edt))),(vb,(L2 ++ (Qw 3 p.label p.b.uses p.a.uses))),(vc,(L3 ++ X)),(vd,(L4 ++ (Qw 4 p.label p.a.uses p.b.uses))),(u12,L5)] from FS.put (pre:=[(va,(L1 ++ ([edU 1 p.label []] : List Edt))),(vb,(L2 ++ (Qw 3 p.label p.b.uses p.a.uses))),(vc,(L3 ++ X))]) (post:=[(u12,L5)]) (v:=u11) (L:=L4) F6.out (Qc _) (fun e he => Xy HP.out.l HP.out.au e he) o7 g7 b7);have B7:=Qo0 (show HF wd bk #[tv p.label,.bool p.inA,.bool p.inB,tv p.a.label,.slice p.a.uA p.a.uses.length p.a.uc,.slice p.a.dA p.a.decls.length p.a.dc,tv p.b.label,.slice p.b.uA p.b.uses.length p.b.uc,.slice p.b.dA p.b.decls.length p.b.dc] from ((F6.out.o (u11,L4) (by simp)).gr (Qc _)).keepT g7 (by decide) (Qe (Qc _) B6.out));clear p0 p1 p2 p3 p4 p5 p6 p7 p8 o7 g7 b7;obtain ⟨p0,p1,p2,p3,p4,p5,p6,p7,p8⟩:=Zg B7.out;(try rw [QA.out] at p1);(try rw [QB.out] at p2)))
    exact ⟨⟨j + 1,by omega,by simp,(L1 ++ ([edU 1 p.label []] : List Edt)),(L2 ++ (Qw 3 p.label p.b.uses p.a.uses)),(L3 ++ X),(L4 ++ (Qw 4 p.label p.a.uses p.b.uses)),L5,Qo0 ⟨F7.out,by
     have h:=FE.step (M1:=[edU 1 p.label []]) (M2:=(Qw 3 p.label p.b.uses p.a.uses)) (M3:=X) (M4:=(Qw 4 p.label p.a.uses p.b.uses)) (M5:=[]) HI.out.2 HPJ.out (by simp [Yx,Bth.er,QA.out,Edt.er,edU]) (Xx _ _ _ _) Q62.out (Xx _ _ _ _) (by simp [Yr,Bth.er,QB.out])
     simpa using h⟩⟩,by simp [intOf];omega⟩
   ·have QA:=Qo0 qa
    have QB:=Qo0 qb
    clear qa qb
    obtain ⟨p0,p1,p2,p3,p4,p5,p6,p7,p8⟩:=Zg B0.out
    (try rw [QA.out] at p1)
    (try rw [QB.out] at p2)
    go_wp2_with (first
     | (go_at_call 23;(with_reducible refine (C3.out _ F0.out.g).mono ?_);rintro e w51 ⟨v51,rfl,o51,g51⟩;obtain ⟨A51,c51,rfl,r51,-⟩:=o51.form2 Edt.cs_len;have R51:=Qo0 r51;have F1:=Qo0 (F0.out.gr g51);have B1:=Qo0 (show HF w51 bk #[tv p.label,.bool p.inA,.bool p.inB,tv p.a.label,.slice p.a.uA p.a.uses.length p.a.uc,.slice p.a.dA p.a.decls.length p.a.dc,tv p.b.label,.slice p.b.uA p.b.uses.length p.b.uc,.slice p.b.dA p.b.decls.length p.b.dc] from Qe g51 B0.out);clear o51 r51;clear p0 p1 p2 p3 p4 p5 p6 p7 p8 g51;obtain ⟨p0,p1,p2,p3,p4,p5,p6,p7,p8⟩:=Zg B1.out;(try rw [QA.out] at p1);(try rw [QB.out] at p2))
     | (at_builtin;refine Qf elT rfl (.tmp 42) (.tmp 51) rfl w1.heap.size (v:=u9) rfl ((F1.out.o (u9,L2) (by simp)).gr (Qc _)) (A:=A51) (M:=(Qw 3 p.label p.b.uses p.a.uses)) (m:=_) (c:=c51) rfl rfl R51.out (by have:=LN.out;have:=MN1.out;simp;omega) ((F1.out.g.trans (Qc _)).size) ?_;intro vb wb o7 g7 b7;have F2:=Qo0 (show FS w0 w1 wb [(u8,L1),(vb,(L2 ++ (Qw 3 p.label p.b.uses p.a.uses))),(u10,L3),(u11,L4),(u12,L5)] from FS.put (pre:=[(u8,L1)]) (post:=[(u10,L3),(u11,L4),(u12,L5)]) (v:=u9) (L:=L2) F1.out (Qc _) (fun e he => Xy HP.out.l HP.out.bu e he) o7 g7 b7);have B2:=Qo0 (show HF wb bk #[tv p.label,.bool p.inA,.bool p.inB,tv p.a.label,.slice p.a.uA p.a.uses.length p.a.uc,.slice p.a.dA p.a.decls.length p.a.dc,tv p.b.label,.slice p.b.uA p.b.uses.length p.b.uc,.slice p.b.dA p.b.decls.length p.b.dc] from ((F1.out.o (u9,L2) (by simp)).gr (Qc _)).keepT g7 (by decide) (Qe (Qc _) B1.out));clear p0 p1 p2 p3 p4 p5 p6 p7 p8 o7 g7 b7;obtain ⟨p0,p1,p2,p3,p4,p5,p6,p7,p8⟩:=Zg B2.out;(try rw [QA.out] at p1);(try rw [QB.out] at p2))
     | (go_at_call 24;(with_reducible refine (C24.out _ F2.out.g).mono ?_);rintro e w62 ⟨v62,X,rfl,o62,ed62,er62,g62⟩;obtain ⟨A62,c62,rfl,r62,-⟩:=o62.form2 Edt.cs_len;have R62:=Qo0 r62;have E62:=Qo0 ed62;have Q62:=Qo0 er62;have N62:=Qo0 (show X.length ≤ 600 from by have h1:=congrArg List.length er62;rw [List.length_map] at h1;rw [h1];exact SMP.out.e3);have F3:=Qo0 (F2.out.gr g62);have B3:=Qo0 (show HF w62 bk #[tv p.label,.bool p.inA,.bool p.inB,tv p.a.label,.slice p.a.uA p.a.uses.length p.a.uc,.slice p.a.dA p.a.decls.length p.a.dc,tv p.b.label,.slice p.b.uA p.b.uses.length p.b.uc,.slice p.b.dA p.b.decls.length p.b.dc] from Qe g62 B2.out);clear o62 r62 ed62 er62;clear p0 p1 p2 p3 p4 p5 p6 p7 p8 g62;obtain ⟨p0,p1,p2,p3,p4,p5,p6,p7,p8⟩:=Zg B3.out;(try rw [QA.out] at p1);(try rw [QB.out] at p2))
     | (at_builtin;refine Qf elT rfl (.tmp 53) (.tmp 62) rfl w1.heap.size (v:=u10) rfl ((F3.out.o (u10,L3) (by simp)).gr (Qc _)) (A:=A62) (M:=X) (m:=_) (c:=c62) rfl rfl R62.out (by have:=LN.out;have:=N62.out;simp;omega) ((F3.out.g.trans (Qc _)).size) ?_;intro vc wc o7 g7 b7;have F4:=Qo0 (show FS w0 w1 wc [(u8,L1),(vb,(L2 ++ (Qw 3 p.label p.b.uses p.a.uses))),(vc,(L3 ++ X)),(u11,L4),(u12,L5)] from FS.put (pre:=[(u8,L1),(vb,(L2 ++ (Qw 3 p.label p.b.uses p.a.uses)))]) (post:=[(u11,L4),(u12,L5)]) (v:=u10) (L:=L3) F3.out (Qc _) E62.out o7 g7 b7);have B4:=Qo0 (show HF wc bk #[tv p.label,.bool p.inA,.bool p.inB,tv p.a.label,.slice p.a.uA p.a.uses.length p.a.uc,.slice p.a.dA p.a.decls.length p.a.dc,tv p.b.label,.slice p.b.uA p.b.uses.length p.b.uc,.slice p.b.dA p.b.decls.length p.b.dc] from ((F3.out.o (u10,L3) (by simp)).gr (Qc _)).keepT g7 (by decide) (Qe (Qc _) B3.out));clear p0 p1 p2 p3 p4 p5 p6 p7 p8 o7 g7 b7;obtain ⟨p0,p1,p2,p3,p4,p5,p6,p7,p8⟩:=Zg B4.out;(try rw [QA.out] at p1);(try rw [QB.out] at p2))
     | (go_at_call 23;(with_reducible refine (C4.out _ F4.out.g).mono ?_);rintro e w73 ⟨v73,rfl,o73,g73⟩;obtain ⟨A73,c73,rfl,r73,-⟩:=o73.form2 Edt.cs_len;have R73:=Qo0 r73;have F5:=Qo0 (F4.out.gr g73);have B5:=Qo0 (show HF w73 bk #[tv p.label,.bool p.inA,.bool p.inB,tv p.a.label,.slice p.a.uA p.a.uses.length p.a.uc,.slice p.a.dA p.a.decls.length p.a.dc,tv p.b.label,.slice p.b.uA p.b.uses.length p.b.uc,.slice p.b.dA p.b.decls.length p.b.dc] from Qe g73 B4.out);clear o73 r73;clear p0 p1 p2 p3 p4 p5 p6 p7 p8 g73;obtain ⟨p0,p1,p2,p3,p4,p5,p6,p7,p8⟩:=Zg B5.out;(try rw [QA.out] at p1);(try rw [QB.out] at p2))
     | (at_builtin;refine Qf elT rfl (.tmp 64) (.tmp 73) rfl w1.heap.size (v:=u11) rfl ((F5.out.o (u11,L4) (by simp)).gr (Qc _)) (A:=A73) (M:=(Qw 4 p.label p.a.uses p.b.uses)) (m:=_) (c:=c73) rfl rfl R73.out (by have:=LN.out;have:=MN3.out;simp;omega) ((F5.out.g.trans (Qc _)).size) ?_;intro vd wd o7 g7 b7;have F6:=Qo0 (show FS w0 w1 wd [(u8,L1),(vb,(L2 ++ (Qw 3 p.label p.b.uses p.a.uses))),(vc,(L3 ++ X)),(vd,(L4 ++ (Qw 4 p.label p.a.uses p.b.uses))),(u12,L5)] from FS.put (pre:=[(u8,L1),(vb,(L2 ++ (Qw 3 p.label p.b.uses p.a.uses))),(vc,(L3 ++ X))]) (post:=[(u12,L5)]) (v:=u11) (L:=L4) F5.out (Qc _) (fun e he => Xy HP.out.l HP.out.au e he) o7 g7 b7);have B6:=Qo0 (show HF wd bk #[tv p.label,.bool p.inA,.bool p.inB,tv p.a.label,.slice p.a.uA p.a.uses.length p.a.uc,.slice p.a.dA p.a.decls.length p.a.dc,tv p.b.label,.slice p.b.uA p.b.uses.length p.b.uc,.slice p.b.dA p.b.decls.length p.b.dc] from ((F5.out.o (u11,L4) (by simp)).gr (Qc _)).keepT g7 (by decide) (Qe (Qc _) B5.out));clear p0 p1 p2 p3 p4 p5 p6 p7 p8 o7 g7 b7;obtain ⟨p0,p1,p2,p3,p4,p5,p6,p7,p8⟩:=Zg B6.out;(try rw [QA.out] at p1);(try rw [QB.out] at p2))
     | (at_builtin;refine Qf elT rfl (.tmp 78) (.tmp 82) rfl w1.heap.size (v:=u12) rfl ((F6.out.o (u12,L5) (by simp)).gr (Qa _ _)) (A:=some ⟨_,0,none⟩) (M:=([edU 2 p.label []] : List Edt)) (m:=1) (c:=1) rfl rfl (Qj (t:=32) Edt.cs_len (Qd _ _)) (by have:=LN.out;have:=MN4.out;simp;omega) ((F6.out.g.trans (Qa _ _)).size) ?_;intro ve we o7 g7 b7;have F7:=Qo0 (show FS w0 w1 we [(u8,L1),(vb,(L2 ++ (Qw 3 p.label p.b.uses p.a.uses))),(vc,(L3 ++ X)),(vd,(L4 ++ (Qw 4 p.label p.a.uses p.b.uses))),(ve,(L5 ++ ([edU 2 p.label []] : List Edt)))] from FS.put (pre:=[(u8,L1),(vb,(L2 ++ (Qw 3 p.label p.b.uses p.a.uses))),(vc,(L3 ++ X)),(vd,(L4 ++ (Qw 4 p.label p.a.uses p.b.uses)))]) (post:=[]) (v:=u12) (L:=L5) F6.out (Qa _ _) (fun e he => by rw [List.mem_singleton.1 he];exact Qdv HP.out.l (by simp [sOk])) o7 g7 b7);have B7:=Qo0 (show HF we bk #[tv p.label,.bool p.inA,.bool p.inB,tv p.a.label,.slice p.a.uA p.a.uses.length p.a.uc,.slice p.a.dA p.a.decls.length p.a.dc,tv p.b.label,.slice p.b.uA p.b.uses.length p.b.uc,.slice p.b.dA p.b.decls.length p.b.dc] from ((F6.out.o (u12,L5) (by simp)).gr (Qa _ _)).keepT g7 (by decide) (Qe (Qa _ _) B6.out));clear p0 p1 p2 p3 p4 p5 p6 p7 p8 o7 g7 b7;obtain ⟨p0,p1,p2,p3,p4,p5,p6,p7,p8⟩:=Zg B7.out;(try rw [QA.out] at p1);(try rw [QB.out] at p2)))
    exact ⟨⟨j + 1,by omega,by simp,L1,(L2 ++ (Qw 3 p.label p.b.uses p.a.uses)),(L3 ++ X),(L4 ++ (Qw 4 p.label p.a.uses p.b.uses)),(L5 ++ ([edU 2 p.label []] : List Edt)),Qo0 ⟨F7.out,by
     have h:=FE.step (M1:=[]) (M2:=(Qw 3 p.label p.b.uses p.a.uses)) (M3:=X) (M4:=(Qw 4 p.label p.a.uses p.b.uses)) (M5:=[edU 2 p.label []]) HI.out.2 HPJ.out (by simp [Yx,Bth.er,QA.out]) (Xx _ _ _ _) Q62.out (Xx _ _ _ _) (by simp [Yr,Bth.er,QB.out,Edt.er,edU])
     simpa using h⟩⟩,by simp [intOf];omega⟩
   ·have QA:=Qo0 qa
    have QB:=Qo0 qb
    clear qa qb
    obtain ⟨p0,p1,p2,p3,p4,p5,p6,p7,p8⟩:=Zg B0.out
    (try rw [QA.out] at p1)
    (try rw [QB.out] at p2)
    go_wp2_with (first
     | (go_at_call 23;(with_reducible refine (C3.out _ F0.out.g).mono ?_);rintro e w51 ⟨v51,rfl,o51,g51⟩;obtain ⟨A51,c51,rfl,r51,-⟩:=o51.form2 Edt.cs_len;have R51:=Qo0 r51;have F1:=Qo0 (F0.out.gr g51);have B1:=Qo0 (show HF w51 bk #[tv p.label,.bool p.inA,.bool p.inB,tv p.a.label,.slice p.a.uA p.a.uses.length p.a.uc,.slice p.a.dA p.a.decls.length p.a.dc,tv p.b.label,.slice p.b.uA p.b.uses.length p.b.uc,.slice p.b.dA p.b.decls.length p.b.dc] from Qe g51 B0.out);clear o51 r51;clear p0 p1 p2 p3 p4 p5 p6 p7 p8 g51;obtain ⟨p0,p1,p2,p3,p4,p5,p6,p7,p8⟩:=Zg B1.out;(try rw [QA.out] at p1);(try rw [QB.out] at p2))
     | (at_builtin;refine Qf elT rfl (.tmp 42) (.tmp 51) rfl w1.heap.size (v:=u9) rfl ((F1.out.o (u9,L2) (by simp)).gr (Qc _)) (A:=A51) (M:=(Qw 3 p.label p.b.uses p.a.uses)) (m:=_) (c:=c51) rfl rfl R51.out (by have:=LN.out;have:=MN1.out;simp;omega) ((F1.out.g.trans (Qc _)).size) ?_;intro vb wb o7 g7 b7;have F2:=Qo0 (show FS w0 w1 wb [(u8,L1),(vb,(L2 ++ (Qw 3 p.label p.b.uses p.a.uses))),(u10,L3),(u11,L4),(u12,L5)] from FS.put (pre:=[(u8,L1)]) (post:=[(u10,L3),(u11,L4),(u12,L5)]) (v:=u9) (L:=L2) F1.out (Qc _) (fun e he => Xy HP.out.l HP.out.bu e he) o7 g7 b7);have B2:=Qo0 (show HF wb bk #[tv p.label,.bool p.inA,.bool p.inB,tv p.a.label,.slice p.a.uA p.a.uses.length p.a.uc,.slice p.a.dA p.a.decls.length p.a.dc,tv p.b.label,.slice p.b.uA p.b.uses.length p.b.uc,.slice p.b.dA p.b.decls.length p.b.dc] from ((F1.out.o (u9,L2) (by simp)).gr (Qc _)).keepT g7 (by decide) (Qe (Qc _) B1.out));clear p0 p1 p2 p3 p4 p5 p6 p7 p8 o7 g7 b7;obtain ⟨p0,p1,p2,p3,p4,p5,p6,p7,p8⟩:=Zg B2.out;(try rw [QA.out] at p1);(try rw [QB.out] at p2))
     | (go_at_call 24;(with_reducible refine (C24.out _ F2.out.g).mono ?_);rintro e w62 ⟨v62,X,rfl,o62,ed62,er62,g62⟩;obtain ⟨A62,c62,rfl,r62,-⟩:=o62.form2 Edt.cs_len;have R62:=Qo0 r62;have E62:=Qo0 ed62;have Q62:=Qo0 er62;have N62:=Qo0 (show X.length ≤ 600 from by have h1:=congrArg List.length er62;rw [List.length_map] at h1;rw [h1];exact SMP.out.e3);have F3:=Qo0 (F2.out.gr g62);have B3:=Qo0 (show HF w62 bk #[tv p.label,.bool p.inA,.bool p.inB,tv p.a.label,.slice p.a.uA p.a.uses.length p.a.uc,.slice p.a.dA p.a.decls.length p.a.dc,tv p.b.label,.slice p.b.uA p.b.uses.length p.b.uc,.slice p.b.dA p.b.decls.length p.b.dc] from Qe g62 B2.out);clear o62 r62 ed62 er62;clear p0 p1 p2 p3 p4 p5 p6 p7 p8 g62;obtain ⟨p0,p1,p2,p3,p4,p5,p6,p7,p8⟩:=Zg B3.out;(try rw [QA.out] at p1);(try rw [QB.out] at p2))
     | (at_builtin;refine Qf elT rfl (.tmp 53) (.tmp 62) rfl w1.heap.size (v:=u10) rfl ((F3.out.o (u10,L3) (by simp)).gr (Qc _)) (A:=A62) (M:=X) (m:=_) (c:=c62) rfl rfl R62.out (by have:=LN.out;have:=N62.out;simp;omega) ((F3.out.g.trans (Qc _)).size) ?_;intro vc wc o7 g7 b7;have F4:=Qo0 (show FS w0 w1 wc [(u8,L1),(vb,(L2 ++ (Qw 3 p.label p.b.uses p.a.uses))),(vc,(L3 ++ X)),(u11,L4),(u12,L5)] from FS.put (pre:=[(u8,L1),(vb,(L2 ++ (Qw 3 p.label p.b.uses p.a.uses)))]) (post:=[(u11,L4),(u12,L5)]) (v:=u10) (L:=L3) F3.out (Qc _) E62.out o7 g7 b7);have B4:=Qo0 (show HF wc bk #[tv p.label,.bool p.inA,.bool p.inB,tv p.a.label,.slice p.a.uA p.a.uses.length p.a.uc,.slice p.a.dA p.a.decls.length p.a.dc,tv p.b.label,.slice p.b.uA p.b.uses.length p.b.uc,.slice p.b.dA p.b.decls.length p.b.dc] from ((F3.out.o (u10,L3) (by simp)).gr (Qc _)).keepT g7 (by decide) (Qe (Qc _) B3.out));clear p0 p1 p2 p3 p4 p5 p6 p7 p8 o7 g7 b7;obtain ⟨p0,p1,p2,p3,p4,p5,p6,p7,p8⟩:=Zg B4.out;(try rw [QA.out] at p1);(try rw [QB.out] at p2))
     | (go_at_call 23;(with_reducible refine (C4.out _ F4.out.g).mono ?_);rintro e w73 ⟨v73,rfl,o73,g73⟩;obtain ⟨A73,c73,rfl,r73,-⟩:=o73.form2 Edt.cs_len;have R73:=Qo0 r73;have F5:=Qo0 (F4.out.gr g73);have B5:=Qo0 (show HF w73 bk #[tv p.label,.bool p.inA,.bool p.inB,tv p.a.label,.slice p.a.uA p.a.uses.length p.a.uc,.slice p.a.dA p.a.decls.length p.a.dc,tv p.b.label,.slice p.b.uA p.b.uses.length p.b.uc,.slice p.b.dA p.b.decls.length p.b.dc] from Qe g73 B4.out);clear o73 r73;clear p0 p1 p2 p3 p4 p5 p6 p7 p8 g73;obtain ⟨p0,p1,p2,p3,p4,p5,p6,p7,p8⟩:=Zg B5.out;(try rw [QA.out] at p1);(try rw [QB.out] at p2))
     | (at_builtin;refine Qf elT rfl (.tmp 64) (.tmp 73) rfl w1.heap.size (v:=u11) rfl ((F5.out.o (u11,L4) (by simp)).gr (Qc _)) (A:=A73) (M:=(Qw 4 p.label p.a.uses p.b.uses)) (m:=_) (c:=c73) rfl rfl R73.out (by have:=LN.out;have:=MN3.out;simp;omega) ((F5.out.g.trans (Qc _)).size) ?_;intro vd wd o7 g7 b7;have F6:=Qo0 (show FS w0 w1 wd [(u8,L1),(vb,(L2 ++ (Qw 3 p.label p.b.uses p.a.uses))),(vc,(L3 ++ X)),(vd,(L4 ++ (Qw 4 p.label p.a.uses p.b.uses))),(u12,L5)] from FS.put (pre:=[(u8,L1),(vb,(L2 ++ (Qw 3 p.label p.b.uses p.a.uses))),(vc,(L3 ++ X))]) (post:=[(u12,L5)]) (v:=u11) (L:=L4) F5.out (Qc _) (fun e he => Xy HP.out.l HP.out.au e he) o7 g7 b7);have B6:=Qo0 (show HF wd bk #[tv p.label,.bool p.inA,.bool p.inB,tv p.a.label,.slice p.a.uA p.a.uses.length p.a.uc,.slice p.a.dA p.a.decls.length p.a.dc,tv p.b.label,.slice p.b.uA p.b.uses.length p.b.uc,.slice p.b.dA p.b.decls.length p.b.dc] from ((F5.out.o (u11,L4) (by simp)).gr (Qc _)).keepT g7 (by decide) (Qe (Qc _) B5.out));clear p0 p1 p2 p3 p4 p5 p6 p7 p8 o7 g7 b7;obtain ⟨p0,p1,p2,p3,p4,p5,p6,p7,p8⟩:=Zg B6.out;(try rw [QA.out] at p1);(try rw [QB.out] at p2)))
    exact ⟨⟨j + 1,by omega,by simp,L1,(L2 ++ (Qw 3 p.label p.b.uses p.a.uses)),(L3 ++ X),(L4 ++ (Qw 4 p.label p.a.uses p.b.uses)),L5,Qo0 ⟨F6.out,by
     have h:=FE.step (M1:=[]) (M2:=(Qw 3 p.label p.b.uses p.a.uses)) (M3:=X) (M4:=(Qw 4 p.label p.a.uses p.b.uses)) (M5:=[]) HI.out.2 HPJ.out (by simp [Yx,Bth.er,QA.out]) (Xx _ _ _ _) Q62.out (Xx _ _ _ _) (by simp [Yr,Bth.er,QB.out])
     simpa using h⟩⟩,by simp [intOf];omega⟩
  ·obtain rfl : j = n:=by omega
   have hnj : ¬ (j : Int) < (j : Int):=by omega
   have FO:=HI.out.1.o
   obtain ⟨A1,c1,rfl,r1,-⟩:=(show OR 32 5 Edt.cs wr w1.heap.size u8 L1 from FO (u8,L1) (by simp)).form2 Edt.cs_len
   obtain ⟨A2,c2,rfl,r2,-⟩:=(show OR 32 5 Edt.cs wr w1.heap.size u9 L2 from FO (u9,L2) (by simp)).form2 Edt.cs_len
   obtain ⟨A3,c3,rfl,r3,-⟩:=(show OR 32 5 Edt.cs wr w1.heap.size u10 L3 from FO (u10,L3) (by simp)).form2 Edt.cs_len
   obtain ⟨A4,c4,rfl,r4,-⟩:=(show OR 32 5 Edt.cs wr w1.heap.size u11 L4 from FO (u11,L4) (by simp)).form2 Edt.cs_len
   obtain ⟨A5,c5,rfl,r5,-⟩:=(show OR 32 5 Edt.cs wr w1.heap.size u12 L5 from FO (u12,L5) (by simp)).form2 Edt.cs_len
   obtain ⟨S,hS⟩ : ∃ S : List SLT,S = [⟨A1,c1,L1⟩,⟨A2,c2,L2⟩,⟨A3,c3,L3⟩,⟨A4,c4,L4⟩,⟨A5,c5,L5⟩]:=⟨_,rfl⟩
   have CS:=Qo0 (show Xe S = L1 ++ (L2 ++ (L3 ++ (L4 ++ L5))) from by rw [hS];simp [Xe])
   obtain ⟨W0,hW0⟩ : ∃ W0,wr.alloc (.cells #[.slice A1 L1.length c1,.slice A2 L2.length c2,.slice A3 L3.length c3,.slice A4 L4.length c4,.slice A5 L5.length c5] 25) = W0:=⟨_,rfl⟩
   have G0:=Qo0 (show Gr wr W0 from by rw [← hW0];exact Qa _ _)
   have C25:=Qo0 (show Calls Tryz.prog 25 #[.slice (some ⟨wr.heap.size,0,none⟩) 5 5] W0 _ from by
    have h:=Qhq (some ⟨wr.heap.size,0,none⟩) 5 S W0 (Qj (t:=25) (fun s => rfl) (by rw [← hW0,hS];exact Qd _ _)) (by rw [hS];simp) (by rw [CS.out];have:=LN.out;simp;omega) (by
     intro s hs
     rw [hS] at hs
     simp only [List.mem_cons,List.not_mem_nil,or_false] at hs
     rcases hs with rfl | rfl | rfl | rfl | rfl
     ·exact r1.gr G0.out
     ·exact r2.gr G0.out
     ·exact r3.gr G0.out
     ·exact r4.gr G0.out
     ·exact r5.gr G0.out)
    rw [show S.length = 5 from by rw [hS];rfl] at h
    exact h)
   have ES:=Qo0 (show (Xe S).map Edt.er = Xc (Ma.map Mod.er) (Mb.map Mod.er) from by
    have h:=HI.out.2
    have ht : P.take j = P:=List.take_of_length_le (by have:=PN.out;omega)
    rw [CS.out]
    unfold Xc
    simp only [List.map_append,h.e1,h.e2,h.e3,h.e4,h.e5,ht]
    rw [show Qx (Ma.map Mod.er) (Mb.map Mod.er) = P from by rw [← HP0.out,EP.out]])
   have EDS:=Qo0 (show ∀ e ∈ Xe S,ED w0 wr e from by
    intro e he
    rw [CS.out] at he
    have hh:=HI.out.1.e
    simp only [List.mem_append] at he
    rcases he with he | he | he | he | he
    ·exact hh (.slice A1 L1.length c1,L1) (by simp) e he
    ·exact hh (.slice A2 L2.length c2,L2) (by simp) e he
    ·exact hh (.slice A3 L3.length c3,L3) (by simp) e he
    ·exact hh (.slice A4 L4.length c4,L4) (by simp) e he
    ·exact hh (.slice A5 L5.length c5,L5) (by simp) e he)
   have GF:=Qo0 (HI.out.1.g)
   have HW:=Qo0 hW0
   clear hS HI FO r1 r2 r3 r4 r5 hW0
   go_wp2_with (go_at_call 25;rw [HW.out];(with_reducible refine C25.out.mono ?_);rintro e w9 ⟨v9,rfl,o9,g9⟩;obtain ⟨A9,c9,rfl,r9,hc9,hm9,h09,-⟩:=o9.form2 Edt.cs_len;have R9:=Qo0 (show RW 5 Edt.cs w9 A9 c9 (Xe S) from ⟨hc9,hm9,h09,r9⟩);have G9:=Qo0 g9;clear o9 g9 r9 hc9 hm9 h09)
   go_ret2
   have GG:=G1.out.trans (GF.out.trans (G0.out.trans G9.out))
   exact ⟨GG,.inr ⟨A9,c9,Xe S,rfl,M1.out,M2.out,⟨R9.out,fun e he => ((EDS.out e he).gr (G0.out.trans G9.out)).rd (by rw [← HW0.out];exact GG)⟩,ES.out⟩⟩
end Go.Proofs.YtiaenhlflgobfaaGreatDoor

/- Words. -/
import Derived.Test.YtiaenhlflgobfaaGreatDoorTb39
namespace Go.Proofs.YtiaenhlflgobfaaGreatDoor
open Go.RowKit
structure Bth where
 label : T
 inA : Bool
 inB : Bool
 a : Mod
 b : Mod
def Bth.cs (x : Bth) : List Value:=[tv x.label,.bool x.inA,.bool x.inB,tv x.a.label,.slice x.a.uA x.a.uses.length x.a.uc,.slice x.a.dA x.a.decls.length x.a.dc,tv x.b.label,.slice x.b.uA x.b.uses.length x.b.uc,.slice x.b.dA x.b.decls.length x.b.dc]
theorem Bth.cs_len (x : Bth) : x.cs.length = 9:=rfl
theorem Bth.cell1 (x : Bth) : ∀ u ∈ x.cs,u.oneCell' = true:=by
 intro u hu
 simp only [Bth.cs,List.mem_cons,List.not_mem_nil,or_false] at hu
 rcases hu with rfl | rfl | rfl | rfl | rfl | rfl | rfl | rfl | rfl <;> rfl
def Bth.er (x : Bth) : Bo:=⟨x.label,x.inA,x.inB,x.a.er,x.b.er⟩
theorem elB : EL 70 73 9 Bth.cs:=⟨Bth.cs_len,Bth.cell1,Tryz.underlying70,⟨.agg #[.string ⟨#[]⟩,.bool false,.bool false,.string ⟨#[]⟩,.slice none 0 0,.slice none 0 0,.string ⟨#[]⟩,.slice none 0 0,.slice none 0 0],152,by kernel_rfl,rfl,by decide⟩,by decide⟩
theorem Qb6 (a b : List PM) : (Qx a b).length ≤ a.length + b.length:=by
 fun_induction Qx a b <;> simp_all <;> omega
theorem MRd.tail {w : World} {a : Addr} {c : Nat} {x : Mod} {l : List Mod} (h : MRd w (some a) c (x :: l)) : ∃ A' c',((c = 1 ∧ A' = some a ∧ c' = 0) ∨ (¬ c = 1 ∧ A' = some ⟨a.block,a.off + 3,none⟩ ∧ c' = c - 1)) ∧ MRd w A' c' l:=by
 have hcc : l.length + 1 ≤ c:=by simpa using h.rw.hc
 have hcm:=h.rw.hm
 by_cases h1 : c = 1
 ·obtain rfl : l = []:=List.eq_nil_of_length_eq_zero (by omega)
  exact ⟨some a,0,.inl ⟨h1,rfl,rfl⟩,⟨⟨by simp,by omega,fun h => (by cases h),.inl rfl⟩,by simp⟩⟩
 ·refine ⟨_,_,.inr ⟨h1,rfl,rfl⟩,⟨⟨by omega,by omega,fun h => (by cases h),?_⟩,fun z hz => h.m z (by simp [hz])⟩⟩
  have:=h.r.drop 1 (A':=some ⟨a.block,a.off + 3,none⟩) (fun b hb _ => by cases hb;rw [Qh _ _ (by omega)])
  simpa using this
theorem MRd.some {w : World} {A : Option Addr} {c : Nat} {x : Mod} {l : List Mod} (h : MRd w A c (x :: l)) : ∃ a,A = Option.some a:=by
 obtain ⟨a,-,e,-⟩:=rdM h.r (k:=0) (x:=x) rfl
 exact ⟨a,e⟩
theorem Qfr {w V : World} {a : Addr} {c : Nat} {x : Mod} {l : List Mod} (h : MRd w (some a) c (x :: l)) (g : Gr w V) : a.block < w.heap.size ∧ V.cell? a = some (tv x.label) ∧ V.cell? ⟨a.block,a.off + 1,none⟩ = some (.slice x.uA x.uses.length x.uc) ∧ V.cell? ⟨a.block,a.off + 2,none⟩ = some (.slice x.dA x.decls.length x.dc):=by
 obtain ⟨b,b1,eb,hb1,hbb,d0,d1,d2⟩:=rdM (h.gr g).r (k:=0) (x:=x) rfl
 cases eb
 rw [Nat.zero_mul,add_zero'] at hb1
 subst hb1
 exact ⟨by have h1:=rdM h.r (k:=0) (x:=x) rfl;obtain ⟨b2,b3,e2,e3,h3,-⟩:=h1;cases e2;rw [Nat.zero_mul,add_zero'] at e3;subst e3;exact h3,d0,d1,d2⟩
def HF (V : World) (k : Nat) (C : Array Value) : Prop:=V.heap[k]? = some (.cells C 73 (0,0))
theorem HF.at {V : World} {k : Nat} {C : Array Value} (h : HF V k C) (j : Nat) : V.cell? ⟨k,j,none⟩ = C[j]?:=Lib.cell_of_heap h j
theorem HF.fz {V : World} {k : Nat} {C : Array Value} (h : HF V k C) (j : Nat) : V.frozen? ⟨k,j,none⟩ = false:=Lib.frozen_of_heap h j
theorem Xi {V : World} {k : Nat} {C E : Array Value} (h : HF V k C) (e : C = E) : HF V k E:=e ▸ h
theorem Qbc {V : World} {k : Nat} {C : Array Value} (h : HF V k C) : HF V.drew k C:=h
theorem Qy {V : World} {k j : Nat} {u : Value} {C : Array Value} (h : HF V k C) : HF (V.setCell ⟨k,j,none⟩ u) k (C.setIfInBounds j u):=by
 unfold HF at h ⊢
 simp [World.setCell,Array.getElem?_modify,h]
theorem Xg {a b c : World} (h : Gr a b) (k : Gr b c) : Gr a c:=h.trans k
theorem box9 {G : Act → World → Prop} {tm : Array Value} {df : List Deferred} {wr V : World} {C : Array Value} (bk : Nat) (g : Gr wr V) (f : HF V bk C) (rest : ∀ V',Gr wr V' → HF V' bk C → G ⟨tm,df⟩ V') : G ⟨tm,df⟩ V:=rest V g f
theorem Xk {P : Program} {ops : Array Oper} {w : World} {Q : Act → Prop} {a : Act} {o : Oper} {rest : List Oper} (hw : Region.wanted o (yielded ops a.tmps) = false) (h : wpStill P ops w Q rest (a.put o.dst undef)) : wpStill P ops w Q (o :: rest) a:=by
 unfold wpStill
 rw [hw]
 exact h
theorem Q3 {P : Program} {ops : Array Oper} {w : World} {Q : Act → Prop} {a : Act} {o : Oper} {rest : List Oper} (hw : Region.wanted o (yielded ops a.tmps) = true) (h : ∀ K : Act → Prop,(∀ a,wpStill P ops w Q rest a → K a) → o.still P a w K) : wpStill P ops w Q (o :: rest) a:=by
 unfold wpStill
 rw [hw]
 exact h _ (fun _ h => h)
structure PS (w V : World) (v : Value) (R : List Bo) (Ma Mb : List Mod) (A : Option Addr) (c : Nat) (xs : List Mod) (B : Option Addr) (d : Nat) (ys : List Mod) (Ls : List Bth) : Prop where
 da : MRd w A c xs
 db : MRd w B d ys
 o : OR 73 9 Bth.cs V w.heap.size v Ls
 q : Ls.map Bth.er ++ Qx (xs.map Mod.er) (ys.map Mod.er) = R
 m : ∀ p ∈ Ls,(p.a = Z1 ∨ p.a ∈ Ma) ∧ (p.b = Z1 ∨ p.b ∈ Mb) ∧ sOk p.label
 sa : ∀ x ∈ xs,x ∈ Ma
 sb : ∀ y ∈ ys,y ∈ Mb
 g : Gr w V
section
variable {w V V8 w7 : World} {v v7 : Value} {R : List Bo} {Ma Mb xs ys xs' ys' : List Mod} {A B A' B' : Option Addr} {c d c' d' : Nat} {Ls : List Bth} {p : Bth}
theorem PS.len (h : PS w V v R Ma Mb A c xs B d ys Ls) : Ls.length ≤ R.length:=by
 have:=congrArg List.length h.q
 rw [List.length_append,List.length_map] at this
 omega
theorem PS.put (h : PS w V v R Ma Mb A c xs B d ys Ls) (g8 : Gr V V8) (o7 : OR 73 9 Bth.cs w7 w.heap.size v7 (Ls ++ [p])) (g7 : V8.grownBy w7 v.ownBlock) (da : MRd w A' c' xs') (db : MRd w B' d' ys') (hm : (p.a = Z1 ∨ p.a ∈ Ma) ∧ (p.b = Z1 ∨ p.b ∈ Mb) ∧ sOk p.label) (hx : ∀ x ∈ xs',x ∈ xs) (hy : ∀ y ∈ ys',y ∈ ys) (hq : Qx (xs.map Mod.er) (ys.map Mod.er) = p.er :: Qx (xs'.map Mod.er) (ys'.map Mod.er)) : PS w w7 v7 R Ma Mb A' c' xs' B' d' ys' (Ls ++ [p]):=by
 refine ⟨da,db,o7,by rw [List.map_append,List.append_assoc,List.map_singleton,List.singleton_append,← hq];exact h.q,fun e he => ?_,fun x h1 => h.sa x (hx x h1),fun y h1 => h.sb y (hy y h1),OR.grow (h.g.trans g8) (h.o.gr g8) (Nat.le_refl _) g7⟩
 rcases List.mem_append.1 he with he | he
 ·exact h.m e he
 ·rw [List.mem_singleton.1 he];exact hm
end
set_option maxRecDepth 100000 in
set_option maxHeartbeats 16000000 in
attribute [local irreducible] Calls in
theorem Qlg (A : Option Addr) (c : Nat) (Ma : List Mod) (B : Option Addr) (d : Nat) (Mb : List Mod) (w : World) (hA : MRd w A c Ma) (hB : MRd w B d Mb) (hn : Ma.length ≤ 1000) (hm : Mb.length ≤ 1000) :
 Calls Tryz.prog 22 #[.slice A Ma.length c,.slice B Mb.length d] w fun e w' => ∃ v Ls,e = .returned v ∧ OR 73 9 Bth.cs w' w.heap.size v Ls ∧ (∀ p ∈ Ls,(p.a = Z1 ∨ p.a ∈ Ma) ∧ (p.b = Z1 ∨ p.b ∈ Mb) ∧ sOk p.label) ∧ Ls.map Bth.er = Qx (Ma.map Mod.er) (Mb.map Mod.er) ∧ Gr w w':=by
 obtain ⟨R,hR⟩ : ∃ R,Qx (Ma.map Mod.er) (Mb.map Mod.er) = R:=⟨_,rfl⟩
 have RL:=Qo0 (show R.length ≤ 2000 from by rw [← hR];have:=Qb6 (Ma.map Mod.er) (Mb.map Mod.er);simp at this;omega)
 have D0:=Qo0 (show PS w w (.slice none 0 0) R Ma Mb A c Ma B d Mb [] from ⟨hA,hB,OR.nil,by simpa using hR,by simp,fun _ h => h,fun _ h => h,Qc _⟩)
 rw [hR]
 clear hA hB hn hm hR
 go_enter Tryz.func22,Tryz.ntmps22
 go_wp2
 go_loopw [0,1,5,6] (fun t1 t2 t7 _ V => ∃ A c xs B d ys Ls,t1 = .slice A (List.length xs) c ∧ t2 = .slice B (List.length ys) d ∧ Hid (PS w V t7 R Ma Mb A c xs B d ys Ls)) (fun t1 t2 _ _ _ => Yq t1 + Yq t2)
 case atStart => exact ⟨A,c,Ma,B,d,Mb,[],by first | rfl | trivial,by first | rfl | trivial,D0⟩
 case round =>
  obtain ⟨A1,c1,xs,B1,d1,ys,Ls,rfl,rfl,HI⟩:=hrel
  clear D0
  obtain ⟨n,hxn⟩ : ∃ n,xs.length = n:=⟨_,rfl⟩
  obtain ⟨m,hym⟩ : ∃ m,ys.length = m:=⟨_,rfl⟩
  rw [hxn,hym]
  rcases xs with _ | ⟨x,a⟩
  ·obtain rfl : n = 0:=by simpa using hxn.symm
   rcases ys with _ | ⟨y,b⟩
   ·obtain rfl : m = 0:=by simpa using hym.symm
    have FF:=Qo0 (show OR 73 9 Bth.cs wr w.heap.size u5 Ls ∧ (∀ p ∈ Ls,(p.a = Z1 ∨ p.a ∈ Ma) ∧ (p.b = Z1 ∨ p.b ∈ Mb) ∧ sOk p.label) ∧ Ls.map Bth.er = R ∧ Gr w wr from ⟨HI.out.o,HI.out.m,by have h:=HI.out.q;simpa [Qx] using h,HI.out.g⟩)
    clear HI
    go_wp2
    go_ret
    exact ⟨_,_,rfl,FF.out⟩
   ·replace hym : b.length + 1 = m:=by simpa using hym
    have HLN:=Qo0 hym
    have hm0 : (0 : Int) < (m : Int):=by omega
    have hmz : ((m : Int) == 0) = false:=by rw [beq_eq_false_iff_ne];omega
    have hmn : 0 < m:=by omega
    have hmd : decide (0 < m) = true:=by simpa using hmn
    clear hxn hym
    obtain ⟨ay,rfl⟩:=HI.out.db.some
    obtain ⟨B2,d2,DTY,dt⟩:=HI.out.db.tail
    have DU:=Qo0 dt
    clear dt
    have YC:=Qo0 (fun V (g : Gr wr V) => Qfr HI.out.db (HI.out.g.trans g))
    obtain ⟨W1,hW1⟩ : ∃ W1,wr.alloc (.cells #[.string ⟨#[]⟩,.bool false,.bool false,.string ⟨#[]⟩,.slice none 0 0,.slice none 0 0,.string ⟨#[]⟩,.slice none 0 0,.slice none 0 0] 73) = W1:=⟨_,rfl⟩
    obtain ⟨bk,hbk⟩ : ∃ bk,wr.heap.size = bk:=⟨_,rfl⟩
    have F1:=Qo0 (show Gr wr W1 ∧ HF W1 bk #[.string ⟨#[]⟩,.bool false,.bool false,.string ⟨#[]⟩,.slice none 0 0,.slice none 0 0,.string ⟨#[]⟩,.slice none 0 0,.slice none 0 0] from ⟨by rw [← hW1];exact Qa _ _,by rw [← hW1,← hbk];exact Qd _ _⟩)
    have HW1:=Qo0 hW1
    clear hW1
    go_upto_region 4 with fail
    rw [HW1.out]
    have HBK:=Qo0 hbk
    clear hbk
    obtain ⟨yb,y0,y1,y2⟩:=YC.out _ F1.out.1
    refine wp_region_still_tail 20 (by kernel_rfl) (by kernel_rfl) ?_
    simp only [List.take_succ_cons,List.take_zero,List.drop_succ_cons,List.drop_zero]
    iterate 4 (with_reducible refine Q3 (by kernel_rfl) (fun K hK => ?_);go_simp;refine hK _ ?_;clear hK K)
    iterate 14 (with_reducible refine Xk (by kernel_rfl) ?_;simp only [Act.put,List.setIfInBounds_toArray,List.set_cons_zero,List.set_cons_succ])
    iterate 2 (with_reducible refine Q3 (by kernel_rfl) (fun K hK => ?_);go_simp;refine hK _ ?_;clear hK K)
    refine wpStill_nil ?_
    change wpList _ _ _ _ _ W1.drew
    generalize hW2 : W1.drew = W2
    have F2:=Qo0 (show Gr wr W2 ∧ HF W2 bk #[.string ⟨#[]⟩,.bool false,.bool false,.string ⟨#[]⟩,.slice none 0 0,.slice none 0 0,.string ⟨#[]⟩,.slice none 0 0,.slice none 0 0] from ⟨by rw [← hW2];exact F1.out.1.trans (Qb _),by rw [← hW2];exact F1.out.2⟩)
    clear hW2 yb y0 y1 y2
    have q0:=F2.out.2.at 1
    have q1:=F2.out.2.fz 1
    go_upto_region 5 with fail
    generalize hW3 : World.setCell W2 _ _ = W3
    have F3:=Qo0 (show Gr wr W3 ∧ HF W3 bk #[.string ⟨#[]⟩,.bool false,.bool false,.string ⟨#[]⟩,.slice none 0 0,.slice none 0 0,.string ⟨#[]⟩,.slice none 0 0,.slice none 0 0] from ⟨by rw [← hW3];exact Qv F2.out.1 (by have:=HBK.out;omega) _,by rw [← hW3];exact Xi (Qy F2.out.2) rfl⟩)
    clear hW3 q0 q1
    obtain ⟨yb,y0,y1,y2⟩:=YC.out _ F3.out.1
    refine wp_region_still_tail 20 (by kernel_rfl) (by kernel_rfl) ?_
    simp only [List.take_succ_cons,List.take_zero,List.drop_succ_cons,List.drop_zero]
    iterate 8 (with_reducible refine Q3 (by kernel_rfl) (fun K hK => ?_);go_simp;refine hK _ ?_;clear hK K)
    iterate 9 (with_reducible refine Xk (by kernel_rfl) ?_;simp only [Act.put,List.setIfInBounds_toArray,List.set_cons_zero,List.set_cons_succ])
    iterate 3 (with_reducible refine Q3 (by kernel_rfl) (fun K hK => ?_);go_simp;refine hK _ ?_;clear hK K)
    refine wpStill_nil ?_
    change wpList _ _ _ _ _ W3.drew
    generalize hW4 : W3.drew = W4
    have F4:=Qo0 (show Gr wr W4 ∧ HF W4 bk #[.string ⟨#[]⟩,.bool false,.bool false,.string ⟨#[]⟩,.slice none 0 0,.slice none 0 0,.string ⟨#[]⟩,.slice none 0 0,.slice none 0 0] from ⟨by rw [← hW4];exact F3.out.1.trans (Qb _),by rw [← hW4];exact F3.out.2⟩)
    clear hW4 yb y0 y1 y2
    have q0:=F4.out.2.at 2
    have q1:=F4.out.2.fz 2
    go_upto_region 6 with fail
    generalize hW5 : World.setCell W4 _ _ = W5
    have F5:=Qo0 (show Gr wr W5 ∧ HF W5 bk #[.string ⟨#[]⟩,.bool false,.bool true,.string ⟨#[]⟩,.slice none 0 0,.slice none 0 0,.string ⟨#[]⟩,.slice none 0 0,.slice none 0 0] from ⟨by rw [← hW5];exact Qv F4.out.1 (by have:=HBK.out;omega) _,by rw [← hW5];exact Xi (Qy F4.out.2) rfl⟩)
    clear hW5 q0 q1
    have q1:=F5.out.2.at 1
    have q2:=F5.out.2.at 2
    go_upto_region 9 with fail
    clear q2
    (try clear q1)
    have sy1 : (1 : Int) ≤ (m : Int):=by omega
    have sy2 : (m : Int) ≤ (d1 : Int):=by have h:=HI.out.db.rw.hc;have:=HLN.out;simp at h;omega
    have sy3 : (1 : Int) ≤ (d1 : Int):=by omega
    rcases DTY with ⟨rfl,rfl,rfl⟩ | ⟨hd1,rfl,rfl⟩
    all_goals obtain ⟨yb,y0,y1,y2⟩:=YC.out _ F5.out.1
    all_goals have q0:=F5.out.2.at 0
    all_goals have q3:=F5.out.2.at 6
    all_goals have q4:=F5.out.2.at 7
    all_goals have q5:=F5.out.2.at 8
    all_goals have qz:=F5.out.2.fz
    all_goals go_region_held3 (fun V => V.cell? ay = some (tv y.label) ∧ V.cell? ⟨ay.block,ay.off + 1,none⟩ = some (.slice y.uA y.uses.length y.uc) ∧ V.cell? ⟨ay.block,ay.off + 2,none⟩ = some (.slice y.dA y.decls.length y.dc)) (first | exact (YC.out _ (by repeat' (first | exact F5.out.1 | refine Xg ?_ (Qb _) | (refine Qv ?_ (by have:=HBK.out;omega) _)))).2 | go_keep) (fail)
    all_goals refine box9 (wr:=wr) (C:=#[tv y.label,.bool false,.bool true,.string ⟨#[]⟩,.slice none 0 0,.slice none 0 0,tv y.label,.slice y.uA y.uses.length y.uc,.slice y.dA y.decls.length y.dc]) bk (by repeat' (first | exact F5.out.1 | refine Xg ?_ (Qb _) | (refine Qv ?_ (by have:=HBK.out;omega) _))) (Xi (Qbc (Qy (Qy (Qy (Qy F5.out.2))))) rfl) ?_
    all_goals clear yb y0 y1 y2 q0 q3 q4 q5 qz
    all_goals intro W8 G8 F8
    all_goals have FB:=Qo0 (And.intro G8 F8)
    all_goals clear G8 F8
    all_goals have p0:=FB.out.2.at 0
    all_goals have p1:=FB.out.2.at 1
    all_goals have p2:=FB.out.2.at 2
    all_goals have p3:=FB.out.2.at 3
    all_goals have p4:=FB.out.2.at 4
    all_goals have p5:=FB.out.2.at 5
    all_goals have p6:=FB.out.2.at 6
    all_goals have p7:=FB.out.2.at 7
    all_goals have p8:=FB.out.2.at 8
    all_goals go_wp2_with (at_builtin;refine Qf elB rfl (.tmp 81) (.tmp 83) rfl w.heap.size (v:=u5) rfl (HI.out.o.gr (FB.out.1.trans (Qa _ _))) (A:=some ⟨_,0,none⟩) (M:=([⟨y.label,false,true,Z1,y⟩] : List Bth)) (m:=1) (c:=1) rfl rfl (Qj (t:=73) Bth.cs_len (Qd _ _)) (by have:=HI.out.len;have:=RL.out;simp;omega) (Nat.le_trans (HI.out.g.trans FB.out.1).size (by simp)) ?_;intro v7 w7 o7 g7 b7;have O7:=Qo0 o7;have G7:=Qo0 g7;clear o7 g7 b7)
    all_goals exact ⟨⟨_,_,[],_,_,b,_,by have:=HLN.out;first | rfl | (simp;omega),by have:=HLN.out;first | rfl | (simp;omega),Qo0 (HI.out.put (FB.out.1.trans (Qa _ _)) O7.out G7.out HI.out.da DU.out ⟨.inl rfl,.inr (HI.out.sb y (by simp)),(HI.out.db.m y (by simp)).l⟩ (by simp_all) (by simp_all) (by simp only [List.map_nil,List.map_cons];rw [Qx];rfl))⟩,by have:=HLN.out;simp [Yq];omega⟩
  ·replace hxn : a.length + 1 = n:=by simpa using hxn
   have hn0 : (0 : Int) < (n : Int):=by omega
   have hnz : ((n : Int) == 0) = false:=by rw [beq_eq_false_iff_ne];omega
   have hnn : 0 < n:=by omega
   have hnd : decide (0 < n) = true:=by simpa using hnn
   rcases ys with _ | ⟨y,b⟩
   ·obtain rfl : m = 0:=by simpa using hym.symm
    have HLN:=Qo0 hxn
    clear hxn hym
    obtain ⟨ax,rfl⟩:=HI.out.da.some
    obtain ⟨A2,c2,DTL,dt⟩:=HI.out.da.tail
    have DT:=Qo0 dt
    clear dt
    have XC:=Qo0 (fun V (g : Gr wr V) => Qfr HI.out.da (HI.out.g.trans g))
    obtain ⟨W1,hW1⟩ : ∃ W1,wr.alloc (.cells #[.string ⟨#[]⟩,.bool false,.bool false,.string ⟨#[]⟩,.slice none 0 0,.slice none 0 0,.string ⟨#[]⟩,.slice none 0 0,.slice none 0 0] 73) = W1:=⟨_,rfl⟩
    obtain ⟨bk,hbk⟩ : ∃ bk,wr.heap.size = bk:=⟨_,rfl⟩
    have F1:=Qo0 (show Gr wr W1 ∧ HF W1 bk #[.string ⟨#[]⟩,.bool false,.bool false,.string ⟨#[]⟩,.slice none 0 0,.slice none 0 0,.string ⟨#[]⟩,.slice none 0 0,.slice none 0 0] from ⟨by rw [← hW1];exact Qa _ _,by rw [← hW1,← hbk];exact Qd _ _⟩)
    have HW1:=Qo0 hW1
    clear hW1
    go_upto_region 4 with fail
    rw [HW1.out]
    have HBK:=Qo0 hbk
    clear hbk
    obtain ⟨xb,x0,x1,x2⟩:=XC.out _ F1.out.1
    refine wp_region_still_tail 20 (by kernel_rfl) (by kernel_rfl) ?_
    simp only [List.take_succ_cons,List.take_zero,List.drop_succ_cons,List.drop_zero]
    iterate 8 (with_reducible refine Q3 (by kernel_rfl) (fun K hK => ?_);go_simp;refine hK _ ?_;clear hK K)
    iterate 9 (with_reducible refine Xk (by kernel_rfl) ?_;simp only [Act.put,List.setIfInBounds_toArray,List.set_cons_zero,List.set_cons_succ])
    iterate 3 (with_reducible refine Q3 (by kernel_rfl) (fun K hK => ?_);go_simp;refine hK _ ?_;clear hK K)
    refine wpStill_nil ?_
    change wpList _ _ _ _ _ W1.drew
    generalize hW2 : W1.drew = W2
    have F2:=Qo0 (show Gr wr W2 ∧ HF W2 bk #[.string ⟨#[]⟩,.bool false,.bool false,.string ⟨#[]⟩,.slice none 0 0,.slice none 0 0,.string ⟨#[]⟩,.slice none 0 0,.slice none 0 0] from ⟨by rw [← hW2];exact F1.out.1.trans (Qb _),by rw [← hW2];exact F1.out.2⟩)
    clear hW2 xb x0 x1 x2
    have q0:=F2.out.2.at 1
    have q1:=F2.out.2.fz 1
    go_upto_region 5 with fail
    generalize hW3 : World.setCell W2 _ _ = W3
    have F3:=Qo0 (show Gr wr W3 ∧ HF W3 bk #[.string ⟨#[]⟩,.bool true,.bool false,.string ⟨#[]⟩,.slice none 0 0,.slice none 0 0,.string ⟨#[]⟩,.slice none 0 0,.slice none 0 0] from ⟨by rw [← hW3];exact Qv F2.out.1 (by have:=HBK.out;omega) _,by rw [← hW3];exact Xi (Qy F2.out.2) rfl⟩)
    clear hW3 q0 q1
    obtain ⟨xb,x0,x1,x2⟩:=XC.out _ F3.out.1
    refine wp_region_still_tail 20 (by kernel_rfl) (by kernel_rfl) ?_
    simp only [List.take_succ_cons,List.take_zero,List.drop_succ_cons,List.drop_zero]
    iterate 4 (with_reducible refine Q3 (by kernel_rfl) (fun K hK => ?_);go_simp;refine hK _ ?_;clear hK K)
    iterate 14 (with_reducible refine Xk (by kernel_rfl) ?_;simp only [Act.put,List.setIfInBounds_toArray,List.set_cons_zero,List.set_cons_succ])
    iterate 2 (with_reducible refine Q3 (by kernel_rfl) (fun K hK => ?_);go_simp;refine hK _ ?_;clear hK K)
    refine wpStill_nil ?_
    change wpList _ _ _ _ _ W3.drew
    generalize hW4 : W3.drew = W4
    have F4:=Qo0 (show Gr wr W4 ∧ HF W4 bk #[.string ⟨#[]⟩,.bool true,.bool false,.string ⟨#[]⟩,.slice none 0 0,.slice none 0 0,.string ⟨#[]⟩,.slice none 0 0,.slice none 0 0] from ⟨by rw [← hW4];exact F3.out.1.trans (Qb _),by rw [← hW4];exact F3.out.2⟩)
    clear hW4 xb x0 x1 x2
    have q0:=F4.out.2.at 2
    have q1:=F4.out.2.fz 2
    go_upto_region 6 with fail
    generalize hW5 : World.setCell W4 _ _ = W5
    have F5:=Qo0 (show Gr wr W5 ∧ HF W5 bk #[.string ⟨#[]⟩,.bool true,.bool false,.string ⟨#[]⟩,.slice none 0 0,.slice none 0 0,.string ⟨#[]⟩,.slice none 0 0,.slice none 0 0] from ⟨by rw [← hW5];exact Qv F4.out.1 (by have:=HBK.out;omega) _,by rw [← hW5];exact Xi (Qy F4.out.2) rfl⟩)
    clear hW5 q0 q1
    have q1:=F5.out.2.at 1
    go_upto_region 7 with fail
    clear q1
    have sx1 : (1 : Int) ≤ (n : Int):=by omega
    have sx2 : (n : Int) ≤ (c1 : Int):=by have h:=HI.out.da.rw.hc;have:=HLN.out;simp at h;omega
    have sx3 : (1 : Int) ≤ (c1 : Int):=by omega
    rcases DTL with ⟨rfl,rfl,rfl⟩ | ⟨hc1,rfl,rfl⟩
    all_goals obtain ⟨xb,x0,x1,x2⟩:=XC.out _ F5.out.1
    all_goals have q0:=F5.out.2.at 0
    all_goals have q3:=F5.out.2.at 3
    all_goals have q4:=F5.out.2.at 4
    all_goals have q5:=F5.out.2.at 5
    all_goals have qz:=F5.out.2.fz
    all_goals go_region_held3 (fun V => V.cell? ax = some (tv x.label) ∧ V.cell? ⟨ax.block,ax.off + 1,none⟩ = some (.slice x.uA x.uses.length x.uc) ∧ V.cell? ⟨ax.block,ax.off + 2,none⟩ = some (.slice x.dA x.decls.length x.dc)) (first | exact (XC.out _ (by repeat' (first | exact F5.out.1 | refine Xg ?_ (Qb _) | (refine Qv ?_ (by have:=HBK.out;omega) _)))).2 | go_keep) (fail)
    all_goals refine box9 (wr:=wr) (C:=#[tv x.label,.bool true,.bool false,tv x.label,.slice x.uA x.uses.length x.uc,.slice x.dA x.decls.length x.dc,.string ⟨#[]⟩,.slice none 0 0,.slice none 0 0]) bk (by repeat' (first | exact F5.out.1 | refine Xg ?_ (Qb _) | (refine Qv ?_ (by have:=HBK.out;omega) _))) (Xi (Qbc (Qy (Qy (Qy (Qy F5.out.2))))) rfl) ?_
    all_goals clear xb x0 x1 x2 q0 q3 q4 q5 qz
    all_goals intro W7 G7 F7
    all_goals have FA:=Qo0 (And.intro G7 F7)
    all_goals clear G7 F7
    all_goals have q2:=FA.out.2.at 2
    all_goals have p0:=FA.out.2.at 0
    all_goals have p1:=FA.out.2.at 1
    all_goals have p2:=FA.out.2.at 2
    all_goals have p3:=FA.out.2.at 3
    all_goals have p4:=FA.out.2.at 4
    all_goals have p5:=FA.out.2.at 5
    all_goals have p6:=FA.out.2.at 6
    all_goals have p7:=FA.out.2.at 7
    all_goals have p8:=FA.out.2.at 8
    all_goals go_wp2_with (at_builtin;refine Qf elB rfl (.tmp 81) (.tmp 83) rfl w.heap.size (v:=u5) rfl (HI.out.o.gr (FA.out.1.trans (Qa _ _))) (A:=some ⟨_,0,none⟩) (M:=([⟨x.label,true,false,x,Z1⟩] : List Bth)) (m:=1) (c:=1) rfl rfl (Qj (t:=73) Bth.cs_len (Qd _ _)) (by have:=HI.out.len;have:=RL.out;simp;omega) (Nat.le_trans (HI.out.g.trans FA.out.1).size (by simp)) ?_;intro v7 w7 o7 g7 b7;have O7:=Qo0 o7;have G7:=Qo0 g7;clear o7 g7 b7)
    all_goals exact ⟨⟨_,_,a,_,_,[],_,by have:=HLN.out;first | rfl | (simp;omega),by have:=HLN.out;first | rfl | (simp;omega),Qo0 (HI.out.put (FA.out.1.trans (Qa _ _)) O7.out G7.out DT.out HI.out.db ⟨.inr (HI.out.sa x (by simp)),.inl rfl,(HI.out.da.m x (by simp)).l⟩ (by simp_all) (by simp_all) (by simp only [List.map_nil,List.map_cons];rw [Qx];rfl))⟩,by have:=HLN.out;simp [Yq];omega⟩
   ·replace hym : b.length + 1 = m:=by simpa using hym
    have hm0 : (0 : Int) < (m : Int):=by omega
    have hmz : ((m : Int) == 0) = false:=by rw [beq_eq_false_iff_ne];omega
    have hmn : 0 < m:=by omega
    have hmd : decide (0 < m) = true:=by simpa using hmn
    have HLN:=Qo0 (And.intro hxn hym)
    clear hxn hym
    obtain ⟨ax,rfl⟩:=HI.out.da.some
    obtain ⟨A2,c2,DTL,dt⟩:=HI.out.da.tail
    have DT:=Qo0 dt
    clear dt
    have XC:=Qo0 (fun V (g : Gr wr V) => Qfr HI.out.da (HI.out.g.trans g))
    obtain ⟨ay,rfl⟩:=HI.out.db.some
    obtain ⟨B2,d2,DTY,dt⟩:=HI.out.db.tail
    have DU:=Qo0 dt
    clear dt
    have YC:=Qo0 (fun V (g : Gr wr V) => Qfr HI.out.db (HI.out.g.trans g))
    have hb1:=bytesLess_eq x.label y.label
    have hb2:=bytesLess_eq y.label x.label
    by_cases h1 : x.label < y.label
    ·have e1 : (x.label == y.label) = false:=by simp only [beq_eq_false_iff_ne,ne_eq];intro h;rw [h] at h1;exact Ord.irr _ h1
     have e2 : (y.label == x.label) = false:=by simp only [beq_eq_false_iff_ne,ne_eq];intro h;rw [h] at h1;exact Ord.irr _ h1
     rw [decide_eq_true h1] at hb1
     rw [decide_eq_false (Ord.asym h1)] at hb2
     have H1:=Qo0 h1
     clear h1
     obtain ⟨W1,hW1⟩ : ∃ W1,wr.alloc (.cells #[.string ⟨#[]⟩,.bool false,.bool false,.string ⟨#[]⟩,.slice none 0 0,.slice none 0 0,.string ⟨#[]⟩,.slice none 0 0,.slice none 0 0] 73) = W1:=⟨_,rfl⟩
     obtain ⟨bk,hbk⟩ : ∃ bk,wr.heap.size = bk:=⟨_,rfl⟩
     have F1:=Qo0 (show Gr wr W1 ∧ HF W1 bk #[.string ⟨#[]⟩,.bool false,.bool false,.string ⟨#[]⟩,.slice none 0 0,.slice none 0 0,.string ⟨#[]⟩,.slice none 0 0,.slice none 0 0] from ⟨by rw [← hW1];exact Qa _ _,by rw [← hW1,← hbk];exact Qd _ _⟩)
     have HW1:=Qo0 hW1
     clear hW1
     go_upto_region 4 with fail
     rw [HW1.out]
     have HBK:=Qo0 hbk
     clear hbk
     obtain ⟨xb,x0,x1,x2⟩:=XC.out _ F1.out.1
     obtain ⟨yb,y0,y1,y2⟩:=YC.out _ F1.out.1
     refine wp_region_still_tail 20 (by kernel_rfl) (by kernel_rfl) ?_
     simp only [List.take_succ_cons,List.take_zero,List.drop_succ_cons,List.drop_zero]
     iterate 20 (with_reducible refine Q3 (by kernel_rfl) (fun K hK => ?_);go_simp;refine hK _ ?_;clear hK K)
     refine wpStill_nil ?_
     change wpList _ _ _ _ _ W1.drew
     generalize hW2 : W1.drew = W2
     have F2:=Qo0 (show Gr wr W2 ∧ HF W2 bk #[.string ⟨#[]⟩,.bool false,.bool false,.string ⟨#[]⟩,.slice none 0 0,.slice none 0 0,.string ⟨#[]⟩,.slice none 0 0,.slice none 0 0] from ⟨by rw [← hW2];exact F1.out.1.trans (Qb _),by rw [← hW2];exact F1.out.2⟩)
     clear hW2 xb x0 x1 x2 yb y0 y1 y2
     have q0:=F2.out.2.at 1
     have q1:=F2.out.2.fz 1
     go_upto_region 5 with fail
     generalize hW3 : World.setCell W2 _ _ = W3
     have F3:=Qo0 (show Gr wr W3 ∧ HF W3 bk #[.string ⟨#[]⟩,.bool true,.bool false,.string ⟨#[]⟩,.slice none 0 0,.slice none 0 0,.string ⟨#[]⟩,.slice none 0 0,.slice none 0 0] from ⟨by rw [← hW3];exact Qv F2.out.1 (by have:=HBK.out;omega) _,by rw [← hW3];exact Xi (Qy F2.out.2) rfl⟩)
     clear hW3 q0 q1
     obtain ⟨xb,x0,x1,x2⟩:=XC.out _ F3.out.1
     obtain ⟨yb,y0,y1,y2⟩:=YC.out _ F3.out.1
     refine wp_region_still_tail 20 (by kernel_rfl) (by kernel_rfl) ?_
     simp only [List.take_succ_cons,List.take_zero,List.drop_succ_cons,List.drop_zero]
     iterate 20 (with_reducible refine Q3 (by kernel_rfl) (fun K hK => ?_);go_simp;refine hK _ ?_;clear hK K)
     refine wpStill_nil ?_
     change wpList _ _ _ _ _ W3.drew
     generalize hW4 : W3.drew = W4
     have F4:=Qo0 (show Gr wr W4 ∧ HF W4 bk #[.string ⟨#[]⟩,.bool true,.bool false,.string ⟨#[]⟩,.slice none 0 0,.slice none 0 0,.string ⟨#[]⟩,.slice none 0 0,.slice none 0 0] from ⟨by rw [← hW4];exact F3.out.1.trans (Qb _),by rw [← hW4];exact F3.out.2⟩)
     clear hW4 xb x0 x1 x2 yb y0 y1 y2
     have q0:=F4.out.2.at 2
     have q1:=F4.out.2.fz 2
     go_upto_region 6 with fail
     generalize hW5 : World.setCell W4 _ _ = W5
     have F5:=Qo0 (show Gr wr W5 ∧ HF W5 bk #[.string ⟨#[]⟩,.bool true,.bool false,.string ⟨#[]⟩,.slice none 0 0,.slice none 0 0,.string ⟨#[]⟩,.slice none 0 0,.slice none 0 0] from ⟨by rw [← hW5];exact Qv F4.out.1 (by have:=HBK.out;omega) _,by rw [← hW5];exact Xi (Qy F4.out.2) rfl⟩)
     clear hW5 q0 q1
     have q1:=F5.out.2.at 1
     go_upto_region 7 with fail
     clear q1
     have sx1 : (1 : Int) ≤ (n : Int):=by omega
     have sx2 : (n : Int) ≤ (c1 : Int):=by have h:=HI.out.da.rw.hc;have:=HLN.out;simp at h;omega
     have sx3 : (1 : Int) ≤ (c1 : Int):=by omega
     rcases DTL with ⟨rfl,rfl,rfl⟩ | ⟨hc1,rfl,rfl⟩
     all_goals obtain ⟨xb,x0,x1,x2⟩:=XC.out _ F5.out.1
     all_goals have q0:=F5.out.2.at 0
     all_goals have q3:=F5.out.2.at 3
     all_goals have q4:=F5.out.2.at 4
     all_goals have q5:=F5.out.2.at 5
     all_goals have qz:=F5.out.2.fz
     all_goals go_region_held3 (fun V => V.cell? ax = some (tv x.label) ∧ V.cell? ⟨ax.block,ax.off + 1,none⟩ = some (.slice x.uA x.uses.length x.uc) ∧ V.cell? ⟨ax.block,ax.off + 2,none⟩ = some (.slice x.dA x.decls.length x.dc)) (first | exact (XC.out _ (by repeat' (first | exact F5.out.1 | refine Xg ?_ (Qb _) | (refine Qv ?_ (by have:=HBK.out;omega) _)))).2 | go_keep) (fail)
     all_goals refine box9 (wr:=wr) (C:=#[tv x.label,.bool true,.bool false,tv x.label,.slice x.uA x.uses.length x.uc,.slice x.dA x.decls.length x.dc,.string ⟨#[]⟩,.slice none 0 0,.slice none 0 0]) bk (by repeat' (first | exact F5.out.1 | refine Xg ?_ (Qb _) | (refine Qv ?_ (by have:=HBK.out;omega) _))) (Xi (Qbc (Qy (Qy (Qy (Qy F5.out.2))))) rfl) ?_
     all_goals clear xb x0 x1 x2 q0 q3 q4 q5 qz
     all_goals intro W7 G7 F7
     all_goals have FA:=Qo0 (And.intro G7 F7)
     all_goals clear G7 F7
     all_goals have q2:=FA.out.2.at 2
     all_goals have p0:=FA.out.2.at 0
     all_goals have p1:=FA.out.2.at 1
     all_goals have p2:=FA.out.2.at 2
     all_goals have p3:=FA.out.2.at 3
     all_goals have p4:=FA.out.2.at 4
     all_goals have p5:=FA.out.2.at 5
     all_goals have p6:=FA.out.2.at 6
     all_goals have p7:=FA.out.2.at 7
     all_goals have p8:=FA.out.2.at 8
     all_goals go_wp2_with (at_builtin;refine Qf elB rfl (.tmp 81) (.tmp 83) rfl w.heap.size (v:=u5) rfl (HI.out.o.gr (FA.out.1.trans (Qa _ _))) (A:=some ⟨_,0,none⟩) (M:=([⟨x.label,true,false,x,Z1⟩] : List Bth)) (m:=1) (c:=1) rfl rfl (Qj (t:=73) Bth.cs_len (Qd _ _)) (by have:=HI.out.len;have:=RL.out;simp;omega) (Nat.le_trans (HI.out.g.trans FA.out.1).size (by simp)) ?_;intro v7 w7 o7 g7 b7;have O7:=Qo0 o7;have G7:=Qo0 g7;clear o7 g7 b7)
     all_goals exact ⟨⟨_,_,a,_,_,y :: b,_,by have:=HLN.out;first | rfl | (simp;omega),by have:=HLN.out;first | rfl | (simp;omega),Qo0 (HI.out.put (FA.out.1.trans (Qa _ _)) O7.out G7.out DT.out HI.out.db ⟨.inr (HI.out.sa x (by simp)),.inl rfl,(HI.out.da.m x (by simp)).l⟩ (by simp_all) (by simp_all) (by simp only [List.map_cons];rw [Qx,if_pos (show x.er.label < y.er.label from H1.out)];rfl))⟩,by have:=HLN.out;simp [Yq];omega⟩
    by_cases h2 : y.label < x.label
    ·have e1 : (x.label == y.label) = false:=by simp only [beq_eq_false_iff_ne,ne_eq];intro h;rw [h] at h2;exact Ord.irr _ h2
     have e2 : (y.label == x.label) = false:=by simp only [beq_eq_false_iff_ne,ne_eq];intro h;rw [h] at h2;exact Ord.irr _ h2
     rw [decide_eq_false h1] at hb1
     rw [decide_eq_true h2] at hb2
     have H1:=Qo0 h1
     have H2:=Qo0 h2
     clear h1 h2
     obtain ⟨W1,hW1⟩ : ∃ W1,wr.alloc (.cells #[.string ⟨#[]⟩,.bool false,.bool false,.string ⟨#[]⟩,.slice none 0 0,.slice none 0 0,.string ⟨#[]⟩,.slice none 0 0,.slice none 0 0] 73) = W1:=⟨_,rfl⟩
     obtain ⟨bk,hbk⟩ : ∃ bk,wr.heap.size = bk:=⟨_,rfl⟩
     have F1:=Qo0 (show Gr wr W1 ∧ HF W1 bk #[.string ⟨#[]⟩,.bool false,.bool false,.string ⟨#[]⟩,.slice none 0 0,.slice none 0 0,.string ⟨#[]⟩,.slice none 0 0,.slice none 0 0] from ⟨by rw [← hW1];exact Qa _ _,by rw [← hW1,← hbk];exact Qd _ _⟩)
     have HW1:=Qo0 hW1
     clear hW1
     go_upto_region 4 with fail
     rw [HW1.out]
     have HBK:=Qo0 hbk
     clear hbk
     obtain ⟨xb,x0,x1,x2⟩:=XC.out _ F1.out.1
     obtain ⟨yb,y0,y1,y2⟩:=YC.out _ F1.out.1
     refine wp_region_still_tail 20 (by kernel_rfl) (by kernel_rfl) ?_
     simp only [List.take_succ_cons,List.take_zero,List.drop_succ_cons,List.drop_zero]
     iterate 20 (with_reducible refine Q3 (by kernel_rfl) (fun K hK => ?_);go_simp;refine hK _ ?_;clear hK K)
     refine wpStill_nil ?_
     change wpList _ _ _ _ _ W1.drew
     generalize hW2 : W1.drew = W2
     have F2:=Qo0 (show Gr wr W2 ∧ HF W2 bk #[.string ⟨#[]⟩,.bool false,.bool false,.string ⟨#[]⟩,.slice none 0 0,.slice none 0 0,.string ⟨#[]⟩,.slice none 0 0,.slice none 0 0] from ⟨by rw [← hW2];exact F1.out.1.trans (Qb _),by rw [← hW2];exact F1.out.2⟩)
     clear hW2 xb x0 x1 x2 yb y0 y1 y2
     have q0:=F2.out.2.at 1
     have q1:=F2.out.2.fz 1
     go_upto_region 5 with fail
     generalize hW3 : World.setCell W2 _ _ = W3
     have F3:=Qo0 (show Gr wr W3 ∧ HF W3 bk #[.string ⟨#[]⟩,.bool false,.bool false,.string ⟨#[]⟩,.slice none 0 0,.slice none 0 0,.string ⟨#[]⟩,.slice none 0 0,.slice none 0 0] from ⟨by rw [← hW3];exact Qv F2.out.1 (by have:=HBK.out;omega) _,by rw [← hW3];exact Xi (Qy F2.out.2) rfl⟩)
     clear hW3 q0 q1
     obtain ⟨xb,x0,x1,x2⟩:=XC.out _ F3.out.1
     obtain ⟨yb,y0,y1,y2⟩:=YC.out _ F3.out.1
     refine wp_region_still_tail 20 (by kernel_rfl) (by kernel_rfl) ?_
     simp only [List.take_succ_cons,List.take_zero,List.drop_succ_cons,List.drop_zero]
     iterate 20 (with_reducible refine Q3 (by kernel_rfl) (fun K hK => ?_);go_simp;refine hK _ ?_;clear hK K)
     refine wpStill_nil ?_
     change wpList _ _ _ _ _ W3.drew
     generalize hW4 : W3.drew = W4
     have F4:=Qo0 (show Gr wr W4 ∧ HF W4 bk #[.string ⟨#[]⟩,.bool false,.bool false,.string ⟨#[]⟩,.slice none 0 0,.slice none 0 0,.string ⟨#[]⟩,.slice none 0 0,.slice none 0 0] from ⟨by rw [← hW4];exact F3.out.1.trans (Qb _),by rw [← hW4];exact F3.out.2⟩)
     clear hW4 xb x0 x1 x2 yb y0 y1 y2
     have q0:=F4.out.2.at 2
     have q1:=F4.out.2.fz 2
     go_upto_region 6 with fail
     generalize hW5 : World.setCell W4 _ _ = W5
     have F5:=Qo0 (show Gr wr W5 ∧ HF W5 bk #[.string ⟨#[]⟩,.bool false,.bool true,.string ⟨#[]⟩,.slice none 0 0,.slice none 0 0,.string ⟨#[]⟩,.slice none 0 0,.slice none 0 0] from ⟨by rw [← hW5];exact Qv F4.out.1 (by have:=HBK.out;omega) _,by rw [← hW5];exact Xi (Qy F4.out.2) rfl⟩)
     clear hW5 q0 q1
     have q1:=F5.out.2.at 1
     have q2:=F5.out.2.at 2
     go_upto_region 9 with fail
     clear q2
     (try clear q1)
     have sy1 : (1 : Int) ≤ (m : Int):=by omega
     have sy2 : (m : Int) ≤ (d1 : Int):=by have h:=HI.out.db.rw.hc;have:=HLN.out;simp at h;omega
     have sy3 : (1 : Int) ≤ (d1 : Int):=by omega
     rcases DTY with ⟨rfl,rfl,rfl⟩ | ⟨hd1,rfl,rfl⟩
     all_goals obtain ⟨yb,y0,y1,y2⟩:=YC.out _ F5.out.1
     all_goals have q0:=F5.out.2.at 0
     all_goals have q3:=F5.out.2.at 6
     all_goals have q4:=F5.out.2.at 7
     all_goals have q5:=F5.out.2.at 8
     all_goals have qz:=F5.out.2.fz
     all_goals go_region_held3 (fun V => V.cell? ay = some (tv y.label) ∧ V.cell? ⟨ay.block,ay.off + 1,none⟩ = some (.slice y.uA y.uses.length y.uc) ∧ V.cell? ⟨ay.block,ay.off + 2,none⟩ = some (.slice y.dA y.decls.length y.dc)) (first | exact (YC.out _ (by repeat' (first | exact F5.out.1 | refine Xg ?_ (Qb _) | (refine Qv ?_ (by have:=HBK.out;omega) _)))).2 | go_keep) (fail)
     all_goals refine box9 (wr:=wr) (C:=#[tv y.label,.bool false,.bool true,.string ⟨#[]⟩,.slice none 0 0,.slice none 0 0,tv y.label,.slice y.uA y.uses.length y.uc,.slice y.dA y.decls.length y.dc]) bk (by repeat' (first | exact F5.out.1 | refine Xg ?_ (Qb _) | (refine Qv ?_ (by have:=HBK.out;omega) _))) (Xi (Qbc (Qy (Qy (Qy (Qy F5.out.2))))) rfl) ?_
     all_goals clear yb y0 y1 y2 q0 q3 q4 q5 qz
     all_goals intro W8 G8 F8
     all_goals have FB:=Qo0 (And.intro G8 F8)
     all_goals clear G8 F8
     all_goals have p0:=FB.out.2.at 0
     all_goals have p1:=FB.out.2.at 1
     all_goals have p2:=FB.out.2.at 2
     all_goals have p3:=FB.out.2.at 3
     all_goals have p4:=FB.out.2.at 4
     all_goals have p5:=FB.out.2.at 5
     all_goals have p6:=FB.out.2.at 6
     all_goals have p7:=FB.out.2.at 7
     all_goals have p8:=FB.out.2.at 8
     all_goals go_wp2_with (at_builtin;refine Qf elB rfl (.tmp 81) (.tmp 83) rfl w.heap.size (v:=u5) rfl (HI.out.o.gr (FB.out.1.trans (Qa _ _))) (A:=some ⟨_,0,none⟩) (M:=([⟨y.label,false,true,Z1,y⟩] : List Bth)) (m:=1) (c:=1) rfl rfl (Qj (t:=73) Bth.cs_len (Qd _ _)) (by have:=HI.out.len;have:=RL.out;simp;omega) (Nat.le_trans (HI.out.g.trans FB.out.1).size (by simp)) ?_;intro v7 w7 o7 g7 b7;have O7:=Qo0 o7;have G7:=Qo0 g7;clear o7 g7 b7)
     all_goals exact ⟨⟨_,_,x :: a,_,_,b,_,by have:=HLN.out;first | rfl | (simp;omega),by have:=HLN.out;first | rfl | (simp;omega),Qo0 (HI.out.put (FB.out.1.trans (Qa _ _)) O7.out G7.out HI.out.da DU.out ⟨.inl rfl,.inr (HI.out.sb y (by simp)),(HI.out.db.m y (by simp)).l⟩ (by simp_all) (by simp_all) (by simp only [List.map_cons];rw [Qx,if_neg (show ¬ x.er.label < y.er.label from H1.out),if_pos (show y.er.label < x.er.label from H2.out)];rfl))⟩,by have:=HLN.out;simp [Yq];omega⟩
    ·have e1 : (x.label == y.label) = true:=by simp only [beq_iff_eq];exact Ord.tri _ _ h1 h2
     have e2 : (y.label == x.label) = true:=by simp only [beq_iff_eq];exact (Ord.tri _ _ h1 h2).symm
     rw [decide_eq_false h1] at hb1
     rw [decide_eq_false h2] at hb2
     have H1:=Qo0 h1
     have H2:=Qo0 h2
     clear h1 h2
     obtain ⟨W1,hW1⟩ : ∃ W1,wr.alloc (.cells #[.string ⟨#[]⟩,.bool false,.bool false,.string ⟨#[]⟩,.slice none 0 0,.slice none 0 0,.string ⟨#[]⟩,.slice none 0 0,.slice none 0 0] 73) = W1:=⟨_,rfl⟩
     obtain ⟨bk,hbk⟩ : ∃ bk,wr.heap.size = bk:=⟨_,rfl⟩
     have F1:=Qo0 (show Gr wr W1 ∧ HF W1 bk #[.string ⟨#[]⟩,.bool false,.bool false,.string ⟨#[]⟩,.slice none 0 0,.slice none 0 0,.string ⟨#[]⟩,.slice none 0 0,.slice none 0 0] from ⟨by rw [← hW1];exact Qa _ _,by rw [← hW1,← hbk];exact Qd _ _⟩)
     have HW1:=Qo0 hW1
     clear hW1
     go_upto_region 4 with fail
     rw [HW1.out]
     have HBK:=Qo0 hbk
     clear hbk
     obtain ⟨xb,x0,x1,x2⟩:=XC.out _ F1.out.1
     obtain ⟨yb,y0,y1,y2⟩:=YC.out _ F1.out.1
     refine wp_region_still_tail 20 (by kernel_rfl) (by kernel_rfl) ?_
     simp only [List.take_succ_cons,List.take_zero,List.drop_succ_cons,List.drop_zero]
     iterate 20 (with_reducible refine Q3 (by kernel_rfl) (fun K hK => ?_);go_simp;refine hK _ ?_;clear hK K)
     refine wpStill_nil ?_
     change wpList _ _ _ _ _ W1.drew
     generalize hW2 : W1.drew = W2
     have F2:=Qo0 (show Gr wr W2 ∧ HF W2 bk #[.string ⟨#[]⟩,.bool false,.bool false,.string ⟨#[]⟩,.slice none 0 0,.slice none 0 0,.string ⟨#[]⟩,.slice none 0 0,.slice none 0 0] from ⟨by rw [← hW2];exact F1.out.1.trans (Qb _),by rw [← hW2];exact F1.out.2⟩)
     clear hW2 xb x0 x1 x2 yb y0 y1 y2
     have q0:=F2.out.2.at 1
     have q1:=F2.out.2.fz 1
     go_upto_region 5 with fail
     generalize hW3 : World.setCell W2 _ _ = W3
     have F3:=Qo0 (show Gr wr W3 ∧ HF W3 bk #[.string ⟨#[]⟩,.bool true,.bool false,.string ⟨#[]⟩,.slice none 0 0,.slice none 0 0,.string ⟨#[]⟩,.slice none 0 0,.slice none 0 0] from ⟨by rw [← hW3];exact Qv F2.out.1 (by have:=HBK.out;omega) _,by rw [← hW3];exact Xi (Qy F2.out.2) rfl⟩)
     clear hW3 q0 q1
     obtain ⟨xb,x0,x1,x2⟩:=XC.out _ F3.out.1
     obtain ⟨yb,y0,y1,y2⟩:=YC.out _ F3.out.1
     refine wp_region_still_tail 20 (by kernel_rfl) (by kernel_rfl) ?_
     simp only [List.take_succ_cons,List.take_zero,List.drop_succ_cons,List.drop_zero]
     iterate 20 (with_reducible refine Q3 (by kernel_rfl) (fun K hK => ?_);go_simp;refine hK _ ?_;clear hK K)
     refine wpStill_nil ?_
     change wpList _ _ _ _ _ W3.drew
     generalize hW4 : W3.drew = W4
     have F4:=Qo0 (show Gr wr W4 ∧ HF W4 bk #[.string ⟨#[]⟩,.bool true,.bool false,.string ⟨#[]⟩,.slice none 0 0,.slice none 0 0,.string ⟨#[]⟩,.slice none 0 0,.slice none 0 0] from ⟨by rw [← hW4];exact F3.out.1.trans (Qb _),by rw [← hW4];exact F3.out.2⟩)
     clear hW4 xb x0 x1 x2 yb y0 y1 y2
     have q0:=F4.out.2.at 2
     have q1:=F4.out.2.fz 2
     go_upto_region 6 with fail
     generalize hW5 : World.setCell W4 _ _ = W5
     have F5:=Qo0 (show Gr wr W5 ∧ HF W5 bk #[.string ⟨#[]⟩,.bool true,.bool true,.string ⟨#[]⟩,.slice none 0 0,.slice none 0 0,.string ⟨#[]⟩,.slice none 0 0,.slice none 0 0] from ⟨by rw [← hW5];exact Qv F4.out.1 (by have:=HBK.out;omega) _,by rw [← hW5];exact Xi (Qy F4.out.2) rfl⟩)
     clear hW5 q0 q1
     have q1:=F5.out.2.at 1
     go_upto_region 7 with fail
     clear q1
     have sx1 : (1 : Int) ≤ (n : Int):=by omega
     have sx2 : (n : Int) ≤ (c1 : Int):=by have h:=HI.out.da.rw.hc;have:=HLN.out;simp at h;omega
     have sx3 : (1 : Int) ≤ (c1 : Int):=by omega
     rcases DTL with ⟨rfl,rfl,rfl⟩ | ⟨hc1,rfl,rfl⟩
     all_goals obtain ⟨xb,x0,x1,x2⟩:=XC.out _ F5.out.1
     all_goals have q0:=F5.out.2.at 0
     all_goals have q3:=F5.out.2.at 3
     all_goals have q4:=F5.out.2.at 4
     all_goals have q5:=F5.out.2.at 5
     all_goals have qz:=F5.out.2.fz
     all_goals go_region_held3 (fun V => V.cell? ax = some (tv x.label) ∧ V.cell? ⟨ax.block,ax.off + 1,none⟩ = some (.slice x.uA x.uses.length x.uc) ∧ V.cell? ⟨ax.block,ax.off + 2,none⟩ = some (.slice x.dA x.decls.length x.dc)) (first | exact (XC.out _ (by repeat' (first | exact F5.out.1 | refine Xg ?_ (Qb _) | (refine Qv ?_ (by have:=HBK.out;omega) _)))).2 | go_keep) (fail)
     all_goals refine box9 (wr:=wr) (C:=#[tv x.label,.bool true,.bool true,tv x.label,.slice x.uA x.uses.length x.uc,.slice x.dA x.decls.length x.dc,.string ⟨#[]⟩,.slice none 0 0,.slice none 0 0]) bk (by repeat' (first | exact F5.out.1 | refine Xg ?_ (Qb _) | (refine Qv ?_ (by have:=HBK.out;omega) _))) (Xi (Qbc (Qy (Qy (Qy (Qy F5.out.2))))) rfl) ?_
     all_goals clear xb x0 x1 x2 q0 q3 q4 q5 qz
     all_goals intro W7 G7 F7
     all_goals have FA:=Qo0 (And.intro G7 F7)
     all_goals clear G7 F7
     all_goals have q2:=FA.out.2.at 2
     all_goals go_upto_region 9 with fail
     all_goals clear q2
     all_goals (try clear q1)
     all_goals have sy1 : (1 : Int) ≤ (m : Int):=by omega
     all_goals have sy2 : (m : Int) ≤ (d1 : Int):=by have h:=HI.out.db.rw.hc;have:=HLN.out;simp at h;omega
     all_goals have sy3 : (1 : Int) ≤ (d1 : Int):=by omega
     all_goals rcases DTY with ⟨rfl,rfl,rfl⟩ | ⟨hd1,rfl,rfl⟩
     all_goals obtain ⟨yb,y0,y1,y2⟩:=YC.out _ FA.out.1
     all_goals have q0:=FA.out.2.at 0
     all_goals have q3:=FA.out.2.at 6
     all_goals have q4:=FA.out.2.at 7
     all_goals have q5:=FA.out.2.at 8
     all_goals have qz:=FA.out.2.fz
     all_goals go_region_held3 (fun V => V.cell? ay = some (tv y.label) ∧ V.cell? ⟨ay.block,ay.off + 1,none⟩ = some (.slice y.uA y.uses.length y.uc) ∧ V.cell? ⟨ay.block,ay.off + 2,none⟩ = some (.slice y.dA y.decls.length y.dc)) (first | exact (YC.out _ (by repeat' (first | exact FA.out.1 | refine Xg ?_ (Qb _) | (refine Qv ?_ (by have:=HBK.out;omega) _)))).2 | go_keep) (fail)
     all_goals refine box9 (wr:=wr) (C:=#[tv y.label,.bool true,.bool true,tv x.label,.slice x.uA x.uses.length x.uc,.slice x.dA x.decls.length x.dc,tv y.label,.slice y.uA y.uses.length y.uc,.slice y.dA y.decls.length y.dc]) bk (by repeat' (first | exact FA.out.1 | refine Xg ?_ (Qb _) | (refine Qv ?_ (by have:=HBK.out;omega) _))) (Xi (Qbc (Qy (Qy (Qy (Qy FA.out.2))))) rfl) ?_
     all_goals clear yb y0 y1 y2 q0 q3 q4 q5 qz
     all_goals intro W8 G8 F8
     all_goals have FB:=Qo0 (And.intro G8 F8)
     all_goals clear G8 F8
     all_goals have p0:=FB.out.2.at 0
     all_goals have p1:=FB.out.2.at 1
     all_goals have p2:=FB.out.2.at 2
     all_goals have p3:=FB.out.2.at 3
     all_goals have p4:=FB.out.2.at 4
     all_goals have p5:=FB.out.2.at 5
     all_goals have p6:=FB.out.2.at 6
     all_goals have p7:=FB.out.2.at 7
     all_goals have p8:=FB.out.2.at 8
     all_goals go_wp2_with (at_builtin;refine Qf elB rfl (.tmp 81) (.tmp 83) rfl w.heap.size (v:=u5) rfl (HI.out.o.gr (FB.out.1.trans (Qa _ _))) (A:=some ⟨_,0,none⟩) (M:=([⟨y.label,true,true,x,y⟩] : List Bth)) (m:=1) (c:=1) rfl rfl (Qj (t:=73) Bth.cs_len (Qd _ _)) (by have:=HI.out.len;have:=RL.out;simp;omega) (Nat.le_trans (HI.out.g.trans FB.out.1).size (by simp)) ?_;intro v7 w7 o7 g7 b7;have O7:=Qo0 o7;have G7:=Qo0 g7;clear o7 g7 b7)
     all_goals exact ⟨⟨_,_,a,_,_,b,_,by have:=HLN.out;first | rfl | (simp;omega),by have:=HLN.out;first | rfl | (simp;omega),Qo0 (HI.out.put (FB.out.1.trans (Qa _ _)) O7.out G7.out DT.out DU.out ⟨.inr (HI.out.sa x (by simp)),.inr (HI.out.sb y (by simp)),(HI.out.db.m y (by simp)).l⟩ (by simp_all) (by simp_all) (by simp only [List.map_cons];rw [Qx,if_neg (show ¬ x.er.label < y.er.label from H1.out),if_neg (show ¬ y.er.label < x.er.label from H2.out)];rfl))⟩,by have:=HLN.out;simp [Yq];omega⟩
end Go.Proofs.YtiaenhlflgobfaaGreatDoor

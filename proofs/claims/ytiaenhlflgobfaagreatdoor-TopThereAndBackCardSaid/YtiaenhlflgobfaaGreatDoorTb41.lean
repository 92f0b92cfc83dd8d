/- Words. -/
import Derived.Test.YtiaenhlflgobfaaGreatDoorTb39
namespace Go.Proofs.YtiaenhlflgobfaaGreatDoor
open Go.RowKit
theorem DS.gr {w0 w V V' : World} {l : T} {v : Value} {R : List PT} {A B : Option Addr} {c d : Nat} {La Lb : List Dec} {Ls : List Edt} (h : DS w0 w V l v R A c La B d Lb Ls) (g : Gr V V') : DS w0 w V' l v R A c La B d Lb Ls:=⟨h.da,h.db,h.o.gr g,fun e he => (h.e e he).gr g,h.q,h.g.trans g,h.g0,h.sa⟩
theorem Xj {a b c : World} (h : Gr a b) (k : Gr b c) : Gr a c:=h.trans k
theorem Qaq {W : World} {o cx : Obj} {i : Nat} (h : i = W.heap.size) (ho : o = cx) : (W.alloc o).heap[i]? = some cx:=by rw [← ho];exact Qr _ _ h
theorem Qmh {G : Act → World → Prop} {tm : Array Value} {df : List Deferred} {wr V : World} {cx cy : Obj} (i k : Nat) (_h10 : tm.getD 10 undef = .pointer (some ⟨i,0,none⟩)) (_h11 : tm.getD 11 undef = .pointer (some ⟨k,0,none⟩)) (g : Gr wr V) (fx : V.heap[i]? = some cx) (fy : V.heap[k]? = some cy) (rest : ∀ V',Gr wr V' → V'.heap[i]? = some cx → V'.heap[k]? = some cy → G ⟨tm,df⟩ V') : G ⟨tm,df⟩ V:=rest V g fx fy
structure DI (w0 w V : World) (l : T) (v : Value) (R T1 : List PT) (Ls : List Edt) : Prop where
 o : OR 32 5 Edt.cs V w.heap.size v Ls
 e : ∀ e ∈ Ls,ED w0 V e
 q : Ls.map Edt.er ++ T1 = R
 g : Gr w V
 g0 : Gr w0 w
theorem DI.gr {w0 w V V' : World} {l : T} {v : Value} {R T1 : List PT} {Ls : List Edt} (h : DI w0 w V l v R T1 Ls) (g : Gr V V') : DI w0 w V' l v R T1 Ls:=⟨h.o.gr g,fun e he => (h.e e he).gr g,h.q,h.g.trans g,h.g0⟩
theorem DI.put {w0 w V V8 w7 : World} {l : T} {v v7 : Value} {R T1 T2 : List PT} {Ls es : List Edt} (h : DI w0 w V l v R T1 Ls) (g8 : Gr V V8) (he : ∀ e ∈ es,ED w0 V8 e) (o7 : OR 32 5 Edt.cs w7 w.heap.size v7 (Ls ++ es)) (g7 : V8.grownBy w7 v.ownBlock) (hq : T1 = es.map Edt.er ++ T2) : DI w0 w w7 l v7 R T2 (Ls ++ es):=by
 have o8:=h.o.gr g8
 refine ⟨o7,fun e hx => ?_,by rw [List.map_append,List.append_assoc,← hq];exact h.q,OR.grow (h.g.trans g8) o8 (Nat.le_refl _) g7,h.g0⟩
 rcases List.mem_append.1 hx with hx | hx
 ·exact ((h.e e hx).gr g8).row o8 g7
 ·exact (he e hx).row o8 g7
theorem DI.gg {w0 w V : World} {l : T} {v : Value} {R T1 : List PT} {Ls : List Edt} (h : DI w0 w V l v R T1 Ls) : Gr w0 V:=h.g0.trans h.g
theorem DI.len {w0 w V : World} {l : T} {v : Value} {R T1 : List PT} {Ls : List Edt} (h : DI w0 w V l v R T1 Ls) : Ls.length ≤ R.length:=by
 have:=congrArg List.length h.q
 rw [List.length_append,List.length_map] at this
 omega
set_option maxRecDepth 100000 in
set_option maxHeartbeats 16000000 in
attribute [local irreducible] Calls in
theorem Qeh (l : T) (A : Option Addr) (c : Nat) (La : List Dec) (B : Option Addr) (d : Nat) (Lb : List Dec) (w0 w : World) (g0 : Gr w0 w) (hl : sOk l) (hA : DRd w0 A c La) (hB : DRd w0 B d Lb) (hn : La.length ≤ 1000) (hm : Lb.length ≤ 1000) (hs : ∀ x ∈ La,(x.body.er.pre 1).length ≤ 400) :
 Calls Tryz.prog 24 #[tv l,.slice A La.length c,.slice B Lb.length d] w fun e w' => ∃ v Ls,e = .returned v ∧ OR 32 5 Edt.cs w' w.heap.size v Ls ∧ (∀ e ∈ Ls,ED w0 w' e) ∧ Ls.map Edt.er = Qu l (La.map Dec.er) (Lb.map Dec.er) ∧ Gr w w':=by
 obtain ⟨R,hR⟩ : ∃ R,Qu l (La.map Dec.er) (Lb.map Dec.er) = R:=⟨_,rfl⟩
 have RL:=Qo0 (show R.length ≤ 6000 from by rw [← hR];have:=Yw l (La.map Dec.er) (Lb.map Dec.er);simp at this;omega)
 have D0:=Qo0 (show DS w0 w w l (.slice none 0 0) R A c La B d Lb [] from ⟨hA,hB,OR.nil,by simp,by simpa using hR,Qc _,g0,hs⟩)
 have HL:=Qo0 hl
 rw [hR]
 clear hl hA hB hn hm hs hR g0
 go_enter Tryz.func24,Tryz.ntmps24
 go_wp2
 go_loopw [1,2,7,9,10,11] (fun t1 t2 t7 _ _ _ V => ∃ A c La B d Lb Ls,t1 = .slice A (List.length La) c ∧ t2 = .slice B (List.length Lb) d ∧ Hid (DS w0 w V l t7 R A c La B d Lb Ls)) (fun t1 t2 _ _ _ _ _ => Yq t1 + Yq t2)
 case atStart => exact ⟨A,c,La,B,d,Lb,[],rfl,rfl,D0⟩
 case round =>
  obtain ⟨A1,c1,xs,B1,d1,ys,Ls,rfl,rfl,HI⟩:=hrel
  clear D0
  obtain ⟨n,hxn⟩ : ∃ n,xs.length = n:=⟨_,rfl⟩
  obtain ⟨m,hym⟩ : ∃ m,ys.length = m:=⟨_,rfl⟩
  rw [hxn,hym]
  rcases xs with _ | ⟨x,a⟩
  ·obtain rfl : n = 0:=by simpa using hxn.symm
   rcases ys with _ | ⟨y,b⟩
   ·obtain rfl : m = 0:=by simpa using hym.symm
    have FF:=Qo0 (show OR 32 5 Edt.cs wr w.heap.size u7 Ls ∧ (∀ e ∈ Ls,ED w0 wr e) ∧ Ls.map Edt.er = R ∧ Gr w wr from ⟨HI.out.o,HI.out.e,by have h:=HI.out.q;simpa [Qu] using h,HI.out.g⟩)
    clear HI
    go_wp2
    go_ret
    exact ⟨_,_,rfl,FF.out⟩
   ·replace hym : b.length + 1 = m:=by simpa using hym
    have HLN:=Qo0 hym
    have hm0 : (0 : Int) < (m : Int):=by omega
    have hmz : ((m : Int) == 0) = false:=by rw [beq_eq_false_iff_ne];omega
    have hmn : 0 < m:=by omega
    have hmd : decide (0 < m) = true:=by simpa using hmn
    clear hxn hym
    obtain ⟨ay,rfl⟩:=HI.out.db.some
    obtain ⟨B2,d2,DTL,dt⟩:=HI.out.db.tail
    have DT:=Qo0 dt
    clear dt
    obtain ⟨yb,y0,y1,y2,y3,y4,y5,y6,y7,y8,y9,y10⟩:=Zs HI.out.db HI.out.gg
    go_upto_region 11 with fail
    go_big_quiet (fail)
    generalize hW : World.drewN wr _ = W1
    have HJ:=Qo0 (HI.out.gr (V':=W1) (by rw [← hW];exact Qq _ _))
    clear hW HI yb y0 y1 y2 y3 y4 y5 y6 y7 y8 y9 y10
    have HI:=HJ
    clear HJ
    obtain ⟨yb,y0,y1,y2,y3,y4,y5,y6,y7,y8,y9,y10⟩:=Zs HI.out.db HI.out.gg
    go_upto_region 14 with fail
    go_big_quiet (fail)
    generalize hW : World.drewN W1 _ = W
    have HJ:=Qo0 (HI.out.gr (V':=W) (by rw [← hW];exact Qq _ _))
    clear hW HI yb y0 y1 y2 y3 y4 y5 y6 y7 y8 y9 y10
    have HI:=HJ
    clear HJ
    obtain ⟨yb,y0,y1,y2,y3,y4,y5,y6,y7,y8,y9,y10⟩:=Zs HI.out.db HI.out.gg
    have EDH:=Qo0 (fun e (he : e ∈ ([⟨5,l,[],none,0,[],some ⟨W.heap.size,0,none⟩,1,[y]⟩] : List Edt)) => show ED w0 ((W.alloc (.cells y.cs.toArray 45)).alloc (.cells #[iv 5,tv l,tv [],.slice none 0 0,.slice (some ⟨W.heap.size,0,none⟩) 1 1] 32)) e from by
     rw [List.mem_singleton.1 he]
     have h8 : ((W.alloc (.cells y.cs.toArray 45)).alloc (.cells #[iv 5,tv l,tv [],.slice none 0 0,.slice (some ⟨W.heap.size,0,none⟩) 1 1] 32)).heap[W.heap.size]? = some (.cells y.cs.toArray 45 (0,0)):=Qe (Qa _ _) (Qd _ _)
     exact ⟨HL.out,by simp [sOk],.inl ⟨rfl,rfl,rfl⟩,.inr ⟨_,y,rfl,rfl,rfl,h8,(HI.out.db.d y (by simp))⟩⟩)
    rcases DTL with ⟨rfl,rfl,rfl⟩ | ⟨hc1,rfl,rfl⟩
    ·go_wp2_with (at_builtin;refine Qf elT rfl (.tmp 101) (.tmp 108) rfl w.heap.size (v:=u7) rfl (HI.out.o.gr ((Qa _ _).trans (Qa _ _))) (A:=some ⟨_,0,none⟩) (M:=([⟨5,l,[],none,0,[],some ⟨W.heap.size,0,none⟩,1,[y]⟩] : List Edt)) (m:=1) (c:=1) rfl rfl (Qj (t:=32) Edt.cs_len (Qr _ _ (by simp))) (by have:=HI.out.len;have:=RL.out;simp;omega) (Nat.le_trans HI.out.g.size (by simp;omega)) ?_;intro v7 w7 o7 g7 b7;have O7:=Qo0 o7;have G7:=Qo0 g7;clear o7 g7 b7)
     exact ⟨⟨A1,c1,[],some ay,0,b,_,by have:=HLN.out;first | rfl | (simp;omega),by have:=HLN.out;first | rfl | (simp;omega),Qo0 (HI.out.put ((Qa _ _).trans (Qa _ _)) EDH.out O7.out G7.out HI.out.da DT.out (by simp_all) (by simp only [List.map_nil,List.map_cons];rw [Qu];rfl))⟩,by have:=HLN.out;simp [Yq];omega⟩
    ·go_wp2_with (at_builtin;refine Qf elT rfl (.tmp 101) (.tmp 108) rfl w.heap.size (v:=u7) rfl (HI.out.o.gr ((Qa _ _).trans (Qa _ _))) (A:=some ⟨_,0,none⟩) (M:=([⟨5,l,[],none,0,[],some ⟨W.heap.size,0,none⟩,1,[y]⟩] : List Edt)) (m:=1) (c:=1) rfl rfl (Qj (t:=32) Edt.cs_len (Qr _ _ (by simp))) (by have:=HI.out.len;have:=RL.out;simp;omega) (Nat.le_trans HI.out.g.size (by simp;omega)) ?_;intro v7 w7 o7 g7 b7;have O7:=Qo0 o7;have G7:=Qo0 g7;clear o7 g7 b7)
     exact ⟨⟨A1,c1,[],_,_,b,_,by have:=HLN.out;first | rfl | (simp;omega),by have:=HLN.out;first | rfl | (simp;omega),Qo0 (HI.out.put ((Qa _ _).trans (Qa _ _)) EDH.out O7.out G7.out HI.out.da DT.out (by simp_all) (by simp only [List.map_nil,List.map_cons];rw [Qu];rfl))⟩,by have:=HLN.out;simp [Yq];omega⟩
  ·replace hxn : a.length + 1 = n:=by simpa using hxn
   have hn0 : (0 : Int) < (n : Int):=by omega
   have hnz : ((n : Int) == 0) = false:=by rw [beq_eq_false_iff_ne];omega
   have hnn : 0 < n:=by omega
   have hnd : decide (0 < n) = true:=by simpa using hnn
   rcases ys with _ | ⟨y,b⟩
   ·obtain rfl : m = 0:=by simpa using hym.symm
    have HLN:=Qo0 hxn
    clear hxn hym
    obtain ⟨ax,rfl⟩:=HI.out.da.some
    obtain ⟨A2,c2,DTL,dt⟩:=HI.out.da.tail
    have DT:=Qo0 dt
    clear dt
    obtain ⟨xb,x0,x1,x2,x3,x4,x5,x6,x7,x8,x9,x10⟩:=Zs HI.out.da HI.out.gg
    go_upto_region 11 with fail
    go_big_quiet (fail)
    generalize hW : World.drewN wr _ = W
    have HJ:=Qo0 (HI.out.gr (V':=W) (by rw [← hW];exact Qq _ _))
    clear hW HI xb x0 x1 x2 x3 x4 x5 x6 x7 x8 x9 x10
    have HI:=HJ
    clear HJ
    obtain ⟨xb,x0,x1,x2,x3,x4,x5,x6,x7,x8,x9,x10⟩:=Zs HI.out.da HI.out.gg
    have EDH:=Qo0 (fun e (he : e ∈ ([⟨6,l,[],some ⟨W.heap.size,0,none⟩,1,[x],none,0,[]⟩] : List Edt)) => show ED w0 ((W.alloc (.cells x.cs.toArray 45)).alloc (.cells #[iv 6,tv l,tv [],.slice (some ⟨W.heap.size,0,none⟩) 1 1,.slice none 0 0] 32)) e from by
     rw [List.mem_singleton.1 he]
     have h8 : ((W.alloc (.cells x.cs.toArray 45)).alloc (.cells #[iv 6,tv l,tv [],.slice (some ⟨W.heap.size,0,none⟩) 1 1,.slice none 0 0] 32)).heap[W.heap.size]? = some (.cells x.cs.toArray 45 (0,0)):=Qe (Qa _ _) (Qd _ _)
     exact ⟨HL.out,by simp [sOk],.inr ⟨_,x,rfl,rfl,rfl,h8,(HI.out.da.d x (by simp))⟩,.inl ⟨rfl,rfl,rfl⟩⟩)
    rcases DTL with ⟨rfl,rfl,rfl⟩ | ⟨hc1,rfl,rfl⟩
    ·go_wp2_with (at_builtin;refine Qf elT rfl (.tmp 75) (.tmp 82) rfl w.heap.size (v:=u7) rfl (HI.out.o.gr ((Qa _ _).trans (Qa _ _))) (A:=some ⟨_,0,none⟩) (M:=([⟨6,l,[],some ⟨W.heap.size,0,none⟩,1,[x],none,0,[]⟩] : List Edt)) (m:=1) (c:=1) rfl rfl (Qj (t:=32) Edt.cs_len (Qr _ _ (by simp))) (by have:=HI.out.len;have:=RL.out;simp;omega) (Nat.le_trans HI.out.g.size (by simp;omega)) ?_;intro v7 w7 o7 g7 b7;have O7:=Qo0 o7;have G7:=Qo0 g7;clear o7 g7 b7)
     exact ⟨⟨some ax,0,a,B1,d1,[],_,by have:=HLN.out;first | rfl | (simp;omega),by have:=HLN.out;first | rfl | (simp;omega),Qo0 (HI.out.put ((Qa _ _).trans (Qa _ _)) EDH.out O7.out G7.out DT.out HI.out.db (by simp_all) (by simp only [List.map_nil,List.map_cons];rw [Qu];rfl))⟩,by have:=HLN.out;simp [Yq];omega⟩
    ·go_wp2_with (at_builtin;refine Qf elT rfl (.tmp 75) (.tmp 82) rfl w.heap.size (v:=u7) rfl (HI.out.o.gr ((Qa _ _).trans (Qa _ _))) (A:=some ⟨_,0,none⟩) (M:=([⟨6,l,[],some ⟨W.heap.size,0,none⟩,1,[x],none,0,[]⟩] : List Edt)) (m:=1) (c:=1) rfl rfl (Qj (t:=32) Edt.cs_len (Qr _ _ (by simp))) (by have:=HI.out.len;have:=RL.out;simp;omega) (Nat.le_trans HI.out.g.size (by simp;omega)) ?_;intro v7 w7 o7 g7 b7;have O7:=Qo0 o7;have G7:=Qo0 g7;clear o7 g7 b7)
     exact ⟨⟨_,_,a,B1,d1,[],_,by have:=HLN.out;first | rfl | (simp;omega),by have:=HLN.out;first | rfl | (simp;omega),Qo0 (HI.out.put ((Qa _ _).trans (Qa _ _)) EDH.out O7.out G7.out DT.out HI.out.db (by simp_all) (by simp only [List.map_nil,List.map_cons];rw [Qu];rfl))⟩,by have:=HLN.out;simp [Yq];omega⟩
   ·replace hym : b.length + 1 = m:=by simpa using hym
    have hm0 : (0 : Int) < (m : Int):=by omega
    have hmz : ((m : Int) == 0) = false:=by rw [beq_eq_false_iff_ne];omega
    have hmn : 0 < m:=by omega
    have hmd : decide (0 < m) = true:=by simpa using hmn
    have HLN:=Qo0 (And.intro hxn hym)
    clear hxn hym
    obtain ⟨ax,rfl⟩:=HI.out.da.some
    obtain ⟨A2,c2,DTL,dt⟩:=HI.out.da.tail
    have DT:=Qo0 dt
    clear dt
    obtain ⟨ay,rfl⟩:=HI.out.db.some
    obtain ⟨B2,d2,DTY,dt⟩:=HI.out.db.tail
    have DU:=Qo0 dt
    clear dt
    obtain ⟨xb,x0,x1,x2,x3,x4,x5,x6,x7,x8,x9,x10⟩:=Zs HI.out.da HI.out.gg
    obtain ⟨yb,y0,y1,y2,y3,y4,y5,y6,y7,y8,y9,y10⟩:=Zs HI.out.db HI.out.gg
    by_cases h1 : x.id < y.id
    ·go_upto_region 11 with fail
     go_big_quiet (fail)
     generalize hW : World.drewN wr _ = W
     have HJ:=Qo0 (HI.out.gr (V':=W) (by rw [← hW];exact Qq _ _))
     clear hW HI xb x0 x1 x2 x3 x4 x5 x6 x7 x8 x9 x10 yb y0 y1 y2 y3 y4 y5 y6 y7 y8 y9 y10
     have HI:=HJ
     clear HJ
     obtain ⟨xb,x0,x1,x2,x3,x4,x5,x6,x7,x8,x9,x10⟩:=Zs HI.out.da HI.out.gg
     obtain ⟨yb,y0,y1,y2,y3,y4,y5,y6,y7,y8,y9,y10⟩:=Zs HI.out.db HI.out.gg
     have EDH:=Qo0 (fun e (he : e ∈ ([⟨6,l,[],some ⟨W.heap.size,0,none⟩,1,[x],none,0,[]⟩] : List Edt)) => show ED w0 ((W.alloc (.cells x.cs.toArray 45)).alloc (.cells #[iv 6,tv l,tv [],.slice (some ⟨W.heap.size,0,none⟩) 1 1,.slice none 0 0] 32)) e from by
      rw [List.mem_singleton.1 he]
      have h8 : ((W.alloc (.cells x.cs.toArray 45)).alloc (.cells #[iv 6,tv l,tv [],.slice (some ⟨W.heap.size,0,none⟩) 1 1,.slice none 0 0] 32)).heap[W.heap.size]? = some (.cells x.cs.toArray 45 (0,0)):=Qe (Qa _ _) (Qd _ _)
      exact ⟨HL.out,by simp [sOk],.inr ⟨_,x,rfl,rfl,rfl,h8,(HI.out.da.d x (by simp))⟩,.inl ⟨rfl,rfl,rfl⟩⟩)
     rcases DTL with ⟨rfl,rfl,rfl⟩ | ⟨hc1,rfl,rfl⟩
     ·go_wp2_with (at_builtin;refine Qf elT rfl (.tmp 75) (.tmp 82) rfl w.heap.size (v:=u7) rfl (HI.out.o.gr ((Qa _ _).trans (Qa _ _))) (A:=some ⟨_,0,none⟩) (M:=([⟨6,l,[],some ⟨W.heap.size,0,none⟩,1,[x],none,0,[]⟩] : List Edt)) (m:=1) (c:=1) rfl rfl (Qj (t:=32) Edt.cs_len (Qr _ _ (by simp))) (by have:=HI.out.len;have:=RL.out;simp;omega) (Nat.le_trans HI.out.g.size (by simp;omega)) ?_;intro v7 w7 o7 g7 b7;have O7:=Qo0 o7;have G7:=Qo0 g7;clear o7 g7 b7)
      exact ⟨⟨some ax,0,a,some ay,d1,y :: b,_,by have:=HLN.out;first | rfl | (simp;omega),by have:=HLN.out;first | rfl | (simp;omega),Qo0 (HI.out.put ((Qa _ _).trans (Qa _ _)) EDH.out O7.out G7.out DT.out HI.out.db (by simp_all) (by simp only [List.map_cons];rw [Qu,if_pos (show x.er.id < y.er.id from h1)];rfl))⟩,by have:=HLN.out;simp [Yq];omega⟩
     ·go_wp2_with (at_builtin;refine Qf elT rfl (.tmp 75) (.tmp 82) rfl w.heap.size (v:=u7) rfl (HI.out.o.gr ((Qa _ _).trans (Qa _ _))) (A:=some ⟨_,0,none⟩) (M:=([⟨6,l,[],some ⟨W.heap.size,0,none⟩,1,[x],none,0,[]⟩] : List Edt)) (m:=1) (c:=1) rfl rfl (Qj (t:=32) Edt.cs_len (Qr _ _ (by simp))) (by have:=HI.out.len;have:=RL.out;simp;omega) (Nat.le_trans HI.out.g.size (by simp;omega)) ?_;intro v7 w7 o7 g7 b7;have O7:=Qo0 o7;have G7:=Qo0 g7;clear o7 g7 b7)
      exact ⟨⟨_,_,a,some ay,d1,y :: b,_,by have:=HLN.out;first | rfl | (simp;omega),by have:=HLN.out;first | rfl | (simp;omega),Qo0 (HI.out.put ((Qa _ _).trans (Qa _ _)) EDH.out O7.out G7.out DT.out HI.out.db (by simp_all) (by simp only [List.map_cons];rw [Qu,if_pos (show x.er.id < y.er.id from h1)];rfl))⟩,by have:=HLN.out;simp [Yq];omega⟩
    by_cases h2 : y.id < x.id
    ·go_upto_region 11 with fail
     go_big_quiet (fail)
     generalize hW : World.drewN wr _ = W1
     have HJ:=Qo0 (HI.out.gr (V':=W1) (by rw [← hW];exact Qq _ _))
     clear hW HI xb x0 x1 x2 x3 x4 x5 x6 x7 x8 x9 x10 yb y0 y1 y2 y3 y4 y5 y6 y7 y8 y9 y10
     have HI:=HJ
     clear HJ
     obtain ⟨xb,x0,x1,x2,x3,x4,x5,x6,x7,x8,x9,x10⟩:=Zs HI.out.da HI.out.gg
     obtain ⟨yb,y0,y1,y2,y3,y4,y5,y6,y7,y8,y9,y10⟩:=Zs HI.out.db HI.out.gg
     go_upto_region 14 with fail
     go_big_quiet (fail)
     generalize hW : World.drewN W1 _ = W
     have HJ:=Qo0 (HI.out.gr (V':=W) (by rw [← hW];exact Qq _ _))
     clear hW HI xb x0 x1 x2 x3 x4 x5 x6 x7 x8 x9 x10 yb y0 y1 y2 y3 y4 y5 y6 y7 y8 y9 y10
     have HI:=HJ
     clear HJ
     obtain ⟨xb,x0,x1,x2,x3,x4,x5,x6,x7,x8,x9,x10⟩:=Zs HI.out.da HI.out.gg
     obtain ⟨yb,y0,y1,y2,y3,y4,y5,y6,y7,y8,y9,y10⟩:=Zs HI.out.db HI.out.gg
     have EDH:=Qo0 (fun e (he : e ∈ ([⟨5,l,[],none,0,[],some ⟨W.heap.size,0,none⟩,1,[y]⟩] : List Edt)) => show ED w0 ((W.alloc (.cells y.cs.toArray 45)).alloc (.cells #[iv 5,tv l,tv [],.slice none 0 0,.slice (some ⟨W.heap.size,0,none⟩) 1 1] 32)) e from by
      rw [List.mem_singleton.1 he]
      have h8 : ((W.alloc (.cells y.cs.toArray 45)).alloc (.cells #[iv 5,tv l,tv [],.slice none 0 0,.slice (some ⟨W.heap.size,0,none⟩) 1 1] 32)).heap[W.heap.size]? = some (.cells y.cs.toArray 45 (0,0)):=Qe (Qa _ _) (Qd _ _)
      exact ⟨HL.out,by simp [sOk],.inl ⟨rfl,rfl,rfl⟩,.inr ⟨_,y,rfl,rfl,rfl,h8,(HI.out.db.d y (by simp))⟩⟩)
     rcases DTY with ⟨rfl,rfl,rfl⟩ | ⟨hc1,rfl,rfl⟩
     ·go_wp2_with (at_builtin;refine Qf elT rfl (.tmp 101) (.tmp 108) rfl w.heap.size (v:=u7) rfl (HI.out.o.gr ((Qa _ _).trans (Qa _ _))) (A:=some ⟨_,0,none⟩) (M:=([⟨5,l,[],none,0,[],some ⟨W.heap.size,0,none⟩,1,[y]⟩] : List Edt)) (m:=1) (c:=1) rfl rfl (Qj (t:=32) Edt.cs_len (Qr _ _ (by simp))) (by have:=HI.out.len;have:=RL.out;simp;omega) (Nat.le_trans HI.out.g.size (by simp;omega)) ?_;intro v7 w7 o7 g7 b7;have O7:=Qo0 o7;have G7:=Qo0 g7;clear o7 g7 b7)
      exact ⟨⟨some ax,c1,x :: a,some ay,0,b,_,by have:=HLN.out;first | rfl | (simp;omega),by have:=HLN.out;first | rfl | (simp;omega),Qo0 (HI.out.put ((Qa _ _).trans (Qa _ _)) EDH.out O7.out G7.out HI.out.da DU.out (by simp_all) (by simp only [List.map_cons];rw [Qu,if_neg (show ¬ x.er.id < y.er.id from h1),if_pos (show y.er.id < x.er.id from h2)];rfl))⟩,by have:=HLN.out;simp [Yq];omega⟩
     ·go_wp2_with (at_builtin;refine Qf elT rfl (.tmp 101) (.tmp 108) rfl w.heap.size (v:=u7) rfl (HI.out.o.gr ((Qa _ _).trans (Qa _ _))) (A:=some ⟨_,0,none⟩) (M:=([⟨5,l,[],none,0,[],some ⟨W.heap.size,0,none⟩,1,[y]⟩] : List Edt)) (m:=1) (c:=1) rfl rfl (Qj (t:=32) Edt.cs_len (Qr _ _ (by simp))) (by have:=HI.out.len;have:=RL.out;simp;omega) (Nat.le_trans HI.out.g.size (by simp;omega)) ?_;intro v7 w7 o7 g7 b7;have O7:=Qo0 o7;have G7:=Qo0 g7;clear o7 g7 b7)
      exact ⟨⟨some ax,c1,x :: a,_,_,b,_,by have:=HLN.out;first | rfl | (simp;omega),by have:=HLN.out;first | rfl | (simp;omega),Qo0 (HI.out.put ((Qa _ _).trans (Qa _ _)) EDH.out O7.out G7.out HI.out.da DU.out (by simp_all) (by simp only [List.map_cons];rw [Qu,if_neg (show ¬ x.er.id < y.er.id from h1),if_pos (show y.er.id < x.er.id from h2)];rfl))⟩,by have:=HLN.out;simp [Yq];omega⟩
    ·go_upto_region 11 with fail
     go_big_quiet (fail)
     generalize hW : World.drewN wr _ = W1
     have HJ:=Qo0 (HI.out.gr (V':=W1) (by rw [← hW];exact Qq _ _))
     clear hW HI xb x0 x1 x2 x3 x4 x5 x6 x7 x8 x9 x10 yb y0 y1 y2 y3 y4 y5 y6 y7 y8 y9 y10
     have HI:=HJ
     clear HJ
     obtain ⟨xb,x0,x1,x2,x3,x4,x5,x6,x7,x8,x9,x10⟩:=Zs HI.out.da HI.out.gg
     obtain ⟨yb,y0,y1,y2,y3,y4,y5,y6,y7,y8,y9,y10⟩:=Zs HI.out.db HI.out.gg
     go_upto_region 14 with fail
     go_big_quiet (fail)
     generalize hW : World.drewN W1 _ = W
     have HJ:=Qo0 (HI.out.gr (V':=W) (by rw [← hW];exact Qq _ _))
     clear hW HI xb x0 x1 x2 x3 x4 x5 x6 x7 x8 x9 x10 yb y0 y1 y2 y3 y4 y5 y6 y7 y8 y9 y10
     have HI:=HJ
     clear HJ
     obtain ⟨xb,x0,x1,x2,x3,x4,x5,x6,x7,x8,x9,x10⟩:=Zs HI.out.da HI.out.gg
     obtain ⟨yb,y0,y1,y2,y3,y4,y5,y6,y7,y8,y9,y10⟩:=Zs HI.out.db HI.out.gg
     have DK:=Qo0 (And.intro HI.out.da HI.out.db)
     have SA:=Qo0 HI.out.sa
     have I0:=Qo0 (show DI w0 w W l u7 R (chs l x.er y.er 0 ++ Qu l (a.map Dec.er) (b.map Dec.er)) Ls from ⟨HI.out.o,HI.out.e,by rw [← Qi5 l x.er y.er _ _ h1 h2];exact HI.out.q,HI.out.g,HI.out.g0⟩)
     clear HI xb x0 x1 x2 x3 x4 x5 x6 x7 x8 x9 x10 yb y0 y1 y2 y3 y4 y5 y6 y7 y8 y9 y10
     have I1:=Qo0 (And.intro (I0.out.gr (Qa W (.cells #[iv 7,iv 8,iv 9] 3))) (Qd W (.cells #[iv 7,iv 8,iv 9] 3)))
     obtain ⟨kb,hkb⟩ : ∃ kb,W.heap.size = kb:=⟨_,rfl⟩
     rw [hkb] at I1
     have HKB:=Qo0 hkb
     clear I0
     go_upto_region 4 with fail
     clear hkb
     go_loopw [7,9,10,11,22] (fun t7 _ _ _ i V => ∃ j : Nat,j ≤ 3 ∧ i = iv j ∧ ∃ Ls,Hid (DI w0 w V l t7 R (chs l x.er y.er j ++ Qu l (a.map Dec.er) (b.map Dec.er)) Ls ∧ V.heap[kb]? = some (.cells #[iv 7,iv 8,iv 9] 3 (0,0)))) (fun _ _ _ _ i _ => 3 - (intOf i).toNat)
     case atStart => exact ⟨0,by omega,by first | rfl | trivial,Ls,I1⟩
     case round =>
      obtain ⟨j,hj,rfl,Ms,HI⟩:=hrel
      clear I1
      by_cases hlt : j < 3
      ·obtain ⟨K,hK⟩ : ∃ K : Int,K = 7 + j:=⟨_,rfl⟩
       have HK:=Qo0 hK
       have kf:=Lib.cell_of_heap HI.out.2 j
       have kc : wr.cell? ⟨kb,j,none⟩ = some (iv K):=by
        rw [kf,hK]
        have : j = 0 ∨ j = 1 ∨ j = 2:=by omega
        rcases this with rfl | rfl | rfl <;> rfl
       have hlt2 : (j : Int) < 3:=by omega
       clear kf hK
       have XC:=Qo0 (fun V (g : Gr wr V) => Zs DK.out.1 (HI.out.1.gg.trans g))
       have YC:=Qo0 (fun V (g : Gr wr V) => Zs DK.out.2 (HI.out.1.gg.trans g))
       have KX:=Qo0 (fun V (g : Gr wr V) => show (x.ment K).Rd V from Y2 K ((DK.out.1.d x (by simp)).gr (HI.out.1.gg.trans g)))
       have KY:=Qo0 (fun V (g : Gr wr V) => show (y.ment K).Rd V from Y2 K ((DK.out.2.d y (by simp)).gr (HI.out.1.gg.trans g)))
       have CE:=Qo0 (fun V (g : Gr wr V) => Zf (x.ment K) (y.ment K) V (KX.out V g) (KY.out V g) (by have h:=Xs K (d:=x.er) (SA.out x (by simp));rw [← Yh] at h;exact h))
       have KW:=Qo0 (And.intro (Y2 K (DK.out.1.d x (by simp))) (Y2 K (DK.out.2.d y (by simp))))
       obtain ⟨r,hr⟩ : ∃ r,decide ((x.ment K).er = (y.ment K).er) = r:=⟨_,rfl⟩
       rw [hr] at CE
       have HS:=Qo0 (fun k1 k2 => show chs l x.er y.er j ++ Qu l (a.map Dec.er) (b.map Dec.er) = (if r then [] else [(edC K l k1 k2 (x.ment K) (y.ment K)).er]) ++ (chs l x.er y.er (j + 1) ++ Qu l (a.map Dec.er) (b.map Dec.er)) from by
        rw [Qoo l _ _ j hlt,← HK.out,chgE_er K l x y k1 k2,← hr,List.append_assoc]
        by_cases hq : (x.ment K).er = (y.ment K).er <;> simp [hq])
       clear hr
       have CX:=Qo0 (fun V => Qc1 K x V)
       have CY:=Qo0 (fun V => Qc1 K y V)
       unfold Dec.v at CX CY CE
       have XY:=Qo0 (fun V (g : Gr wr V) => show V.cell? ax = some (iv x.id) ∧ V.cell? ⟨ax.block,ax.off + 1,none⟩ = some (iv x.kind) ∧ V.cell? ⟨ax.block,ax.off + 2,none⟩ = some (.bool x.pub) ∧ V.cell? ⟨ax.block,ax.off + 3,none⟩ = some (.slice x.nA x.names.length x.nc) ∧ V.cell? ⟨ax.block,ax.off + 4,none⟩ = some (.bool x.doubt) ∧ V.cell? ⟨ax.block,ax.off + 5,none⟩ = some (iv x.body.kind) ∧ V.cell? ⟨ax.block,ax.off + 6,none⟩ = some (tv x.body.name) ∧ V.cell? ⟨ax.block,ax.off + 7,none⟩ = some (tv x.body.more) ∧ V.cell? ⟨ax.block,ax.off + 8,none⟩ = some (iv x.body.int) ∧ V.cell? ⟨ax.block,ax.off + 9,none⟩ = some (iv x.body.den) ∧ V.cell? ⟨ax.block,ax.off + 10,none⟩ = some (.slice x.body.A x.body.sub.length x.body.c) ∧ V.cell? ay = some (iv y.id) ∧ V.cell? ⟨ay.block,ay.off + 1,none⟩ = some (iv y.kind) ∧ V.cell? ⟨ay.block,ay.off + 2,none⟩ = some (.bool y.pub) ∧ V.cell? ⟨ay.block,ay.off + 3,none⟩ = some (.slice y.nA y.names.length y.nc) ∧ V.cell? ⟨ay.block,ay.off + 4,none⟩ = some (.bool y.doubt) ∧ V.cell? ⟨ay.block,ay.off + 5,none⟩ = some (iv y.body.kind) ∧ V.cell? ⟨ay.block,ay.off + 6,none⟩ = some (tv y.body.name) ∧ V.cell? ⟨ay.block,ay.off + 7,none⟩ = some (tv y.body.more) ∧ V.cell? ⟨ay.block,ay.off + 8,none⟩ = some (iv y.body.int) ∧ V.cell? ⟨ay.block,ay.off + 9,none⟩ = some (iv y.body.den) ∧ V.cell? ⟨ay.block,ay.off + 10,none⟩ = some (.slice y.body.A y.body.sub.length y.body.c) from by
        obtain ⟨xb,x0,x1,x2,x3,x4,x5,x6,x7,x8,x9,x10⟩:=XC.out _ g
        obtain ⟨yb,y0,y1,y2,y3,y4,y5,y6,y7,y8,y9,y10⟩:=YC.out _ g
        exact ⟨x0,x1,x2,x3,x4,x5,x6,x7,x8,x9,x10,y0,y1,y2,y3,y4,y5,y6,y7,y8,y9,y10⟩)
       go_upto_region 6 with fail
       obtain ⟨xb,x0,x1,x2,x3,x4,x5,x6,x7,x8,x9,x10⟩:=XC.out _ (Qc _)
       obtain ⟨yb,y0,y1,y2,y3,y4,y5,y6,y7,y8,y9,y10⟩:=YC.out _ (Qc _)
       go_region_held3 (fun V => V.cell? ax = some (iv x.id) ∧ V.cell? ⟨ax.block,ax.off + 1,none⟩ = some (iv x.kind) ∧ V.cell? ⟨ax.block,ax.off + 2,none⟩ = some (.bool x.pub) ∧ V.cell? ⟨ax.block,ax.off + 3,none⟩ = some (.slice x.nA x.names.length x.nc) ∧ V.cell? ⟨ax.block,ax.off + 4,none⟩ = some (.bool x.doubt) ∧ V.cell? ⟨ax.block,ax.off + 5,none⟩ = some (iv x.body.kind) ∧ V.cell? ⟨ax.block,ax.off + 6,none⟩ = some (tv x.body.name) ∧ V.cell? ⟨ax.block,ax.off + 7,none⟩ = some (tv x.body.more) ∧ V.cell? ⟨ax.block,ax.off + 8,none⟩ = some (iv x.body.int) ∧ V.cell? ⟨ax.block,ax.off + 9,none⟩ = some (iv x.body.den) ∧ V.cell? ⟨ax.block,ax.off + 10,none⟩ = some (.slice x.body.A x.body.sub.length x.body.c) ∧ V.cell? ay = some (iv y.id) ∧ V.cell? ⟨ay.block,ay.off + 1,none⟩ = some (iv y.kind) ∧ V.cell? ⟨ay.block,ay.off + 2,none⟩ = some (.bool y.pub) ∧ V.cell? ⟨ay.block,ay.off + 3,none⟩ = some (.slice y.nA y.names.length y.nc) ∧ V.cell? ⟨ay.block,ay.off + 4,none⟩ = some (.bool y.doubt) ∧ V.cell? ⟨ay.block,ay.off + 5,none⟩ = some (iv y.body.kind) ∧ V.cell? ⟨ay.block,ay.off + 6,none⟩ = some (tv y.body.name) ∧ V.cell? ⟨ay.block,ay.off + 7,none⟩ = some (tv y.body.more) ∧ V.cell? ⟨ay.block,ay.off + 8,none⟩ = some (iv y.body.int) ∧ V.cell? ⟨ay.block,ay.off + 9,none⟩ = some (iv y.body.den) ∧ V.cell? ⟨ay.block,ay.off + 10,none⟩ = some (.slice y.body.A y.body.sub.length y.body.c))
        (first | exact XY.out _ (by repeat' (first | exact Qc _ | refine Xj ?_ (Qa _ _) | refine Xj ?_ (Qb _))) | go_keep)
        (first
          | (go_at_call 51;(with_reducible refine (CX.out _).mono ?_);rintro e w5 ⟨rfl,rfl⟩)
          | (go_at_call 51;(with_reducible refine (CY.out _).mono ?_);rintro e w6 ⟨rfl,rfl⟩))
       all_goals
        refine Qmh (wr:=wr) (cx:=.cells (x.ment K).cs.toArray 45 (0,0)) (cy:=.cells (y.ment K).cs.toArray 45 (0,0)) _ _ rfl rfl (by repeat' (first | exact Qc _ | refine Xj ?_ (Qa _ _) | refine Xj ?_ (Qb _))) (by refine Qe (Qb _) ?_;first | (refine Qaq ?_ rfl;simp;done) | (refine Qe (Qa _ _) ?_;refine Qaq ?_ rfl;simp;done) | (refine Qe (Qa _ _) ?_;refine Qe (Qa _ _) ?_;refine Qaq ?_ rfl;simp;done) | (refine Qe (Qa _ _) ?_;refine Qe (Qa _ _) ?_;refine Qe (Qa _ _) ?_;refine Qaq ?_ rfl;simp;done) | (refine Qe (Qa _ _) ?_;refine Qe (Qa _ _) ?_;refine Qe (Qa _ _) ?_;refine Qe (Qa _ _) ?_;refine Qaq ?_ rfl;simp;done) | (refine Qe (Qa _ _) ?_;refine Qe (Qa _ _) ?_;refine Qe (Qa _ _) ?_;refine Qe (Qa _ _) ?_;refine Qe (Qa _ _) ?_;refine Qaq ?_ rfl;simp;done)) (by refine Qe (Qb _) ?_;first | (refine Qaq ?_ rfl;simp;done) | (refine Qe (Qa _ _) ?_;refine Qaq ?_ rfl;simp;done) | (refine Qe (Qa _ _) ?_;refine Qe (Qa _ _) ?_;refine Qaq ?_ rfl;simp;done) | (refine Qe (Qa _ _) ?_;refine Qe (Qa _ _) ?_;refine Qe (Qa _ _) ?_;refine Qaq ?_ rfl;simp;done) | (refine Qe (Qa _ _) ?_;refine Qe (Qa _ _) ?_;refine Qe (Qa _ _) ?_;refine Qe (Qa _ _) ?_;refine Qaq ?_ rfl;simp;done) | (refine Qe (Qa _ _) ?_;refine Qe (Qa _ _) ?_;refine Qe (Qa _ _) ?_;refine Qe (Qa _ _) ?_;refine Qe (Qa _ _) ?_;refine Qaq ?_ rfl;simp;done)) ?_
        intro V GV FX FY
        have G0:=Qo0 GV
        have BX:=Qo0 (fun V' (g : Gr V V') => Zj (d:=x.ment K) (V:=V') (Qe g FX))
        have BY:=Qo0 (fun V' (g : Gr V V') => Zj (d:=y.ment K) (V:=V') (Qe g FY))
        obtain ⟨p0,p1,p2,p3,p4,p5,p6,p7,p8,p9,p10⟩:=BX.out _ (Qc _)
        obtain ⟨q0,q1,q2,q3,q4,q5,q6,q7,q8,q9,q10⟩:=BY.out _ (Qc _)
        clear GV FX FY xb x0 x1 x2 x3 x4 x5 x6 x7 x8 x9 x10 yb y0 y1 y2 y3 y4 y5 y6 y7 y8 y9 y10 kc
        cases r
        ·go_upto_region 8 with (go_at_call 52;(with_reducible refine (CE.out _ G0.out).mono ?_);rintro e w8 ⟨rfl,g8⟩;clear p0 p1 p2 p3 p4 p5 p6 p7 p8 p9 p10 q0 q1 q2 q3 q4 q5 q6 q7 q8 q9 q10;have G8:=Qo0 (show Gr wr w8 from G0.out.trans g8);have GV8:=Qo0 g8;obtain ⟨p0,p1,p2,p3,p4,p5,p6,p7,p8,p9,p10⟩:=BX.out _ g8;clear g8)
         obtain ⟨q0,q1,q2,q3,q4,q5,q6,q7,q8,q9,q10⟩:=BY.out _ (GV8.out.trans (Qa w8 (.cells #[iv (x.ment K).id,iv (x.ment K).kind,.bool (x.ment K).pub,.slice (x.ment K).nA (x.ment K).names.length (x.ment K).nc,.bool (x.ment K).doubt,iv (x.ment K).body.kind,tv (x.ment K).body.name,tv (x.ment K).body.more,iv (x.ment K).body.int,iv (x.ment K).body.den,.slice (x.ment K).body.A (x.ment K).body.sub.length (x.ment K).body.c] 45)))
         go_wp2_with (at_builtin;refine Qf elT rfl (.tmp 40) (.tmp 48) rfl w.heap.size (v:=u7) rfl (HI.out.1.o.gr (Xj G8.out (Xj (Xj (Qa _ _) (Qa _ _)) (Qa _ _)))) (A:=some ⟨_,0,none⟩) (M:=([edC K l w8.heap.size (w8.heap.size + 1) (x.ment K) (y.ment K)] : List Edt)) (m:=1) (c:=1) rfl rfl (Qj (t:=32) Edt.cs_len (Qr _ _ (by simp))) (by have:=HI.out.1.len;have:=RL.out;simp;omega) (Nat.le_trans (HI.out.1.g.trans G8.out).size (by simp;omega)) ?_;intro v7 w7 o7 g7 b7;have O7:=Qo0 o7;have G7:=Qo0 g7;clear o7 g7 b7)
         exact ⟨⟨j + 1,by omega,by simp,_,Qo0 ⟨HI.out.1.put (Xj G8.out (Xj (Xj (Qa _ _) (Qa _ _)) (Qa _ _))) (fun e he => by
          rw [List.mem_singleton.1 he]
          exact ⟨HL.out,by simp [edC,sOk],.inr ⟨_,x.ment K,rfl,rfl,rfl,Qe (Qa _ _) (Qe (Qa _ _) (Qd _ _)),KW.out.1⟩,.inr ⟨_,y.ment K,rfl,rfl,rfl,Qe (Qa _ _) (Qr _ _ (by simp)),KW.out.2⟩⟩) O7.out G7.out (by have h:=HS.out w8.heap.size (w8.heap.size + 1);simpa using h),(HI.out.1.o.gr (Xj G8.out (Xj (Xj (Qa _ _) (Qa _ _)) (Qa _ _)))).keepT G7.out (by decide) (Qe (Xj G8.out (Xj (Xj (Qa _ _) (Qa _ _)) (Qa _ _))) HI.out.2)⟩⟩,by simp [intOf];omega⟩
        ·go_wp2_with (go_at_call 52;(with_reducible refine (CE.out _ G0.out).mono ?_);rintro e w8 ⟨rfl,g8⟩;clear p0 p1 p2 p3 p4 p5 p6 p7 p8 p9 p10 q0 q1 q2 q3 q4 q5 q6 q7 q8 q9 q10;have G8:=Qo0 (show Gr wr w8 from G0.out.trans g8);obtain ⟨p0,p1,p2,p3,p4,p5,p6,p7,p8,p9,p10⟩:=BX.out _ g8;obtain ⟨q0,q1,q2,q3,q4,q5,q6,q7,q8,q9,q10⟩:=BY.out _ g8;clear g8)
         exact ⟨⟨j + 1,by omega,by simp,Ms,Qo0 ⟨⟨HI.out.1.o.gr G8.out,fun e he => (HI.out.1.e e he).gr G8.out,by have h:=HI.out.1.q;rw [HS.out 0 0] at h;simpa using h,HI.out.1.g.trans G8.out,HI.out.1.g0⟩,Qe G8.out HI.out.2⟩⟩,by simp [intOf];omega⟩
      ·obtain rfl : j = 3:=by omega
       have FF:=Qo0 (show DS w0 w wr l u7 R A2 c2 a B2 d2 b Ms from ⟨DT.out,DU.out,HI.out.1.o,HI.out.1.e,by have h:=HI.out.1.q;simpa [chs] using h,HI.out.1.g,HI.out.1.g0,fun z hz => SA.out z (by simp [hz])⟩)
       have hnj : ¬ ((3 : Nat) : Int) < 3:=by omega
       clear HI
       rcases DTL with ⟨rfl,rfl,rfl⟩ | ⟨hc1,rfl,rfl⟩ <;> rcases DTY with ⟨rfl,rfl,rfl⟩ | ⟨hd1,rfl,rfl⟩
       all_goals go_upto_region 10 with fail
       all_goals go_big_quiet (fail)
       all_goals go_wp2
       all_goals exact ⟨⟨_,_,a,_,_,b,Ms,by have:=HLN.out;first | rfl | (simp;omega),by have:=HLN.out;first | rfl | (simp;omega),Qo0 (FF.out.gr (Qq _ _))⟩,by have:=HLN.out;simp [Yq];omega⟩
end Go.Proofs.YtiaenhlflgobfaaGreatDoor

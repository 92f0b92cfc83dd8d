/- Walks and words: Rng, SyC, Chk. -/
import Derived.Test.YtiaenhlflgobfaaGreatDoorTb9
import Derived.Test.YtiaenhlflgobfaaGreatDoorTb12
namespace Go.Proofs.YtiaenhlflgobfaaGreatDoor
open Go.RowKit Go.Shelf
attribute [local go_sem] Oper.semAt_some
set_option maxRecDepth 100000 in
theorem Qlj (x : Ex) (w : World) :
 Calls Tryz.prog 139 #[x.v] w fun e w' => e = .returned (.func (.func 185) #[] #[.pointer (some ⟨w.heap.size,0,none⟩)]) ∧ w' = w.alloc (.cells #[iv x.kind,tv x.name,tv x.more,iv x.int,iv x.den,.slice x.A x.sub.length x.c] 43):=by
 unfold Ex.v
 go_enter Tryz.func139,Tryz.ntmps139
 go_wp2
 go_ret
 exact ⟨rfl,rfl⟩
def BodyP (b : Nat) (own : Nat → Prop) (I : List (Nat × Ex) → (Nat → Prop) → World → Prop) (E : List (Nat × Ex) → (Nat × Ex) → World → Prop) (pre : List (Nat × Ex)) (y : Nat × Ex) (W : World) : Exit → Act → World → Prop
 | .normal,_,W' => ((∀ k,b ≤ k → k < W.heap.size → ¬ own k → W'.heap[k]? = W.heap[k]?) ∧ W.heap.size ≤ W'.heap.size) ∧ ∃ own',(∀ k,own' k → own k ∨ W.heap.size ≤ k) ∧ I (pre ++ [y]) own' W'
 | .ret,_,W' => ((∀ k,b ≤ k → k < W.heap.size → ¬ own k → W'.heap[k]? = W.heap[k]?) ∧ W.heap.size ≤ W'.heap.size) ∧ E pre y W'
 | _,_,_ => False
structure But (l : Nat) (W W' : World) : Prop where
 os : W'.os = W.os
 tape : W'.tape = W.tape
 output : W'.output = W.output
 size : W'.heap.size = W.heap.size
 same : ∀ k,k ≠ l → W'.heap[k]? = W.heap[k]?
theorem But.put (W : World) (l : Nat) (o : Obj) : But l W (W.putObj l o):=⟨rfl,rfl,rfl,by simp [World.putObj],fun k hk => World.putObj_heap_other (by omega)⟩
theorem But.kp {l B : Nat} {own : Nat → Prop} {W W' : World} (h : But l W W') (hl : B ≤ l) (hn : ¬ own l) : Kp B own W W' :=
 ⟨h.os,h.tape,h.output,by rw [h.size];exact Nat.le_refl _,fun k hk => h.same k (by
  rintro rfl
  rcases hk with hk | hk
  ·omega
  ·exact hn hk)⟩
theorem But.below {l : Nat} {W W' : World} (h : But l W W') : Below l W W':=⟨h.os,h.tape,h.output,by rw [h.size];exact Nat.le_refl _,fun k hk => h.same k (by omega)⟩
theorem Qju {n : Nat} {Q : Exit → Act → World → Prop} {a : Act} {w0 w : World} {x : Ex} {bt : Nat} {g : Operand} {ps : Array Tmp} {assign body : Code} (hn : 3 ≤ n)
 (hg : a.eval g = .func (.func 185) #[] #[.pointer (some ⟨bt,0,none⟩)]) (hps : ps.size = 2) (hx : x.Rd w0) (I : List (Nat × Ex) → (Nat → Prop) → World → Prop) (E : List (Nat × Ex) → (Nat × Ex) → World → Prop)
 (hI : ∀ pre own W,I pre own W → Gr w0 W ∧ w.heap.size ≤ W.heap.size ∧ W.heap[bt]? = some (.cells #[iv x.kind,tv x.name,tv x.more,iv x.int,iv x.den,.slice x.A x.sub.length x.c] 43 (0,0)) ∧ pre.length ≤ 1000 ∧ ∀ k,own k → k < W.heap.size)
 (hkI : ∀ pre own W W',I pre own W → Kp w.heap.size own W W' → I pre own W') (hkE : ∀ pre y W W',E pre y W → But (w.heap.size + 1) W W' → E pre y W')
 (h0 : I [] (fun _ => False) w)
 (round : ∀ l pre own y W,I pre own W → w.heap.size + 2 ≤ W.heap.size → (∀ k,own k → w.heap.size + 2 ≤ k) → y.2.Rd W → (∃ post,x.pre 1 = pre ++ y :: post) → w.heap.size + 1 = l →
   assign.wpIn (Fence.wide.inRound l) (n - 1 - 1) Tryz.prog (Exit.then (fun a₁ W₁ => ((∀ k,w.heap.size ≤ k → k < W.heap.size → ¬ own k → W₁.heap[k]? = W.heap[k]?) ∧ W.heap.size ≤ W₁.heap.size) ∧ ∀ W₂,But l W₁ W₂ → body.wpIn (Fence.wide.inRound l) (n - 1 - 1) Tryz.prog (fun e a' W' => (∀ k,w.heap.size ≤ k → k < W.heap.size → ¬ own k → k ≠ l → W₂.heap[k]? = W.heap[k]?) → BodyP w.heap.size own I E pre y W₂ e a' W') a₁ W₂) (fun _ _ _ => False))
    { tmps:=(ps.zip #[iv y.1,y.2.v]).foldl (fun tmps (t,a) => tmps.setIfInBounds t a) a.tmps,defers:=[] } W)
 (fin : ∀ own W',I (x.pre 1) own W' → (∀ k,own k → w.heap.size + 2 ≤ k) → W'.heap[w.heap.size]? = some (.deferred (some [])) → Q .normal { a with defers:={ target:=.collected w.heap.size,args:=#[] } :: a.defers } W')
 (early : ∀ pre y post W',x.pre 1 = pre ++ y :: post → E pre y W' → W'.heap[w.heap.size]? = some (.deferred (some [])) → Q .ret { a with defers:={ target:=.collected w.heap.size,args:=#[] } :: a.defers } W') :
 (Code.rangeFunc g ps assign body).wpIn Fence.wide n Tryz.prog Q a w:=by
 refine Xz hg (enters_of Tryz.func185 (by kernel_rfl) rfl) ?_
 intro fn
 generalize hr : ({ state:=.ready,pending:=none,fn:=fn,tmps:=_,params:=_,assign:=_,body:=_,defers:=w.heap.size } : Loop) = r
 obtain ⟨W1,hW1⟩ : ∃ W1,(w.alloc (.deferred (some []))).alloc (.loop r) = W1:=⟨_,rfl⟩
 have s1 : W1.heap.size = w.heap.size + 2:=by rw [← hW1];simp
 have l1 : W1.heap[w.heap.size + 1]? = some (.loop r):=by rw [← hW1];exact Qr _ _ (by simp)
 have d1 : W1.heap[w.heap.size]? = some (.deferred (some [])):=by rw [← hW1];exact (Below.heap_alloc _ _ _ (by simp)).trans (Qd w _)
 have b1 : Gr w W1:=by rw [← hW1];exact (Qa _ _).trans (Qa _ _)
 rw [hW1]
 clear hW1
 have hj0 : I [] (fun _ => False) W1:=hkI _ _ _ _ h0 (Kp.of b1 (Nat.le_refl _) fun k h => h.elim)
 have YL : Yl x w0 bt W1.heap.size (n - 1 - 1) (w.heap.size + 1) (fun pre own W => (I pre own W ∧ W1.heap.size ≤ W.heap.size ∧ ∀ k,own k → W1.heap.size ≤ k) ∧ W.heap[w.heap.size + 1]? = some (.loop r) ∧ W.heap[w.heap.size]? = some (.deferred (some [])))
  (fun pre y W => E pre y W ∧ W.heap[w.heap.size + 1]? = some (.loop { r with state:=.done,pending:=some .ret }) ∧ W.heap[w.heap.size]? = some (.deferred (some []))):=by
  refine ⟨fun pre own W h => ⟨(hI _ _ _ h.1.1).1,h.1.2.1⟩,fun pre own W h => (hI _ _ _ h.1.1).2.2.1,fun pre own W h => (hI _ _ _ h.1.1).2.2.2.1,fun pre own W h => (hI _ _ _ h.1.1).2.2.2.2,?_,?_⟩
  ·intro pre own W W' ⟨⟨hi,hs,ho⟩,hl,hd⟩ hb
   exact ⟨⟨hkI _ _ _ _ hi ⟨hb.os,hb.tape,hb.output,hb.size,fun k hk => hb.same k (by
    rcases hk with hk | hk
    ·left;omega
    ·right;exact hk)⟩,Nat.le_trans hs hb.size,ho⟩,(hb.same _ (by left;omega)).trans hl,(hb.same _ (by left;omega)).trans hd⟩
  ·intro pre own y W ⟨⟨hi,hs,ho⟩,hl,hd⟩ hy hpost
   have hyl:=run_yield (P:=Tryz.prog) (args:=#[iv y.1,y.2.v]) hl (by rw [← hr];exact hps.symm)
   refine ⟨_,_,_,_,hyl,roundIn_of_wpIn trivial ?_⟩
   have ea : r.assign = assign:=by rw [← hr]
   have eb : r.body = body:=by rw [← hr]
   have ep : r.params = ps:=by rw [← hr]
   have et : r.tmps = a.tmps:=by rw [← hr]
   have R0:=round (w.heap.size + 1) pre own y W hi (by omega) (fun k hk => by have:=ho k hk;omega) hy hpost rfl
   rw [← ea,← eb,← ep,← et] at R0
   refine wpIn_mono R0 ?_
   intro e a₁ W₁ he
   have nl : ¬ own (w.heap.size + 1):=fun h => by have:=ho _ h;omega
   have nd : ¬ own w.heap.size:=fun h => by have:=ho _ h;omega
   cases e with
   | normal =>
     obtain ⟨⟨k1,k2⟩,hbody⟩:=he
     have hl1 : W₁.heap[w.heap.size + 1]? = some (.loop r):=(k1 _ (by omega) (by omega) nl).trans hl
     have hd1 : W₁.heap[w.heap.size]? = some (.deferred (some [])):=(k1 _ (by omega) (by omega) nd).trans hd
     refine ⟨_,run_beginRound hl1 (by rw [← hr]),?_⟩
     have B2:=But.put W₁ (w.heap.size + 1) (.loop { r with state:=.busy })
     refine wpIn_mono (hbody _ B2) ?_
     intro e a₂ W₃ hp0
     have hl2 : (W₁.putObj (w.heap.size + 1) (.loop { r with state:=.busy })).heap[w.heap.size + 1]? = some (.loop { r with state:=.busy }):=World.putObj_heap_same (Qn hl1)
     have hd2 : (W₁.putObj (w.heap.size + 1) (.loop { r with state:=.busy })).heap[w.heap.size]? = some (.deferred (some [])):=(B2.same _ (by omega)).trans hd1
     have hp:=hp0 fun k h1 h2 h3 h4 => (B2.same k h4).trans (k1 k h1 h2 h3)
     have z2:=B2.size
     have k2' : ∀ k,W1.heap.size ≤ k → k < W.heap.size → ¬ own k → (W₁.putObj (w.heap.size + 1) (.loop { r with state:=.busy })).heap[k]? = W.heap[k]?:=fun k h1 h2 h3 => (B2.same k (by omega)).trans (k1 k (by omega) h2 h3)
     clear hp0 B2
     generalize W₁.putObj (w.heap.size + 1) (.loop { r with state:=.busy }) = W₂ at *
     have lt2:=Qn hl2
     cases e with
     | normal =>
       obtain ⟨⟨m1,m2⟩,own',ho',hi3⟩:=hp
       have hl3:=(m1 _ (by omega) lt2 nl).trans hl2
       have hd3:=(m1 _ (Nat.le_refl _) (Qn hd2) nd).trans hd2
       have hend:=run_endRound (P:=Tryz.prog) none hl3
       have ho2 : ∀ k,own' k → W1.heap.size ≤ k:=fun k hk => by
        rcases ho' k hk with h | h
        ·exact ho k h
        ·omega
       have B4:=But.put W₃ (w.heap.size + 1) (.loop { { r with state:=.busy } with state:=if (none : Option Code).isNone = true then .ready else .done,pending:=none })
       refine ⟨_,_,hend,⟨?_,?_⟩,.inl ⟨rfl,own',fun k hk => ?_,⟨hkI _ _ _ _ hi3 (B4.kp (by omega) fun h => by have:=ho2 _ h;omega),by rw [B4.size];omega,ho2⟩,?_,(B4.same _ (by omega)).trans hd3⟩⟩
       ·intro k h1 h2 h3
        rw [B4.same _ (by omega),m1 k (by omega) (by omega) h3,k2' k h1 h2 h3]
       ·rw [B4.size];omega
       ·rcases ho' k hk with h | h
        ·exact .inl h
        ·right;omega
       ·rw [World.putObj_heap_same (Qn hl3),← hr];rfl
     | ret =>
       obtain ⟨⟨m1,m2⟩,hi3⟩:=hp
       have hl3:=(m1 _ (by omega) lt2 nl).trans hl2
       have hd3:=(m1 _ (Nat.le_refl _) (Qn hd2) nd).trans hd2
       have hend:=run_endRound (P:=Tryz.prog) (some .ret) hl3
       have B4:=But.put W₃ (w.heap.size + 1) (.loop { { r with state:=.busy } with state:=if (some Code.ret : Option Code).isNone = true then .ready else .done,pending:=some .ret })
       refine ⟨_,_,hend,⟨?_,?_⟩,.inr ⟨rfl,hkE _ _ _ _ hi3 B4,?_,(B4.same _ (by omega)).trans hd3⟩⟩
       ·intro k h1 h2 h3
        rw [B4.same _ (by omega),m1 k (by omega) (by omega) h3,k2' k h1 h2 h3]
       ·rw [B4.size];omega
       ·rw [World.putObj_heap_same (Qn hl3)];rfl
     | exit id => exact hp.elim
     | goto t => exact hp.elim
     | panic c => exact hp.elim
     | outgrown => exact hp.elim
   | exit id => exact he
   | goto t => exact he
   | ret => exact he
   | panic c => exact he
   | outgrown => exact he
 have sW1 : w.heap.size ≤ W1.heap.size:=by omega
 refine (Qna x w0 bt (w.heap.size + 1) (n - 1) (by omega) _ _ W1 hx YL ⟨⟨hj0,Nat.le_refl _,fun k h => h.elim⟩,l1,d1⟩).mono ?_
 rintro e W2 ⟨⟨v',rfl⟩,⟨own,⟨hi,hs,ho⟩,hl,hd⟩ | ⟨pre,y,post,hp,hE,hl,hd⟩⟩
 ·have hend:=run_endLoop (P:=Tryz.prog) hl (by rw [← hr];simp)
  have hp : r.pending = none:=by rw [← hr]
  rw [hp] at hend
  have B4:=But.put W2 (w.heap.size + 1) (.loop { r with state:=.exhausted,pending:=none })
  exact ⟨none,_,hend,fin own _ (hkI _ _ _ _ hi (B4.kp (by omega) fun h => by have:=ho _ h;omega)) (fun k hk => by have:=ho k hk;omega) ((B4.same _ (by omega)).trans hd)⟩
 ·have hend:=run_endLoop (P:=Tryz.prog) hl (by simp)
  refine ⟨some .ret,_,hend,?_⟩
  have B4:=But.put W2 (w.heap.size + 1) (.loop { r with state:=.exhausted,pending:=some .ret })
  have hq:=early pre y post _ hp (hkE _ _ _ _ hE B4) ((B4.same _ (by omega)).trans hd)
  gi_wp2
  exact hq
end Go.Proofs.YtiaenhlflgobfaaGreatDoor
namespace Go.Proofs.YtiaenhlflgobfaaGreatDoor
open Go.RowKit
theorem shp_six {k a b c : Int} (h : shp k = some (a,b,c)) : (a = 0 ∧ b = 1) ∨ (a = 1 ∧ b = 0) ∨ (a = 2 ∧ b = 0) ∨ (a = 1 ∧ b = 1) ∨ (a = 0 ∧ b = 0) ∨ (a = 0 ∧ b = 2):=by
 unfold shp at h
 repeat' split at h
 all_goals first | (simp only [Option.some.injEq,Prod.mk.injEq] at h;omega) | (cases h)
theorem ckN_of {e : PE} {a b c : Int} (h : shp e.kind = some (a,b,c)) : ckN e = if (a < 1 ∧ e.name ≠ []) ∨ (a < 2 ∧ e.more ≠ []) ∨ (b < 1 ∧ e.int ≠ 0) ∨ (b < 2 ∧ e.den ≠ 0) ∨ (e.sub.length : Int) ≠ c then 1 else if Xh e a ≠ 0 then Xh e a else Qc4 e:=by
 unfold ckN
 rw [h]
set_option maxRecDepth 100000 in
set_option maxHeartbeats 8000000 in
attribute [local irreducible] Calls in
theorem Qek (x : Ex) (w : World) (hx : x.Rd w) : Calls Tryz.prog 140 #[x.v] w fun e w' => e = .returned (iv (ckN x.er)) ∧ Gr w w':=by
 have CX:=Qo0 (Zw x w)
 have GX:=Qo0 (Qa w (.cells #[iv x.kind,tv x.name,tv x.more,iv x.int,iv x.den,.slice x.A x.sub.length x.c] 43))
 have HS:=Qo0 (fun V => Qk5 x.kind V)
 have CN:=Qo0 (fun V a => Qd6 x a V hx.n hx.m)
 have CM:=Qo0 (fun V => Qcy x V)
 obtain ⟨r,hr⟩ : ∃ r,ckN x.er = r:=⟨_,rfl⟩
 rw [hr]
 obtain ⟨sh,hsh⟩ : ∃ s,shp x.kind = s:=⟨_,rfl⟩
 rw [hsh] at HS
 cases sh with
 | none =>
   obtain rfl : r = 9:=by
    rw [← hr]
    unfold ckN
    rw [Zk,hsh]
   unfold Ex.v
   unfold shV at HS
   clear hr hsh hx CN CM
   obtain ⟨c0,c1,c2,c3,c4,c5⟩:=CX.out _ (Qc _)
   go_enter Tryz.func140,Tryz.ntmps140
   go_wp2_with (go_at_call 186;(with_reducible refine (HS.out _).mono ?_);rintro e w1 ⟨rfl,g1⟩;have G1:=Qo0 g1;clear g1;(try dsimp only))
   go_ret
   exact ⟨rfl,GX.out.trans (G1.out.trans (Qa _ _))⟩
 | some abc =>
   obtain ⟨a,b,c⟩:=abc
   have HR:=ckN_of (e:=x.er) (show shp x.er.kind = some (a,b,c) by rw [Zk];exact hsh)
   rw [hr,Yb,Xa,Qfz,Qf0,Yn,ers_length] at HR
   have six:=shp_six hsh
   have hl : x.sub.length ≤ 9223372036854775807:=Nat.le_trans hx.s.rw.hc hx.s.rw.hm
   have CN:=Qo0 (fun V => CN.out V a)
   unfold shV at HS
   obtain ⟨na,hna⟩ : ∃ n,Xh x.er a = n:=⟨_,rfl⟩
   obtain ⟨nb,hnb⟩ : ∃ n,Qc4 x.er = n:=⟨_,rfl⟩
   rw [hna] at HR CN
   rw [hnb] at HR CM
   clear hr hsh hx hna hnb
   unfold Ex.v at CN CM ⊢
   generalize x.kind = k at *
   generalize x.name = nm at *
   generalize x.more = mo at *
   generalize x.int = i at *
   generalize x.den = d at *
   generalize x.sub.length = n at *
   generalize x.A = xA at *
   generalize x.c = xc at *
   go_enter Tryz.func140,Tryz.ntmps140
   go_upto_region 1 with fail
   generalize w.alloc (.cells #[iv k,tv nm,tv mo,iv i,iv d,.slice xA n xc] 43) = W at *
   generalize w.heap.size = bx at *
   obtain ⟨c0,c1,c2,c3,c4,c5⟩:=CX.out _ (Qc _)
   go_upto_region 2 with (go_at_call 186;(with_reducible refine (HS.out _).mono ?_);rintro e w1 ⟨rfl,g1⟩;have G1:=Qo0 g1;clear g1 c0 c1 c2 c3 c4 c5;(try dsimp only))
   have G2:=Qo0 (G1.out.trans (Qa w1 (.cells #[iv a,iv b,iv c] 259)))
   have SX:=Qo0 (fun V (g : Gr (w1.alloc (.cells #[iv a,iv b,iv c] 259)) V) => show V.cell? ⟨w1.heap.size,0,none⟩ = some (iv a) ∧ V.cell? ⟨w1.heap.size,1,none⟩ = some (iv b) ∧ V.cell? ⟨w1.heap.size,2,none⟩ = some (iv c) from by
    have h:=Qe g (Qd _ _)
    refine ⟨?_,?_,?_⟩ <;> (rw [Lib.cell_of_heap h];rfl))
   generalize w1.alloc (.cells #[iv a,iv b,iv c] 259) = W2 at *
   generalize w1.heap.size = sx at *
   clear HS G1
   obtain ⟨c0,c1,c2,c3,c4,c5⟩:=CX.out _ G2.out
   obtain ⟨s0,s1,s2⟩:=SX.out _ (Qc _)
   rcases six with ⟨rfl,rfl⟩ | ⟨rfl,rfl⟩ | ⟨rfl,rfl⟩ | ⟨rfl,rfl⟩ | ⟨rfl,rfl⟩ | ⟨rfl,rfl⟩
   ·by_cases t_nm : nm = []
    case neg =>
     obtain rfl : r = 1:=by rw [HR];simp [t_nm]
     have u_nm : nm.isEmpty = false:=by simpa using t_nm
     clear HR CN CM
     go_wp2
     go_ret
     exact ⟨rfl,GX.out.trans G2.out⟩
    subst t_nm
    by_cases t_mo : mo = []
    case neg =>
     obtain rfl : r = 1:=by rw [HR];simp [t_mo]
     have u_mo : mo.isEmpty = false:=by simpa using t_mo
     clear HR CN CM
     go_wp2
     go_ret
     exact ⟨rfl,GX.out.trans G2.out⟩
    subst t_mo
    by_cases t_d : d = 0
    case neg =>
     obtain rfl : r = 1:=by rw [HR];simp [t_d]
     have u_d : (d == 0) = false:=by simpa using t_d
     clear HR CN CM
     go_wp2
     go_ret
     exact ⟨rfl,GX.out.trans G2.out⟩
    subst t_d
    by_cases tc : (n : Int) = c
    case neg =>
     obtain rfl : r = 1:=by rw [HR];simp [tc]
     have uc : ((n : Int) != c) = true:=by simpa using tc
     clear HR CN CM
     go_wp2
     go_ret
     exact ⟨rfl,GX.out.trans G2.out⟩
    have uc : ((n : Int) != c) = false:=by simpa using tc
    by_cases hn : na = 0
    ·subst hn
     obtain rfl : nb = r:=by rw [HR];simp [tc]
     clear HR
     go_wp2_with (first
      | (go_at_call 187;(with_reducible refine (CN.out _).mono ?_);rintro e w3 ⟨rfl,g1⟩;have G3:=Qo0 (G2.out.trans g1);clear g1 c0 c1 c2 c3 c4 c5;obtain ⟨c0,c1,c2,c3,c4,c5⟩:=CX.out _ G3.out;(try dsimp only))
      | (go_at_call 188;(with_reducible refine (CM.out _).mono ?_);rintro e w4 ⟨rfl,g1⟩;have G4:=Qo0 (G3.out.trans g1);clear g1;(try dsimp only)))
     go_ret
     exact ⟨rfl,GX.out.trans G4.out⟩
    ·obtain rfl : na = r:=by rw [HR];simp [tc,hn]
     have hn' : (na != 0) = true:=by simpa using hn
     clear HR
     go_wp2_with (go_at_call 187;(with_reducible refine (CN.out _).mono ?_);rintro e w3 ⟨rfl,g1⟩;have G3:=Qo0 (G2.out.trans g1);clear g1 c0 c1 c2 c3 c4 c5;obtain ⟨c0,c1,c2,c3,c4,c5⟩:=CX.out _ G3.out;(try dsimp only))
     go_ret
     exact ⟨rfl,GX.out.trans G3.out⟩
   ·by_cases t_mo : mo = []
    case neg =>
     obtain rfl : r = 1:=by rw [HR];simp [t_mo]
     have u_mo : mo.isEmpty = false:=by simpa using t_mo
     clear HR CN CM
     go_wp2
     go_ret
     exact ⟨rfl,GX.out.trans G2.out⟩
    subst t_mo
    by_cases t_i : i = 0
    case neg =>
     obtain rfl : r = 1:=by rw [HR];simp [t_i]
     have u_i : (i == 0) = false:=by simpa using t_i
     clear HR CN CM
     go_wp2
     go_ret
     exact ⟨rfl,GX.out.trans G2.out⟩
    subst t_i
    by_cases t_d : d = 0
    case neg =>
     obtain rfl : r = 1:=by rw [HR];simp [t_d]
     have u_d : (d == 0) = false:=by simpa using t_d
     clear HR CN CM
     go_wp2
     go_ret
     exact ⟨rfl,GX.out.trans G2.out⟩
    subst t_d
    by_cases tc : (n : Int) = c
    case neg =>
     obtain rfl : r = 1:=by rw [HR];simp [tc]
     have uc : ((n : Int) != c) = true:=by simpa using tc
     clear HR CN CM
     go_wp2
     go_ret
     exact ⟨rfl,GX.out.trans G2.out⟩
    have uc : ((n : Int) != c) = false:=by simpa using tc
    by_cases hn : na = 0
    ·subst hn
     obtain rfl : nb = r:=by rw [HR];simp [tc]
     clear HR
     go_wp2_with (first
      | (go_at_call 187;(with_reducible refine (CN.out _).mono ?_);rintro e w3 ⟨rfl,g1⟩;have G3:=Qo0 (G2.out.trans g1);clear g1 c0 c1 c2 c3 c4 c5;obtain ⟨c0,c1,c2,c3,c4,c5⟩:=CX.out _ G3.out;(try dsimp only))
      | (go_at_call 188;(with_reducible refine (CM.out _).mono ?_);rintro e w4 ⟨rfl,g1⟩;have G4:=Qo0 (G3.out.trans g1);clear g1;(try dsimp only)))
     go_ret
     exact ⟨rfl,GX.out.trans G4.out⟩
    ·obtain rfl : na = r:=by rw [HR];simp [tc,hn]
     have hn' : (na != 0) = true:=by simpa using hn
     clear HR
     go_wp2_with (go_at_call 187;(with_reducible refine (CN.out _).mono ?_);rintro e w3 ⟨rfl,g1⟩;have G3:=Qo0 (G2.out.trans g1);clear g1 c0 c1 c2 c3 c4 c5;obtain ⟨c0,c1,c2,c3,c4,c5⟩:=CX.out _ G3.out;(try dsimp only))
     go_ret
     exact ⟨rfl,GX.out.trans G3.out⟩
   ·by_cases t_i : i = 0
    case neg =>
     obtain rfl : r = 1:=by rw [HR];simp [t_i]
     have u_i : (i == 0) = false:=by simpa using t_i
     clear HR CN CM
     go_wp2
     go_ret
     exact ⟨rfl,GX.out.trans G2.out⟩
    subst t_i
    by_cases t_d : d = 0
    case neg =>
     obtain rfl : r = 1:=by rw [HR];simp [t_d]
     have u_d : (d == 0) = false:=by simpa using t_d
     clear HR CN CM
     go_wp2
     go_ret
     exact ⟨rfl,GX.out.trans G2.out⟩
    subst t_d
    by_cases tc : (n : Int) = c
    case neg =>
     obtain rfl : r = 1:=by rw [HR];simp [tc]
     have uc : ((n : Int) != c) = true:=by simpa using tc
     clear HR CN CM
     go_wp2
     go_ret
     exact ⟨rfl,GX.out.trans G2.out⟩
    have uc : ((n : Int) != c) = false:=by simpa using tc
    by_cases hn : na = 0
    ·subst hn
     obtain rfl : nb = r:=by rw [HR];simp [tc]
     clear HR
     go_wp2_with (first
      | (go_at_call 187;(with_reducible refine (CN.out _).mono ?_);rintro e w3 ⟨rfl,g1⟩;have G3:=Qo0 (G2.out.trans g1);clear g1 c0 c1 c2 c3 c4 c5;obtain ⟨c0,c1,c2,c3,c4,c5⟩:=CX.out _ G3.out;(try dsimp only))
      | (go_at_call 188;(with_reducible refine (CM.out _).mono ?_);rintro e w4 ⟨rfl,g1⟩;have G4:=Qo0 (G3.out.trans g1);clear g1;(try dsimp only)))
     go_ret
     exact ⟨rfl,GX.out.trans G4.out⟩
    ·obtain rfl : na = r:=by rw [HR];simp [tc,hn]
     have hn' : (na != 0) = true:=by simpa using hn
     clear HR
     go_wp2_with (go_at_call 187;(with_reducible refine (CN.out _).mono ?_);rintro e w3 ⟨rfl,g1⟩;have G3:=Qo0 (G2.out.trans g1);clear g1 c0 c1 c2 c3 c4 c5;obtain ⟨c0,c1,c2,c3,c4,c5⟩:=CX.out _ G3.out;(try dsimp only))
     go_ret
     exact ⟨rfl,GX.out.trans G3.out⟩
   ·by_cases t_mo : mo = []
    case neg =>
     obtain rfl : r = 1:=by rw [HR];simp [t_mo]
     have u_mo : mo.isEmpty = false:=by simpa using t_mo
     clear HR CN CM
     go_wp2
     go_ret
     exact ⟨rfl,GX.out.trans G2.out⟩
    subst t_mo
    by_cases t_d : d = 0
    case neg =>
     obtain rfl : r = 1:=by rw [HR];simp [t_d]
     have u_d : (d == 0) = false:=by simpa using t_d
     clear HR CN CM
     go_wp2
     go_ret
     exact ⟨rfl,GX.out.trans G2.out⟩
    subst t_d
    by_cases tc : (n : Int) = c
    case neg =>
     obtain rfl : r = 1:=by rw [HR];simp [tc]
     have uc : ((n : Int) != c) = true:=by simpa using tc
     clear HR CN CM
     go_wp2
     go_ret
     exact ⟨rfl,GX.out.trans G2.out⟩
    have uc : ((n : Int) != c) = false:=by simpa using tc
    by_cases hn : na = 0
    ·subst hn
     obtain rfl : nb = r:=by rw [HR];simp [tc]
     clear HR
     go_wp2_with (first
      | (go_at_call 187;(with_reducible refine (CN.out _).mono ?_);rintro e w3 ⟨rfl,g1⟩;have G3:=Qo0 (G2.out.trans g1);clear g1 c0 c1 c2 c3 c4 c5;obtain ⟨c0,c1,c2,c3,c4,c5⟩:=CX.out _ G3.out;(try dsimp only))
      | (go_at_call 188;(with_reducible refine (CM.out _).mono ?_);rintro e w4 ⟨rfl,g1⟩;have G4:=Qo0 (G3.out.trans g1);clear g1;(try dsimp only)))
     go_ret
     exact ⟨rfl,GX.out.trans G4.out⟩
    ·obtain rfl : na = r:=by rw [HR];simp [tc,hn]
     have hn' : (na != 0) = true:=by simpa using hn
     clear HR
     go_wp2_with (go_at_call 187;(with_reducible refine (CN.out _).mono ?_);rintro e w3 ⟨rfl,g1⟩;have G3:=Qo0 (G2.out.trans g1);clear g1 c0 c1 c2 c3 c4 c5;obtain ⟨c0,c1,c2,c3,c4,c5⟩:=CX.out _ G3.out;(try dsimp only))
     go_ret
     exact ⟨rfl,GX.out.trans G3.out⟩
   ·by_cases t_nm : nm = []
    case neg =>
     obtain rfl : r = 1:=by rw [HR];simp [t_nm]
     have u_nm : nm.isEmpty = false:=by simpa using t_nm
     clear HR CN CM
     go_wp2
     go_ret
     exact ⟨rfl,GX.out.trans G2.out⟩
    subst t_nm
    by_cases t_mo : mo = []
    case neg =>
     obtain rfl : r = 1:=by rw [HR];simp [t_mo]
     have u_mo : mo.isEmpty = false:=by simpa using t_mo
     clear HR CN CM
     go_wp2
     go_ret
     exact ⟨rfl,GX.out.trans G2.out⟩
    subst t_mo
    by_cases t_i : i = 0
    case neg =>
     obtain rfl : r = 1:=by rw [HR];simp [t_i]
     have u_i : (i == 0) = false:=by simpa using t_i
     clear HR CN CM
     go_wp2
     go_ret
     exact ⟨rfl,GX.out.trans G2.out⟩
    subst t_i
    by_cases t_d : d = 0
    case neg =>
     obtain rfl : r = 1:=by rw [HR];simp [t_d]
     have u_d : (d == 0) = false:=by simpa using t_d
     clear HR CN CM
     go_wp2
     go_ret
     exact ⟨rfl,GX.out.trans G2.out⟩
    subst t_d
    by_cases tc : (n : Int) = c
    case neg =>
     obtain rfl : r = 1:=by rw [HR];simp [tc]
     have uc : ((n : Int) != c) = true:=by simpa using tc
     clear HR CN CM
     go_wp2
     go_ret
     exact ⟨rfl,GX.out.trans G2.out⟩
    have uc : ((n : Int) != c) = false:=by simpa using tc
    by_cases hn : na = 0
    ·subst hn
     obtain rfl : nb = r:=by rw [HR];simp [tc]
     clear HR
     go_wp2_with (first
      | (go_at_call 187;(with_reducible refine (CN.out _).mono ?_);rintro e w3 ⟨rfl,g1⟩;have G3:=Qo0 (G2.out.trans g1);clear g1 c0 c1 c2 c3 c4 c5;obtain ⟨c0,c1,c2,c3,c4,c5⟩:=CX.out _ G3.out;(try dsimp only))
      | (go_at_call 188;(with_reducible refine (CM.out _).mono ?_);rintro e w4 ⟨rfl,g1⟩;have G4:=Qo0 (G3.out.trans g1);clear g1;(try dsimp only)))
     go_ret
     exact ⟨rfl,GX.out.trans G4.out⟩
    ·obtain rfl : na = r:=by rw [HR];simp [tc,hn]
     have hn' : (na != 0) = true:=by simpa using hn
     clear HR
     go_wp2_with (go_at_call 187;(with_reducible refine (CN.out _).mono ?_);rintro e w3 ⟨rfl,g1⟩;have G3:=Qo0 (G2.out.trans g1);clear g1 c0 c1 c2 c3 c4 c5;obtain ⟨c0,c1,c2,c3,c4,c5⟩:=CX.out _ G3.out;(try dsimp only))
     go_ret
     exact ⟨rfl,GX.out.trans G3.out⟩
   ·by_cases t_nm : nm = []
    case neg =>
     obtain rfl : r = 1:=by rw [HR];simp [t_nm]
     have u_nm : nm.isEmpty = false:=by simpa using t_nm
     clear HR CN CM
     go_wp2
     go_ret
     exact ⟨rfl,GX.out.trans G2.out⟩
    subst t_nm
    by_cases t_mo : mo = []
    case neg =>
     obtain rfl : r = 1:=by rw [HR];simp [t_mo]
     have u_mo : mo.isEmpty = false:=by simpa using t_mo
     clear HR CN CM
     go_wp2
     go_ret
     exact ⟨rfl,GX.out.trans G2.out⟩
    subst t_mo
    by_cases tc : (n : Int) = c
    case neg =>
     obtain rfl : r = 1:=by rw [HR];simp [tc]
     have uc : ((n : Int) != c) = true:=by simpa using tc
     clear HR CN CM
     go_wp2
     go_ret
     exact ⟨rfl,GX.out.trans G2.out⟩
    have uc : ((n : Int) != c) = false:=by simpa using tc
    by_cases hn : na = 0
    ·subst hn
     obtain rfl : nb = r:=by rw [HR];simp [tc]
     clear HR
     go_wp2_with (first
      | (go_at_call 187;(with_reducible refine (CN.out _).mono ?_);rintro e w3 ⟨rfl,g1⟩;have G3:=Qo0 (G2.out.trans g1);clear g1 c0 c1 c2 c3 c4 c5;obtain ⟨c0,c1,c2,c3,c4,c5⟩:=CX.out _ G3.out;(try dsimp only))
      | (go_at_call 188;(with_reducible refine (CM.out _).mono ?_);rintro e w4 ⟨rfl,g1⟩;have G4:=Qo0 (G3.out.trans g1);clear g1;(try dsimp only)))
     go_ret
     exact ⟨rfl,GX.out.trans G4.out⟩
    ·obtain rfl : na = r:=by rw [HR];simp [tc,hn]
     have hn' : (na != 0) = true:=by simpa using hn
     clear HR
     go_wp2_with (go_at_call 187;(with_reducible refine (CN.out _).mono ?_);rintro e w3 ⟨rfl,g1⟩;have G3:=Qo0 (G2.out.trans g1);clear g1 c0 c1 c2 c3 c4 c5;obtain ⟨c0,c1,c2,c3,c4,c5⟩:=CX.out _ G3.out;(try dsimp only))
     go_ret
     exact ⟨rfl,GX.out.trans G3.out⟩
end Go.Proofs.YtiaenhlflgobfaaGreatDoor
namespace Go.Proofs.YtiaenhlflgobfaaGreatDoor
open Go.RowKit Go.Shelf
attribute [local go_sem] Oper.semAt_some
theorem Qax {fn : Func} {p : Tmp} (h : fn.results = #[.cell p 26]) (tmps : Array Value) (w : World) (a : Addr) (v : Value) (hp : tmps.getD p undef = .pointer (some a)) (hc : w.cell? a = some v) : (results fn tmps).run Tryz.prog w = .ok v w:=by
 have ha:=Tryz.isAgg26
 rw [Y0 h,hp]
 simp [go_sem,ha,loadVar,hc]
theorem Qb9 {w W W' : World} (g : Gr w W) {n : Nat} (hn : w.heap.size ≤ n) (hb : Below n W W') : Gr w W' :=
 ⟨hb.os.trans g.os,hb.tape.trans g.tape,hb.output.trans g.output,Nat.le_trans g.size hb.size,fun k hk _ => (hb.block k (by omega)).trans (g.block k hk (by simp))⟩
theorem Qv {w W : World} (g : Gr w W) {k j : Nat} (hk : w.heap.size ≤ k) (u : Value) : Gr w (W.setCell ⟨k,j,none⟩ u) :=
 ⟨g.os,g.tape,g.output,by simpa [World.setCell] using g.size,fun i hi hn => (Below.heap_setCell _ _ _ _ (by show i ≠ k;omega)).trans (g.block i hi hn)⟩
theorem Zo {W : World} {k : Nat} {v u : Value} {t : TypeId} (h : W.heap[k]? = some (.cells #[v] t (0,0))) : (W.setCell ⟨k,0,none⟩ u).heap[k]? = some (.cells #[u] t (0,0)):=by
 simp [World.setCell,Array.getElem?_modify,h]
theorem Kp.below {B : Nat} {own : Nat → Prop} {W W' : World} (h : Kp B own W W') : Below B W W':=⟨h.os,h.tape,h.output,h.size,fun k hk => h.same k (.inl hk)⟩
structure C1 (w : World) (x : Ex) (pre : List (Nat × Ex)) (W : World) : Prop where
 t : W.heap[w.heap.size]? = some (.cells #[iv x.kind,tv x.name,tv x.more,iv x.int,iv x.den,.slice x.A x.sub.length x.c] 43 (0,0))
 r : W.heap[w.heap.size + 1]? = some (.cells #[iv 0] 26 (0,0))
 n : W.heap[w.heap.size + 2]? = some (.cells #[iv pre.length] 3 (0,0))
 b : W.heap[w.heap.size + 3]? = some (.cells #[iv x.kind,tv x.name,tv x.more,iv x.int,iv x.den,.slice x.A x.sub.length x.c] 43 (0,0))
 gr : Gr w W
 s : w.heap.size + 4 ≤ W.heap.size
 l : pre.length ≤ 400
 dp : ∀ p ∈ pre,p.1 ≤ 40
theorem C1.keep {w : World} {x : Ex} {pre : List (Nat × Ex)} {W W' : World} (h : C1 w x pre W) {n : Nat} (hn : w.heap.size + 4 ≤ n) (hb : Below n W W') : C1 w x pre W' :=
 ⟨(hb.block _ (by omega)).trans h.t,(hb.block _ (by omega)).trans h.r,(hb.block _ (by omega)).trans h.n,(hb.block _ (by omega)).trans h.b,Qb9 h.gr (by omega) hb,Nat.le_trans h.s hb.size,h.l,h.dp⟩
structure CE (w : World) (e : Int) (W : World) : Prop where
 r : W.heap[w.heap.size + 1]? = some (.cells #[iv e] 26 (0,0))
 gr : Gr w W
theorem CE.keep {w : World} {e : Int} {W W' : World} (h : CE w e W) {n : Nat} (hn : w.heap.size + 2 ≤ n) (hb : Below n W W') : CE w e W' :=
 ⟨(hb.block _ (by omega)).trans h.r,Qb9 h.gr (by omega) hb⟩
structure C2 (w : World) (x : Ex) (bt : Nat) (pre : List (Nat × Ex)) (W : World) : Prop where
 r : W.heap[w.heap.size + 1]? = some (.cells #[iv 0] 26 (0,0))
 d : W.heap[w.heap.size + 4]? = some (.deferred (some []))
 b : W.heap[bt]? = some (.cells #[iv x.kind,tv x.name,tv x.more,iv x.int,iv x.den,.slice x.A x.sub.length x.c] 43 (0,0))
 gr : Gr w W
 ok : ∀ z ∈ pre,ckN z.2.er = 0
 l : ∃ post,x.pre 1 = pre ++ post
theorem C2.keep {w : World} {x : Ex} {bt : Nat} {pre : List (Nat × Ex)} {W W' : World} (h : C2 w x bt pre W) (hb5 : w.heap.size + 5 ≤ bt) (hb : Below (bt + 1) W W') : C2 w x bt pre W' :=
 ⟨(hb.block _ (by omega)).trans h.r,(hb.block _ (by omega)).trans h.d,(hb.block _ (by omega)).trans h.b,Qb9 h.gr (by omega) hb,h.ok,h.l⟩
theorem C2.grow {w : World} {x : Ex} {bt : Nat} {pre : List (Nat × Ex)} {W W' : World} (h : C2 w x bt pre W) (g : Gr W W') : C2 w x bt pre W' :=
 ⟨Qe g h.r,Qe g h.d,Qe g h.b,h.gr.trans g,h.ok,h.l⟩
structure C2E (w : World) (y : Nat × Ex) (pre : List (Nat × Ex)) (W : World) : Prop where
 e : CE w (ckN y.2.er) W
 d : W.heap[w.heap.size + 4]? = some (.deferred (some []))
 n : ckN y.2.er ≠ 0
 ok : ∀ z ∈ pre,ckN z.2.er = 0
theorem fe_pre {x : Ex} (h : ∀ z ∈ x.pre 1,ckN z.2.er = 0) : fe ((x.er.pre 1).map fun p => ckN p.2) = 0:=by
 rw [← Qa7,List.map_map]
 refine Qdd.2 (fun q hq => ?_)
 obtain ⟨z,hz,rfl⟩:=List.mem_map.1 hq
 exact h z hz
theorem fe_stop {x : Ex} {pre post : List (Nat × Ex)} {y : Nat × Ex} (hp : x.pre 1 = pre ++ y :: post) (h : ∀ z ∈ pre,ckN z.2.er = 0) (hn : ckN y.2.er ≠ 0) : fe ((x.er.pre 1).map fun p => ckN p.2) = ckN y.2.er:=by
 rw [← Qa7,hp,List.map_append,List.map_append,Ql1,if_pos (Qdd.2 fun q hq => by
  rw [List.map_map] at hq
  obtain ⟨z,hz,rfl⟩:=List.mem_map.1 hq
  exact h z hz)]
 exact Qit hn _
theorem Qgx (x : Ex) : (x.pre 1).length = (x.er.pre 1).length:=by rw [← Qa7];simp
theorem Qj5 {x : Ex} (h1 : (x.pre 1).length ≤ 400) (h2 : ∀ p ∈ x.pre 1,p.1 ≤ 40) : Qdo x.er = false:=by
 unfold Qdo
 rw [← Qgx,Bool.or_eq_false_iff]
 refine ⟨decide_eq_false (by omega),?_⟩
 rw [List.any_eq_false]
 intro p hp
 rw [← Qa7] at hp
 obtain ⟨q,hq,rfl⟩:=List.mem_map.1 hp
 have:=h2 q hq
 exact fun k => by have k:=of_decide_eq_true k;change 40 < q.1 at k;omega
theorem Qnk {x : Ex} {pre post : List (Nat × Ex)} {y : Nat × Ex} (hp : x.pre 1 = pre ++ y :: post) (h : pre.length = 400 ∨ 40 < y.1) : Qdo x.er = true:=by
 unfold Qdo
 rw [← Qgx,Bool.or_eq_true]
 rcases h with h | h
 ·left
  rw [hp]
  simp
  omega
 ·right
  rw [List.any_eq_true]
  refine ⟨erP y,?_,decide_eq_true (show 40 < (erP y).1 from h)⟩
  rw [← Qa7,hp]
  simp
mutual
theorem Qjw {w : World} : ∀ (d : Nat) (x : Ex),x.Rd w → ∀ z ∈ x.pre d,z.2.Rd w
 | d,.mk k n m i e A c s,h,z,hz => by
   rw [Ex.pre] at hz
   rcases List.mem_cons.1 hz with rfl | hz
   ·exact h
   ·exact Qgv (d + 1) s (fun y hy => XRd.hs h.s y hy) z hz
theorem Qgv {w : World} : ∀ (d : Nat) (s : List Ex),(∀ y ∈ s,y.Rd w) → ∀ z ∈ Yc d s,z.2.Rd w
 | d,[],_,z,hz => by simp at hz
 | d,x :: l,h,z,hz => by
   rw [Yc] at hz
   rcases List.mem_append.1 hz with hz | hz
   ·exact Qjw d x (h x (by simp)) z hz
   ·exact Qgv d l (fun y hy => h y (by simp [hy])) z hz
end
theorem Qb3 {w W : World} {k : Nat} (g : Gr w W) (hk : w.heap.size ≤ k) (o : Obj) : Gr w (W.putObj k o):=Qb9 g (n:=w.heap.size) (Nat.le_refl _) ⟨rfl,rfl,rfl,by simp [World.putObj],fun i hi => World.putObj_heap_other (by omega)⟩
set_option maxRecDepth 100000 in
set_option maxHeartbeats 8000000 in
theorem X7 (x : Ex) (w : World) (hx : x.Rd w) : Calls Tryz.prog 85 #[x.v] w fun e w' => e = .returned (iv (ckE x.er)) ∧ Gr w w':=by
 have HX:=Qo0 hx
 have WI:=Qo0 (fun V => Qlj x V)
 have CO:=Qo0 Qek
 clear hx
 refine (callsIn_wide (n:=5)).1 ?_
 refine callsIn_of_wp_marks Tryz.func85 rfl trivial ?_ rfl
 simp only [Tryz.ntmps85,List.size_toArray,List.length_cons,List.length_nil,Nat.reduceAdd,Nat.reduceSub,Array.replicate_succ,Array.replicate_zero,List.push_toArray,List.append_toArray,List.nil_append,List.cons_append]
 unfold Ex.v at WI ⊢
 gi_wp2_with (refine ⟨trivial,?_⟩;gi_at_call 139;refine (callsIn_wide.2 (WI.out _)).mono ?_;rintro e w' ⟨rfl,rfl⟩)
 obtain ⟨W0,hW0⟩ : ∃ W0,(((w.alloc (.cells #[iv x.kind,tv x.name,tv x.more,iv x.int,iv x.den,.slice x.A x.sub.length x.c] 43)).alloc (.cells #[iv 0] 26)).alloc (.cells #[iv 0] 3)).alloc (.cells #[iv x.kind,tv x.name,tv x.more,iv x.int,iv x.den,.slice x.A x.sub.length x.c] 43) = W0:=⟨_,rfl⟩
 have s0 : W0.heap.size = w.heap.size + 4:=by rw [← hW0];simp
 have i0 : C1 w x [] W0:=by
  rw [← hW0]
  refine ⟨?_,?_,?_,?_,((Qa _ _).trans (Qa _ _)).trans ((Qa _ _).trans (Qa _ _)),by simp,by simp,by simp⟩
  ·exact ((Below.heap_alloc _ _ _ (by simp;omega)).trans (Below.heap_alloc _ _ _ (by simp;omega))).trans ((Below.heap_alloc _ _ _ (by simp)).trans (Qd w _))
  ·exact ((Below.heap_alloc _ _ _ (by simp)).trans (Below.heap_alloc _ _ _ (by simp))).trans (Qr _ _ (by simp))
  ·exact (Below.heap_alloc _ _ _ (by simp)).trans (Qr _ _ (by simp))
  ·exact Qr _ _ (by simp)
 rw [hW0]
 clear hW0
 refine Qju (w0:=w) (x:=x) (bt:=w.heap.size + 1 + 1 + 1) (by omega) rfl rfl HX.out (fun pre own W => C1 w x pre W ∧ ∀ k,¬ own k) (fun pre y W => (pre.length = 400 ∨ 40 < y.1) ∧ CE w 4 W) (fun pre own W h => ⟨h.1.gr,by rw [s0];exact h.1.s,h.1.b,by have:=h.1.l;omega,fun k hk => absurd hk (h.2 k)⟩) (fun pre own W W' h hb => ⟨h.1.keep (by omega) hb.below,h.2⟩) (fun pre y W W' h hb => ⟨h.1,h.2.keep (by omega) hb.below⟩) ⟨i0,fun k h => h⟩ ?_ ?_ ?_
 ·intro l pre own y W hi hsz _ hy hp hl
  have HI:=Qo0 hi.1
  have HN:=Qo0 hi.2
  have HS:=Qo0 s0
  clear hi i0 s0
  gi_wp2
  refine ⟨⟨fun k _ _ _ => trivial,Nat.le_refl _⟩,fun W₂ hb => ?_⟩
  have h2:=HI.out.keep (by have:=HS.out;omega) hb.below
  have c0:=Lib.cell_of_heap h2.n 0
  have f0:=Lib.frozen_of_heap h2.n 0
  have c1:=Lib.cell_of_heap h2.r 0
  have f1:=Lib.frozen_of_heap h2.r 0
  simp only [List.getElem?_toArray,List.getElem?_cons_zero] at c0 c1
  have H2:=Qo0 h2
  have hln:=h2.l
  clear h2 hb
  obtain ⟨m,hm⟩ : ∃ m,pre.length = m:=⟨_,rfl⟩
  rw [hm] at c0 hln
  have HM:=Qo0 hm
  clear hm
  obtain ⟨dy,ey⟩:=y
  dsimp only at *
  by_cases h400 : m = 400
  ·subst h400
   gi_wp2
   intro _
   refine ⟨⟨fun k h1 h2 _ => ?_,by simp [World.setCell]⟩,.inl HM.out,?_,Qv (Qv H2.out.gr (by omega) _) (by omega) _⟩
   ·rw [Below.heap_setCell _ _ _ _ (by show k ≠ w.heap.size + 1;have:=HS.out;omega),Below.heap_setCell _ _ _ _ (by show k ≠ w.heap.size + 1 + 1;have:=HS.out;omega)]
   ·exact Zo ((Below.heap_setCell _ _ _ _ (by show w.heap.size + 1 ≠ w.heap.size + 1 + 1;omega)).trans H2.out.r)
  ·have h401 : decide ((400 : Int) < (m : Int) + 1) = false:=decide_eq_false (by omega)
   by_cases h40 : 40 < dy
   ·have q40 : decide ((40 : Int) < (dy : Int)) = true:=decide_eq_true (by omega)
    gi_wp2
    intro _
    refine ⟨⟨fun k h1 h2 _ => ?_,by simp [World.setCell]⟩,.inr h40,?_,Qv (Qv H2.out.gr (by omega) _) (by omega) _⟩
    ·rw [Below.heap_setCell _ _ _ _ (by show k ≠ w.heap.size + 1;have:=HS.out;omega),Below.heap_setCell _ _ _ _ (by show k ≠ w.heap.size + 1 + 1;have:=HS.out;omega)]
    ·exact Zo ((Below.heap_setCell _ _ _ _ (by show w.heap.size + 1 ≠ w.heap.size + 1 + 1;omega)).trans H2.out.r)
   ·have q40 : decide ((40 : Int) < (dy : Int)) = false:=decide_eq_false (by omega)
    gi_wp2
    intro _
    have o : ∀ k,k ≠ w.heap.size + 2 → (W₂.setCell ⟨w.heap.size + 1 + 1,0,none⟩ (.int .i64 ((m : Int) + 1))).heap[k]? = W₂.heap[k]?:=fun k hk => Below.heap_setCell _ _ _ _ (by show k ≠ w.heap.size + 1 + 1;omega)
    refine ⟨⟨fun k h1 h2 _ => o k (by have:=HS.out;omega),by simp [World.setCell]⟩,own,fun k hk => .inl hk,⟨(o _ (by omega)).trans H2.out.t,(o _ (by omega)).trans H2.out.r,?_,(o _ (by omega)).trans H2.out.b,Qv H2.out.gr (by omega) _,by have:=H2.out.s;simpa [World.setCell] using this,by have:=HM.out;simp;omega,fun p hp => ?_⟩,HN.out⟩
    ·have:=Zo (u:=.int .i64 ((m : Int) + 1)) H2.out.n
     rw [this]
     simp [HM.out]
    ·rcases List.mem_append.1 hp with hp | hp
     ·exact H2.out.dp p hp
     ·rw [List.mem_singleton.1 hp];show dy ≤ 40;omega
 ·intro own W' hi _ hd
  replace hi:=hi.1
  have b1:=Lib.cell_of_heap hi.t 0
  have b2:=Lib.cell_of_heap hi.t 1
  have b3:=Lib.cell_of_heap hi.t 2
  have b4:=Lib.cell_of_heap hi.t 3
  have b5':=Lib.cell_of_heap hi.t 4
  have b6:=Lib.cell_of_heap hi.t 5
  simp only [List.getElem?_toArray,List.getElem?_cons_zero,List.getElem?_cons_succ] at b1 b2 b3 b4 b5' b6
  have HI:=Qo0 hi
  have HD:=Qo0 hd
  clear hi hd i0
  gi_wp2_with (refine ⟨trivial,?_⟩;gi_at_call 139;refine (callsIn_wide.2 (WI.out _)).mono ?_;rintro e w' ⟨rfl,rfl⟩)
  have b5 : w.heap.size + 5 ≤ W'.heap.size:=by have:=Qn HD.out;omega
  have k0 : C2 w x W'.heap.size [] (W'.alloc (.cells #[iv x.kind,tv x.name,tv x.more,iv x.int,iv x.den,.slice x.A x.sub.length x.c] 43)) :=
   ⟨Qe (Qa _ _) HI.out.r,Qe (Qa _ _) (by have:=HD.out;rwa [s0] at this),Qd _ _,HI.out.gr.trans (Qa _ _),by simp,⟨_,rfl⟩⟩
  have z5 : (W'.alloc (.cells #[iv x.kind,tv x.name,tv x.more,iv x.int,iv x.den,.slice x.A x.sub.length x.c] 43)).heap.size = W'.heap.size + 1:=by simp
  have L200:=Qo0 (And.intro HI.out.l HI.out.dp)
  generalize W'.alloc (.cells #[iv x.kind,tv x.name,tv x.more,iv x.int,iv x.den,.slice x.A x.sub.length x.c] 43) = W5 at *
  generalize W'.heap.size = bt at *
  clear b1 b2 b3 b4 b5' b6 HI HD s0
  refine Qju (w0:=w) (x:=x) (bt:=bt) (by omega) rfl rfl HX.out (fun pre own W => C2 w x bt pre W ∧ W5.heap.size ≤ W.heap.size ∧ ∀ k,¬ own k) (fun pre y W => C2E w y pre W) (fun pre own W h => ⟨h.1.gr,h.2.1,h.1.b,by obtain ⟨post,hp⟩:=h.1.l;have h1:=congrArg List.length hp;have:=L200.out.1;simp at h1;omega,fun k hk => absurd hk (h.2.2 k)⟩) (fun pre own W W' h hb => ⟨h.1.keep b5 (by have:=hb.below;rw [z5] at this;exact this),Nat.le_trans h.2.1 hb.size,h.2.2⟩) (fun pre y W W' h hb => ⟨h.e.keep (by omega) hb.below,(hb.below.block _ (by omega)).trans h.d,h.n,h.ok⟩) ⟨k0,Nat.le_refl _,fun k h => h⟩ ?_ ?_ ?_
  ·intro l pre own y W hi hsz _ hy hp hl
   have HI:=Qo0 hi
   have HS:=Qo0 z5
   have HP:=Qo0 hp
   have YR:=Qo0 (show y.2.Rd w from by obtain ⟨post,e0⟩:=hp;exact Qjw 1 x HX.out y (by rw [e0];simp))
   clear hi k0 z5 hy hp
   obtain ⟨dy,ey⟩:=y
   dsimp only at *
   unfold Ex.v
   gi_wp2
   refine ⟨⟨fun k _ hk _ => Below.heap_alloc _ _ _ hk,by simp⟩,fun W₂ hb => ?_⟩
   have hlt : W.heap.size ≠ l:=by omega
   have u2 : W₂.heap[W.heap.size]? = some (.cells #[iv ey.kind,tv ey.name,tv ey.more,iv ey.int,iv ey.den,.slice ey.A ey.sub.length ey.c] 43 (0,0)):=(hb.same _ hlt).trans (Qd W _)
   have h2:=(HI.out.1.grow (Qa W (.cells #[iv ey.kind,tv ey.name,tv ey.more,iv ey.int,iv ey.den,.slice ey.A ey.sub.length ey.c] 43))).keep b5 (hb.below.mono (by have:=HS.out;omega))
   have c0:=Lib.cell_of_heap u2 0
   have c1:=Lib.cell_of_heap u2 1
   have c2:=Lib.cell_of_heap u2 2
   have c3:=Lib.cell_of_heap u2 3
   have c4:=Lib.cell_of_heap u2 4
   have c5:=Lib.cell_of_heap u2 5
   have d1:=Lib.cell_of_heap h2.r 0
   have f1:=Lib.frozen_of_heap h2.r 0
   simp only [List.getElem?_toArray,List.getElem?_cons_zero,List.getElem?_cons_succ] at c0 c1 c2 c3 c4 c5 d1
   have H2:=Qo0 h2
   have Z2:=Qo0 (show W5.heap.size ≤ W₂.heap.size from Nat.le_trans HI.out.2.1 (by rw [hb.size];simp))
   have CY:=Qo0 (CO.out ey W₂ (YR.out.gr h2.gr))
   unfold Ex.v at CY
   obtain ⟨q,hq⟩ : ∃ q,ckN ey.er = q:=⟨_,rfl⟩
   rw [hq] at CY
   have HQ:=Qo0 hq
   clear hq h2 u2 hb
   by_cases q0 : q = 0
   ·subst q0
    gi_wp2_with (refine ⟨trivial,?_⟩;gi_at_call 140;refine (CallsIn.inRound _ (callsIn_wide.2 CY.out)).mono ?_;rintro e W3 ⟨rfl,g3⟩;have G3:=Qo0 g3;clear g3)
    intro _
    refine ⟨⟨fun k h1 h2 _ => G3.out.block k h2 (by simp),G3.out.size⟩,own,fun k hk => .inl hk,⟨Qe G3.out H2.out.r,Qe G3.out H2.out.d,Qe G3.out H2.out.b,H2.out.gr.trans G3.out,fun z hz => ?_,?_⟩,Nat.le_trans Z2.out G3.out.size,HI.out.2.2⟩
    ·rcases List.mem_append.1 hz with hz | hz
     ·exact H2.out.ok z hz
     ·simp only [List.mem_singleton] at hz;subst hz;exact HQ.out
    ·obtain ⟨post,hp⟩:=HP.out
     exact ⟨post,by rw [hp];simp⟩
   ·have q1 : (q != 0) = true:=by simpa using q0
    have Q0:=Qo0 q0
    clear q0
    gi_wp2_with (refine ⟨trivial,?_⟩;gi_at_call 140;refine (CallsIn.inRound _ (callsIn_wide.2 CY.out)).mono ?_;rintro e W3 ⟨rfl,g3⟩;have G3:=Qo0 g3;have d1':=Ze g3 d1;have f1':=Lib.frozen_of_heap (Qe g3 H2.out.r) 0;clear g3 d1 f1)
    intro _
    refine ⟨⟨fun k h1 h2 _ => ?_,by have:=G3.out.size;simpa [World.setCell] using this⟩,⟨?_,Qv (H2.out.gr.trans G3.out) (by omega) _⟩,?_,by rw [HQ.out];exact Q0.out,H2.out.ok⟩
    ·rw [Below.heap_setCell _ _ _ _ (by show k ≠ w.heap.size + 1;have:=HS.out;omega)]
     exact G3.out.block k h2 (by simp)
    ·rw [HQ.out];exact Zo (Qe G3.out H2.out.r)
    ·rw [Below.heap_setCell _ _ _ _ (by show w.heap.size + 4 ≠ w.heap.size + 1;omega)]
     exact Qe G3.out H2.out.d
  ·intro own W' hi _ hd
   have d1:=Lib.cell_of_heap hi.1.r 0
   have f1:=Lib.frozen_of_heap hi.1.r 0
   simp only [List.getElem?_toArray,List.getElem?_cons_zero] at d1
   have HI:=Qo0 hi.1
   have HD:=Qo0 hd
   have HS:=Qo0 z5
   clear hi hd k0 z5
   gi_wp2
   have dd : (W'.setCell ⟨w.heap.size + 1,0,none⟩ (iv 0)).heap[W5.heap.size]? = some (.deferred (some [])):=(Below.heap_setCell _ _ _ _ (by show W5.heap.size ≠ w.heap.size + 1;have:=HS.out;omega)).trans HD.out
   have dr : ((W'.setCell ⟨w.heap.size + 1,0,none⟩ (iv 0)).putObj W5.heap.size (.deferred none)).heap[w.heap.size + 1]? = some (.cells #[iv 0] 26 (0,0)):=by
    rw [World.putObj_heap_other (by have:=HS.out;omega)]
    exact Zo HI.out.r
   have dd2 : ((W'.setCell ⟨w.heap.size + 1,0,none⟩ (iv 0)).putObj W5.heap.size (.deferred none)).heap[w.heap.size + 4]? = some (.deferred (some [])):=by
    rw [World.putObj_heap_other (by have:=HS.out;omega),Below.heap_setCell _ _ _ _ (by show w.heap.size + 4 ≠ w.heap.size + 1;omega)]
    exact HI.out.d
   refine ⟨by simp,.inl ⟨_,_,rfl,run_takeDeferred dd,?_⟩⟩
   refine ⟨by simp,.inl ⟨_,_,rfl,run_takeDeferred dd2,?_⟩⟩
   refine ⟨_,Qax rfl _ _ ⟨w.heap.size + 1,0,none⟩ (iv 0) rfl ?_,?_,?_⟩
   ·have h1:=(World.putObj_heap_other (o:=.deferred none) (show w.heap.size + 1 ≠ w.heap.size + 4 by omega)).trans dr
    simpa using Lib.cell_of_heap h1 0
   ·have h2 : ckE x.er = 0:=by unfold ckE;rw [Qj5 L200.out.1 L200.out.2,fe_pre HI.out.ok];rfl
    rw [h2]
   ·exact Qb3 (Qb3 (Qv HI.out.gr (by omega) _) (by have:=HS.out;omega) _) (by omega) _
  ·intro pre y post W' hp hE hd
   have HE:=Qo0 hE
   have HD:=Qo0 hd
   have HP:=Qo0 hp
   have HS:=Qo0 z5
   clear hE hd hp k0 z5
   gi_wp2
   have dr : (W'.putObj W5.heap.size (.deferred none)).heap[w.heap.size + 1]? = some (.cells #[iv (ckN y.2.er)] 26 (0,0)):=by
    rw [World.putObj_heap_other (by have:=HS.out;omega)]
    exact HE.out.e.r
   have dd2 : (W'.putObj W5.heap.size (.deferred none)).heap[w.heap.size + 4]? = some (.deferred (some [])):=by
    rw [World.putObj_heap_other (by have:=HS.out;omega)]
    exact HE.out.d
   refine ⟨by simp,.inl ⟨_,_,rfl,run_takeDeferred HD.out,?_⟩⟩
   refine ⟨by simp,.inl ⟨_,_,rfl,run_takeDeferred dd2,?_⟩⟩
   refine ⟨_,Qax rfl _ _ ⟨w.heap.size + 1,0,none⟩ (iv (ckN y.2.er)) rfl ?_,?_,?_⟩
   ·have h1:=(World.putObj_heap_other (o:=.deferred none) (show w.heap.size + 1 ≠ w.heap.size + 4 by omega)).trans dr
    simpa using Lib.cell_of_heap h1 0
   ·have h2 : ckE x.er = ckN y.2.er:=by unfold ckE;rw [Qj5 L200.out.1 L200.out.2,fe_stop HP.out HE.out.ok HE.out.n];rfl
    rw [h2]
   ·exact Qb3 (Qb3 HE.out.e.gr (by have:=HS.out;omega) _) (by omega) _
 ·intro pre y post W' hp hE hd
  have HE:=Qo0 hE
  have HD:=Qo0 hd
  have HP:=Qo0 hp
  clear hE hd hp
  gi_wp2
  refine ⟨by simp,.inl ⟨_,_,rfl,run_takeDeferred HD.out,?_⟩⟩
  refine ⟨_,Qax rfl _ _ ⟨w.heap.size + 1,0,none⟩ (iv 4) rfl ?_,?_,?_⟩
  ·have h1:=(World.putObj_heap_other (o:=.deferred none) (show w.heap.size + 1 ≠ W0.heap.size by omega)).trans HE.out.2.r
   simpa using Lib.cell_of_heap h1 0
  ·have h2 : ckE x.er = 4:=by unfold ckE;rw [Qnk HP.out HE.out.1];rfl
   rw [h2]
  ·exact Qb3 HE.out.2.gr (by omega) _
end Go.Proofs.YtiaenhlflgobfaaGreatDoor

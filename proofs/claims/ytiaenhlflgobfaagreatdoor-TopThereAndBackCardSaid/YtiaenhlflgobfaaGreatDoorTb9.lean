/- Words. -/
import Derived.Test.YtiaenhlflgobfaaGreatDoorTb5
import Derived.Test.YtiaenhlflgobfaaGreatDoorTb8
import Derived.RangeFuncNested
import Derived.RangeFuncBound
import Derived.RangeFuncCalls
import Derived.RangeFuncLeaves
import Derived.Shelf.Abstract
import Derived.Shelf.RegionOpen
import Derived.OwnWalkIn
import Derived.TacticsInMore
import Derived.LoopNIn
import Derived.LoopIn
namespace Go.Proofs.YtiaenhlflgobfaaGreatDoor
open Go.RowKit Go.Shelf
attribute [local go_sem] Oper.semAt_some
theorem Qnm (p : Nat → Prop) (h : ∃ n,p n) : ∃ n,p n ∧ ∀ m,p m → n ≤ m:=by
 obtain ⟨n,hn⟩:=h
 induction n using Nat.strongRecOn with
 | ind n ih =>
   by_cases h : ∃ m,m < n ∧ p m
   ·obtain ⟨m,h1,h2⟩:=h
    exact ih m h1 h2
   ·exact ⟨n,hn,fun m hm => Nat.le_of_not_lt fun h' => h ⟨m,h',hm⟩⟩
theorem Qco {α β : Type} (R : Nat → α → β → Prop) : ∃ mu : α → β → Nat,∀ a b,(∃ m,R m a b) → R (mu a b) a b ∧ ∀ m,R m a b → mu a b ≤ m:=by
 have h : ∀ a,∃ f : β → Nat,∀ b,(∃ m,R m a b) → R (f b) a b ∧ ∀ m,R m a b → f b ≤ m:=fun a =>
  Classical.axiomOfChoice (r:=fun b n => (∃ m,R m a b) → R n a b ∧ ∀ m,R m a b → n ≤ m) fun b => by
   by_cases h : ∃ m,R m a b
   ·obtain ⟨n,h1,h2⟩:=Qnm (fun m => R m a b) h
    exact ⟨n,fun _ => ⟨h1,h2⟩⟩
   ·exact ⟨0,fun h' => absurd h' h⟩
 exact Classical.axiomOfChoice (β:=fun _ => β → Nat) (r:=fun a (f : β → Nat) => ∀ b,(∃ m,R m a b) → R (f b) a b ∧ ∀ m,R m a b → f b ≤ m) h
section
variable {α : Type} {e : TypeId} {n : Nat} {cs : α → List Value} {w w' : World} {base : Nat} {v : Value} {L : List α}
theorem OR.keepAt (h : OR e n cs w base v L) (hk : ∀ k,v.ownBlock = some k → w'.heap[k]? = w.heap[k]?) : OR e n cs w' base v L:=by
 refine ⟨h.1,?_⟩
 rcases h.2 with h1 | ⟨g,cap,cur,rfl,hg,hh,rest⟩
 ·exact .inl h1
 ·exact .inr ⟨g,cap,cur,rfl,hg,(hk g rfl).trans hh,rest⟩
theorem OR.short (hn : ∀ x,(cs x).length = n) {g cap : Nat} {x : α} (h : OR e n cs w base (.slice (some ⟨g,0,none⟩) (L.length + 1) cap) (L ++ [x])) : OR e n cs w base (.slice (some ⟨g,0,none⟩) L.length cap) L:=by
 have hl : (L.flatMap cs).length = L.length * n:=Qk cs n hn L
 refine ⟨hl,?_⟩
 rcases h.2 with ⟨h1,_⟩ | ⟨g',cap',cur,e1,hg,hh,hnc,hm,hs,hx⟩
 ·cases h1
 ·obtain ⟨e2,-,e3⟩:=Value.slice.inj e1
  simp only [Option.some.injEq,Addr.mk.injEq,and_true] at e2
  subst e2;subst e3
  refine .inr ⟨g,cap,cur,rfl,hg,hh,by simp at hnc;omega,hm,hs,?_⟩
  have h2:=congrArg (List.take (L.length * n)) hx
  rw [List.take_take,List.flatMap_append,List.take_left' hl,Nat.min_eq_left (by simp [Nat.succ_mul])] at h2
  exact h2
theorem OR.frz {g m cap : Nat} (h : OR e n cs w base (.slice (some ⟨g,0,none⟩) m cap) L) (j : Nat) : w.frozen? ⟨g,j,none⟩ = false:=by
 rcases h.2 with ⟨h1,_⟩ | ⟨g',cap',cur,e1,hg,hh,rest⟩
 ·cases h1
 ·have e2:=(Value.slice.inj e1).1
  simp only [Option.some.injEq,Addr.mk.injEq,and_true] at e2
  subst e2
  simp [World.frozen?,hh]
theorem OR.one (hn : ∀ x,(cs x).length = n) (x : α) {b : Array Value} (hb : base ≤ w.heap.size) (h : b = (cs x).toArray) : OR e n cs (w.alloc (.cells b e)) base (.slice (some ⟨w.heap.size,0,none⟩) 1 1) [x]:=by
 subst h
 refine ⟨by simp [hn],.inr ⟨_,1,_,rfl,hb,Qd w _,Nat.le_refl _,by unfold maxLen;omega,by simp [hn],?_⟩⟩
 have h1 : ([x].flatMap cs) = cs x:=by simp
 rw [h1]
 simp only [List.length_singleton,Nat.one_mul]
 rw [List.take_of_length_le (by simp [hn])]
end
structure SL where
 A : Option Addr
 c : Nat
 L : List Ex
def SL.cs (s : SL) : List Value:=[.slice s.A s.L.length s.c]
theorem SL.cs_len (s : SL) : s.cs.length = 1:=rfl
theorem SL.cell1 (s : SL) : ∀ u ∈ s.cs,u.oneCell' = true:=by
 intro u hu
 simp only [SL.cs,List.mem_cons,List.not_mem_nil,or_false] at hu
 subst hu;rfl
theorem OR.slAt {w : World} {base g m cap : Nat} {L : List SL} (h : OR 41 1 SL.cs w base (.slice (some ⟨g,0,none⟩) m cap) L) {k : Nat} {s : SL} (hs : L[k]? = some s) : w.cell? ⟨g,k,none⟩ = some (.slice s.A s.L.length s.c):=by
 have hm : m = L.length:=by
  rcases h.2 with ⟨h1,_⟩ | ⟨g',cap',cur,e1,_⟩
  ·cases h1
  ·exact (Value.slice.inj e1).2.1
 subst hm
 have h1:=World.ownsRow.cells h rfl k _ (by have:=Qai SL.cs 1 SL.cs_len (i:=0) (by omega) L k hs;simp only [Nat.mul_one,Nat.add_zero] at this;rw [this];rfl)
 by_cases hk : k = 0
 ·subst hk;exact h1
 ·rw [Qh _ _ hk] at h1;simpa using h1
theorem OR.slSet {w : World} {base g m cap : Nat} {L : List SL} {s s' : SL} (h : OR 41 1 SL.cs w base (.slice (some ⟨g,0,none⟩) m cap) (L ++ [s])) : OR 41 1 SL.cs (w.setCell ⟨g,L.length,none⟩ (.slice s'.A s'.L.length s'.c)) base (.slice (some ⟨g,0,none⟩) m cap) (L ++ [s']) ∧ w.grownBy (w.setCell ⟨g,L.length,none⟩ (.slice s'.A s'.L.length s'.c)) (some g):=by
 have hm : m = (L ++ [s]).length:=by
  rcases h.2 with ⟨h1,_⟩ | ⟨g',cap',cur,e1,_⟩
  ·cases h1
  ·exact (Value.slice.inj e1).2.1
 have h1:=World.ownsRow.stored (show w.ownsRow base 41 1 (.slice (some ⟨g,0,none⟩) (L ++ [s]).length cap) (L ++ [s]).length ((L ++ [s]).flatMap SL.cs) by rw [← hm];rw [hm] at h;rw [hm];exact h) L.length (.slice s'.A s'.L.length s'.c)
 have e1 : ((L ++ [s]).flatMap SL.cs).set L.length (.slice s'.A s'.L.length s'.c) = (L ++ [s']).flatMap SL.cs:=by
  have hl : (L.flatMap SL.cs).length = L.length:=by rw [Qk SL.cs 1 SL.cs_len];omega
  rw [List.flatMap_append,List.flatMap_append,List.set_append_right _ _ (by omega),hl,Nat.sub_self]
  rfl
 rw [e1] at h1
 refine ⟨?_,h1.2⟩
 rw [hm]
 have:=h1.1
 unfold OR
 simpa using this
mutual
def Ex.pre (d : Nat) : Ex → List (Nat × Ex)
 | .mk k n m i e A c s => (d,.mk k n m i e A c s) :: Yc (d + 1) s
def Yc (d : Nat) : List Ex → List (Nat × Ex)
 | [] => []
 | x :: l => x.pre d ++ Yc d l
end
theorem Qb4 (d : Nat) (t : Ex) : t.pre d = (d,t) :: Yc (d + 1) t.sub:=by cases t;simp [Ex.pre,Ex.sub]
@[simp] theorem preXs_nil (d : Nat) : Yc d [] = []:=by simp [Yc]
@[simp] theorem preXs_cons (d : Nat) (x : Ex) (l : List Ex) : Yc d (x :: l) = (d,x) :: (Yc (d + 1) x.sub ++ Yc d l):=by simp [Yc,Qb4]
def erP (p : Nat × Ex) : Nat × PE:=(p.1,p.2.er)
mutual
theorem Qa7 (d : Nat) : ∀ t : Ex,(t.pre d).map erP = t.er.pre d
 | .mk k n m i e A c s => by rw [Ex.pre,List.map_cons,Qgw (d + 1) s,Ex.er,PE.pre];simp [erP,Ex.er]
theorem Qgw (d : Nat) : ∀ s : List Ex,(Yc d s).map erP = Qbt d (ers s)
 | [] => by simp
 | x :: l => by
   have h:=Qa7 d x
   rw [Qb4] at h
   rw [preXs_cons,ers_cons,pres_cons,← h,← Qgw d l]
   simp
end
theorem Qbr {α : Type} (l : List α) : l = [] ∨ ∃ l' x,l = l' ++ [x]:=by
 rcases List.eq_nil_or_concat l with h | ⟨l',x,h⟩
 ·exact .inl h
 ·exact .inr ⟨l',x,by rw [h];simp⟩
def Qjx : List SL → List (Nat × Ex)
 | [] => []
 | s :: r => Yc (r.length + 2) s.L ++ Qjx r
def pend (St : List SL) : List (Nat × Ex):=Qjx St.reverse
theorem Yt (St : List SL) (s : SL) : pend (St ++ [s]) = Yc (St.length + 2) s.L ++ pend St:=by simp [pend,Qjx]
theorem Qm4 : pend [] = []:=rfl
theorem Qm3 (s : SL) : pend [s] = Yc 2 s.L:=by simp [pend,Qjx]
structure Kp (B : Nat) (own : Nat → Prop) (W W' : World) : Prop where
 os : W'.os = W.os
 tape : W'.tape = W.tape
 output : W'.output = W.output
 size : W.heap.size ≤ W'.heap.size
 same : ∀ k,k < B ∨ own k → W'.heap[k]? = W.heap[k]?
theorem Kp.of {B : Nat} {own : Nat → Prop} {W W' : World} (h : Gr W W') (hB : B ≤ W.heap.size) (ho : ∀ k,own k → k < W.heap.size) : Kp B own W W' :=
 ⟨h.os,h.tape,h.output,h.size,fun k hk => h.block k (by rcases hk with hk | hk;omega;exact ho k hk) (by simp)⟩
theorem Kp.trans {B : Nat} {own : Nat → Prop} {U V W : World} (h : Kp B own U V) (k : Kp B own V W) : Kp B own U W :=
 ⟨k.os.trans h.os,k.tape.trans h.tape,k.output.trans h.output,Nat.le_trans h.size k.size,fun j hj => (k.same j hj).trans (h.same j hj)⟩
theorem Kp.row {B : Nat} {own : Nat → Prop} {W W' : World} {g : Nat} (h : W.grownBy W' (some g)) (hB : B ≤ W.heap.size) (ho : ∀ k,own k → k < W.heap.size) (hg : B ≤ g) (hn : ¬ own g) : Kp B own W W' :=
 ⟨h.os,h.tape,h.output,h.size,fun k hk => h.block k (by rcases hk with hk | hk;omega;exact ho k hk) (by
  intro e
  cases e
  rcases hk with hk | hk
  ·omega
  ·exact hn hk)⟩
structure Yl (x : Ex) (w0 : World) (bt B n l : Nat) (J : List (Nat × Ex) → (Nat → Prop) → World → Prop) (F : List (Nat × Ex) → (Nat × Ex) → World → Prop) : Prop where
 gr : ∀ pre own W,J pre own W → Gr w0 W ∧ B ≤ W.heap.size
 box : ∀ pre own W,J pre own W → W.heap[bt]? = some (.cells #[iv x.kind,tv x.name,tv x.more,iv x.int,iv x.den,.slice x.A x.sub.length x.c] 43 (0,0))
 lim : ∀ pre own W,J pre own W → pre.length ≤ 1000
 lt : ∀ pre own W,J pre own W → ∀ k,own k → k < W.heap.size
 keep : ∀ pre own W W',J pre own W → Kp B own W W' → J pre own W'
 yield : ∀ pre own y W,J pre own W → y.2.Rd W → (∃ post,x.pre 1 = pre ++ y :: post) → YieldAt Fence.wide n Tryz.prog l #[iv y.1,y.2.v] W fun e W' => ((∀ k,B ≤ k → k < W.heap.size → ¬ own k → W'.heap[k]? = W.heap[k]?) ∧ W.heap.size ≤ W'.heap.size) ∧ ((e = .returned (.bool true) ∧ ∃ own',(∀ k,own' k → own k ∨ W.heap.size ≤ k) ∧ J (pre ++ [y]) own' W') ∨ (e = .returned (.bool false) ∧ F pre y W'))
theorem OR.someR {α : Type} {e : TypeId} {n : Nat} {cs : α → List Value} {w : World} {base : Nat} {v : Value} {L : List α} (h : OR e n cs w base v L) (hL : L ≠ []) : ∃ g c,v = .slice (some ⟨g,0,none⟩) L.length c ∧ base ≤ g:=by
 rcases h.2 with ⟨_,hl⟩ | ⟨g,cap,cur,e1,hg,_⟩
 ·exact absurd (List.eq_nil_of_length_eq_zero hl) hL
 ·exact ⟨g,cap,e1,hg⟩
structure WS (x : Ex) (w0 : World) (B : Nat) (J : List (Nat × Ex) → (Nat → Prop) → World → Prop) (m : Nat) (v : Value) (W : World) (g cap : Nat) (St : List SL) (pre : List (Nat × Ex)) (own : Nat → Prop) : Prop where
 ev : v = .slice (some ⟨g,0,none⟩) St.length cap
 o : OR 41 1 SL.cs W B v St
 j : J pre own W
 ng : ¬ own g
 e : pre ++ pend St = x.pre 1
 t : ∀ s ∈ St,XRd w0 s.A s.c s.L
 em : m = 2 * (pend St).length + St.length
 n : St.length ≤ pre.length
theorem info41 : (Tryz.prog.info? 41).map (fun i => (i.zero,i.size,i.bytes)) = some (some (.slice none 0 0),1,24):=by kernel_rfl
theorem Qfc {n : Nat} (w : World) {ops : Array Oper} {rest : List Oper} {o : Oper} {a : Act} {Q : Exit → Act → World → Prop} (hgd : o.guard = none) (s x : Operand)
 (ho : o.op = .call { callee:=.builtin .append,args:=#[s,x],argTypes:=#[257,257] }) (base : Nat) {v : Value} {L : List SL} (hs : a.eval s = v) (hown : OR 41 1 SL.cs w base v L)
 {A : Option Addr} {M : List SL} {m c : Nat} (hm : M.length = m) (hx : a.eval x = .slice A m c) (hr : RD 1 SL.cs w A M) (hA : A ≠ none) (hsz : L.length + M.length ≤ 1000000) (hb : base ≤ w.heap.size)
 (h : ∀ v' w',OR 41 1 SL.cs w' base v' (L ++ M) → w.grownBy w' v.ownBlock → (v'.ownBlock = v.ownBlock ∨ v'.ownBlock = some w.heap.size) → wpListIn Fence.wide n Tryz.prog ops Q rest (a.put o.dst v') w') : wpListIn Fence.wide n Tryz.prog ops Q (o :: rest) a w:=by
 subst hm
 refine wpListIn_plain hgd fun K hK => ?_
 obtain ⟨v',w',hrun,h2,h3,h4⟩:=Qgp (t:=257) (ty:=o.type) SL.cs_len SL.cell1 Tryz.underlying257 info41 rfl (by decide) (by decide) hown c hr hA hsz hb
 unfold Oper.wpIn
 refine ⟨?_,?_⟩
 ·simp [Oper.about,ho,resolve,Target.leads,Sem.run_pure]
 ·rw [Oper.semAt_plain _ _ _ (by rw [ho];intro c hc';cases hc')]
  simp [execOp,ho,resolve,invoke,builtin,hs,hx,hrun,Result.andThen]
  exact hK _ _ (h v' w' h2 h3 h4)
set_option maxRecDepth 100000 in
set_option maxHeartbeats 4000000 in
theorem Qna (x : Ex) (w0 : World) (bt l n : Nat) (hn : 1 ≤ n) (J : List (Nat × Ex) → (Nat → Prop) → World → Prop) (F : List (Nat × Ex) → (Nat × Ex) → World → Prop) (W : World) (hx : x.Rd w0) (Y : Yl x w0 bt W.heap.size (n - 1) l J F) (h0 : J [] (fun _ => False) W) :
 CallsIn Fence.wide n Tryz.prog 185 #[.func (.yield l) #[] #[],.pointer (some ⟨bt,0,none⟩)] W fun e W' => (∃ r,e = .returned r) ∧ ((∃ own,J (x.pre 1) own W') ∨ ∃ pre y post,x.pre 1 = pre ++ y :: post ∧ F pre y W'):=by
 have hbt : bt < W.heap.size:=Qn (Y.box _ _ _ h0)
 have c0:=Lib.cell_of_heap (Y.box _ _ _ h0) 0
 have c1:=Lib.cell_of_heap (Y.box _ _ _ h0) 1
 have c2:=Lib.cell_of_heap (Y.box _ _ _ h0) 2
 have c3:=Lib.cell_of_heap (Y.box _ _ _ h0) 3
 have c4:=Lib.cell_of_heap (Y.box _ _ _ h0) 4
 have c5:=Lib.cell_of_heap (Y.box _ _ _ h0) 5
 simp only [List.getElem?_toArray,List.getElem?_cons_zero,List.getElem?_cons_succ] at c0 c1 c2 c3 c4 c5
 have YY:=Qo0 Y
 have HX:=Qo0 (fun V (g : Gr w0 V) => XRd.gr hx.s g)
 obtain ⟨fn,tmps,assign,body,hy,hR⟩:=Y.yield [] _ (1,x) W h0 (hx.gr (Y.gr _ _ _ h0).1) ⟨Yc 2 x.sub,Qb4 1 x⟩
 clear Y hx
 dsimp only at hy
 rw [show ((1 : Nat) : Int) = 1 from rfl] at hy
 unfold Ex.v at hy
 refine callsIn_of_wp Tryz.func185 rfl trivial ?_ rfl
 simp only [Tryz.ntmps185,List.size_toArray,List.length_cons,List.length_nil,Nat.reduceAdd,Nat.reduceSub,Array.replicate_succ,Array.replicate_zero,List.push_toArray,List.append_toArray,List.nil_append,List.cons_append]
 gi_wp2
 refine hR.mono ?_
 rintro e W3 ⟨⟨hk3,hs3⟩,⟨rfl,own,ho3,hJ3⟩ | ⟨rfl,hF3⟩⟩
 ·have hJ3' : J [(1,x)] own W3:=hJ3
  have d2:=Lib.cell_of_heap (YY.out.box _ _ _ hJ3') 5
  simp only [List.getElem?_toArray,List.getElem?_cons_zero,List.getElem?_cons_succ] at d2
  have b3 : W.heap.size ≤ W3.heap.size:=hs3
  have S0:=Qo0 (show WS x w0 W.heap.size J (2 * (pend [⟨x.A,x.c,x.sub⟩]).length + 1) (.slice (some ⟨W3.heap.size,0,none⟩) 1 1) (W3.alloc (.cells #[.slice x.A x.sub.length x.c] 41)) W3.heap.size 1 [⟨x.A,x.c,x.sub⟩] [(1,x)] own from
   ⟨rfl,OR.one SL.cs_len _ b3 rfl,YY.out.keep _ _ _ _ hJ3' (Kp.of (Qa _ _) b3 (YY.out.lt _ _ _ hJ3')),fun h => absurd (YY.out.lt _ _ _ hJ3' _ h) (by omega),by rw [Qb4,Qm3];simp,fun s hs => by simp only [List.mem_singleton] at hs;subst hs;exact HX.out _ (Qc _),by simp,by simp⟩)
  obtain ⟨mu,hmu⟩:=Qco (fun m (v : Value) (V : World) => ∃ g cap St pre own,WS x w0 W.heap.size J m v V g cap St pre own)
  have MU:=Qo0 hmu
  clear hJ3 hJ3' hk3 hR hmu hy c0 c1 c2 c3 c4 c5 h0
  gi_wp2
  clear d2
  gi_loopw [3,4,5] (fun v _ _ V => ∃ m g cap St pre own,Hid (WS x w0 W.heap.size J m v V g cap St pre own)) (fun v _ _ V => mu v V)
  case atStart => exact ⟨_,_,_,_,_,_,S0⟩
  case round =>
   obtain ⟨m0,g0,cap0,St0,pre0,own0,hS0⟩:=hrel
   obtain ⟨⟨g,cap,St,pre,own,hS⟩,hmin⟩:=MU.out _ _ ⟨m0,g0,cap0,St0,pre0,own0,hS0.out⟩
   have hmu0 : ∃ q,mu u3 wr = q:=⟨_,rfl⟩
   obtain ⟨q,hq⟩:=hmu0
   rw [hq] at hS
   have HQ:=Qo0 hq
   obtain rfl:=hS.ev
   clear hS0 hmin S0 hq
   rcases Qbr St with rfl | ⟨St,s,rfl⟩
   ·have FF:=Qo0 (show J (x.pre 1) own wr by have h1:=hS.e;simp [Qm4] at h1;rw [← h1];exact hS.j)
    clear hS
    gi_wp2
    first | go_end0 | refine bodyPost_ret (results_none rfl _ _ _) rfl ?_
    exact ⟨⟨_,rfl⟩,.inl ⟨_,FF.out⟩⟩
   ·have hk : St.length ≤ 1000:=by have h1:=hS.n;have h2:=YY.out.lim _ _ _ hS.j;simp at h1;omega
    have ce:=hS.o.slAt (k:=St.length) (s:=s) (by simp)
    have cf:=hS.o.frz St.length
    have TS:=hS.t s (by simp)
    have gb:=hS.o.lt g rfl
    obtain ⟨k,hkk⟩ : ∃ k,St.length = k:=⟨_,rfl⟩
    have hl : (St ++ [s]).length = k + 1:=by simp [hkk]
    rw [hl] at hS HQ ⊢
    rw [hkk] at hk ce cf
    have kc : k + 1 ≤ cap:=by
     rcases hS.o.2 with ⟨h1,_⟩ | ⟨g',cap',cur,e1,hg,hh,hnc,_⟩
     ·cases h1
     ·have e2:=(Value.slice.inj e1).2.2
      omega
    have kc' : k ≤ cap:=by omega
    have HS:=Qo0 hS
    have HK:=Qo0 hkk
    clear hkk hS hl
    have ww : IntKind.i64.wrap (((k + 1 : Nat) : Int) - 1) = k:=by rw [IntWalk.i64_in _ ⟨by omega,by omega⟩];omega
    have w2 : IntKind.i64.wrap (((k + 1 : Nat) : Int) + 1) = ((k + 2 : Nat) : Int):=by rw [IntWalk.i64_in _ ⟨by omega,by omega⟩];omega
    rcases s with ⟨sA,sc,sL⟩
    cases sL with
    | nil =>
      have hN : WS x w0 W.heap.size J (2 * (pend St).length + k) (.slice (some ⟨g,0,none⟩) k cap) wr g cap St pre own :=
       ⟨by rw [HK.out],by have:=HS.out.o;rw [← HK.out] at this ⊢;exact OR.short SL.cs_len this,HS.out.j,HS.out.ng,by have:=HS.out.e;rw [Yt] at this;simpa using this,fun s hs => HS.out.t s (by simp [hs]),by rw [HK.out],by have:=HS.out.n;simp at this;omega⟩
      have HN:=Qo0 hN
      have HM:=Qo0 (show 2 * (pend St).length + k < q by have:=HS.out.em;rw [Yt] at this;simp at this;have:=HK.out;omega)
      clear hN
      gi_wp2
      exact ⟨⟨_,_,_,_,_,_,HN⟩,by rw [HQ.out];exact Nat.lt_of_le_of_lt ((MU.out _ _ ⟨_,_,_,_,_,_,HN.out⟩).2 _ ⟨_,_,_,_,_,HN.out⟩) HM.out⟩
    | cons y sL =>
      obtain ⟨a,a1,ha,ha1,hab,c0,c1,c2,c3,c4,c5,hsub⟩:=(XRd.gr TS (YY.out.gr _ _ _ HS.out.j).1).at (k:=0) (by simp)
      obtain rfl : sA = some a:=ha
      rw [Nat.zero_mul,add_zero'] at ha1
      subst ha1
      simp only [List.getElem_cons_zero] at c0 c1 c2 c3 c4 c5 hsub
      have hcc : sL.length + 1 ≤ sc:=by have:=TS.rw.hc;simpa using this
      have hcm : sc ≤ 9223372036854775807:=TS.rw.hm
      simp only [List.length_cons] at ce
      obtain ⟨A',c',hcase,ht'⟩ : ∃ A' c',((sc = 1 ∧ A' = some a ∧ c' = 0) ∨ (¬ sc = 1 ∧ A' = some ⟨a.block,a.off + 6,none⟩ ∧ c' = sc - 1)) ∧ XRd w0 A' c' sL:=by
       by_cases h1 : sc = 1
       ·obtain rfl : sL = []:=List.eq_nil_of_length_eq_zero (by omega)
        exact ⟨some a,0,.inl ⟨h1,rfl,rfl⟩,.of ⟨by simp,by omega,fun _ => rfl,.inl rfl⟩ (by simp)⟩
       ·refine ⟨_,_,.inr ⟨h1,rfl,rfl⟩, .of ⟨by omega,by omega,fun h => (by cases h),?_⟩ fun z hz => TS.hs z (by simp [hz])⟩
        have:=TS.r.drop 1 (A':=some ⟨a.block,a.off + 6,none⟩) (fun b hb _ => by cases hb;rw [Qh _ _ (by omega)])
        simpa using this
      have j5 : J pre own ((wr.setCell ⟨g,k,none⟩ (.slice A' sL.length c')).alloc (.cells #[iv y.kind,tv y.name,tv y.more,iv y.int,iv y.den,.slice y.A y.sub.length y.c] 43)) :=
       YY.out.keep _ _ _ _ HS.out.j ((Kp.row (Qo g k _) (YY.out.gr _ _ _ HS.out.j).2 (YY.out.lt _ _ _ HS.out.j) gb.1 HS.out.ng).trans (Kp.of (Qa _ _) (by have:=(YY.out.gr _ _ _ HS.out.j).2;simpa [World.setCell] using this) (by have:=YY.out.lt _ _ _ HS.out.j;simpa [World.setCell] using this)))
      have hpost : ∃ post,x.pre 1 = pre ++ (k + 2,y) :: post:=⟨Yc (k + 3) y.sub ++ Yc (k + 2) sL ++ pend St,by have:=HS.out.e;rw [Yt,HK.out] at this;rw [← this];simp⟩
      have o5 : OR 41 1 SL.cs ((wr.setCell ⟨g,k,none⟩ (.slice A' sL.length c')).alloc (.cells #[iv y.kind,tv y.name,tv y.more,iv y.int,iv y.den,.slice y.A y.sub.length y.c] 43)) W.heap.size (.slice (some ⟨g,0,none⟩) (k + 1) cap) (St ++ [⟨A',c',sL⟩]):=by
       have:=(HS.out.o.slSet (s':=⟨A',c',sL⟩)).1
       rw [HK.out] at this
       exact this.alloc _
      have u5 : ((wr.setCell ⟨g,k,none⟩ (.slice A' sL.length c')).alloc (.cells #[iv y.kind,tv y.name,tv y.more,iv y.int,iv y.den,.slice y.A y.sub.length y.c] 43)).heap[wr.heap.size]? = some (.cells #[iv y.kind,tv y.name,tv y.more,iv y.int,iv y.den,.slice y.A y.sub.length y.c] 43 (0,0)):=Qr _ _ (by simp [World.setCell])
      obtain ⟨fn2,tmps2,assign2,body2,hy2,hR2⟩:=YY.out.yield pre own (k + 2,y) _ j5 ((TS.hs y (by simp)).gr (YY.out.gr _ _ _ j5).1) hpost
      dsimp only at hy2
      rw [show ((k + 2 : Nat) : Int) = (k : Int) + 1 + 1 from by omega] at hy2
      unfold Ex.v at hy2
      have LT5:=Qo0 (YY.out.lt _ _ _ j5)
      have WB:=Qo0 (YY.out.gr _ _ _ HS.out.j).2
      have PO:=Qo0 hpost
      have O5:=Qo0 o5
      have U5:=Qo0 u5
      have T5:=Qo0 (show XRd w0 A' c' sL ∧ XRd w0 y.A y.c y.sub from ⟨ht',(TS.hs y (by simp)).s⟩)
      obtain ⟨SN,hSN⟩ : ∃ SN : List SL,St ++ [⟨A',c',sL⟩] ++ [⟨y.A,y.c,y.sub⟩] = SN:=⟨_,rfl⟩
      have hpn : pend SN = Yc (k + 3) y.sub ++ (Yc (k + 2) sL ++ pend St):=by rw [← hSN,Yt,Yt,HK.out];simp [HK.out]
      have SF:=Qo0 (show pre ++ [(k + 2,y)] ++ pend SN = x.pre 1 ∧ SN.length = k + 2 ∧ (∀ s ∈ SN,XRd w0 s.A s.c s.L) ∧ 2 * (pend SN).length + (k + 2) < q ∧ k + 2 ≤ (pre ++ [(k + 2,y)]).length from
       ⟨by have:=HS.out.e;rw [Yt,HK.out] at this;rw [hpn,← this];simp,by rw [← hSN];simp [HK.out],fun s hs => by
        rw [← hSN] at hs
        simp only [List.mem_append,List.mem_singleton,or_assoc] at hs
        rcases hs with hs | rfl | rfl
        ·exact HS.out.t s (by simp [hs])
        ·exact ht'
        ·exact (TS.hs y (by simp)).s,by have h1:=HS.out.em;rw [Yt,preXs_cons,HK.out,show k + 2 + 1 = k + 3 from rfl] at h1;rw [hpn];simp only [List.length_append,List.length_cons,List.length_nil] at h1 ⊢;have:=HK.out;omega,by have:=HS.out.n;have:=HK.out;simp at *;omega⟩)
      have HSN:=Qo0 hSN
      have LTW:=Qo0 (YY.out.lt _ _ _ HS.out.j)
      have NG:=Qo0 HS.out.ng
      clear hpost o5 u5 ht' TS hsub j5 hSN hpn T5
      rcases hcase with ⟨h1,rfl,rfl⟩ | ⟨h1,rfl,rfl⟩
      all_goals
       gi_wp2
       refine hR2.mono ?_
       rintro e W6 ⟨⟨hk6,hs6⟩,⟨rfl,own6,ho6,hJ6⟩ | ⟨rfl,hF6⟩⟩
       ·have u6:=(hk6 _ WB.out (Qn U5.out) (fun h => absurd (LTW.out _ h) (by omega))).trans U5.out
        have d0:=Lib.cell_of_heap u6 5
        simp only [List.getElem?_toArray,List.getElem?_cons_zero,List.getElem?_cons_succ] at d0
        have o6:=O5.out.keepAt (w':=W6) (fun q hq => by
         obtain ⟨l1,l2⟩:=O5.out.lt q hq
         exact hk6 q l1 l2 (by cases hq;exact NG.out))
        have S6:=Qo0 (show W.heap.size ≤ W6.heap.size by have h1:=Qn U5.out;have h2:=WB.out;omega)
        have O6:=Qo0 o6
        have J6:=Qo0 hJ6
        have N6:=Qo0 (show ¬ own6 g from fun h => by
         rcases ho6 g h with h | h
         ·exact NG.out h
         ·have:=(O5.out.lt g rfl).2;omega)
        have L6:=Qo0 (YY.out.lt _ _ _ hJ6)
        clear u6 o6 hJ6 hk6 hR2 hy2 c0 c1 c2 c3 c4 c5 ce cf
        gi_wp2_with (gi_at_builtin;refine Qfc _ rfl (.tmp 49) (.tmp 52) rfl W.heap.size rfl (O6.out.alloc _) (M:=[⟨y.A,y.c,y.sub⟩]) rfl rfl (Qj (t:=41) SL.cs_len (Qd _ _)) (by simp) (by have:=HK.out;simp;omega) (by have:=S6.out;simp;omega) ?_;intro v7 w7 o7 g7 b7;rw [HSN.out] at o7;have B7:=Qo0 b7;clear b7;have O7:=Qo0 o7;have G7:=Qo0 g7;clear o7 g7)
        obtain ⟨g8,c8,rfl,hg8⟩:=O7.out.someR (by intro h;have:=SF.out.2.1;rw [h] at this;simp at this)
        have J7 : J (pre ++ [(k + 2,y)]) own6 w7:=YY.out.keep _ _ _ _ J6.out ((Kp.of (Qa _ _) S6.out L6.out).trans (Kp.row (g:=g) G7.out (by have:=S6.out;simp;omega) (fun k hk => by have:=L6.out k hk;simp;omega) (O6.out.lt g rfl).1 N6.out))
        have N7 : ¬ own6 g8:=fun h => by
         have h8:=B7.out
         simp only [Value.ownBlock] at h8
         rcases h8 with h8 | h8
         ·cases h8;exact N6.out h
         ·simp only [Option.some.injEq] at h8;have:=L6.out g8 h;simp at h8;omega
        have hN : WS x w0 W.heap.size J (2 * (pend SN).length + (k + 2)) (.slice (some ⟨g8,0,none⟩) SN.length c8) w7 g8 c8 SN (pre ++ [(k + 2,y)]) own6 :=
         ⟨rfl,O7.out,J7,N7,SF.out.1,SF.out.2.2.1,by rw [SF.out.2.1],by rw [SF.out.2.1];exact SF.out.2.2.2.2⟩
        exact ⟨⟨_,_,_,_,_,_,Qo0 hN⟩,by rw [HQ.out];exact Nat.lt_of_le_of_lt ((MU.out _ _ ⟨_,_,_,_,_,_,hN⟩).2 _ ⟨_,_,_,_,_,hN⟩) SF.out.2.2.2.1⟩
       ·have FF:=Qo0 hF6
        clear hF6 hk6 hR2
        gi_wp2
        refine bodyPost_ret (results_none rfl _ _ _) rfl ?_
        obtain ⟨post,hp⟩:=PO.out
        exact ⟨⟨_,rfl⟩,.inr ⟨pre,(k + 2,y),post,hp,FF.out⟩⟩
 ·have FF:=Qo0 hF3
  clear hF3 hk3 hR
  gi_wp2
  refine bodyPost_ret (results_none rfl _ _ _) rfl ?_
  exact ⟨⟨_,rfl⟩,.inr ⟨[],(1,x),_,Qb4 1 x,FF.out⟩⟩
end Go.Proofs.YtiaenhlflgobfaaGreatDoor

/- Walks and words: Rgm, Stx, Fro, Con, Ckd, BiC, Chm. -/
import Derived.Test.YtiaenhlflgobfaaGreatDoorTb5
import Derived.Test.YtiaenhlflgobfaaGreatDoorTb9
import Derived.Test.YtiaenhlflgobfaaGreatDoorTb12
import Derived.Test.YtiaenhlflgobfaaGreatDoorTb14
import Derived.Test.YtiaenhlflgobfaaGreatDoorTb15
import Derived.Test.YtiaenhlflgobfaaGreatDoorTb18
import Derived.Test.YtiaenhlflgobfaaGreatDoorTb19
import Derived.Test.YtiaenhlflgobfaaGreatDoorTb22
import Derived.Test.YtiaenhlflgobfaaGreatDoorTb23
import Derived.Maps.RangeRun
import Derived.Shelf.SortM.Plain
import Derived.Shelf.SortM.SortNone
import Derived.Lib.SortBridge
import Derived.Lib.RowBridge
import Derived.OwnWalk
import Derived.Maps.RangeWalk
namespace Go.Proofs.YtiaenhlflgobfaaGreatDoor
open Go.RowKit Go.ChangeMaps
def ens (K : List T) : Array MapEntry:=(Yu tv 0 (Q1 K)).toArray
def lef (K : List T) (seen : Array Nat) : Nat:=(leftOf (ens K) seen).size
def IT (w : World) (r mb : Nat) (K : List T) (seen : Array Nat) : Prop:=∃ c0,w.heap[r]? = some (.mapIter (some mb) K.length seen c0) ∧ K.length ≤ c0
theorem Qkf (K : List T) : (Yu tv 0 (Q1 K)).length = K.length:=by
 have h : ∀ (l : MK T) (j : Nat),(Yu tv j l).length = l.length:=by
  intro l
  induction l with
  | nil => intro j;rfl
  | cons p l ih => intro j;rw [Yu,List.length_cons,ih,List.length_cons]
 rw [h]
 simp [Q1]
theorem Qke {K : List T} {e : MapEntry} (h : e ∈ Yu tv 0 (Q1 K)) : e.born < K.length ∧ ∃ s ∈ K,e.key = tv s ∧ e.val = .bool true:=by
 obtain ⟨i,hi⟩:=List.getElem?_of_mem h
 rw [Qbg] at hi
 obtain ⟨p,hp,rfl⟩:=Option.map_eq_some_iff.1 hi
 unfold Q1 at hp
 rw [List.getElem?_map] at hp
 obtain ⟨s,hs,rfl⟩:=Option.map_eq_some_iff.1 hp
 exact ⟨by simpa using (List.getElem?_eq_some_iff.1 hs).1,s,List.mem_of_getElem? hs,rfl,rfl⟩
theorem Ql4 (K : List T) : ((Yu tv 0 (Q1 K)).map (·.born)).Nodup:=by
 have h : ∀ (l : MK T) (j : Nat),((Yu tv j l).map (·.born)).Nodup ∧ ∀ x ∈ (Yu tv j l).map (·.born),j ≤ x:=by
  intro l
  induction l with
  | nil => intro j;exact ⟨List.nodup_nil,fun x hx => by cases hx⟩
  | cons p l ih =>
    intro j
    obtain ⟨h1,h2⟩:=ih (j + 1)
    rw [Yu,List.map_cons]
    refine ⟨List.nodup_cons.2 ⟨fun hx => ?_,h1⟩,fun x hx => ?_⟩
    ·have:=h2 _ hx
     simp at this
     omega
    ·rcases List.mem_cons.1 hx with rfl | hx
     ·exact Nat.le_refl _
     ·have:=h2 _ hx
      omega
 exact (h _ 0).1
theorem Qg5 (K : List T) : lef K #[] = K.length:=by
 unfold lef leftOf ens
 rw [Array.filter_eq_self.2 (fun x _ => by simp)]
 simp [Qkf]
theorem IT.keep {w V : World} {r mb : Nat} {K : List T} {seen : Array Nat} (h : IT w r mb K seen) (hk : V.heap[r]? = w.heap[r]?) : IT V r mb K seen:=by
 obtain ⟨c0,h1,h2⟩:=h
 exact ⟨c0,hk.trans h1,h2⟩
theorem IT.lt {w : World} {r mb : Nat} {K : List T} {seen : Array Nat} (h : IT w r mb K seen) : r < w.heap.size:=by
 obtain ⟨c0,h1,-⟩:=h
 exact Qn h1
theorem range_k {w : World} {t k e : TypeId} {mb : Nat} {K : List T} (ht : Tryz.prog.underlying t = some (.map k e)) (hm : MP tv w mb (Q1 K)) :
 (Instr.range t (.map (some mb))).run Tryz.prog w = .ok (.pointer (some ⟨w.heap.size,0,none⟩)) (w.alloc (.mapIter (some mb) K.length #[] K.length)) ∧ IT (w.alloc (.mapIter (some mb) K.length #[] K.length)) w.heap.size mb K #[]:=by
 have hb : w.heap[mb]? = some (.map (ens K) K.length):=by
  have h:=hm
  unfold MP at h
  rw [show (Q1 K).length = K.length by simp [Q1]] at h
  exact h
 exact ⟨run_range_map w t k e mb (ens K) K.length ht hb,K.length,Qd _ _,Nat.le_refl _⟩
theorem Qc2 {w : World} {r : Nat} {o : Obj} : w.grownBy (setBlock w r o) (some r):=by
 refine ⟨rfl,rfl,rfl,by simp [setBlock],fun k hk hne => ?_⟩
 have : k ≠ r:=fun e => hne (by rw [e])
 simp [setBlock,Ne.symm this]
theorem next_k {w : World} {ty : TypeId} {r mb : Nat} {K : List T} {seen : Array Nat} (h : IT w r mb K seen) (hm : MP tv w mb (Q1 K)) (hne : r ≠ mb) :
 (lef K seen = 0 ∧ (Instr.next (.pointer (some ⟨r,0,none⟩)) false ty).run Tryz.prog w = .ok (.tuple #[.bool false]) w) ∨
 ∃ s ∈ K,∃ (b : Nat) (w' : World),(Instr.next (.pointer (some ⟨r,0,none⟩)) false ty).run Tryz.prog w = .ok (.tuple #[.bool true,tv s,.bool true]) w' ∧ IT w' r mb K (seen.push b) ∧ lef K (seen.push b) < lef K seen ∧ w.grownBy w' (some r) ∧ w'.heap.size = w.heap.size ∧
  (Instr.entry (.pointer (some ⟨r,0,none⟩))).run Tryz.prog w' = .ok (.tuple #[tv s,.bool true]) w':=by
 obtain ⟨c0,h1,h2⟩:=h
 have hb : w.heap[mb]? = some (.map (ens K) K.length):=by
  have h:=hm
  unfold MP at h
  rw [show (Q1 K).length = K.length by simp [Q1]] at h
  exact h
 have hold : ∀ x ∈ (ens K).toList,x.born < K.length:=fun x hx => (Qke (by simpa [ens] using hx)).1
 rcases run_next_at (P:=Tryz.prog) w ty r mb K.length c0 seen (ens K) K.length h1 hb hold h2 with ⟨h3,h4⟩ | ⟨e,he,w1,hw,h4⟩
 ·exact .inl ⟨h3,h4⟩
 ·obtain ⟨hm1,-⟩:=mem_left he
  obtain ⟨-,s,hs,hk,hv⟩:=Qke (K:=K) (e:=e) (by simpa [ens] using hm1)
  rw [hk,hv] at h4
  have G : w.grownBy (setBlock w1 r (.mapIter (some mb) K.length (seen.push e.born) K.length)) (some r):=by
   rcases hw with rfl | rfl
   ·exact Qc2
   ·exact (World.grownBy.but (Qb w) (some r)).trans Qc2
  have hr : (setBlock w1 r (.mapIter (some mb) K.length (seen.push e.born) K.length)).heap[r]? = some (.mapIter (some mb) K.length (seen.push e.born) K.length):=by
   have hl:=Qn h1
   rcases hw with rfl | rfl <;> simp [setBlock,hl]
  have hb' : (setBlock w1 r (.mapIter (some mb) K.length (seen.push e.born) K.length)).heap[mb]? = some (.map (ens K) K.length):=(G.block mb (Qn hb) (fun e => hne (Option.some.inj e).symm)).trans hb
  refine .inr ⟨s,hs,e.born,_,h4,⟨_,hr,Nat.le_refl _⟩,left_shrinks _ _ e he,G,by rcases hw with rfl | rfl <;> simp [setBlock],?_⟩
  have h5:=run_entry_at (P:=Tryz.prog) _ r mb K.length seen (ens K) K.length e hr hb' hm1 (by simpa [ens] using Ql4 K)
  rw [hk,hv] at h5
  exact h5
section
variable {w : World} {ops : Array Oper} {rest : List Oper} {o : Oper} {a : Act} {Q : Exit → Act → World → Prop}
theorem Qdh (hg : o.guard = none) (m : Operand) (t : TypeId) (hop : o.op = Op.range t m) (k e : TypeId) (ht : Tryz.prog.underlying t = some (.map k e)) {mb : Nat} {K : List T} (hm : a.eval m = .map (some mb)) (hp : MP tv w mb (Q1 K))
 (h : ∀ w',IT w' w.heap.size mb K #[] → Gr w w' → w'.heap.size = w.heap.size + 1 → wpList Tryz.prog ops Q rest (a.put o.dst (.pointer (some ⟨w.heap.size,0,none⟩))) w') : wpList Tryz.prog ops Q (o :: rest) a w:=by
 refine wpList_plain hg fun K' hK' => ?_
 obtain ⟨h1,h2⟩:=range_k ht hp
 unfold Oper.wp execOp
 simp only [hop,Sem.run_bind,Sem.run_pure,Result.andThen_ok,hm,h1]
 exact hK' _ _ (h _ h2 (Qa _ _) (by simp))
theorem Qec (hg : o.guard = none) (it : Operand) (hop : o.op = Op.next it false) {r mb : Nat} {K : List T} {seen : Array Nat} (hit : a.eval it = .pointer (some ⟨r,0,none⟩)) (hI : IT w r mb K seen) (hp : MP tv w mb (Q1 K)) (hne : r ≠ mb)
 (hDone : lef K seen = 0 → wpList Tryz.prog ops Q rest (a.put o.dst (.tuple #[.bool false])) w)
 (hMore : ∀ s ∈ K,∀ (b : Nat) (w' : World),IT w' r mb K (seen.push b) → lef K (seen.push b) < lef K seen → w.grownBy w' (some r) → w'.heap.size = w.heap.size → (Instr.entry (.pointer (some ⟨r,0,none⟩))).run Tryz.prog w' = .ok (.tuple #[tv s,.bool true]) w' → wpList Tryz.prog ops Q rest (a.put o.dst (.tuple #[.bool true,tv s,.bool true])) w') :
 wpList Tryz.prog ops Q (o :: rest) a w:=by
 refine wpList_plain hg fun K' hK' => ?_
 unfold Oper.wp execOp
 rcases next_k (ty:=o.type) hI hp hne with ⟨h1,h2⟩ | ⟨s,hs,b,w',h1,h2,h3,h4,h5,h6⟩
 ·simp only [hop,Sem.run_bind,Sem.run_pure,Result.andThen_ok,hit,h2]
  exact hK' _ _ (hDone h1)
 ·simp only [hop,Sem.run_bind,Sem.run_pure,Result.andThen_ok,hit,h1]
  exact hK' _ _ (hMore s hs b w' h2 h3 h4 h5 h6)
end
end Go.Proofs.YtiaenhlflgobfaaGreatDoor
namespace Go.Proofs.YtiaenhlflgobfaaGreatDoor
open Go.RowKit Go.Shelf Go.Sort
def srt (L : List T) : List T:=L.mergeSort fun x y => decide (x ≤ y)
theorem srt_len (L : List T) : (srt L).length = L.length:=by simp [srt]
theorem flatS (L : List T) : L.flatMap scs = L.map tv:=by
 induction L with
 | nil => rfl
 | cons x L ih => rw [List.flatMap_cons,ih];rfl
theorem OR.holdsS {w : World} {base g cap : Nat} {L : List T} (h : OR 9 1 scs w base (.slice (some ⟨g,0,none⟩) L.length cap) L) : Holds encStr w g 0 L.toArray:=by
 have hf:=flatS L
 intro j hj
 have hj' : j < L.length:=by simpa using hj
 refine ⟨?_,?_⟩
 ·have h2:=h
  unfold OR at h2
  rw [hf] at h2
  rw [Nat.zero_add,World.ownsRow.cellAt h2 j (by omega)]
  simp [hj',getElem!_pos]
 ·rw [Nat.zero_add];exact World.ownsRow.frozenAt h j
theorem Qli {w : World} {B g cap : Nat} {L : List T} (h : OR 9 1 scs w B (.slice (some ⟨g,0,none⟩) L.length cap) L) (M : List T) (hl : M.length = L.length) (n : Nat) (os : Array Obj) :
 OR 9 1 scs (grow (putRow encStr (Sort.ahead w n) g 0 M.toArray) os) B (.slice (some ⟨g,0,none⟩) L.length cap) M ∧ w.grownBy (grow (putRow encStr (Sort.ahead w n) g 0 M.toArray) os) (some g):=by
 have hf:=flatS M
 rcases h.2 with ⟨h',_⟩ | ⟨g',cap',cur,h',hb,hg,hnc,hcm,hcs,htake⟩
 ·simp at h'
 ·simp only [Value.slice.injEq,Option.some.injEq,Addr.mk.injEq,and_true,true_and] at h'
  obtain ⟨rfl,rfl⟩:=h'
  have hlt:=Qn hg
  have hsz : (putRow encStr (Sort.ahead w n) g 0 M.toArray).heap.size = w.heap.size:=by simp [putRow,mapBlock,Sort.ahead]
  have hat : (grow (putRow encStr (Sort.ahead w n) g 0 M.toArray) os).heap[g]? = some (.cells (putCells encStr 0 M.toArray cur) 9 (0,0)):=by
   rw [heap_grow_old _ _ (by rw [hsz];exact hlt)]
   simp only [putRow,mapBlock,Sort.ahead,Array.getElem?_modify,if_true,hg,Option.map_some]
   rfl
  refine ⟨⟨by rw [hf];simp,.inr ⟨g,cap,_,by rw [hl],hb,hat,by omega,hcm,by simp [putCells];omega,?_⟩⟩,⟨rfl,rfl,rfl,?_,fun k hk hne => ?_⟩⟩
  ·rw [hf]
   apply List.ext_getElem?
   intro j
   rw [List.getElem?_take]
   by_cases hj : j < M.length * 1
   ·rw [if_pos hj]
    have hjc : j < cur.size:=by omega
    have : j < M.length:=by omega
    simp [putCells,hjc,this]
   ·rw [if_neg hj,List.getElem?_eq_none (by simp;omega)]
  ·simp only [grow,Array.size_append,hsz];omega
  ·rw [heap_grow_old _ _ (by rw [hsz];exact hk)]
   have hne' : g ≠ k:=fun e => hne (by rw [e])
   simp [putRow,mapBlock,Sort.ahead,Array.getElem?_modify,hne']
theorem Qk1 {w : World} {B : Nat} {v : Value} {L : List T} (ho : OR 9 1 scs w B v L) (hl : L.length ≤ 1000000) : Calls Tryz.prog 184 #[v] w fun e w' => e = .returned (.tuple #[]) ∧ OR 9 1 scs w' B v (srt L) ∧ w.grownBy w' v.ownBlock:=by
 by_cases hL : L = []
 ·subst hL
  obtain ⟨A,c,rfl,hr⟩:=ho.form Yy
  have hS:=AnyM.slices_Sort_string_none Tryz.sortS A c w
  change Calls Tryz.prog 184 _ _ _ at hS
  refine hS.mono ?_
  rintro e w' ⟨rfl,rfl⟩
  exact ⟨rfl,by simpa [srt] using ho,World.grownBy.refl _ _⟩
 ·obtain ⟨g,cap,rfl,hg1⟩:=ho.someR hL
  have hg2:=(ho.lt g rfl).2
  have hS:=AnyM.slices_Sort_string Tryz.sortS g 0 cap L w ho.holdsS hg2 (by omega)
  change Calls Tryz.prog 184 _ _ _ at hS
  refine hS.mono ?_
  rintro e w' ⟨rfl,n,os,rfl⟩
  obtain ⟨h1,h2⟩:=Qli ho (srt L) (srt_len L) n os
  exact ⟨rfl,h1,h2⟩
end Go.Proofs.YtiaenhlflgobfaaGreatDoor
namespace Go.Proofs.YtiaenhlflgobfaaGreatDoor
open Go.RowKit
mutual
theorem fr_len (B K : List T) : ∀ e : PE,(e.fr B K).length ≤ K.length + (nd e).length
 | .mk k n m i d s => by
   rw [nd_eq,PE.fr]
   have hs:=Qka B K k n m 0 s
   have h1 : (PE.mk k n m i d s).sub = s:=rfl
   rw [h1,List.length_cons]
   split
   ·split
    ·omega
    ·unfold addK
     split
     ·omega
     ·simp
   ·omega
theorem Qka (B K : List T) (k : Int) (n m : T) (i : Nat) : ∀ l : List PE,(frs B k n m i K l).length ≤ K.length + (l.flatMap nd).length
 | [] => by rw [Qca];omega
 | x :: l => by
   rw [Qa1,List.flatMap_cons,List.length_append]
   have h1:=fr_len (B ++ bnd k n m i) K x
   have h2:=Qka B (x.fr (B ++ bnd k n m i) K) k n m (i + 1) l
   omega
end
theorem Qht {e : PE} (h : ckE e = 0) : (nd e).length ≤ 400 ∧ ∀ q ∈ nd e,ckN q = 0:=by
 unfold ckE at h
 split at h
 ·cases h
 ·rename_i h1
  unfold Qdo at h1
  simp only [Bool.or_eq_true,decide_eq_true_eq,not_or,Nat.not_lt] at h1
  refine ⟨by unfold nd;rw [List.length_map];exact h1.1,fun q hq => ?_⟩
  unfold nd at hq
  obtain ⟨p,hp,rfl⟩:=List.mem_map.1 hq
  exact Qdd.1 h _ (List.mem_map.2 ⟨p,hp,rfl⟩)
theorem len_k {w : World} {mb : Nat} {K : List T} (hm : MP tv w mb (Q1 K)) (ty : TypeId) : (Builtin.len_ #[188] ty #[.map (some mb)]).run Tryz.prog w = .ok (iv K.length) w:=by
 have hb : w.heap[mb]? = some (.map (ens K) K.length):=by
  have h:=hm
  unfold MP at h
  rw [show (Q1 K).length = K.length by simp [Q1]] at h
  exact h
 simp [Builtin.len_,run_underlying Tryz.underlying188,MapKept.run_getObj_map hb,goInt,Result.andThen,ens,Qkf]
section
variable {w : World} {ops : Array Oper} {rest : List Oper} {o : Oper} {a : Act} {Q : Exit → Act → World → Prop}
theorem Qfb (hg : o.guard = none) (m : Operand) (hop : o.op = Op.call { callee:=Callee.builtin Builtin.len,args:=#[m],argTypes:=#[188] }) {mb : Nat} {K : List T} (hm : a.eval m = .map (some mb)) (hp : MP tv w mb (Q1 K))
 (h : wpList Tryz.prog ops Q rest (a.put o.dst (iv K.length)) w) : wpList Tryz.prog ops Q (o :: rest) a w:=by
 refine wpList_plain hg fun K' hK' => ?_
 unfold Oper.wp
 simp [execOp,hop,resolve,invoke,builtin,hm,len_k hp o.type,Result.andThen]
 exact hK' _ _ h
end
theorem IT.seen {w : World} {r mb : Nat} {K : List T} {seen : Array Nat} (h : IT w r mb K seen) : w.iterSeen r = seen:=by
 obtain ⟨c0,h1,-⟩:=h
 unfold World.iterSeen
 rw [h1]
set_option maxRecDepth 100000 in
set_option maxHeartbeats 4000000 in
attribute [local irreducible] Calls in
theorem Qn5 (x : Ex) (w : World) (hx : x.Rd w) (h0 : ckE x.er = 0) : Calls Tryz.prog 137 #[x.v] w fun e w' => (∃ Aq n c,e = .returned (.slice Aq n c) ∧ (n = 0 ↔ x.er.fr [] [] = [])) ∧ Gr w w':=by
 have GX:=Qo0 (Qa w (.cells #[iv x.kind,tv x.name,tv x.more,iv x.int,iv x.den,.slice x.A x.sub.length x.c] 43))
 have CK:=Qo0 (fun V (g : Gr w V) => show Calls Tryz.prog 85 #[x.v] V (fun e w' => e = .returned (iv 0) ∧ Gr V w') from by have h:=X7 x V (hx.gr g);rw [h0] at h;exact h)
 have CB:=Qo0 (fun V (g : Gr (w.alloc (.cells #[iv x.kind,tv x.name,tv x.more,iv x.int,iv x.den,.slice x.A x.sub.length x.c] 43)) V) => Zw x w V g)
 obtain ⟨hn,hv⟩:=Qht h0
 have AF:=Qo0 (fun V mb (g : Gr w V) (hmb : w.heap.size ≤ mb) (hm : MP tv V mb (Q1 [])) => Qh0 x w V none 0 [] mb [] hx g hmb hv (by simp;omega) ⟨⟨Nat.le_refl _,by omega,fun _ => rfl,.inl rfl⟩,fun s hs => (by cases hs)⟩ (fun a h => (by cases h)) hm ⟨fun p hp => (by cases hp),List.nodup_nil⟩)
 have FL:=Qo0 (show (x.er.fr [] []).length ≤ 400 from by have h:=fr_len [] [] x.er;simp at h;omega)
 clear hx h0 hn hv
 unfold AFE at AF
 generalize x.er.fr [] [] = FK at *
 obtain ⟨c0,c1,c2,c3,c4,c5⟩:=CB.out _ (Qc _)
 unfold Ex.v at *
 obtain ⟨W,hW⟩ : ∃ W,w.alloc (.cells #[iv x.kind,tv x.name,tv x.more,iv x.int,iv x.den,.slice x.A x.sub.length x.c] 43) = W:=⟨_,rfl⟩
 rw [hW] at GX CB c0 c1 c2 c3 c4 c5
 have WS:=Qo0 (show W.heap.size = w.heap.size + 1 from by rw [← hW];simp)
 go_enter Tryz.func137,Tryz.ntmps137
 go_upto_region 3 with (go_at_call 85;refine (CK.out _ GX.out).mono ?_;rintro e w1 ⟨rfl,g1⟩;have G1:=Qo0 g1;clear g1)
 clear hW c0 c1 c2 c3 c4 c5
 have hmm:=@run_makeMap Tryz.prog
 obtain ⟨c0,c1,c2,c3,c4,c5⟩:=CB.out _ (G1.out.trans (Qa w1 (.map #[] 0)))
 have M1:=Qo0 (MP.made tv w1)
 have GM:=Qo0 (G1.out.trans (Qa w1 (.map #[] 0)))
 have L1:=Qo0 (show w.heap.size ≤ w1.heap.size by have:=G1.out.size;have:=WS.out;omega)
 have AFF:=Qo0 (AF.out _ _ (GX.out.trans GM.out) L1.out M1.out)
 go_upto_region 5 with (go_at_call 183;refine AFF.out.mono ?_;rintro e w2 ⟨⟨v2,rfl⟩,g2,m2,l2⟩;have G2:=Qo0 (And.intro g2 m2);clear g2 m2 l2)
 clear hmm c0 c1 c2 c3 c4 c5
 have GG:=Qo0 (show Gr w w2 from Zq (GX.out.trans GM.out) G2.out.1 (fun k h => by cases h;exact L1.out))
 have M2:=Qo0 G2.out.2
 have LM:=Qo0 (And.intro L1.out G2.out.2.lt)
 clear G2 AFF GM M1 G1 AF CB CK GX
 generalize w1.heap.size = mb at *
 obtain ⟨i0,hi,hz0,hz1,hz2⟩:=info_parts (P:=Tryz.prog) (e:=9) (z:=.string ⟨#[]⟩) (size:=1) (bytes:=16) (by kernel_rfl)
 have HI:=Qo0 (And.intro hi (And.intro hz0 (And.intro hz1 hz2)))
 clear hi hz0 hz1 hz2 L1 WS
 go_upto_region 6 with (first
  | (at_len;refine Qfb rfl (.tmp 13) rfl rfl M2.out ?_)
  | (at_make;refine wpList_make_own _ rfl _ _ _ rfl w2.heap.size 9 i0 (.string ⟨#[]⟩) 1 Tryz.underlying37 HI.out.1 HI.out.2.1 HI.out.2.2.1 .i64 .i64 _ FK.length rfl rfl rfl (by have:=FL.out;rw [HI.out.2.2.2];omega) (by have:=FL.out;unfold maxLen;omega) (Nat.le_refl _) ?_;intro w3 o3 g3;have O3:=Qo0 (show OR 9 1 scs w3 w2.heap.size (.slice (some ⟨w2.heap.size,0,none⟩) 0 FK.length) ([] : List T) from o3);have G3:=Qo0 (show Gr w2 w3 from g3);clear o3 g3))
 go_wp2_with (at_range;refine Qdh rfl (.tmp 16) 188 rfl 9 4 Tryz.underlying188 (mb:=mb) (K:=FK) rfl (show MP tv w3 mb (Q1 FK) from Qe G3.out M2.out) ?_;intro w4 i4 g4 s4;have I4:=Qo0 i4;have G4:=Qo0 g4;have S4:=Qo0 s4;clear i4 g4 s4;go_frame)
 have MW:=Qo0 (show MP tv w4 mb (Q1 FK) from Qe G4.out (Qe G3.out M2.out))
 have O4:=Qo0 (O3.out.gr G4.out)
 have GW:=Qo0 ((GG.out.trans G3.out).trans G4.out)
 have LR:=Qo0 (show w2.heap.size < w3.heap.size ∧ mb < w2.heap.size ∧ w.heap.size ≤ mb from ⟨(O3.out.lt _ rfl).2,LM.out.2,LM.out.1⟩)
 generalize w3.heap.size = r at *
 generalize w2.heap.size = B0 at *
 clear O3 G3 G4 S4 GG M2 LM
 go_loopw [4,5] (fun l _ V => ∃ (Aq : Option Addr) (n c : Nat),l = .slice Aq n c ∧ Hid (∃ L : List T,L.length = n ∧ OR 9 1 scs V B0 (.slice Aq n c) L ∧ Gr w V ∧ MP tv V mb (Q1 FK) ∧ IT V r mb FK (V.iterSeen r) ∧ n + lef FK (V.iterSeen r) ≤ FK.length ∧ (n = 0 → lef FK (V.iterSeen r) = FK.length) ∧ r < V.heap.size ∧ ∀ q,(Value.slice Aq n c).ownBlock = some q → q ≠ r)) (fun _ _ V => lef FK (V.iterSeen r))
 case atStart =>
  refine ⟨_,_,_,rfl,Qo0 ⟨[],rfl,O4.out,GW.out,MW.out,by rw [I4.out.seen];exact I4.out,?_,?_,I4.out.lt,?_⟩⟩
  ·rw [I4.out.seen,Qg5];omega
  ·intro _;rw [I4.out.seen,Qg5]
  ·intro q hq
   have:=LR.out.1
   have hq:=Option.some.inj hq
   dsimp only at hq
   omega
 case round =>
  obtain ⟨Aq,n,c,rfl,HL⟩:=hrel
  obtain ⟨L,hl,ho,hg,hm,hi,hle,h0,hr,hq⟩:=HL.out
  have NE:=Qo0 (show r ≠ mb by have:=LR.out;omega)
  have OX:=Qo0 ho
  have GR:=Qo0 hg
  have MX:=Qo0 hm
  have IX:=Qo0 hi
  have LX:=Qo0 (And.intro hl (And.intro hle h0))
  have QX:=Qo0 (And.intro hr hq)
  clear HL ho hg hm hi hle h0 hr hq hl
  go_wp2_with (at_next;refine Qec rfl (.tmp 17) rfl rfl IX.out MX.out NE.out ?_ ?_)
  ·intro hd
   have HD:=Qo0 hd
   clear hd
   have SO:=Qo0 (Qk1 OX.out (by have:=LX.out;have:=FL.out;omega))
   go_wp2_with (go_at_call 184;refine SO.out.mono ?_;rintro e w7 ⟨rfl,o7,g7⟩;have O7:=Qo0 o7;have G7:=Qo0 (show Gr w w7 from OR.grow GR.out OX.out (by have:=LR.out;omega) g7);clear o7 g7)
   all_goals go_wp2
   all_goals (first | go_end0 | refine bodyPost_ret (results_none rfl _ _ _) rfl ?_ | go_ret)
   all_goals exact ⟨⟨_,_,_,rfl,by
    obtain ⟨-,h2,h3⟩:=LX.out
    have h4:=HD.out
    constructor
    ·intro e
     have:=h3 e
     exact List.eq_nil_of_length_eq_zero (by omega)
    ·intro e
     rw [e] at h2
     simp at h2
     omega⟩,G7.out⟩
  ·intro s hs b w5 i5 l5 g5 z5 e5
   have I5:=Qo0 i5
   have M5:=Qo0 (show MP tv w5 mb (Q1 FK) from MX.out.keep (g5.block mb MX.out.lt (fun e => NE.out (Option.some.inj e).symm)))
   have O5:=Qo0 (show OR 9 1 scs w5 B0 (.slice Aq n c) L from OX.out.kept g5 (by
    cases hv : (Value.slice Aq n c).ownBlock with
    | none => exact .inl rfl
    | some q => exact .inr (fun e => QX.out.2 q hv (Option.some.inj e))))
   have G5:=Qo0 (show Gr w w5 from Zq GR.out g5 (fun k hk => by cases hk;have:=LR.out;omega))
   have L5:=Qo0 l5
   have Z5:=Qo0 (show r < w5.heap.size by rw [z5];exact QX.out.1)
   clear i5 l5 g5 z5 hs
   go_wp2_with (at_builtin;refine Qf elS rfl (.tmp 22) (.tmp 24) rfl B0 (v:=.slice Aq n c) (L:=L) rfl (by first | exact O5.out | exact O5.out.alloc _) (A:=some ⟨_,0,none⟩) (M:=[s]) (m:=1) (c:=1) rfl rfl (Qj (t:=9) elS.hn (Qd _ _)) (by have:=LX.out;have:=FL.out;simp;omega) (by have:=Z5.out;have:=LR.out;simp;omega) ?_;intro v7 w7 o7 g7 b7;have O7:=Qo0 o7;have G7:=Qo0 g7;have B7:=Qo0 b7;clear o7 g7 b7)
   all_goals go_wp2
   have OA:=O5.out.alloc (.cells #[tv s] 9)
   have hb:=OA.lt
   have M6 : MP tv (w5.alloc (.cells #[tv s] 9)) mb (Q1 FK):=Qe (Qa _ _) M5.out
   have M7 : MP tv w7 mb (Q1 FK):=M6.keep (G7.out.block mb M6.lt (fun e => by have:=(hb mb e.symm).1;have:=LR.out;omega))
   have I6 : IT (w5.alloc (.cells #[tv s] 9)) r mb FK ((wr.iterSeen r).push b):=by
    obtain ⟨c0,h1,h2⟩:=I5.out
    exact ⟨c0,Qe (Qa _ _) h1,h2⟩
   have I7 : IT w7 r mb FK ((wr.iterSeen r).push b):=I6.keep (G7.out.block r I6.lt (fun e => QX.out.2 r e.symm rfl))
   have G8 : Gr w w7:=OR.grow (G5.out.trans (Qa _ _)) OA (by have:=LR.out;omega) G7.out
   obtain ⟨A',c',ev,-⟩:=O7.out.form Yy
   obtain ⟨x1,x2,x3⟩:=LX.out
   have x4:=L5.out
   have x5 : (L ++ [s]).length = n + 1:=by simp [x1]
   rw [x5] at ev
   refine ⟨⟨A',n + 1,c',ev,Qo0 ⟨L ++ [s],x5,by rw [← ev];exact O7.out,G8,M7,by rw [I7.seen];exact I7,by rw [I7.seen];omega,fun h => by omega,I7.lt,fun q hq => ?_⟩⟩,by rw [I7.seen];exact x4⟩
   rw [← ev] at hq
   rcases B7.out with h | h
   ·exact QX.out.2 q (h.symm.trans hq)
   ·have h2:=Option.some.inj (h.symm.trans hq)
    have h3 : (w5.alloc (.cells #[tv s] 9)).heap.size = w5.heap.size + 1:=by simp
    have:=Z5.out
    omega
end Go.Proofs.YtiaenhlflgobfaaGreatDoor
namespace Go.Proofs.YtiaenhlflgobfaaGreatDoor
open Go.RowKit
set_option maxRecDepth 100000 in
theorem dot_any (y : Ex) (w : World) : Calls Tryz.prog 136 #[y.v] w fun e w' => e = .returned (.bool (decide (y.er.kind = 4))) ∧ Gr w w':=by
 obtain ⟨c0,-⟩:=Zw y w _ (Qc _)
 have GX:=Qo0 (Qa w (.cells #[iv y.kind,tv y.name,tv y.more,iv y.int,iv y.den,.slice y.A y.sub.length y.c] 43))
 rw [Zk]
 unfold Ex.v
 by_cases h : y.kind = 4
 ·rw [h] at c0 GX ⊢
  go_enter Tryz.func136,Tryz.ntmps136
  go_wp2
  go_ret
  exact ⟨rfl,GX.out⟩
 ·have hk : (y.kind == 4) = false:=by simpa using h
  have hd : decide (y.kind = 4) = false:=decide_eq_false h
  rw [hd]
  generalize y.kind = k at *
  clear h hd
  go_enter Tryz.func136,Tryz.ntmps136
  go_wp2
  go_ret
  exact ⟨rfl,GX.out⟩
set_option maxRecDepth 100000 in
theorem ref_any (y : Ex) (l : T) (w : World) (bl : Nat) (hb : w.cell? ⟨bl,0,none⟩ = some (tv l)) : Calls Tryz.prog 138 #[y.v,.pointer (some ⟨bl,0,none⟩)] w fun e w' => e = .returned (.bool (decide (y.er.kind = 5) && decide (y.er.name = l))) ∧ Gr w w':=by
 obtain ⟨c0,c1,-⟩:=Zw y w _ (Qc _)
 have GX:=Qo0 (Qa w (.cells #[iv y.kind,tv y.name,tv y.more,iv y.int,iv y.den,.slice y.A y.sub.length y.c] 43))
 have d0:=Ze GX.out hb
 rw [Zk,Yb]
 unfold Ex.v
 generalize y.kind = k at *
 generalize y.name = n at *
 by_cases h : k = 5
 ·subst h
  by_cases h2 : n = l
  ·subst h2
   rw [show (decide ((5 : Int) = 5) && decide (n = n)) = true from by simp]
   clear hb
   go_enter Tryz.func138,Tryz.ntmps138
   go_wp2
   go_ret
   exact ⟨rfl,GX.out⟩
  ·have hn : (n == l) = false:=by simpa using h2
   rw [show (decide ((5 : Int) = 5) && decide (n = l)) = false from by simp [h2]]
   clear h2 hb
   go_enter Tryz.func138,Tryz.ntmps138
   go_wp2
   go_ret
   exact ⟨rfl,GX.out⟩
 ·have hk : (k == 5) = false:=by simpa using h
  rw [show (decide (k = 5) && decide (n = l)) = false from by simp [h]]
  clear h hb
  go_enter Tryz.func138,Tryz.ntmps138
  go_wp2
  go_ret
  exact ⟨rfl,GX.out⟩
set_option maxRecDepth 100000 in
set_option maxHeartbeats 2000000 in
attribute [local irreducible] Calls in
theorem Qly (w : World) (bA bF : Nat) (hne : bA ≠ bF) (hA : w.heap[bA]? = some (.cells #[.func (.func 136) #[] #[]] 87 (0,0))) (V : World) (y : Ex) (g : w.grownBy V (some bF)) (f0 : V.heap[bF]? = some (.cells #[.bool false] 4 (0,0))) :
 Calls Tryz.prog 182 #[y.v,.pointer (some ⟨bA,0,none⟩),.pointer (some ⟨bF,0,none⟩)] V fun e w' => e = .returned (.bool (!(fun e => decide (e.kind = 4)) y.er)) ∧ V.grownBy w' (some bF) ∧ w'.heap[bF]? = some (.cells #[.bool ((fun e => decide (e.kind = 4)) y.er)] 4 (0,0)):=by
 have bV : bF < V.heap.size:=Qn f0
 have a0 : (V.alloc (.cells #[iv y.kind,tv y.name,tv y.more,iv y.int,iv y.den,.slice y.A y.sub.length y.c] 43)).cell? ⟨bA,0,none⟩ = some (.func (.func 136) #[] #[]):=by
  have h:=Qe (Qa V (.cells #[iv y.kind,tv y.name,tv y.more,iv y.int,iv y.den,.slice y.A y.sub.length y.c] 43)) ((g.block bA (Qn hA) (by simpa using hne)).trans hA)
  rw [Lib.cell_of_heap h];rfl
 obtain ⟨c0,c1,c2,c3,c4,c5⟩:=Zw y V _ (Qc _)
 have F1:=Qo0 (Qe (Qa V (.cells #[iv y.kind,tv y.name,tv y.more,iv y.int,iv y.den,.slice y.A y.sub.length y.c] 43)) f0)
 have GX:=Qo0 (Qa V (.cells #[iv y.kind,tv y.name,tv y.more,iv y.int,iv y.den,.slice y.A y.sub.length y.c] 43))
 have BV:=Qo0 bV
 have CL:=Qo0 (fun U => dot_any y U)
 obtain ⟨b,hb⟩ : ∃ b,(fun e => decide (e.kind = 4)) y.er = b:=⟨_,rfl⟩
 have hb':=hb
 dsimp only at hb'
 rw [hb]
 rw [hb'] at CL
 clear hb hb' f0 bV
 unfold Ex.v at CL ⊢
 cases b with
 | false =>
   go_enter Tryz.func182,Tryz.ntmps182
   go_upto_region 2 with (go_at_call 136;(with_reducible refine (CL.out _).mono ?_);rintro e w1 ⟨rfl,g1⟩;have G1:=Qo0 g1;have h1:=Qe g1 F1.out;have d0:=Lib.cell_of_heap h1 0;have d1:=Lib.frozen_of_heap h1 0;simp only [List.getElem?_toArray,List.getElem?_cons_zero] at d0;clear g1 h1)
   have e0:=Lib.cell_of_heap (Zo (u:=.bool false) (Qe G1.out F1.out)) 0
   simp only [List.getElem?_toArray,List.getElem?_cons_zero] at e0
   go_wp2
   go_ret
   exact ⟨rfl,((World.grownBy.trans GX.out G1.out).but (some bF)).trans (Qo bF 0 _),Zo (Qe G1.out F1.out)⟩
 | true =>
   go_enter Tryz.func182,Tryz.ntmps182
   go_upto_region 2 with (go_at_call 136;(with_reducible refine (CL.out _).mono ?_);rintro e w1 ⟨rfl,g1⟩;have G1:=Qo0 g1;have h1:=Qe g1 F1.out;have d0:=Lib.cell_of_heap h1 0;have d1:=Lib.frozen_of_heap h1 0;simp only [List.getElem?_toArray,List.getElem?_cons_zero] at d0;clear g1 h1)
   have e0:=Lib.cell_of_heap (Zo (u:=.bool true) (Qe G1.out F1.out)) 0
   simp only [List.getElem?_toArray,List.getElem?_cons_zero] at e0
   go_wp2
   go_ret
   exact ⟨rfl,((World.grownBy.trans GX.out G1.out).but (some bF)).trans (Qo bF 0 _),Zo (Qe G1.out F1.out)⟩
set_option maxRecDepth 100000 in
set_option maxHeartbeats 2000000 in
attribute [local irreducible] Calls in
theorem Qlx (l : T) (bl : Nat) (w : World) (bA bF : Nat) (hne : bA ≠ bF) (hA : w.heap[bA]? = some (.cells #[.func (.func 138) #[] #[.pointer (some ⟨bl,0,none⟩)]] 87 (0,0))) (hl : ∀ V,w.grownBy V (some bF) → V.cell? ⟨bl,0,none⟩ = some (tv l)) (V : World) (y : Ex) (g : w.grownBy V (some bF)) (f0 : V.heap[bF]? = some (.cells #[.bool false] 4 (0,0))) :
 Calls Tryz.prog 182 #[y.v,.pointer (some ⟨bA,0,none⟩),.pointer (some ⟨bF,0,none⟩)] V fun e w' => e = .returned (.bool (!(fun e => decide (e.kind = 5) && decide (e.name = l)) y.er)) ∧ V.grownBy w' (some bF) ∧ w'.heap[bF]? = some (.cells #[.bool ((fun e => decide (e.kind = 5) && decide (e.name = l)) y.er)] 4 (0,0)):=by
 have bV : bF < V.heap.size:=Qn f0
 have a0 : (V.alloc (.cells #[iv y.kind,tv y.name,tv y.more,iv y.int,iv y.den,.slice y.A y.sub.length y.c] 43)).cell? ⟨bA,0,none⟩ = some (.func (.func 138) #[] #[.pointer (some ⟨bl,0,none⟩)]):=by
  have h:=Qe (Qa V (.cells #[iv y.kind,tv y.name,tv y.more,iv y.int,iv y.den,.slice y.A y.sub.length y.c] 43)) ((g.block bA (Qn hA) (by simpa using hne)).trans hA)
  rw [Lib.cell_of_heap h];rfl
 obtain ⟨c0,c1,c2,c3,c4,c5⟩:=Zw y V _ (Qc _)
 have F1:=Qo0 (Qe (Qa V (.cells #[iv y.kind,tv y.name,tv y.more,iv y.int,iv y.den,.slice y.A y.sub.length y.c] 43)) f0)
 have GX:=Qo0 (Qa V (.cells #[iv y.kind,tv y.name,tv y.more,iv y.int,iv y.den,.slice y.A y.sub.length y.c] 43))
 have BV:=Qo0 bV
 have CL:=Qo0 (ref_any y l _ bl (Ze (Qa V (.cells #[iv y.kind,tv y.name,tv y.more,iv y.int,iv y.den,.slice y.A y.sub.length y.c] 43)) (hl V g)))
 obtain ⟨b,hb⟩ : ∃ b,(fun e => decide (e.kind = 5) && decide (e.name = l)) y.er = b:=⟨_,rfl⟩
 have hb':=hb
 dsimp only at hb'
 rw [hb]
 rw [hb'] at CL
 clear hb hb' f0 bV hl
 unfold Ex.v at CL ⊢
 cases b with
 | false =>
   go_enter Tryz.func182,Tryz.ntmps182
   go_upto_region 2 with (go_at_call 138;(with_reducible refine (CL.out).mono ?_);rintro e w1 ⟨rfl,g1⟩;have G1:=Qo0 g1;have h1:=Qe g1 F1.out;have d0:=Lib.cell_of_heap h1 0;have d1:=Lib.frozen_of_heap h1 0;simp only [List.getElem?_toArray,List.getElem?_cons_zero] at d0;clear g1 h1)
   have e0:=Lib.cell_of_heap (Zo (u:=.bool false) (Qe G1.out F1.out)) 0
   simp only [List.getElem?_toArray,List.getElem?_cons_zero] at e0
   go_wp2
   go_ret
   exact ⟨rfl,((World.grownBy.trans GX.out G1.out).but (some bF)).trans (Qo bF 0 _),Zo (Qe G1.out F1.out)⟩
 | true =>
   go_enter Tryz.func182,Tryz.ntmps182
   go_upto_region 2 with (go_at_call 138;(with_reducible refine (CL.out).mono ?_);rintro e w1 ⟨rfl,g1⟩;have G1:=Qo0 g1;have h1:=Qe g1 F1.out;have d0:=Lib.cell_of_heap h1 0;have d1:=Lib.frozen_of_heap h1 0;simp only [List.getElem?_toArray,List.getElem?_cons_zero] at d0;clear g1 h1)
   have e0:=Lib.cell_of_heap (Zo (u:=.bool true) (Qe G1.out F1.out)) 0
   simp only [List.getElem?_toArray,List.getElem?_cons_zero] at e0
   go_wp2
   go_ret
   exact ⟨rfl,((World.grownBy.trans GX.out G1.out).but (some bF)).trans (Qo bF 0 _),Zo (Qe G1.out F1.out)⟩
set_option maxRecDepth 100000 in
set_option maxHeartbeats 2000000 in
attribute [local irreducible] Calls in
theorem Qf4 (x : Ex) (w : World) (hx : x.Rd w) (hn : (x.er.pre 1).length ≤ 400) : Calls Tryz.prog 135 #[x.v,.func (.func 136) #[] #[]] w fun e w' => e = .returned (.bool ((x.er.pre 1).any fun q => decide (q.2.kind = 4))) ∧ Gr w w':=by
 have GX:=Qo0 (show Gr w ((w.alloc (.cells #[iv x.kind,tv x.name,tv x.more,iv x.int,iv x.den,.slice x.A x.sub.length x.c] 43)).alloc (.cells #[.func (.func 136) #[] #[]] 87)) from (Qa _ _).trans (Qa _ _))
 have G3:=Qo0 (Qa ((w.alloc (.cells #[iv x.kind,tv x.name,tv x.more,iv x.int,iv x.den,.slice x.A x.sub.length x.c] 43)).alloc (.cells #[.func (.func 136) #[] #[]] 87)) (.cells #[.bool false] 4))
 have F3:=Qo0 (Qr ((w.alloc (.cells #[iv x.kind,tv x.name,tv x.more,iv x.int,iv x.den,.slice x.A x.sub.length x.c] 43)).alloc (.cells #[.func (.func 136) #[] #[]] 87)) (.cells #[.bool false] 4) (A:=w.heap.size + 2) (by simp))
 have A3:=Qo0 (Qe G3.out (Qr (w.alloc (.cells #[iv x.kind,tv x.name,tv x.more,iv x.int,iv x.den,.slice x.A x.sub.length x.c] 43)) (.cells #[.func (.func 136) #[] #[]] 87) (A:=w.heap.size + 1) (by simp)))
 have X3:=Qo0 (Qe ((Qa _ (.cells #[.func (.func 136) #[] #[]] 87)).trans G3.out) (Qd w (.cells #[iv x.kind,tv x.name,tv x.more,iv x.int,iv x.den,.slice x.A x.sub.length x.c] 43)))
 have Z3:=Qo0 (show (((w.alloc (.cells #[iv x.kind,tv x.name,tv x.more,iv x.int,iv x.den,.slice x.A x.sub.length x.c] 43)).alloc (.cells #[.func (.func 136) #[] #[]] 87)).alloc (.cells #[.bool false] 4)).heap.size = w.heap.size + 3 by simp)
 have VA:=Qo0 (Qfe (fun e => decide (e.kind = 4)) 1 x)
 obtain ⟨b,hb⟩ : ∃ b,((x.er.pre 1).any fun q => decide (q.2.kind = 4)) = b:=⟨_,rfl⟩
 have HB:=Qo0 hb
 rw [hb]
 have HX:=Qo0 hx
 have HN:=Qo0 hn
 clear hx hn hb
 unfold Ex.v
 go_enter Tryz.func135,Tryz.ntmps135
 go_upto_region 2 with fail
 generalize ((w.alloc (.cells #[iv x.kind,tv x.name,tv x.more,iv x.int,iv x.den,.slice x.A x.sub.length x.c] 43)).alloc (.cells #[.func (.func 136) #[] #[]] 87)).alloc (.cells #[.bool false] 4) = W at *
 have CV:=Qo0 (Qeo x w W (w.heap.size + 1) (w.heap.size + 1 + 1) (fun e => decide (e.kind = 4)) HX.out (GX.out.trans G3.out) (by omega) HN.out F3.out (fun V y g f0 _ => Qly W (w.heap.size + 1) (w.heap.size + 1 + 1) (by omega) A3.out V y g f0))
 rw [VA.out,HB.out] at CV
 clear VA HB
 have c0:=Lib.cell_of_heap X3.out 0
 have c1:=Lib.cell_of_heap X3.out 1
 have c2:=Lib.cell_of_heap X3.out 2
 have c3:=Lib.cell_of_heap X3.out 3
 have c4:=Lib.cell_of_heap X3.out 4
 have c5:=Lib.cell_of_heap X3.out 5
 simp only [List.getElem?_toArray,List.getElem?_cons_zero,List.getElem?_cons_succ] at c0 c1 c2 c3 c4 c5
 unfold Ex.v at CV
 go_wp2_with (go_at_call 152;(with_reducible refine CV.out.mono ?_);rintro e w5 ⟨⟨r,rfl⟩,g5,f5⟩;have G5:=Qo0 (And.intro g5 f5);have d5:=Lib.cell_of_heap f5 0;simp only [List.getElem?_toArray,List.getElem?_cons_zero] at d5;clear g5 f5)
 go_ret
 exact ⟨rfl,Zq (GX.out.trans G3.out) G5.out.1 (fun k h => by cases h;omega)⟩
set_option maxRecDepth 100000 in
set_option maxHeartbeats 2000000 in
attribute [local irreducible] Calls in
theorem Qf3 (x : Ex) (l : T) (bl : Nat) (w : World) (hx : x.Rd w) (hn : (x.er.pre 1).length ≤ 400) (hl : w.cell? ⟨bl,0,none⟩ = some (tv l)) (hbl : bl < w.heap.size) : Calls Tryz.prog 135 #[x.v,.func (.func 138) #[] #[.pointer (some ⟨bl,0,none⟩)]] w fun e w' => e = .returned (.bool ((x.er.pre 1).any fun q => decide (q.2.kind = 5) && decide (q.2.name = l))) ∧ Gr w w':=by
 have GX:=Qo0 (show Gr w ((w.alloc (.cells #[iv x.kind,tv x.name,tv x.more,iv x.int,iv x.den,.slice x.A x.sub.length x.c] 43)).alloc (.cells #[.func (.func 138) #[] #[.pointer (some ⟨bl,0,none⟩)]] 87)) from (Qa _ _).trans (Qa _ _))
 have G3:=Qo0 (Qa ((w.alloc (.cells #[iv x.kind,tv x.name,tv x.more,iv x.int,iv x.den,.slice x.A x.sub.length x.c] 43)).alloc (.cells #[.func (.func 138) #[] #[.pointer (some ⟨bl,0,none⟩)]] 87)) (.cells #[.bool false] 4))
 have F3:=Qo0 (Qr ((w.alloc (.cells #[iv x.kind,tv x.name,tv x.more,iv x.int,iv x.den,.slice x.A x.sub.length x.c] 43)).alloc (.cells #[.func (.func 138) #[] #[.pointer (some ⟨bl,0,none⟩)]] 87)) (.cells #[.bool false] 4) (A:=w.heap.size + 2) (by simp))
 have A3:=Qo0 (Qe G3.out (Qr (w.alloc (.cells #[iv x.kind,tv x.name,tv x.more,iv x.int,iv x.den,.slice x.A x.sub.length x.c] 43)) (.cells #[.func (.func 138) #[] #[.pointer (some ⟨bl,0,none⟩)]] 87) (A:=w.heap.size + 1) (by simp)))
 have X3:=Qo0 (Qe ((Qa _ (.cells #[.func (.func 138) #[] #[.pointer (some ⟨bl,0,none⟩)]] 87)).trans G3.out) (Qd w (.cells #[iv x.kind,tv x.name,tv x.more,iv x.int,iv x.den,.slice x.A x.sub.length x.c] 43)))
 have Z3:=Qo0 (show (((w.alloc (.cells #[iv x.kind,tv x.name,tv x.more,iv x.int,iv x.den,.slice x.A x.sub.length x.c] 43)).alloc (.cells #[.func (.func 138) #[] #[.pointer (some ⟨bl,0,none⟩)]] 87)).alloc (.cells #[.bool false] 4)).heap.size = w.heap.size + 3 by simp)
 have VA:=Qo0 (Qfe (fun e => decide (e.kind = 5) && decide (e.name = l)) 1 x)
 have HL:=Qo0 (fun V (g : (((w.alloc (.cells #[iv x.kind,tv x.name,tv x.more,iv x.int,iv x.den,.slice x.A x.sub.length x.c] 43)).alloc (.cells #[.func (.func 138) #[] #[.pointer (some ⟨bl,0,none⟩)]] 87)).alloc (.cells #[.bool false] 4)).grownBy V (some (w.heap.size + 2))) => show V.cell? ⟨bl,0,none⟩ = some (tv l) from g.cell (Ze (GX.out.trans G3.out) hl) (by simp;omega))
 obtain ⟨b,hb⟩ : ∃ b,((x.er.pre 1).any fun q => decide (q.2.kind = 5) && decide (q.2.name = l)) = b:=⟨_,rfl⟩
 have HB:=Qo0 hb
 rw [hb]
 have HX:=Qo0 hx
 have HN:=Qo0 hn
 clear hx hn hb hl hbl
 unfold Ex.v
 go_enter Tryz.func135,Tryz.ntmps135
 go_upto_region 2 with fail
 generalize ((w.alloc (.cells #[iv x.kind,tv x.name,tv x.more,iv x.int,iv x.den,.slice x.A x.sub.length x.c] 43)).alloc (.cells #[.func (.func 138) #[] #[.pointer (some ⟨bl,0,none⟩)]] 87)).alloc (.cells #[.bool false] 4) = W at *
 have CV:=Qo0 (Qeo x w W (w.heap.size + 1) (w.heap.size + 1 + 1) (fun e => decide (e.kind = 5) && decide (e.name = l)) HX.out (GX.out.trans G3.out) (by omega) HN.out F3.out (fun V y g f0 _ => Qlx l bl W (w.heap.size + 1) (w.heap.size + 1 + 1) (by omega) A3.out HL.out V y g f0))
 rw [VA.out,HB.out] at CV
 clear VA HB
 have c0:=Lib.cell_of_heap X3.out 0
 have c1:=Lib.cell_of_heap X3.out 1
 have c2:=Lib.cell_of_heap X3.out 2
 have c3:=Lib.cell_of_heap X3.out 3
 have c4:=Lib.cell_of_heap X3.out 4
 have c5:=Lib.cell_of_heap X3.out 5
 simp only [List.getElem?_toArray,List.getElem?_cons_zero,List.getElem?_cons_succ] at c0 c1 c2 c3 c4 c5
 unfold Ex.v at CV
 go_wp2_with (go_at_call 152;(with_reducible refine CV.out.mono ?_);rintro e w5 ⟨⟨r,rfl⟩,g5,f5⟩;have G5:=Qo0 (And.intro g5 f5);have d5:=Lib.cell_of_heap f5 0;simp only [List.getElem?_toArray,List.getElem?_cons_zero] at d5;clear g5 f5)
 go_ret
 exact ⟨rfl,Zq (GX.out.trans G3.out) G5.out.1 (fun k h => by cases h;omega)⟩
end Go.Proofs.YtiaenhlflgobfaaGreatDoor
namespace Go.Proofs.YtiaenhlflgobfaaGreatDoor
open Go.RowKit
theorem Qko {e : PE} (h : ckE e = 0) : (e.pre 1).length ≤ 400:=by
 have h1:=(Qht h).1
 unfold nd at h1
 rwa [List.length_map] at h1
set_option maxRecDepth 100000 in
set_option maxHeartbeats 4000000 in
attribute [local irreducible] Calls in
theorem Qel (l : T) (d : Dec) (w : World) (hd : d.Rd w) : Calls Tryz.prog 84 #[tv l,d.v] w fun e w' => e = .returned (iv (ckD l d.er)) ∧ Gr w w':=by
 obtain ⟨W,hW⟩ : ∃ W,(w.alloc (.cells #[tv l] 9)).alloc (.cells #[iv d.id,iv d.kind,.bool d.pub,.slice d.nA d.names.length d.nc,.bool d.doubt,iv d.body.kind,tv d.body.name,tv d.body.more,iv d.body.int,iv d.body.den,.slice d.body.A d.body.sub.length d.body.c] 45) = W:=⟨_,rfl⟩
 have GX:=Qo0 (show Gr w W by rw [← hW];exact (Qa _ _).trans (Qa _ _))
 have CB:=Qo0 (fun V (g : Gr W V) => show V.cell? ⟨w.heap.size + 1,0,none⟩ = some (iv d.id) ∧ V.cell? ⟨w.heap.size + 1,1,none⟩ = some (iv d.kind) ∧ V.cell? ⟨w.heap.size + 1,2,none⟩ = some (.bool d.pub) ∧ V.cell? ⟨w.heap.size + 1,3,none⟩ = some (.slice d.nA d.names.length d.nc) ∧ V.cell? ⟨w.heap.size + 1,4,none⟩ = some (.bool d.doubt) ∧ V.cell? ⟨w.heap.size + 1,5,none⟩ = some (iv d.body.kind) ∧ V.cell? ⟨w.heap.size + 1,6,none⟩ = some (tv d.body.name) ∧ V.cell? ⟨w.heap.size + 1,7,none⟩ = some (tv d.body.more) ∧ V.cell? ⟨w.heap.size + 1,8,none⟩ = some (iv d.body.int) ∧ V.cell? ⟨w.heap.size + 1,9,none⟩ = some (iv d.body.den) ∧ V.cell? ⟨w.heap.size + 1,10,none⟩ = some (.slice d.body.A d.body.sub.length d.body.c) ∧ V.cell? ⟨w.heap.size,0,none⟩ = some (tv l) ∧ w.heap.size < V.heap.size from by
  have h1:=Qe g (by rw [← hW];exact Qr _ _ (A:=w.heap.size + 1) (by simp))
  have h2:=Qe g (by rw [← hW];exact Qe (Qa _ _) (Qd w (.cells #[tv l] 9)))
  exact ⟨by rw [Lib.cell_of_heap h1];rfl,by rw [Lib.cell_of_heap h1];rfl,by rw [Lib.cell_of_heap h1];rfl,by rw [Lib.cell_of_heap h1];rfl,by rw [Lib.cell_of_heap h1];rfl,by rw [Lib.cell_of_heap h1];rfl,by rw [Lib.cell_of_heap h1];rfl,by rw [Lib.cell_of_heap h1];rfl,by rw [Lib.cell_of_heap h1];rfl,by rw [Lib.cell_of_heap h1];rfl,by rw [Lib.cell_of_heap h1];rfl,by rw [Lib.cell_of_heap h2];rfl,Qn h2⟩)
 have CN:=Qo0 (fun V (g : Gr W V) => Qc9 d.nA d.nc d.names V (hd.n.gr (GX.out.trans g)))
 have CE:=Qo0 (fun V (g : Gr W V) => X7 d.body V (hd.b.gr (GX.out.trans g)))
 have CD:=Qo0 (fun (h : ckE d.body.er = 0) V (g : Gr W V) => Qf4 d.body V (hd.b.gr (GX.out.trans g)) (Qko h))
 have CF:=Qo0 (fun (h : ckE d.body.er = 0) V (g : Gr W V) => Qn5 d.body V (hd.b.gr (GX.out.trans g)) h)
 have CR:=Qo0 (fun (h : ckE d.body.er = 0) V (g : Gr W V) => Qf3 d.body l w.heap.size V (hd.b.gr (GX.out.trans g)) (Qko h) (CB.out V g).2.2.2.2.2.2.2.2.2.2.2.1 (CB.out V g).2.2.2.2.2.2.2.2.2.2.2.2)
 have SP:=Qo0 (show ckD l d.er = if d.id < 1 ∨ 999999 < d.id then 2 else if d.kind ≠ 1 ∧ d.kind ≠ 2 ∧ d.kind ≠ 3 then 9 else if Qak d.names ≠ 0 then Qak d.names else ckB l d.body.er from rfl)
 unfold ckB at SP
 obtain ⟨q,hq⟩ : ∃ q,ckD l d.er = q:=⟨_,rfl⟩
 rw [hq] at SP ⊢
 obtain ⟨eN,hN⟩ : ∃ e,Qak d.names = e:=⟨_,rfl⟩
 obtain ⟨eE,hE⟩ : ∃ e,ckE d.body.er = e:=⟨_,rfl⟩
 obtain ⟨bD,hD⟩ : ∃ e,((d.body.er.pre 1).any fun q => decide (q.2.kind = 4)) = e:=⟨_,rfl⟩
 obtain ⟨bR,hR⟩ : ∃ e,((d.body.er.pre 1).any fun q => decide (q.2.kind = 5) && decide (q.2.name = l)) = e:=⟨_,rfl⟩
 rw [hN,hE,hD,hR] at SP
 rw [hE] at CE CD CF CR
 rw [hN] at CN
 rw [hD] at CD
 rw [hR] at CR
 clear hq hN hE hD hR hd
 generalize d.body.er.fr [] [] = FK at *
 unfold Dec.v
 unfold Ex.v at *
 obtain ⟨c0,c1,c2,c3,c4,c5,c6,c7,c8,c9,c10,l0,lb⟩:=CB.out _ (Qc _)
 by_cases h1 : d.id < 1 ∨ 999999 < d.id
 ·have hq : q = 2:=by rw [SP.out,if_pos h1]
  subst hq
  clear SP
  by_cases h2 : d.id < 1
  ·go_enter Tryz.func84,Tryz.ntmps84
   go_wp2
   all_goals (first | go_end0 | go_ret | refine bodyPost_ret (results_none rfl _ _ _) rfl ?_)
   all_goals exact ⟨rfl,GX.out⟩
  ·have h3 : 999999 < d.id:=by omega
   go_enter Tryz.func84,Tryz.ntmps84
   go_wp2
   all_goals (first | go_end0 | go_ret | refine bodyPost_ret (results_none rfl _ _ _) rfl ?_)
   all_goals exact ⟨rfl,GX.out⟩
 by_cases h2 : d.kind ≠ 1 ∧ d.kind ≠ 2 ∧ d.kind ≠ 3
 ·have hq : q = 9:=by rw [SP.out,if_neg h1,if_pos h2]
  subst hq
  obtain ⟨k1,k2,k3⟩:=h2
  have p1 : (d.kind != 1) = true:=by simpa using k1
  have p2 : (d.kind != 2) = true:=by simpa using k2
  have p3 : (d.kind != 3) = true:=by simpa using k3
  have r1 : ¬ d.id < 1:=fun h => h1 (.inl h)
  have r2 : ¬ 999999 < d.id:=fun h => h1 (.inr h)
  clear SP h1
  go_enter Tryz.func84,Tryz.ntmps84
  go_wp2
  all_goals (first | go_end0 | go_ret | refine bodyPost_ret (results_none rfl _ _ _) rfl ?_)
  all_goals exact ⟨rfl,GX.out⟩
 have S2:=Qo0 (SP.out.trans ((if_neg h1).trans (if_neg h2)))
 have r1 : ¬ d.id < 1:=fun h => h1 (.inl h)
 have r2 : ¬ 999999 < d.id:=fun h => h1 (.inr h)
 clear SP h1
 have hkk : d.kind = 1 ∨ d.kind = 2 ∨ d.kind = 3:=by omega
 clear h2
 go_enter Tryz.func84,Tryz.ntmps84
 go_upto_region 3 with fail
 clear hW r1 r2
 have HK:=Qo0 hkk
 clear hkk
 go_cut [15,16,17,18,19,20,21,22,23,24,25,26,27] (fun _ _ _ _ _ _ _ _ _ _ _ _ b V => b = .bool false ∧ V = W)
 case first =>
  rcases HK.out with h | h | h
  all_goals rw [h] at c1
  all_goals go_wp2
  all_goals go_meet
  all_goals exact ⟨rfl,rfl⟩
 case rest =>
  obtain ⟨rfl,hw⟩:=hcut
  subst hw
  go_upto_region 6 with (go_at_call 134;refine (CN.out _ (Qc _)).mono ?_;rintro e w1 ⟨rfl,g1⟩;have G1:=Qo0 g1;clear g1)
  clear CN HK c0 c1 c2 c3 c4 c5 c6 c7 c8 c9 c10 l0 lb
  by_cases hN : eN = 0
  ·subst hN
   have S3:=Qo0 (S2.out.trans (if_neg (by decide)))
   clear S2
   obtain ⟨c0,c1,c2,c3,c4,c5,c6,c7,c8,c9,c10,l0,lb⟩:=CB.out _ G1.out
   go_upto_region 9 with (go_at_call 85;refine (CE.out _ G1.out).mono ?_;rintro e w2 ⟨rfl,g2⟩;have G2:=Qo0 (G1.out.trans g2);clear g2)
   clear CE c0 c1 c2 c3 c4 c5 c6 c7 c8 c9 c10 l0 lb
   by_cases hE : eE = 0
   ·subst hE
    have S4:=Qo0 (S3.out.trans (if_neg (by decide)))
    clear S3
    obtain ⟨c0,c1,c2,c3,c4,c5,c6,c7,c8,c9,c10,l0,lb⟩:=CB.out _ G2.out
    cases bD with
    | true =>
      have hq : q = 9:=S4.out.trans (if_pos rfl)
      subst hq
      clear S4
      go_wp2_with (go_at_call 135;refine (CD.out (by first | rfl | trivial) _ G2.out).mono ?_;rintro e w3 ⟨rfl,g3⟩;have G3:=Qo0 (G2.out.trans g3);clear g3)
      all_goals (first | go_end0 | go_ret | refine bodyPost_ret (results_none rfl _ _ _) rfl ?_)
      all_goals exact ⟨rfl,GX.out.trans G3.out⟩
    | false =>
      have S5:=Qo0 (S4.out.trans (if_neg (by decide)))
      clear S4
      go_upto_region 13 with (go_at_call 135;refine (CD.out (by first | rfl | trivial) _ G2.out).mono ?_;rintro e w3 ⟨rfl,g3⟩;have G3:=Qo0 (G2.out.trans g3);clear g3)
      clear CD c0 c1 c2 c3 c4 c5 c6 c7 c8 c9 c10 l0 lb
      obtain ⟨c0,c1,c2,c3,c4,c5,c6,c7,c8,c9,c10,l0,lb⟩:=CB.out _ G3.out
      by_cases hF : FK = []
      ·have S6:=Qo0 (S5.out.trans (if_neg (by simpa using hF)))
       clear S5
       go_upto_region 15 with (go_at_call 137;refine (CF.out (by first | rfl | trivial) _ G3.out).mono ?_;rintro e w4 ⟨⟨Aq,n,c,rfl,hn⟩,g4⟩;have G4:=Qo0 (G3.out.trans g4);clear g4;obtain rfl : n = 0:=hn.2 hF;clear hn)
       clear CF c0 c1 c2 c3 c4 c5 c6 c7 c8 c9 c10 l0 lb
       obtain ⟨c0,c1,c2,c3,c4,c5,c6,c7,c8,c9,c10,l0,lb⟩:=CB.out _ G4.out
       cases bR with
       | true =>
         have hq : q = 1:=S6.out.trans (if_pos rfl)
         subst hq
         clear S6
         go_wp2_with (go_at_call 135;refine (CR.out (by first | rfl | trivial) _ G4.out).mono ?_;rintro e w5 ⟨rfl,g5⟩;have G5:=Qo0 (G4.out.trans g5);clear g5)
         all_goals (first | go_end0 | go_ret | refine bodyPost_ret (results_none rfl _ _ _) rfl ?_)
         all_goals exact ⟨rfl,GX.out.trans G5.out⟩
       | false =>
         have hq : q = 0:=S6.out.trans (if_neg (by decide))
         subst hq
         clear S6
         go_wp2_with (go_at_call 135;refine (CR.out (by first | rfl | trivial) _ G4.out).mono ?_;rintro e w5 ⟨rfl,g5⟩;have G5:=Qo0 (G4.out.trans g5);clear g5)
         all_goals (first | go_end0 | go_ret | refine bodyPost_ret (results_none rfl _ _ _) rfl ?_)
         all_goals exact ⟨rfl,GX.out.trans G5.out⟩
      ·have hq : q = 21:=S5.out.trans (if_pos hF)
       subst hq
       clear S5
       go_wp2_with (go_at_call 137;refine (CF.out (by first | rfl | trivial) _ G3.out).mono ?_;rintro e w4 ⟨⟨Aq,n,c,rfl,hn⟩,g4⟩;have G4:=Qo0 (G3.out.trans g4);clear g4;have hn2 : (0 : Int) < (n : Int):=(by have : n ≠ 0:=fun h => hF (hn.1 h);omega);clear hn)
       all_goals (first | go_end0 | go_ret | refine bodyPost_ret (results_none rfl _ _ _) rfl ?_)
       all_goals exact ⟨rfl,GX.out.trans G4.out⟩
   ·have hq : q = eE:=S3.out.trans (if_pos hE)
    subst hq
    clear S3
    have p : (q != 0) = true:=by simpa using hE
    go_wp2
    all_goals (first | go_end0 | go_ret | refine bodyPost_ret (results_none rfl _ _ _) rfl ?_)
    all_goals exact ⟨rfl,GX.out.trans G2.out⟩
  ·have hq : q = eN:=S2.out.trans (if_pos hN)
   subst hq
   clear S2
   have p : (q != 0) = true:=by simpa using hN
   go_wp2
   all_goals (first | go_end0 | go_ret | refine bodyPost_ret (results_none rfl _ _ _) rfl ?_)
   all_goals exact ⟨rfl,GX.out.trans G1.out⟩
end Go.Proofs.YtiaenhlflgobfaaGreatDoor
namespace Go.Proofs.YtiaenhlflgobfaaGreatDoor
open Go.RowKit
def cU (l : T) (P : List T) (u : T) : Int:=if !nmB (Q9 u) then 6 else if P.any (fun q => decide (Q9 q = Q9 u)) then 7 else if u = l then 23 else 0
theorem Qol {l : T} {us : List T} {k : Nat} (hk : k < us.length) : Xd l (us.take k) (us.drop k) = if cU l (us.take k) us[k] ≠ 0 then cU l (us.take k) us[k] else Xd l (us.take (k + 1)) (us.drop (k + 1)):=by
 rw [List.drop_eq_getElem_cons hk,Xd,cU,List.take_succ_eq_append_getElem hk]
 generalize us[k] = u
 generalize us.take k = P
 cases hn : nmB (Q9 u) with
 | false => simp
 | true =>
   simp only [Bool.not_true,Bool.false_eq_true,if_false]
   by_cases h1 : P.any (fun q => decide (Q9 q = Q9 u)) = true
   ·rw [if_pos h1,if_pos h1];simp
   ·rw [if_neg h1,if_neg h1]
    by_cases h2 : u = l
    ·rw [if_pos h2,if_pos h2];simp
    ·rw [if_neg h2,if_neg h2];simp
theorem Qox (s : T) (h : sOk s) : sOk (Q9 s):=by
 show (Q9 s).length ≤ _
 unfold Q9
 split
 ·unfold Qaz
  rw [List.length_reverse]
  refine Nat.le_trans (List.Sublist.length_le (List.takeWhile_sublist _)) ?_
  rw [List.length_reverse]
  exact h
 ·simp
set_option maxRecDepth 100000 in
set_option maxHeartbeats 4000000 in
attribute [local irreducible] Calls in
theorem Qf9 (l : T) (A : Option Addr) (c : Nat) (us : List T) (k : Nat) (w : World) (hr : SRd w A c us) (hk : k < us.length) : Calls Tryz.prog 83 #[tv l,.slice A us.length c,iv k] w fun e w' => e = .returned (iv (cU l (us.take k) us[k])) ∧ Gr w w':=by
 have hl : us.length ≤ c ∧ c ≤ 9223372036854775807:=⟨hr.rw.hc,hr.rw.hm⟩
 have HR:=Qo0 (fun V (g : Gr w V) => hr.gr g)
 obtain ⟨a,a1,ea,e1,hb,c0,ok⟩:=hr.at hk
 subst ea
 have UR:=Qo0 (fun V (g : Gr w V) => Ze g c0)
 have AL:=Qo0 (fun V (s : T) (h : sOk s) => Qe9 s V h)
 have AK:=Qo0 (fun V => Qe9 us[k] V ok)
 have IN:=Qo0 (fun V => Qbu (Q9 us[k]) V (Qox _ ok))
 obtain ⟨n,hn⟩ : ∃ n,us.length = n:=⟨_,rfl⟩
 have HN:=Qo0 hn
 obtain ⟨P,hP⟩ : ∃ P,us.take k = P:=⟨_,rfl⟩
 have HP:=Qo0 hP
 have PL:=Qo0 (show P.length = k by rw [← hP,List.length_take];omega)
 have PA:=Qo0 (fun V (g : Gr w V) (j : Nat) (hj : j < k) => show ∃ a2 : Addr,a.add j = a2 ∧ V.cell? a2 = some (tv (P[j]'(by rw [PL.out];exact hj))) ∧ sOk (P[j]'(by rw [PL.out];exact hj)) from by
  obtain ⟨b,b1,eb,f1,-,d0,ok⟩:=(hr.gr g).at (k:=j) (by omega)
  cases eb
  subst hP
  simp only [List.getElem_take]
  exact ⟨b1,f1,d0,ok⟩)
 rw [hP]
 rw [hn] at hl ⊢
 have tk : (k : Int) < (n : Int):=by omega
 have tk' : k < n:=by omega
 clear hr hn hP HR hb ok
 generalize us[k] = u at *
 clear hk
 obtain ⟨r,hr⟩ : ∃ r,cU l P u = r:=⟨_,rfl⟩
 rw [hr]
 unfold cU at hr
 obtain ⟨b,hbn⟩ : ∃ b,nmB (Q9 u) = b:=⟨_,rfl⟩
 rw [hbn] at IN hr
 have HB:=Qo0 hbn
 clear hbn
 obtain ⟨au,hau⟩ : ∃ s,Q9 u = s:=⟨_,rfl⟩
 rw [hau] at IN AK hr
 clear hau HB
 cases b with
 | false =>
   obtain rfl : 6 = r:=by rw [← hr];rfl
   clear hr
   go_enter Tryz.func83,Tryz.ntmps83
   go_wp2_with (first
    | (go_at_call 133;(with_reducible refine (AK.out _).mono ?_);rintro e w1 ⟨rfl,g⟩;have G1:=Qo0 g;clear g)
    | (go_at_call 40;(with_reducible refine (IN.out _).mono ?_);rintro e w2 ⟨rfl,g⟩;have G2:=Qo0 (G1.out.trans g);clear g))
   go_ret
   exact ⟨rfl,G2.out⟩
 | true =>
   simp only [Bool.not_true,Bool.false_eq_true,if_false] at hr
   have HRR:=Qo0 hr
   clear hr
   go_enter Tryz.func83,Tryz.ntmps83
   go_upto_region 4 with (first
    | (go_at_call 133;(with_reducible refine (AK.out _).mono ?_);rintro e w1 ⟨rfl,g⟩;have G1:=Qo0 g;clear g)
    | (go_at_call 40;(with_reducible refine (IN.out _).mono ?_);rintro e w2 ⟨rfl,g⟩;have G2:=Qo0 (G1.out.trans g);clear g))
   clear c0 AK IN
   go_wp2
   go_loopw [9,22] (fun _ i V => ∃ j : Nat,j ≤ k ∧ i = iv j ∧ Hid (Gr w V ∧ ∀ q ∈ P.take j,Q9 q ≠ au)) (fun _ i _ => (k - intOf i).toNat)
   case atStart => exact ⟨0,by omega,rfl,Qo0 ⟨G2.out,by simp⟩⟩
   case round =>
    obtain ⟨j,hj,rfl,HG⟩:=hrel
    have GV:=Qo0 HG.out.1
    have NO:=Qo0 HG.out.2
    clear HG
    by_cases hlt : j < k
    ·have hjl : j < P.length:=by rw [PL.out];exact hlt
     obtain ⟨a2,f1,d0,ok⟩:=PA.out _ GV.out j hlt
     have AJ:=Qo0 (fun V => AL.out V P[j] ok)
     have NX:=Qo0 (show Q9 P[j] ≠ au → ∀ q ∈ P.take (j + 1),Q9 q ≠ au from by
      intro h q hq
      rw [List.take_succ_eq_append_getElem hjl,List.mem_append,List.mem_singleton] at hq
      rcases hq with hq | rfl
      ·exact NO.out q hq
      ·exact h)
     have YS:=Qo0 (show Q9 P[j] = au → r = 7 from by
      intro h
      have hyes : P.any (fun q => decide (Q9 q = au)) = true:=by
       rw [List.any_eq_true]
       exact ⟨P[j],List.getElem_mem hjl,by simpa using h⟩
      have h:=HRR.out
      rw [if_pos hyes] at h
      exact h.symm)
     have tj : (j : Int) < (k : Int):=by omega
     clear NO ok
     generalize P[j] = q at *
     clear hjl
     obtain ⟨aq,haq⟩ : ∃ s,Q9 q = s:=⟨_,rfl⟩
     rw [haq] at AJ NX YS
     clear haq
     by_cases he : aq = au
     ·obtain rfl : r = 7:=YS.out he
      subst he
      clear NX YS HRR
      go_wp2_with (go_at_call 133;(with_reducible refine (AJ.out _).mono ?_);rintro e w3 ⟨rfl,g⟩;have G3:=Qo0 g;clear g)
      go_ret
      exact ⟨rfl,GV.out.trans G3.out⟩
     ·have hq : (aq == au) = false:=by simpa using he
      have NX2:=Qo0 (NX.out he)
      clear NX YS he
      go_wp2_with (go_at_call 133;(with_reducible refine (AJ.out _).mono ?_);rintro e w3 ⟨rfl,g⟩;have G3:=Qo0 g;clear g)
      exact ⟨⟨j + 1,by omega,by simp,Qo0 ⟨GV.out.trans G3.out,NX2.out⟩⟩,by simp [intOf];omega⟩
    ·obtain rfl : j = k:=by omega
     have c0:=UR.out _ GV.out
     have HX:=Qo0 (show (if u = l then 23 else 0) = r from by
      have hno : ¬ P.any (fun q => decide (Q9 q = au)) = true:=by
       rw [List.any_eq_true]
       rintro ⟨q,hq,e⟩
       refine NO.out q ?_ (by simpa using e)
       rw [List.take_of_length_le (by rw [PL.out];exact Nat.le_refl _)]
       exact hq
      have h:=HRR.out
      rw [if_neg hno] at h
      exact h)
     clear NO HRR
     by_cases hu : u = l
     ·obtain rfl : 23 = r:=by have:=HX.out;rwa [if_pos hu] at this
      subst hu
      clear HX
      go_wp2
      go_ret
      exact ⟨rfl,GV.out⟩
     ·obtain rfl : 0 = r:=by have:=HX.out;rwa [if_neg hu] at this
      have hu' : (u == l) = false:=by simpa using hu
      clear HX hu
      go_wp2
      go_ret
      exact ⟨rfl,GV.out⟩
end Go.Proofs.YtiaenhlflgobfaaGreatDoor
namespace Go.Proofs.YtiaenhlflgobfaaGreatDoor
open Go.RowKit
def prvD (L : List PD) (k : Nat) : Option PD:=if k = 0 then none else L[k - 1]?
theorem Qes (L : List PD) (k : Nat) : prvD L (k + 1) = L[k]?:=by simp [prvD]
theorem ckDs_at {l : T} {ds : List PD} {k : Nat} (hk : k < ds.length) : Qd4 l (prvD ds k) (ds.drop k) = if ckD l ds[k] ≠ 0 then ckD l ds[k] else if (prvD ds k).any (fun q => decide (ds[k].id ≤ q.id)) then 10 else Qd4 l (prvD ds (k + 1)) (ds.drop (k + 1)):=by
 rw [Qes,List.getElem?_eq_getElem hk,List.drop_eq_getElem_cons hk,Qd4]
set_option maxRecDepth 100000 in
set_option maxHeartbeats 4000000 in
attribute [local irreducible] Calls in
theorem Qal (m : Mod) (w : World) (hm : m.Rd w) : Calls Tryz.prog 39 #[m.v] w fun e w' => e = .returned (iv (ckM m.er)) ∧ Gr w w':=by
 obtain ⟨W,hW⟩ : ∃ W,w.alloc (.cells #[tv m.label,.slice m.uA m.uses.length m.uc,.slice m.dA m.decls.length m.dc] 39) = W:=⟨_,rfl⟩
 have GX:=Qo0 (show Gr w W by rw [← hW];exact Qa _ _)
 have CB:=Qo0 (fun V (g : Gr W V) => show V.cell? ⟨w.heap.size,0,none⟩ = some (tv m.label) ∧ V.cell? ⟨w.heap.size,1,none⟩ = some (.slice m.uA m.uses.length m.uc) ∧ V.cell? ⟨w.heap.size,2,none⟩ = some (.slice m.dA m.decls.length m.dc) from by
  have h1:=Qe g (by rw [← hW];exact Qd w _)
  exact ⟨by rw [Lib.cell_of_heap h1];rfl,by rw [Lib.cell_of_heap h1];rfl,by rw [Lib.cell_of_heap h1];rfl⟩)
 have CL:=Qo0 (fun V => Qbb m.label V hm.l)
 have CS:=Qo0 (fun V (g : Gr W V) => Qc8 m.uA m.uc m.uses V (hm.u.gr (GX.out.trans g)))
 have CU:=Qo0 (fun (k : Nat) (u : T) (hk : m.uses[k]? = some u) V (g : Gr W V) => show Calls Tryz.prog 83 #[tv m.label,.slice m.uA m.uses.length m.uc,iv k] V (fun e w' => e = .returned (iv (cU m.label (m.uses.take k) u)) ∧ Gr V w') from by
  obtain ⟨h1,rfl⟩:=List.getElem?_eq_some_iff.1 hk
  exact Qf9 m.label m.uA m.uc m.uses k V (hm.u.gr (GX.out.trans g)) h1)
 have HD:=Qo0 (fun V (g : Gr W V) => hm.d.gr (GX.out.trans g))
 have UL:=Qo0 (And.intro hm.u.rw.hc hm.u.rw.hm)
 have DL:=Qo0 (And.intro hm.d.rw.hc hm.d.rw.hm)
 have SP:=Qo0 (show ckM m.er = if !lab m.label then 6 else if Qae m.uses ≠ 0 then Qae m.uses else if Xd m.label [] m.uses ≠ 0 then Xd m.label [] m.uses else if 100 < m.er.decls.length then 4 else Qd4 m.label none m.er.decls from rfl)
 obtain ⟨q,hq⟩ : ∃ q,ckM m.er = q:=⟨_,rfl⟩
 rw [hq] at SP ⊢
 obtain ⟨bL,hL⟩ : ∃ e,lab m.label = e:=⟨_,rfl⟩
 obtain ⟨eS,hS⟩ : ∃ e,Qae m.uses = e:=⟨_,rfl⟩
 obtain ⟨n,hn⟩ : ∃ e,m.uses.length = e:=⟨_,rfl⟩
 have HN:=Qo0 hn
 rw [hL,hS] at SP
 rw [hL] at CL
 rw [hS] at CS
 rw [hn] at CB CS CU UL hW
 clear hq hL hS hm
 unfold Mod.v
 rw [hn]
 clear hn
 obtain ⟨c0,c1,c2⟩:=CB.out _ (Qc _)
 cases bL with
 | false =>
   have hq : q = 6:=SP.out.trans (if_pos rfl)
   subst hq
   clear SP
   go_enter Tryz.func39,Tryz.ntmps39
   go_wp2_with (go_at_call 81;refine (CL.out _).mono ?_;rintro e w1 ⟨rfl,g⟩;have G1:=Qo0 (Q2 g);clear g)
   all_goals (first | go_end0 | go_ret | refine bodyPost_ret (results_none rfl _ _ _) rfl ?_)
   all_goals exact ⟨rfl,GX.out.trans G1.out⟩
 | true =>
   have S1:=Qo0 (SP.out.trans (if_neg (by decide)))
   clear SP
   go_enter Tryz.func39,Tryz.ntmps39
   go_upto_region 3 with (go_at_call 81;refine (CL.out _).mono ?_;rintro e w1 ⟨rfl,g⟩;have G1:=Qo0 (Q2 g);clear g)
   clear hW CL c0 c1 c2
   obtain ⟨c0,c1,c2⟩:=CB.out _ G1.out
   go_upto_region 4 with (go_at_call 82;refine (CS.out _ G1.out).mono ?_;rintro e w2 ⟨rfl,g⟩;have G2:=Qo0 (G1.out.trans g);clear g)
   clear CS c0 c1 c2
   obtain ⟨c0,c1,c2⟩:=CB.out _ G2.out
   by_cases hS : eS = 0
   ·subst hS
    have S2:=Qo0 (S1.out.trans (if_neg (by decide)))
    clear S1
    go_upto_region 6 with fail
    generalize w2 = W2 at *
    go_wp2
    clear c0 c1 c2
    go_loopw [4,5,23] (fun _ _ i V => ∃ j : Nat,j ≤ n ∧ i = iv j ∧ Hid (Gr W V ∧ Xd m.label [] m.uses = Xd m.label (m.uses.take j) (m.uses.drop j))) (fun _ _ i _ => (n - intOf i).toNat)
    case atStart => exact ⟨0,by omega,rfl,Qo0 ⟨G2.out,by simp⟩⟩
    case round =>
     obtain ⟨j,hj,rfl,HG⟩:=hrel
     have GV:=Qo0 HG.out.1
     have ul:=UL.out
     obtain ⟨c0,c1,c2⟩:=CB.out _ GV.out
     by_cases hlt : j < n
     ·have hjl : j < m.uses.length:=by rw [HN.out];exact hlt
      have tj : (j : Int) < (n : Int):=by omega
      have SJ:=Qo0 (HG.out.2.trans (Qol hjl))
      have CJ:=Qo0 (fun V (g : Gr W V) => CU.out j m.uses[j] (List.getElem?_eq_getElem hjl) V g)
      obtain ⟨eU,hU⟩ : ∃ e,cU m.label (m.uses.take j) m.uses[j] = e:=⟨_,rfl⟩
      rw [hU] at SJ CJ
      have CJJ:=Qo0 (CJ.out _ GV.out)
      clear hU hjl HG CJ
      by_cases hE : eU = 0
      ·subst hE
       have SK:=Qo0 (SJ.out.trans (if_neg (by decide)))
       clear SJ
       go_wp2_with (go_at_call 83;refine CJJ.out.mono ?_;rintro e w3 ⟨rfl,g⟩;have G3:=Qo0 (GV.out.trans g);clear g)
       exact ⟨⟨j + 1,by omega,by simp,Qo0 ⟨G3.out,SK.out⟩⟩,by simp [intOf];omega⟩
      ·have hq : q = eU:=S2.out.trans ((if_pos (by rw [SJ.out,if_pos hE];exact hE)).trans (by rw [SJ.out,if_pos hE]))
       subst hq
       clear SJ S2
       have p : (q != 0) = true:=by simpa using hE
       go_wp2_with (go_at_call 83;refine CJJ.out.mono ?_;rintro e w3 ⟨rfl,g⟩;have G3:=Qo0 (GV.out.trans g);clear g)
       all_goals (first | go_end0 | go_ret | refine bodyPost_ret (results_none rfl _ _ _) rfl ?_)
       all_goals exact ⟨rfl,GX.out.trans G3.out⟩
     ·obtain rfl : j = n:=by omega
      have h0 : Xd m.label [] m.uses = 0:=by
       rw [HG.out.2,List.drop_eq_nil_of_le (by rw [HN.out];exact Nat.le_refl _),Xd]
      have S3:=Qo0 (S2.out.trans (if_neg (by rw [h0];decide)))
      have LD : m.er.decls.length = m.decls.length:=by unfold Mod.er;simp
      rw [LD] at S3
      clear S2 h0 HG LD ul
      obtain ⟨k,hk⟩ : ∃ k,m.decls.length = k:=⟨_,rfl⟩
      have HKD:=Qo0 hk
      rw [hk] at S3 c2 CB DL
      clear hk
      have dl:=DL.out
      by_cases hbig : 100 < k
      ·have hq : q = 4:=S3.out.trans (if_pos hbig)
       subst hq
       clear S3
       have tb : (100 : Int) < (k : Int):=by omega
       go_wp2
       all_goals (first | go_end0 | go_ret | refine bodyPost_ret (results_none rfl _ _ _) rfl ?_)
       all_goals exact ⟨rfl,GX.out.trans GV.out⟩
      ·have S4:=Qo0 (S3.out.trans (if_neg hbig))
       clear S3
       have tb : ¬ (100 : Int) < (k : Int):=by omega
       go_upto_region 15 with fail
       generalize wr = WQ at *
       go_wp2
       clear c0 c1 c2 dl CU UL HN hbig
       have ES : m.er.decls = m.decls.map Dec.er:=rfl
       go_loopw [6,7,8,43] (fun _ _ _ i V => ∃ j : Nat,j ≤ k ∧ i = iv j ∧ Hid (Gr W V ∧ Qd4 m.label (prvD m.er.decls j) (m.er.decls.drop j) = q)) (fun _ _ _ i _ => (k - intOf i).toNat)
       case atStart => exact ⟨0,by omega,rfl,Qo0 ⟨GV.out,by rw [List.drop_zero];exact S4.out.symm⟩⟩
       case round =>
        obtain ⟨j,hj,rfl,HG⟩:=hrel
        have GW:=Qo0 HG.out.1
        have CK:=Qo0 HG.out.2
        have dl:=DL.out
        clear HG S4
        obtain ⟨c0,c1,c2⟩:=CB.out _ GW.out
        by_cases hlt : j < k
        ·have hkl : j < m.decls.length:=by rw [HKD.out];exact hlt
         have hke : j < m.er.decls.length:=by rw [ES,List.length_map];exact hkl
         obtain ⟨a,a1,ea,e1,hb,d0,d1,d2,d3,d4,d5,d6,d7,d8,d9,d10,dR⟩:=(HD.out _ GW.out).at hkl
         have SJ:=Qo0 (CK.out.symm.trans (ckDs_at hke))
         have EJ : m.er.decls[j] = m.decls[j].er:=by simp [ES]
         rw [EJ] at SJ
         have tk : (j : Int) < (k : Int):=by omega
         have IJ:=Qo0 (fun (i : Nat) (hi : j = i + 1) => show ∃ (id : Int),(prvD m.er.decls j).any (fun q => decide (m.decls[j].er.id ≤ q.id)) = decide (m.decls[j].id ≤ id) ∧ ∀ V (g : Gr W V),∃ b1 : Addr,a.add (i * 11) = b1 ∧ b1.block < V.heap.size ∧ V.cell? b1 = some (iv id) from by
          subst hi
          have h1 : i < m.decls.length:=by omega
          refine ⟨m.decls[i].id,?_,fun V g => ?_⟩
          ·rw [Qes,ES,List.getElem?_map,List.getElem?_eq_getElem h1]
           rfl
          ·obtain ⟨b,b1,eb,f1,hb1,e0,-⟩:=(HD.out V g).at h1
           have hab : a = b:=Option.some.inj (ea.symm.trans eb)
           subst hab
           exact ⟨b1,f1,hb1,e0⟩)
         generalize m.decls[j] = d at *
         have CD:=Qo0 (Qel m.label d (wr.alloc (.cells #[iv d.id,iv d.kind,.bool d.pub,.slice d.nA d.names.length d.nc,.bool d.doubt,iv d.body.kind,tv d.body.name,tv d.body.more,iv d.body.int,iv d.body.den,.slice d.body.A d.body.sub.length d.body.c] 45)) (dR.gr (Qa _ _)))
         obtain ⟨eD,hE⟩ : ∃ e,ckD m.label d.er = e:=⟨_,rfl⟩
         rw [hE] at CD SJ
         clear hE dR hke hkl EJ CK
         rw [ea] at c2 CB ⊢
         have LZ : d.er.id = d.id:=rfl
         obtain ⟨v0,v1,v2⟩:=CB.out _ (GW.out.trans (Qa wr (.cells #[iv d.id,iv d.kind,.bool d.pub,.slice d.nA d.names.length d.nc,.bool d.doubt,iv d.body.kind,tv d.body.name,tv d.body.more,iv d.body.int,iv d.body.den,.slice d.body.A d.body.sub.length d.body.c] 45)))
         unfold Dec.v at CD
         clear HD ea ES
         by_cases hE : eD = 0
         ·subst hE
          have SK:=Qo0 (SJ.out.trans (if_neg (by decide)))
          clear SJ
          cases j with
          | zero =>
            have SL:=Qo0 (SK.out.trans (if_neg (by simp [prvD])))
            clear SK IJ
            go_upto_region 21 with (go_at_call 84;refine CD.out.mono ?_;rintro e w3 ⟨rfl,g3⟩;have G3:=Qo0 ((GW.out.trans (Qa _ _)).trans g3);have z0 : w3.cell? ⟨wr.heap.size,0,none⟩ = some (iv d.id):=(by rw [Lib.cell_of_heap (Qe g3 (Qd wr _))];rfl);have zb:=Qn (Qe g3 (Qd wr _));obtain ⟨y0,y1,y2⟩:=CB.out _ G3.out;clear g3)
            go_quiet (fail)
            all_goals go_wp2
            exact ⟨⟨1,by omega,rfl,Qo0 ⟨G3.out.trans (Qq _ _),SL.out.symm⟩⟩,by simp [intOf];omega⟩
          | succ i =>
            obtain ⟨id,hany,FI⟩:=IJ.out i rfl
            have FI:=Qo0 FI
            rw [hany] at SK
            clear hany IJ
            by_cases hle : d.id ≤ id
            ·have hq : q = 10:=SK.out.trans (if_pos (by simpa using hle))
             subst hq
             clear SK
             go_upto_region 21 with (go_at_call 84;refine CD.out.mono ?_;rintro e w3 ⟨rfl,g3⟩;have G3:=Qo0 ((GW.out.trans (Qa _ _)).trans g3);have z0 : w3.cell? ⟨wr.heap.size,0,none⟩ = some (iv d.id):=(by rw [Lib.cell_of_heap (Qe g3 (Qd wr _))];rfl);have zb:=Qn (Qe g3 (Qd wr _));obtain ⟨y0,y1,y2⟩:=CB.out _ G3.out;obtain ⟨b1,f1,hb1,e0⟩:=FI.out _ G3.out;clear g3)
             go_quiet (fail)
             all_goals go_wp2
             all_goals (first | go_end0 | go_ret | refine bodyPost_ret (results_none rfl _ _ _) rfl ?_)
             all_goals exact ⟨rfl,GX.out.trans (G3.out.trans (Qq _ _))⟩
            ·have SL:=Qo0 (SK.out.trans (if_neg (by simpa using hle)))
             clear SK
             go_upto_region 21 with (go_at_call 84;refine CD.out.mono ?_;rintro e w3 ⟨rfl,g3⟩;have G3:=Qo0 ((GW.out.trans (Qa _ _)).trans g3);have z0 : w3.cell? ⟨wr.heap.size,0,none⟩ = some (iv d.id):=(by rw [Lib.cell_of_heap (Qe g3 (Qd wr _))];rfl);have zb:=Qn (Qe g3 (Qd wr _));obtain ⟨y0,y1,y2⟩:=CB.out _ G3.out;obtain ⟨b1,f1,hb1,e0⟩:=FI.out _ G3.out;clear g3)
             go_quiet (fail)
             all_goals go_wp2
             exact ⟨⟨i + 1 + 1,by omega,by simp,Qo0 ⟨G3.out.trans (Qq _ _),SL.out.symm⟩⟩,by simp [intOf];omega⟩
         ·have hq : q = eD:=SJ.out.trans (if_pos hE)
          subst hq
          clear SJ IJ
          have p : (q != 0) = true:=by simpa using hE
          go_wp2_with (go_at_call 84;refine CD.out.mono ?_;rintro e w3 ⟨rfl,g3⟩;have G3:=Qo0 ((GW.out.trans (Qa _ _)).trans g3);have z0 : w3.cell? ⟨wr.heap.size,0,none⟩ = some (iv d.id):=(by rw [Lib.cell_of_heap (Qe g3 (Qd wr _))];rfl);have zb:=Qn (Qe g3 (Qd wr _));obtain ⟨y0,y1,y2⟩:=CB.out _ G3.out;clear g3)
          all_goals (first | go_end0 | go_ret | refine bodyPost_ret (results_none rfl _ _ _) rfl ?_)
          all_goals exact ⟨rfl,GX.out.trans G3.out⟩
        ·obtain rfl : j = k:=by omega
         have hq : q = 0:=by
          rw [← CK.out,List.drop_eq_nil_of_le (by rw [ES,List.length_map,HKD.out];exact Nat.le_refl _),Qd4]
         subst hq
         clear CK
         go_wp2
         all_goals (first | go_end0 | go_ret | refine bodyPost_ret (results_none rfl _ _ _) rfl ?_)
         all_goals exact ⟨rfl,GX.out.trans GW.out⟩
   ·have hq : q = eS:=S1.out.trans (if_pos hS)
    subst hq
    clear S1
    have p : (q != 0) = true:=by simpa using hS
    go_wp2
    all_goals (first | go_end0 | go_ret | refine bodyPost_ret (results_none rfl _ _ _) rfl ?_)
    all_goals exact ⟨rfl,GX.out.trans G2.out⟩
end Go.Proofs.YtiaenhlflgobfaaGreatDoor

/- Words. -/
import Derived.Test.YtiaenhlflgobfaaGreatDoorTb1
import Derived.WalkKit
import Derived.Deep.Draws
import Derived.Deep.QuietTactic
import Derived.BigQuiet
import Derived.BigRegion
import Derived.Laws.Rows
import Derived.Below
import Derived.Lib.Hide
import Derived.Maps.AppendAt
import Derived.WalkSpells
import Derived.OwnWalk
import Derived.Laws.OwnMore
import Derived.Deep.RegionLaw
import Derived.Deep.CutRange
import Derived.StillTailTactics
import Derived.RangeFuncRecord
import Derived.Lib.Builder
import Derived.Deep.RegionHeld3
import Derived.Test.YtiaenhlflgobfaaGreatDoorProg
namespace Go.Proofs.YtiaenhlflgobfaaGreatDoor
open Go.RowKit
theorem Qo0 {p : Prop} (h : p) : Go.RowKit.Hid p := Go.Lib.hid h
abbrev tv (x : T) : Value:=Value.string ⟨x.toArray⟩
abbrev iv (n : Int) : Value:=.int .i64 n
abbrev Gr (w w' : World) : Prop:=w.grownBy w' none
theorem Qa (w : World) (o : Obj) : Gr w (w.alloc o):=World.grownBy_alloc w o none
theorem Qq (w : World) (n : Nat) : Gr w (w.drewN n):=⟨rfl,rfl,rfl,Nat.le_refl _,fun _ _ _ => rfl⟩
theorem Qb (w : World) : Gr w w.drew:=Qq w 1
theorem Qc (w : World) : Gr w w:=World.grownBy.refl w none
theorem Xf {w V : World} (g : Gr w V) : Below w.heap.size w V:=⟨g.os,g.tape,g.output,g.size,fun k hk => g.block k hk (by simp)⟩
theorem Q2 {w V : World} (g : Below w.heap.size w V) : Gr w V:=⟨g.os,g.tape,g.output,g.size,fun k hk _ => g.block k hk⟩
theorem Qn {w : World} {g : Nat} {o : Obj} (h : w.heap[g]? = some o) : g < w.heap.size:=(Array.getElem?_eq_some_iff.1 h).1
theorem Qd (W : World) (o : Obj) : (W.alloc o).heap[W.heap.size]? = some o:=World.alloc_heap_new W o
theorem Qr (W : World) (o : Obj) {A : Nat} (h : A = W.heap.size) : (W.alloc o).heap[A]? = some o:=by rw [h];exact Qd W o
theorem Qe {w V : World} {k : Nat} {o : Obj} (g : Gr w V) (h : w.heap[k]? = some o) : V.heap[k]? = some o:=(g.block k (Qn h) (by simp)).trans h
theorem Ze {w V : World} {a : Addr} {v : Value} (g : Gr w V) (h : w.cell? a = some v) : V.cell? a = some v:=g.cell h (by simp)
theorem Qo {w : World} (k j : Nat) (u : Value) : w.grownBy (w.setCell ⟨k,j,none⟩ u) (some k):=⟨rfl,rfl,rfl,by simp [World.setCell],fun i _ hne => Below.heap_setCell _ _ _ _ (by rintro rfl;exact hne rfl)⟩
theorem add_block (a : Addr) (n : Nat) : (a.add n).block = a.block:=by unfold Addr.add;split <;> rfl
theorem add_add' (a : Addr) (i j : Nat) : (a.add i).add j = a.add (i + j):=by
 unfold Addr.add
 by_cases hi : i = 0 <;> by_cases hj : j = 0 <;> simp [hi,hj,Nat.add_assoc]
theorem Qh (a : Addr) (i : Nat) (hi : i ≠ 0) : a.add i = ⟨a.block,a.off + i,none⟩:=by unfold Addr.add;rw [if_neg hi]
theorem add_zero' (a : Addr) : a.add 0 = a:=rfl
def RD {α : Type} (n : Nat) (cs : α → List Value) (w : World) (A : Option Addr) (L : List α) : Prop :=
 L = [] ∨ ∃ a,A = some a ∧ a.block < w.heap.size ∧ ∀ j x,L[j]? = some x → ∀ i v,(cs x)[i]? = some v → w.cell? (a.add (j * n + i)) = some v
section
variable {α : Type} {n : Nat} {cs : α → List Value} {w w' : World} {A : Option Addr} {L : List α}
theorem RD.nil : RD n cs w A ([] : List α):=.inl rfl
theorem RD.at (h : RD n cs w A L) {k : Nat} (hk : k < L.length) : ∃ a,A = some a ∧ a.block < w.heap.size ∧ ∀ i v,(cs L[k])[i]? = some v → w.cell? (a.add (k * n + i)) = some v:=by
 rcases h with rfl | ⟨a,e,hb,hc⟩
 ·simp at hk
 ·exact ⟨a,e,hb,hc k _ (List.getElem?_eq_getElem hk)⟩
theorem RD.but {row : Option Nat} (h : RD n cs w A L) (hg : w.grownBy w' row) (hne : ∀ a,A = some a → some a.block ≠ row) : RD n cs w' A L:=by
 rcases h with rfl | ⟨a,e,hb,hc⟩
 ·exact .inl rfl
 ·refine .inr ⟨a,e,Nat.lt_of_lt_of_le hb hg.size,fun j x hx i v hv => hg.cell (hc j x hx i v hv) ?_⟩
  rw [add_block]
  exact hne a e
theorem RD.gr (h : RD n cs w A L) (g : Gr w w') : RD n cs w' A L:=h.but g (by simp)
theorem RD.take (h : RD n cs w A L) (k : Nat) : RD n cs w A (L.take k):=by
 rcases h with rfl | ⟨a,e,hb,hc⟩
 ·left;simp
 ·refine .inr ⟨a,e,hb,fun j x hx i v hv => hc j x ?_ i v hv⟩
  rw [List.getElem?_take] at hx
  split at hx
  ·exact hx
  ·cases hx
theorem RD.drop (h : RD n cs w A L) (k : Nat) {A' : Option Addr} (hA : ∀ a,A = some a → k < L.length → A' = some (a.add (k * n))) : RD n cs w A' (L.drop k):=by
 by_cases hk : k < L.length
 ·obtain ⟨a,e,hb,-⟩:=h.at hk
  rcases h with rfl | ⟨a',e',hb',hc⟩
  ·simp at hk
  ·rw [e] at e';cases e'
   refine .inr ⟨_,hA a e hk,by rw [add_block];exact hb,fun j x hx i v hv => ?_⟩
   rw [add_add',show k * n + (j * n + i) = (k + j) * n + i by rw [Nat.add_mul];omega]
   exact hc (k + j) x (by rw [List.getElem?_drop] at hx;exact hx) i v hv
 ·left
  exact List.drop_eq_nil_of_le (by omega)
end
theorem Qk {α : Type} (f : α → List Value) (m : Nat) (h : ∀ x,(f x).length = m) : ∀ L : List α,(L.flatMap f).length = L.length * m
 | [] => by simp
 | x :: l => by rw [List.flatMap_cons,List.length_append,h,Qk f m h l,List.length_cons,Nat.succ_mul];omega
theorem Qai {α : Type} (f : α → List Value) (m : Nat) (h : ∀ x,(f x).length = m) {i : Nat} (hi : i < m) : ∀ (L : List α) (k : Nat) {x : α},L[k]? = some x → (L.flatMap f)[k * m + i]? = (f x)[i]?
 | [],_,_,e => by simp at e
 | y :: l,0,x,e => by
   simp at e
   subst e
   rw [List.flatMap_cons,Nat.zero_mul,Nat.zero_add,List.getElem?_append_left (by rw [h];exact hi)]
 | y :: l,k + 1,x,e => by
   rw [List.flatMap_cons,List.getElem?_append_right (by rw [h,Nat.succ_mul];omega),h,show (k + 1) * m + i - m = k * m + i by rw [Nat.succ_mul];omega]
   exact Qai f m h hi l k (by simpa using e)
theorem Qj {α : Type} {n : Nat} {cs : α → List Value} {w : World} {A : Nat} {L : List α} {t : TypeId} (hn : ∀ x,(cs x).length = n) (h : w.heap[A]? = some (.cells (L.flatMap cs).toArray t (0,0))) : RD n cs w (some ⟨A,0,none⟩) L:=by
 refine .inr ⟨_,rfl,Qn h,fun j x hj i v hi => ?_⟩
 have hi3 : i < n:=by
  rcases Nat.lt_or_ge i n with h' | h'
  ·exact h'
  ·rw [List.getElem?_eq_none (by rw [hn];exact h')] at hi;cases hi
 have ha : ((⟨A,0,none⟩ : Addr).add (j * n + i)) = ⟨A,j * n + i,none⟩:=by
  by_cases e0 : j * n + i = 0
  ·rw [e0];rfl
  ·rw [Qh _ _ e0];simp
 rw [ha,Lib.cell_of_heap h,List.getElem?_toArray,Qai cs n hn hi3 _ j hj]
 exact hi
def OR {α : Type} (e : TypeId) (n : Nat) (cs : α → List Value) (w : World) (base : Nat) (v : Value) (L : List α) : Prop:=w.ownsRow base e n v L.length (L.flatMap cs)
section
variable {α : Type} {e : TypeId} {n : Nat} {cs : α → List Value} {w w' : World} {base : Nat} {v : Value} {L : List α}
theorem OR.nil : OR e n cs w base (.slice none 0 0) []:=World.ownsRow_nil w base e n
theorem OR.form (hn : ∀ x,(cs x).length = n) (h : OR e n cs w base v L) : ∃ A c,v = .slice A L.length c ∧ RD n cs w A L:=by
 have h0:=h
 rcases h0.2 with ⟨rfl,hl⟩ | ⟨g,cap,cur,rfl,hg,hh,hnc,hm,hs,hx⟩
 ·have : L = []:=List.eq_nil_of_length_eq_zero hl
  subst this
  exact ⟨none,0,rfl,.inl rfl⟩
 ·refine ⟨some ⟨g,0,none⟩,cap,rfl,.inr ⟨_,rfl,(h.lt g rfl).2,fun j x hj i u hi => ?_⟩⟩
  have hin : i < n:=by
   rcases Nat.lt_or_ge i n with h' | h'
   ·exact h'
   ·rw [List.getElem?_eq_none (by rw [hn];exact h')] at hi;cases hi
  exact World.ownsRow.cells h rfl _ u (by rw [Qai cs n hn hin L j hj];exact hi)
theorem OR.kept {row : Option Nat} (h : OR e n cs w base v L) (hg : w.grownBy w' row) (hne : v.ownBlock = none ∨ v.ownBlock ≠ row) : OR e n cs w' base v L:=World.ownsRow.kept h hg hne
theorem OR.gr (h : OR e n cs w base v L) (hg : Gr w w') : OR e n cs w' base v L:=h.kept hg (by
 cases hv : v.ownBlock with
 | none => exact .inl rfl
 | some g => exact .inr (by simp))
theorem OR.alloc (h : OR e n cs w base v L) (o : Obj) : OR e n cs (w.alloc o) base v L:=World.ownsRow.alloc h o
theorem OR.empty (hb : base ≤ w.heap.size) : OR e n cs (w.alloc (.cells #[] e)) base (.slice (some ⟨w.heap.size,0,none⟩) 0 0) ([] : List α) :=
 World.ownsRow_made w #[] 0 hb (by unfold maxLen;omega) (by simp)
theorem OR.lt (h : OR e n cs w base v L) : ∀ k,v.ownBlock = some k → base ≤ k ∧ k < w.heap.size:=World.ownsRow.lt h
theorem OR.form2 (hn : ∀ x,(cs x).length = n) (h : OR e n cs w base v L) : ∃ A c,v = .slice A L.length c ∧ RD n cs w A L ∧ L.length ≤ c ∧ c ≤ 9223372036854775807 ∧ (A = none → c = 0) ∧ ∀ a,A = some a → base ≤ a.block ∧ a.block < w.heap.size ∧ a = ⟨a.block,0,none⟩:=by
 obtain ⟨A,c,e0,hr⟩:=h.form hn
 have h0:=h
 rcases h0.2 with ⟨e1,hl⟩ | ⟨g,cap,cur,e1,hg,hh,hnc,hm,hs,hx⟩
 ·rw [e0] at e1
  obtain ⟨rfl,h3,rfl⟩:=Value.slice.inj e1
  exact ⟨none,0,e0,hr,by omega,by omega,fun _ => rfl,fun a h => by cases h⟩
 ·rw [e0] at e1
  obtain ⟨rfl,-,rfl⟩:=Value.slice.inj e1
  refine ⟨_,_,e0,hr,by omega,by unfold maxLen at hm;omega,(fun h => by cases h),fun a h => ?_⟩
  cases h
  exact ⟨hg,Qn hh,rfl⟩
theorem OR.grow {W : World} (g0 : Gr W w) (h : OR e n cs w base v L) (hb : W.heap.size ≤ base) (g : w.grownBy w' v.ownBlock) : Gr W w' :=
 ⟨g.os.trans g0.os,g.tape.trans g0.tape,g.output.trans g0.output,Nat.le_trans g0.size g.size,fun k hk _ => (g.block k (Nat.lt_of_lt_of_le hk g0.size) (by
  intro e1
  have:=h.lt k e1.symm
  omega)).trans (g0.block k hk (by simp))⟩
theorem Qgp (t ty : TypeId) {z : Value} {bytes : Nat} (hn : ∀ x,(cs x).length = n) (h1 : ∀ x,∀ u ∈ cs x,u.oneCell' = true) (ht : Tryz.prog.underlying t = some (.slice e)) (hinfo : (Tryz.prog.info? e).map (fun i => (i.zero,i.size,i.bytes)) = some (some z,n,bytes)) (hz : z.cells.size = n) (hn0 : 0 < n) (hby : bytes ≤ 1000)
 (hown : OR e n cs w base v L) {A : Option Addr} {M : List α} (c : Nat) (hr : RD n cs w A M) (hA : A ≠ none) (hsz : L.length + M.length ≤ 1000000) (hb : base ≤ w.heap.size) :
 ∃ v' w',(Builtin.append_ #[t,t] ty #[v,.slice A M.length c]).run Tryz.prog w = .ok v' w' ∧ OR e n cs w' base v' (L ++ M) ∧ w.grownBy w' v.ownBlock ∧ (v'.ownBlock = v.ownBlock ∨ v'.ownBlock = some w.heap.size):=by
 obtain ⟨i0,hi,hz0,hz1,hz2⟩:=info_parts hinfo
 obtain ⟨a,rfl⟩ : ∃ a,A = some a:=by
  cases A with
  | none => exact absurd rfl hA
  | some a => exact ⟨a,rfl⟩
 have hc : ∀ j u,(M.flatMap cs)[j]? = some u → w.cell? (a.add j) = some u:=by
  intro j u hu
  have hj : j < M.length * n:=by
   rw [← Qk cs n hn M]
   exact (List.getElem?_eq_some_iff.1 hu).1
  have e0 : j / n < M.length:=Nat.div_lt_of_lt_mul (by rw [Nat.mul_comm];exact hj)
  have e1 : j % n < n:=Nat.mod_lt _ hn0
  have e2 : j = j / n * n + j % n:=by rw [Nat.mul_comm];exact (Nat.div_add_mod j n).symm
  rcases hr with rfl | ⟨a',e',_,hc⟩
  ·simp at hu
  ·cases e'
   have e3:=List.getElem?_eq_getElem e0
   have e4:=Qai cs n hn e1 M _ e3
   rw [← e2,hu] at e4
   rw [e2]
   exact hc _ _ e3 _ _ e4.symm
 obtain ⟨v',w',hrun,h2,h3,_,h5⟩:=run_append_own_at (P:=Tryz.prog) w base t ty e i0 z n bytes ht hi hz0 hz1 hz2 hz hn0 v L.length (L.flatMap cs) hown a M.length c (M.flatMap cs) (Qk cs n hn M) hc
  (by intro u hu;obtain ⟨x,_,hx⟩:=List.mem_flatMap.1 hu;exact h1 x u hx) (by unfold maxLen;omega) (by have:=Nat.mul_le_mul (show L.length + M.length ≤ 1000000 from hsz) hby;omega) hb
 exact ⟨v',w',hrun,by unfold OR;simpa using h2,h3,h5⟩
end
inductive Ex where
 | mk (kind : Int) (name more : T) (int den : Int) (A : Option Addr) (c : Nat) (sub : List Ex)
def Ex.kind : Ex → Int | .mk k _ _ _ _ _ _ _ => k
def Ex.name : Ex → T | .mk _ n _ _ _ _ _ _ => n
def Ex.more : Ex → T | .mk _ _ m _ _ _ _ _ => m
def Ex.int : Ex → Int | .mk _ _ _ i _ _ _ _ => i
def Ex.den : Ex → Int | .mk _ _ _ _ d _ _ _ => d
def Ex.A : Ex → Option Addr | .mk _ _ _ _ _ a _ _ => a
def Ex.c : Ex → Nat | .mk _ _ _ _ _ _ c _ => c
def Ex.sub : Ex → List Ex | .mk _ _ _ _ _ _ _ l => l
def Ex.cs (x : Ex) : List Value:=[iv x.kind,tv x.name,tv x.more,iv x.int,iv x.den,.slice x.A x.sub.length x.c]
def Ex.v (x : Ex) : Value:=.agg #[iv x.kind,tv x.name,tv x.more,iv x.int,iv x.den,.slice x.A x.sub.length x.c]
theorem Ex.cs_len (x : Ex) : x.cs.length = 6:=rfl
theorem Ex.cell1 (x : Ex) : ∀ u ∈ x.cs,u.oneCell' = true:=by
 intro u hu
 simp only [Ex.cs,List.mem_cons,List.not_mem_nil,or_false] at hu
 rcases hu with rfl | rfl | rfl | rfl | rfl | rfl <;> rfl
mutual
def Ex.er : Ex → PE
 | .mk k n m i d _ _ l => .mk k n m i d (ers l)
def ers : List Ex → List PE
 | [] => []
 | x :: l => x.er :: ers l
end
@[simp] theorem ers_nil : ers [] = []:=by simp [ers]
@[simp] theorem ers_cons (x : Ex) (l : List Ex) : ers (x :: l) = x.er :: ers l:=by simp [ers]
theorem Ym (l : List Ex) : ers l = l.map Ex.er:=by induction l <;> simp [*]
@[simp] theorem ers_append (l m : List Ex) : ers (l ++ m) = ers l ++ ers m:=by simp [Ym]
@[simp] theorem ers_length (l : List Ex) : (ers l).length = l.length:=by simp [Ym]
theorem Qbl (x : Ex) : x.er = .mk x.kind x.name x.more x.int x.den (ers x.sub):=by cases x;simp [Ex.er,Ex.kind,Ex.name,Ex.more,Ex.int,Ex.den,Ex.sub]
theorem Zk (x : Ex) : x.er.kind = x.kind:=by rw [Qbl];rfl
theorem Yb (x : Ex) : x.er.name = x.name:=by rw [Qbl];rfl
theorem Xa (x : Ex) : x.er.more = x.more:=by rw [Qbl];rfl
theorem Qfz (x : Ex) : x.er.int = x.int:=by rw [Qbl];rfl
theorem Qf0 (x : Ex) : x.er.den = x.den:=by rw [Qbl];rfl
theorem Yn (x : Ex) : x.er.sub = ers x.sub:=by rw [Qbl];rfl
structure RW {α : Type} (n : Nat) (cs : α → List Value) (w : World) (A : Option Addr) (c : Nat) (L : List α) : Prop where
 hc : L.length ≤ c
 hm : c ≤ 9223372036854775807
 h0 : A = none → c = 0
 r : RD n cs w A L
theorem RW.nil {α : Type} (n : Nat) (cs : α → List Value) (w : World) : RW n cs w none 0 ([] : List α):=⟨by simp,by omega,fun _ => rfl,.inl rfl⟩
theorem RW.gr {α : Type} {n : Nat} {cs : α → List Value} {w w' : World} {A : Option Addr} {c : Nat} {L : List α} (h : RW n cs w A c L) (g : Gr w w') : RW n cs w' A c L:=⟨h.hc,h.hm,h.h0,h.r.gr g⟩
abbrev sOk (s : T) : Prop:=s.length ≤ 9223372036854775807
inductive XRd (w : World) : Option Addr → Nat → List Ex → Prop
 | mk {A : Option Addr} {c : Nat} {L : List Ex} (h : RW 6 Ex.cs w A c L) (hn : ∀ x ∈ L,sOk x.name ∧ sOk x.more) (hs : ∀ x ∈ L,XRd w x.A x.c x.sub) : XRd w A c L
structure Ex.Rd (w : World) (x : Ex) : Prop where
 s : XRd w x.A x.c x.sub
 n : sOk x.name
 m : sOk x.more
section
variable {w w' : World} {A : Option Addr} {c : Nat} {L : List Ex}
theorem XRd.rw (h : XRd w A c L) : RW 6 Ex.cs w A c L:=by cases h;assumption
theorem XRd.r (h : XRd w A c L) : RD 6 Ex.cs w A L:=h.rw.r
theorem XRd.hs (h : XRd w A c L) : ∀ x ∈ L,x.Rd w:=by
 cases h with
 | mk h hn hs => exact fun x hx => ⟨hs x hx,(hn x hx).1,(hn x hx).2⟩
theorem XRd.of (h : RW 6 Ex.cs w A c L) (hs : ∀ x ∈ L,x.Rd w) : XRd w A c L:=.mk h (fun x hx => ⟨(hs x hx).n,(hs x hx).m⟩) (fun x hx => (hs x hx).s)
theorem XRd.nil (w : World) : XRd w none 0 []:=.mk (RW.nil 6 _ w) (by simp) (by simp)
theorem XRd.gr (h : XRd w A c L) (g : Gr w w') : XRd w' A c L:=by
 induction h with
 | mk h hn _ ih => exact .mk (h.gr g) hn ih
theorem Ex.Rd.gr {x : Ex} (h : x.Rd w) (g : Gr w w') : x.Rd w':=⟨h.s.gr g,h.n,h.m⟩
theorem XRd.at (h : XRd w A c L) {k : Nat} (hk : k < L.length) : ∃ a a1 : Addr,A = some a ∧ a.add (k * 6) = a1 ∧ a1.block < w.heap.size ∧ w.cell? a1 = some (iv L[k].kind) ∧ w.cell? ⟨a1.block,a1.off + 1,none⟩ = some (tv L[k].name) ∧ w.cell? ⟨a1.block,a1.off + 2,none⟩ = some (tv L[k].more) ∧ w.cell? ⟨a1.block,a1.off + 3,none⟩ = some (iv L[k].int) ∧ w.cell? ⟨a1.block,a1.off + 4,none⟩ = some (iv L[k].den) ∧ w.cell? ⟨a1.block,a1.off + 5,none⟩ = some (.slice L[k].A L[k].sub.length L[k].c) ∧ L[k].Rd w:=by
 obtain ⟨a,e,hb,hc⟩:=h.r.at hk
 refine ⟨a,_,e,rfl,by rw [add_block];exact hb,by simpa using hc 0 _ rfl,?_,?_,?_,?_,?_,h.hs _ (List.getElem_mem hk)⟩
 ·rw [← Qh _ 1 (by omega),add_add'];exact hc 1 _ rfl
 ·rw [← Qh _ 2 (by omega),add_add'];exact hc 2 _ rfl
 ·rw [← Qh _ 3 (by omega),add_add'];exact hc 3 _ rfl
 ·rw [← Qh _ 4 (by omega),add_add'];exact hc 4 _ rfl
 ·rw [← Qh _ 5 (by omega),add_add'];exact hc 5 _ rfl
end
def scs (s : T) : List Value:=[tv s]
theorem Yy (s : T) : (scs s).length = 1:=rfl
structure SRd (w : World) (A : Option Addr) (c : Nat) (L : List T) : Prop where
 rw : RW 1 scs w A c L
 ok : ∀ s ∈ L,sOk s
theorem SRd.r {w : World} {A : Option Addr} {c : Nat} {L : List T} (h : SRd w A c L) : RD 1 scs w A L:=h.rw.r
theorem SRd.nil (w : World) : SRd w none 0 []:=⟨RW.nil 1 _ w,by simp⟩
theorem SRd.gr {w w' : World} {A : Option Addr} {c : Nat} {L : List T} (h : SRd w A c L) (g : Gr w w') : SRd w' A c L:=⟨h.rw.gr g,h.ok⟩
theorem SRd.at {w : World} {A : Option Addr} {c : Nat} {L : List T} (h : SRd w A c L) {k : Nat} (hk : k < L.length) : ∃ a a1 : Addr,A = some a ∧ a.add k = a1 ∧ a1.block < w.heap.size ∧ w.cell? a1 = some (tv L[k]) ∧ sOk L[k]:=by
 obtain ⟨a,e,hb,hc⟩:=h.r.at hk
 exact ⟨a,_,e,rfl,by rw [add_block];exact hb,by simpa using hc 0 _ rfl,h.ok _ (List.getElem_mem hk)⟩
structure Dec where
 id : Int
 kind : Int
 pub : Bool
 nA : Option Addr
 nc : Nat
 names : List T
 doubt : Bool
 body : Ex
def Dec.cs (x : Dec) : List Value:=[iv x.id,iv x.kind,.bool x.pub,.slice x.nA x.names.length x.nc,.bool x.doubt,iv x.body.kind,tv x.body.name,tv x.body.more,iv x.body.int,iv x.body.den,.slice x.body.A x.body.sub.length x.body.c]
def Dec.v (x : Dec) : Value:=.agg #[iv x.id,iv x.kind,.bool x.pub,.slice x.nA x.names.length x.nc,.bool x.doubt,iv x.body.kind,tv x.body.name,tv x.body.more,iv x.body.int,iv x.body.den,.slice x.body.A x.body.sub.length x.body.c]
theorem Dec.cs_len (x : Dec) : x.cs.length = 11:=rfl
theorem Dec.cell1 (x : Dec) : ∀ u ∈ x.cs,u.oneCell' = true:=by
 intro u hu
 simp only [Dec.cs,List.mem_cons,List.not_mem_nil,or_false] at hu
 rcases hu with rfl | rfl | rfl | rfl | rfl | rfl | rfl | rfl | rfl | rfl | rfl <;> rfl
def Dec.er (x : Dec) : PD:=⟨x.id,x.kind,x.pub,x.names,x.doubt,x.body.er⟩
structure Dec.Rd (w : World) (x : Dec) : Prop where
 n : SRd w x.nA x.nc x.names
 b : x.body.Rd w
theorem Dec.Rd.gr {w w' : World} {x : Dec} (h : x.Rd w) (g : Gr w w') : x.Rd w':=⟨h.n.gr g,h.b.gr g⟩
structure DRd (w : World) (A : Option Addr) (c : Nat) (L : List Dec) : Prop where
 rw : RW 11 Dec.cs w A c L
 d : ∀ x ∈ L,x.Rd w
section
variable {w w' : World} {A : Option Addr} {c : Nat} {L : List Dec}
theorem DRd.r (h : DRd w A c L) : RD 11 Dec.cs w A L:=h.rw.r
theorem DRd.nil (w : World) : DRd w none 0 []:=⟨RW.nil 11 _ w,by simp⟩
theorem DRd.gr (h : DRd w A c L) (g : Gr w w') : DRd w' A c L:=⟨h.rw.gr g,fun x hx => (h.d x hx).gr g⟩
theorem DRd.at (h : DRd w A c L) {k : Nat} (hk : k < L.length) : ∃ a a1 : Addr,A = some a ∧ a.add (k * 11) = a1 ∧ a1.block < w.heap.size ∧ w.cell? a1 = some (iv L[k].id) ∧ w.cell? ⟨a1.block,a1.off + 1,none⟩ = some (iv L[k].kind) ∧ w.cell? ⟨a1.block,a1.off + 2,none⟩ = some (.bool L[k].pub) ∧ w.cell? ⟨a1.block,a1.off + 3,none⟩ = some (.slice L[k].nA L[k].names.length L[k].nc) ∧ w.cell? ⟨a1.block,a1.off + 4,none⟩ = some (.bool L[k].doubt) ∧ w.cell? ⟨a1.block,a1.off + 5,none⟩ = some (iv L[k].body.kind) ∧ w.cell? ⟨a1.block,a1.off + 6,none⟩ = some (tv L[k].body.name) ∧ w.cell? ⟨a1.block,a1.off + 7,none⟩ = some (tv L[k].body.more) ∧ w.cell? ⟨a1.block,a1.off + 8,none⟩ = some (iv L[k].body.int) ∧ w.cell? ⟨a1.block,a1.off + 9,none⟩ = some (iv L[k].body.den) ∧ w.cell? ⟨a1.block,a1.off + 10,none⟩ = some (.slice L[k].body.A L[k].body.sub.length L[k].body.c) ∧ L[k].Rd w:=by
 obtain ⟨a,e,hb,hc⟩:=h.r.at hk
 refine ⟨a,_,e,rfl,by rw [add_block];exact hb,by simpa using hc 0 _ rfl,?_,?_,?_,?_,?_,?_,?_,?_,?_,?_,h.d _ (List.getElem_mem hk)⟩
 ·rw [← Qh _ 1 (by omega),add_add'];exact hc 1 _ rfl
 ·rw [← Qh _ 2 (by omega),add_add'];exact hc 2 _ rfl
 ·rw [← Qh _ 3 (by omega),add_add'];exact hc 3 _ rfl
 ·rw [← Qh _ 4 (by omega),add_add'];exact hc 4 _ rfl
 ·rw [← Qh _ 5 (by omega),add_add'];exact hc 5 _ rfl
 ·rw [← Qh _ 6 (by omega),add_add'];exact hc 6 _ rfl
 ·rw [← Qh _ 7 (by omega),add_add'];exact hc 7 _ rfl
 ·rw [← Qh _ 8 (by omega),add_add'];exact hc 8 _ rfl
 ·rw [← Qh _ 9 (by omega),add_add'];exact hc 9 _ rfl
 ·rw [← Qh _ 10 (by omega),add_add'];exact hc 10 _ rfl
end
structure Mod where
 label : T
 uA : Option Addr
 uc : Nat
 uses : List T
 dA : Option Addr
 dc : Nat
 decls : List Dec
def Mod.cs (x : Mod) : List Value:=[tv x.label,.slice x.uA x.uses.length x.uc,.slice x.dA x.decls.length x.dc]
def Mod.v (x : Mod) : Value:=.agg #[tv x.label,.slice x.uA x.uses.length x.uc,.slice x.dA x.decls.length x.dc]
theorem Mod.cs_len (x : Mod) : x.cs.length = 3:=rfl
theorem Mod.cell1 (x : Mod) : ∀ u ∈ x.cs,u.oneCell' = true:=by
 intro u hu
 simp only [Mod.cs,List.mem_cons,List.not_mem_nil,or_false] at hu
 rcases hu with rfl | rfl | rfl <;> rfl
def Mod.er (x : Mod) : PM:=⟨x.label,x.uses,x.decls.map Dec.er⟩
structure Mod.Rd (w : World) (x : Mod) : Prop where
 l : sOk x.label
 u : SRd w x.uA x.uc x.uses
 d : DRd w x.dA x.dc x.decls
theorem Mod.Rd.gr {w w' : World} {x : Mod} (h : x.Rd w) (g : Gr w w') : x.Rd w':=⟨h.l,h.u.gr g,h.d.gr g⟩
structure MRd (w : World) (A : Option Addr) (c : Nat) (L : List Mod) : Prop where
 rw : RW 3 Mod.cs w A c L
 m : ∀ x ∈ L,x.Rd w
section
variable {w w' : World} {A : Option Addr} {c : Nat} {L : List Mod}
theorem MRd.r (h : MRd w A c L) : RD 3 Mod.cs w A L:=h.rw.r
theorem MRd.nil (w : World) : MRd w none 0 []:=⟨RW.nil 3 _ w,by simp⟩
theorem MRd.gr (h : MRd w A c L) (g : Gr w w') : MRd w' A c L:=⟨h.rw.gr g,fun x hx => (h.m x hx).gr g⟩
theorem MRd.at (h : MRd w A c L) {k : Nat} (hk : k < L.length) : ∃ a a1 : Addr,A = some a ∧ a.add (k * 3) = a1 ∧ a1.block < w.heap.size ∧ w.cell? a1 = some (tv L[k].label) ∧ w.cell? ⟨a1.block,a1.off + 1,none⟩ = some (.slice L[k].uA L[k].uses.length L[k].uc) ∧ w.cell? ⟨a1.block,a1.off + 2,none⟩ = some (.slice L[k].dA L[k].decls.length L[k].dc) ∧ L[k].Rd w:=by
 obtain ⟨a,e,hb,hc⟩:=h.r.at hk
 refine ⟨a,_,e,rfl,by rw [add_block];exact hb,by simpa using hc 0 _ rfl,?_,?_,h.m _ (List.getElem_mem hk)⟩
 ·rw [← Qh _ 1 (by omega),add_add'];exact hc 1 _ rfl
 ·rw [← Qh _ 2 (by omega),add_add'];exact hc 2 _ rfl
end
structure Edt where
 kind : Int
 pack : T
 text : T
 oA : Option Addr
 oc : Nat
 old : List Dec
 nA : Option Addr
 nc : Nat
 new : List Dec
def Edt.cs (x : Edt) : List Value:=[iv x.kind,tv x.pack,tv x.text,.slice x.oA x.old.length x.oc,.slice x.nA x.new.length x.nc]
def Edt.v (x : Edt) : Value:=.agg #[iv x.kind,tv x.pack,tv x.text,.slice x.oA x.old.length x.oc,.slice x.nA x.new.length x.nc]
theorem Edt.cs_len (x : Edt) : x.cs.length = 5:=rfl
theorem Edt.cell1 (x : Edt) : ∀ u ∈ x.cs,u.oneCell' = true:=by
 intro u hu
 simp only [Edt.cs,List.mem_cons,List.not_mem_nil,or_false] at hu
 rcases hu with rfl | rfl | rfl | rfl | rfl <;> rfl
def Edt.er (x : Edt) : PT:=⟨x.kind,x.pack,x.text,x.old.map Dec.er,x.new.map Dec.er⟩
structure Edt.Rd (w : World) (x : Edt) : Prop where
 p : sOk x.pack
 t : sOk x.text
 o : DRd w x.oA x.oc x.old
 n : DRd w x.nA x.nc x.new
theorem Edt.Rd.gr {w w' : World} {x : Edt} (h : x.Rd w) (g : Gr w w') : x.Rd w':=⟨h.p,h.t,h.o.gr g,h.n.gr g⟩
structure TRd (w : World) (A : Option Addr) (c : Nat) (L : List Edt) : Prop where
 rw : RW 5 Edt.cs w A c L
 e : ∀ x ∈ L,x.Rd w
section
variable {w w' : World} {A : Option Addr} {c : Nat} {L : List Edt}
theorem TRd.r (h : TRd w A c L) : RD 5 Edt.cs w A L:=h.rw.r
theorem TRd.nil (w : World) : TRd w none 0 []:=⟨RW.nil 5 _ w,by simp⟩
theorem TRd.gr (h : TRd w A c L) (g : Gr w w') : TRd w' A c L:=⟨h.rw.gr g,fun x hx => (h.e x hx).gr g⟩
theorem TRd.at (h : TRd w A c L) {k : Nat} (hk : k < L.length) : ∃ a a1 : Addr,A = some a ∧ a.add (k * 5) = a1 ∧ a1.block < w.heap.size ∧ w.cell? a1 = some (iv L[k].kind) ∧ w.cell? ⟨a1.block,a1.off + 1,none⟩ = some (tv L[k].pack) ∧ w.cell? ⟨a1.block,a1.off + 2,none⟩ = some (tv L[k].text) ∧ w.cell? ⟨a1.block,a1.off + 3,none⟩ = some (.slice L[k].oA L[k].old.length L[k].oc) ∧ w.cell? ⟨a1.block,a1.off + 4,none⟩ = some (.slice L[k].nA L[k].new.length L[k].nc) ∧ L[k].Rd w:=by
 obtain ⟨a,e,hb,hc⟩:=h.r.at hk
 refine ⟨a,_,e,rfl,by rw [add_block];exact hb,by simpa using hc 0 _ rfl,?_,?_,?_,?_,h.e _ (List.getElem_mem hk)⟩
 ·rw [← Qh _ 1 (by omega),add_add'];exact hc 1 _ rfl
 ·rw [← Qh _ 2 (by omega),add_add'];exact hc 2 _ rfl
 ·rw [← Qh _ 3 (by omega),add_add'];exact hc 3 _ rfl
 ·rw [← Qh _ 4 (by omega),add_add'];exact hc 4 _ rfl
end
end Go.Proofs.YtiaenhlflgobfaaGreatDoor

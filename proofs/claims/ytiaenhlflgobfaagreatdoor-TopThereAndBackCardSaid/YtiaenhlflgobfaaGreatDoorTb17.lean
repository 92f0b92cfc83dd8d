/- Walks and words: Mpk, Mpt. -/
import Derived.Test.YtiaenhlflgobfaaGreatDoorTb5
import Derived.MapKept
import Derived.Maps.Keyed
namespace Go.Proofs.YtiaenhlflgobfaaGreatDoor
open Go.RowKit Go.Maps
structure KT {κ : Type} (kt : TypeId) (kv : κ → Value) (ok : κ → Prop) : Prop where
 K : Keyed Tryz.prog kt
 lit : ∀ k,ok k → ∃ l,keyOf Tryz.prog kt (kv k) = some l
 inj : ∀ a b,kv a = kv b → a = b
abbrev MK (κ : Type):=List (κ × Value)
section
variable {κ : Type} {kt : TypeId} {kv : κ → Value} {ok : κ → Prop}
def Yu (kv : κ → Value) : Nat → MK κ → List MapEntry
 | _,[] => []
 | j,p :: l => { key:=kv p.1,val:=p.2,born:=j } :: Yu kv (j + 1) l
def Xb [DecidableEq κ] (k : κ) : MK κ → Nat → Option (Nat × Value)
 | [],_ => none
 | p :: l,i => if k = p.1 then some (i,p.2) else Xb k l (i + 1)
def kget [DecidableEq κ] (l : MK κ) (k : κ) : Option Value:=(Xb k l 0).map (·.2)
theorem Qhj (k : κ) (v : Value) : ∀ (l : MK κ) (j : Nat),Yu kv j (l ++ [(k,v)]) = Yu kv j l ++ [{ key:=kv k,val:=v,born:=j + l.length }]
 | [],_ => rfl
 | _ :: l,j => by simp [Yu,Qhj k v l];omega
theorem Qbg : ∀ (l : MK κ) (j i : Nat),(Yu kv j l)[i]? = l[i]?.map fun p => { key:=kv p.1,val:=p.2,born:=j + i }
 | [],_,_ => by simp [Yu]
 | p :: l,j,0 => by simp [Yu]
 | p :: l,j,i + 1 => by simp [Yu,Qbg l];congr 1;funext q;congr 1;omega
theorem Qe0 [DecidableEq κ] {k : κ} : ∀ {l : MK κ} {i : Nat},(∀ p ∈ l,p.1 ≠ k) → Xb k l i = none
 | [],_,_ => rfl
 | p :: l,i,h => by
   rw [Xb,if_neg (fun e => h p (by simp) e.symm)]
   exact Qe0 fun q hq => h q (by simp [hq])
theorem Qkb [DecidableEq κ] {k : κ} {v : Value} : ∀ {l : MK κ} {i j : Nat},(l.map (·.1)).Nodup → l[j]? = some (k,v) → Xb k l i = some (i + j,v)
 | [],_,_,_,e => by simp at e
 | p :: l,i,0,_,e => by
   simp only [List.getElem?_cons_zero,Option.some.injEq] at e
   subst e
   simp [Xb]
 | p :: l,i,j + 1,h,e => by
   rw [List.map_cons,List.nodup_cons] at h
   have e' : l[j]? = some (k,v):=by simpa using e
   have hne : k ≠ p.1:=fun e2 => h.1 (by rw [← e2];exact List.mem_map.2 ⟨(k,v),List.mem_of_getElem? e',rfl⟩)
   rw [Xb,if_neg hne,Qkb h.2 e']
   congr 2
   omega
structure LK (ok : κ → Prop) (l : MK κ) : Prop where
 ok : ∀ p ∈ l,ok p.1
 nd : (l.map (·.1)).Nodup
theorem Qcs [DecidableEq κ] (h : KT kt kv ok) {l : MK κ} (hl : LK ok l) {k : κ} (hk : ok k) (j : Nat) (w : World) : (Instr.findKey kt (kv k) (Yu kv j l)).run Tryz.prog w = .ok (Xb k l 0) w:=by
 obtain ⟨lx,hx⟩:=h.lit k hk
 rcases h.K.find w hx (Yu kv j l) (fun e he => by
  obtain ⟨i,hi⟩:=List.getElem?_of_mem he
  rw [Qbg] at hi
  obtain ⟨p,hp,rfl⟩:=Option.map_eq_some_iff.1 hi
  exact h.lit p.1 (hl.ok p (List.mem_of_getElem? hp))) with ⟨h1,h2⟩ | ⟨i,e,h1,h2,h3⟩
 ·rw [h1,Qe0 fun p hp e => ?_]
  obtain ⟨i,hi⟩:=List.getElem?_of_mem hp
  have h3 : (Yu kv j l)[i]? = some { key:=kv p.1,val:=p.2,born:=j + i }:=by rw [Qbg,hi];rfl
  exact h2 _ (List.mem_of_getElem? h3) (by rw [e])
 ·rw [Qbg] at h2
  obtain ⟨p,hp,rfl⟩:=Option.map_eq_some_iff.1 h2
  have hpk : p.1 = k:=h.inj _ _ h3
  rw [h1,Qkb (v:=p.2) hl.nd (by rw [hp,← hpk]),Nat.zero_add]
def MP (kv : κ → Value) (w : World) (b : Nat) (l : MK κ) : Prop:=w.heap[b]? = some (.map (Yu kv 0 l).toArray l.length)
def Zp (kv : κ → Value) (w : World) (b : Nat) (l : MK κ) : World:={ w with heap:=w.heap.setIfInBounds b (.map (Yu kv 0 l).toArray l.length) }
theorem MP.lt {w : World} {b : Nat} {l : MK κ} (h : MP kv w b l) : b < w.heap.size:=Qn h
theorem MP.keep {w V : World} {b : Nat} {l : MK κ} (h : MP kv w b l) (hk : V.heap[b]? = w.heap[b]?) : MP kv V b l:=hk.trans h
theorem MP.made (kv : κ → Value) (w : World) : MP kv (w.alloc (.map #[] 0)) w.heap.size []:=World.alloc_heap_new w _
theorem MP.set {w : World} {b : Nat} {l m : MK κ} (h : MP kv w b l) : MP kv (Zp kv w b m) b m:=by
 unfold MP Zp
 simp [h.lt]
theorem Qh4 {w : World} {b j : Nat} {m : MK κ} (h : j ≠ b) : (Zp kv w b m).heap[j]? = w.heap[j]?:=by
 unfold Zp
 simp [Ne.symm h]
theorem Zu (w : World) (b : Nat) (m : MK κ) : w.grownBy (Zp kv w b m) (some b):=⟨rfl,rfl,rfl,by simp [Zp],fun i _ hne => Qh4 (by rintro rfl;exact hne rfl)⟩
theorem Q7 [DecidableEq κ] (h : KT kt kv ok) {w : World} {b : Nat} {l : MK κ} (hm : MP kv w b l) (hl : LK ok l) {t e : TypeId} {z : Value} (ht : Tryz.prog.underlying t = some (.map kt e)) (hz : (zeroValue e).run Tryz.prog w = .ok z w) {k : κ} (hk : ok k) :
 (Instr.lookup t (.map (some b)) (kv k) false).run Tryz.prog w = .ok ((kget l k).getD z) w ∧ (Instr.lookup t (.map (some b)) (kv k) true).run Tryz.prog w = .ok (.tuple #[(kget l k).getD z,.bool (kget l k).isSome]) w:=by
 have hf:=Qcs h hl hk 0 w
 obtain ⟨lx,hx⟩:=h.lit k hk
 have hc:=fun em => h.K.check w em hx
 have hg:=Go.MapKept.run_getObj_map (P:=Tryz.prog) hm
 unfold Instr.lookup
 unfold kget
 cases hq : Xb k l 0 with
 | none =>
   rw [hq] at hf
   simp [run_underlying ht,hg,hc,hf,hz,Result.andThen]
 | some p =>
   obtain ⟨i,v⟩:=p
   rw [hq] at hf
   simp [run_underlying ht,hg,hc,hf,Result.andThen]
theorem Q4 [DecidableEq κ] (h : KT kt kv ok) {w : World} {b : Nat} {l : MK κ} (hm : MP kv w b l) (hl : LK ok l) {t e : TypeId} (ht : Tryz.prog.underlying t = some (.map kt e)) {k : κ} (hk : ok k) (hn : Xb k l 0 = none) (v : Value) :
 (Instr.mapUpdate t (.map (some b)) (kv k) v).run Tryz.prog w = .ok () (Zp kv w b (l ++ [(k,v)])):=by
 have hf:=Qcs h hl hk 0 w
 obtain ⟨lx,hx⟩:=h.lit k hk
 have hc:=fun em => h.K.check w em hx
 have hg:=Go.MapKept.run_getObj_map (P:=Tryz.prog) hm
 have hs:=fun o => Go.MapKept.run_setObj_map (P:=Tryz.prog) o hm
 unfold Instr.mapUpdate
 unfold Zp
 rw [hn] at hf
 simp [run_underlying ht,hg,hc,hf,hs,Result.andThen,Qhj]
theorem Qhh [DecidableEq κ] {k : κ} : ∀ {l : MK κ} {i : Nat},Xb k l i = none ↔ ∀ p ∈ l,p.1 ≠ k
 | [],_ => by simp [Xb]
 | p :: l,i => by
   by_cases hk : k = p.1
   ·simp [Xb,hk]
   ·simp [Xb,hk,Qhh (l:=l),Ne.symm hk]
theorem LK.nil : LK ok ([] : MK κ):=⟨by simp,by simp⟩
theorem LK.snoc [DecidableEq κ] {l : MK κ} (h : LK ok l) {k : κ} (hk : ok k) (hn : Xb k l 0 = none) (v : Value) : LK ok (l ++ [(k,v)]):=by
 refine ⟨fun p hp => ?_,?_⟩
 ·rcases List.mem_append.1 hp with hp | hp
  ·exact h.ok p hp
  ·simp at hp;subst hp;exact hk
 ·rw [List.map_append,List.nodup_append]
  refine ⟨h.nd,by simp,fun a ha b hb => ?_⟩
  simp at hb
  subst hb
  obtain ⟨p,hp,rfl⟩:=List.mem_map.1 ha
  exact Qhh.1 hn p hp
end
end Go.Proofs.YtiaenhlflgobfaaGreatDoor
namespace Go.Proofs.YtiaenhlflgobfaaGreatDoor
open Go.RowKit Go.Maps
theorem ktT : KT (κ:=T) 9 tv sOk where
 K:=string_keyed Tryz.underlying9
 lit k hk:=by
  have hk' : k.length ≤ 9223372036854775807:=hk
  refine ⟨.string k,?_⟩
  unfold keyOf
  rw [Tryz.underlying9]
  simp [mapKey,ByteArray.size,maxLen,hk']
 inj a b h:=by simpa using h
section
variable {κ : Type} {kt : TypeId} {kv : κ → Value} {ok : κ → Prop}
theorem Qez [DecidableEq κ] {k : κ} {v : Value} {q : Nat} : ∀ {l : MK κ} {i : Nat},Xb k l i = some (q,v) → ∃ j,q = i + j ∧ l[j]? = some (k,v)
 | [],_,h => by cases h
 | p :: l,i,h => by
   rw [Xb] at h
   split at h
   ·rename_i hk
    simp only [Option.some.injEq,Prod.mk.injEq] at h
    obtain ⟨rfl,rfl⟩:=h
    exact ⟨0,by omega,by rw [hk];rfl⟩
   ·obtain ⟨j,h1,h2⟩:=Qez h
    exact ⟨j + 1,by omega,by simpa using h2⟩
theorem Qgl [DecidableEq κ] (h : KT kt kv ok) {w : World} {b : Nat} {l : MK κ} (hm : MP kv w b l) (hl : LK ok l) {t e : TypeId} (ht : Tryz.prog.underlying t = some (.map kt e)) {k : κ} (hk : ok k) {q : Nat} {v : Value} (hn : Xb k l 0 = some (q,v)) (hs2 : ∀ w,(Instr.keyThatStays (kv k) (kv k)).run Tryz.prog w = .ok (kv k) w) :
 (Instr.mapUpdate t (.map (some b)) (kv k) v).run Tryz.prog w = .ok () (Zp kv w b l):=by
 have hf:=Qcs h hl hk 0 w
 obtain ⟨lx,hx⟩:=h.lit k hk
 have hc:=fun em => h.K.check w em hx
 have hg:=Go.MapKept.run_getObj_map (P:=Tryz.prog) hm
 have hs:=fun o => Go.MapKept.run_setObj_map (P:=Tryz.prog) o hm
 obtain ⟨j,rfl,hj⟩:=Qez hn
 have h6 : (Yu kv 0 l)[j]? = some { key:=kv k,val:=v,born:=j }:=by rw [Qbg,hj,Nat.zero_add];rfl
 have h7 : ((Option.map (fun x : MapEntry => x.key) (Yu kv 0 l)[j]?).getD (kv k)) = kv k:=by rw [h6];rfl
 have h8 : ((Yu kv 0 l).modify j fun e => { key:=kv k,val:=v,born:=e.born }) = Yu kv 0 l:=by
  refine List.ext_getElem? (fun i => ?_)
  rw [List.getElem?_modify]
  by_cases hi : j = i
  ·subst hi;rw [h6];simp
  ·simp [hi]
 unfold Instr.mapUpdate
 unfold Zp
 rw [hn] at hf
 simp [run_underlying ht,hg,hc,hf,hs,h7,h8,hs2,Result.andThen]
theorem Qh1 (s : T) (w : World) : (Instr.keyThatStays (tv s) (tv s)).run Tryz.prog w = .ok (tv s) w:=by
 have h : ((⟨s.toArray⟩ : ByteArray) == ⟨s.toArray⟩) = true:=by
  first | exact beq_self_eq_true _ | (show (s.toArray == s.toArray) = true;simp) | (simp [BEq.beq])
 simp [Instr.keyThatStays,Instr.sameBits,h]
end
end Go.Proofs.YtiaenhlflgobfaaGreatDoor

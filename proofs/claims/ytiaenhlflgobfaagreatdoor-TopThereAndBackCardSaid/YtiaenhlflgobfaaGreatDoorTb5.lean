/- Walks and words: Mis, App. -/
import Derived.Test.YtiaenhlflgobfaaGreatDoorTb2
import Derived.Laws.ResultCell
import Derived.Deep.DeepCutAuto
namespace Go.Proofs.YtiaenhlflgobfaaGreatDoor
open Go.RowKit
theorem Ya {P : Program} {fn : Func} {p u : Tmp} {ty : TypeId} {x : Value} (h : fn.results = #[.cell p ty,.tmp u]) (tmps : Array Value) (w : World) (g : Nat) (t : TypeId) (cs : Array Value) (fr : Nat × Nat) (d : TypeDesc)
 (hp : tmps.getD p undef = .pointer (some ⟨g,0,none⟩)) (hx : tmps.getD u undef = x) (hg : w.heap[g]? = some (.cells cs t fr))
 (hu : P.underlying ty = some d) (hd : (match d with | .struct _ | .array _ _ => true | _ => false) = true) (hi : (P.info? ty).map (·.size) = some cs.size) :
 (results fn tmps).run P w = .ok (.tuple #[.agg cs,x]) w:=by
 rw [results_cell_tmp h,hp,hx]
 simp [asAddr,run_loadVar_row w g t ty cs fr d hg hu hd hi,Result.andThen]
end Go.Proofs.YtiaenhlflgobfaaGreatDoor
namespace Go.Proofs.YtiaenhlflgobfaaGreatDoor
open Go.RowKit
structure EL {α : Type} (t e : TypeId) (n : Nat) (cs : α → List Value) : Prop where
 hn : ∀ x,(cs x).length = n
 h1 : ∀ x,∀ u ∈ cs x,u.oneCell' = true
 ht : Tryz.prog.underlying t = some (.slice e)
 hi : ∃ (z : Value) (bytes : Nat),(Tryz.prog.info? e).map (fun i => (i.zero,i.size,i.bytes)) = some (some z,n,bytes) ∧ z.cells.size = n ∧ bytes ≤ 1000
 h0 : 0 < n
section
variable {α : Type} {t e : TypeId} {n : Nat} {cs : α → List Value}
theorem Qmw (E : EL t e n cs) {w : World} {base : Nat} {v : Value} {L : List α} (ty : TypeId) (c : Nat) (h : OR e n cs w base v L) : (Builtin.append_ #[t,t] ty #[v,.slice none 0 c]).run Tryz.prog w = .ok v w:=by
 obtain ⟨z,bytes,hinfo,-,-⟩:=E.hi
 obtain ⟨i0,hi,hz0,hz1,hz2⟩ : ∃ i0,Tryz.prog.info? e = some i0 ∧ i0.zero = some z ∧ i0.size = n ∧ i0.bytes = bytes:=by
  cases hq : Tryz.prog.info? e with
  | none => rw [hq] at hinfo;cases hinfo
  | some i0 => rw [hq] at hinfo;simp at hinfo;exact ⟨i0,rfl,hinfo.1,hinfo.2.1,hinfo.2.2⟩
 rcases h.2 with ⟨rfl,hl⟩ | ⟨g,cap,cur,rfl,hg,hh,hn,-⟩
 ·simp [Builtin.append_,run_underlying E.ht,Go.sizeOf,typeInfo,hi,Builtin.lenOf,Builtin.firstCells]
 ·simp [Builtin.append_,run_underlying E.ht,Go.sizeOf,typeInfo,hi,Builtin.lenOf,Builtin.firstCells,hn,storeCells]
theorem Qgq (E : EL t e n cs) {w : World} {base : Nat} {v : Value} {L : List α} (ty : TypeId) (hown : OR e n cs w base v L) {A : Option Addr} {M : List α} (c : Nat) (hr : RD n cs w A M) (hsz : L.length + M.length ≤ 1000000) (hb : base ≤ w.heap.size) :
 ∃ v' w',(Builtin.append_ #[t,t] ty #[v,.slice A M.length c]).run Tryz.prog w = .ok v' w' ∧ OR e n cs w' base v' (L ++ M) ∧ w.grownBy w' v.ownBlock ∧ (v'.ownBlock = v.ownBlock ∨ v'.ownBlock = some w.heap.size):=by
 by_cases hA : A = none
 ·subst hA
  have hM : M = []:=by
   rcases hr with h | ⟨a,e,_⟩
   ·exact h
   ·cases e
  subst hM
  exact ⟨v,w,Qmw E ty c hown,by simpa using hown,World.grownBy.but (Qc _) _,.inl rfl⟩
 ·obtain ⟨z,bytes,hinfo,hz,hby⟩:=E.hi
  exact Qgp t ty E.hn E.h1 E.ht hinfo hz E.h0 hby hown c hr hA hsz hb
theorem Xq (E : EL t e n cs) {ops : Array Oper} {o : Oper} {a : Act} {w : World} {K : Act → World → Prop} {Q : Exit → Act → World → Prop} {Z : Prop} (hgd : o.guard = none) (s x : Operand)
 (ho : o.op = .call { callee:=.builtin .append,args:=#[s,x],argTypes:=#[t,t] }) (base : Nat) {v : Value} {L : List α} (hs : a.eval s = v) (hown : OR e n cs w base v L)
 {A : Option Addr} {M : List α} {m c : Nat} (hm : M.length = m) (hx : a.eval x = .slice A m c) (hr : RD n cs w A M) (hsz : L.length + M.length ≤ 1000000) (hb : base ≤ w.heap.size)
 (h : ∀ v' w',OR e n cs w' base v' (L ++ M) → w.grownBy w' v.ownBlock → (v'.ownBlock = v.ownBlock ∨ v'.ownBlock = some w.heap.size) → K (a.put o.dst v') w') : if Region.wanted o (yielded ops a.tmps) = true then Oper.wp Tryz.prog o a w K Q else Z:=by
 have hw : Region.wanted o (yielded ops a.tmps) = true:=by simp [Region.wanted,hgd]
 rw [if_pos hw]
 subst hm
 obtain ⟨v',w',hrun,h2,h3,h4⟩:=Qgq E o.type hown c hr hsz hb
 unfold Oper.wp
 simp [execOp,ho,resolve,invoke,builtin,hs,hx,hrun,Result.andThen]
 exact h v' w' h2 h3 h4
theorem Qf (E : EL t e n cs) {w : World} {ops : Array Oper} {rest : List Oper} {o : Oper} {a : Act} {Q : Exit → Act → World → Prop} (hgd : o.guard = none) (s x : Operand)
 (ho : o.op = .call { callee:=.builtin .append,args:=#[s,x],argTypes:=#[t,t] }) (base : Nat) {v : Value} {L : List α} (hs : a.eval s = v) (hown : OR e n cs w base v L)
 {A : Option Addr} {M : List α} {m c : Nat} (hm : M.length = m) (hx : a.eval x = .slice A m c) (hr : RD n cs w A M) (hsz : L.length + M.length ≤ 1000000) (hb : base ≤ w.heap.size)
 (h : ∀ v' w',OR e n cs w' base v' (L ++ M) → w.grownBy w' v.ownBlock → (v'.ownBlock = v.ownBlock ∨ v'.ownBlock = some w.heap.size) → wpList Tryz.prog ops Q rest (a.put o.dst v') w') : wpList Tryz.prog ops Q (o :: rest) a w:=by
 subst hm
 refine wpList_plain hgd fun K hK => ?_
 obtain ⟨v',w',hrun,h2,h3,h4⟩:=Qgq E o.type hown c hr hsz hb
 unfold Oper.wp execOp
 simp only [ho,resolve,invoke,builtin,Sem.run_bind,Sem.run_pure,Result.andThen_ok,List.map_toArray,List.map_cons,List.map_nil,hs,hx,hrun]
 exact hK _ _ (h v' w' h2 h3 h4)
theorem Qjz {V : World} {b base : Nat} (h : V.heap[b]? = some (.cells #[] e (0,0))) (hb : base ≤ b) : OR e n cs V base (.slice (some ⟨b,0,none⟩) 0 0) ([] : List α) :=
 ⟨by simp,.inr ⟨b,0,#[],rfl,hb,h,Nat.le_refl _,by unfold maxLen;omega,by simp,by simp⟩⟩
end
theorem lz2 {w : World} {B : Nat} {o p : Obj} (h : w.heap.size = B) : (((w.alloc o).alloc p).drew).heap[B]? = some o:=by subst h;exact Qe ((Qa _ _).trans (Qb _)) (Qd w o)
theorem scs1 (x : T) : ∀ u ∈ scs x,u.oneCell' = true:=by
 intro u hu
 obtain rfl:=List.mem_singleton.1 hu
 rfl
theorem elE : EL 41 43 6 Ex.cs:=⟨Ex.cs_len,Ex.cell1,Tryz.underlying41,⟨.agg #[iv 0,.string ⟨#[]⟩,.string ⟨#[]⟩,iv 0,iv 0,.slice none 0 0],80,by kernel_rfl,rfl,by decide⟩,by decide⟩
theorem elD : EL 30 45 11 Dec.cs:=⟨Dec.cs_len,Dec.cell1,Tryz.underlying30,⟨.agg #[iv 0,iv 0,.bool false,.slice none 0 0,.bool false,iv 0,.string ⟨#[]⟩,.string ⟨#[]⟩,iv 0,iv 0,.slice none 0 0],136,by kernel_rfl,rfl,by decide⟩,by decide⟩
theorem elM : EL 22 39 3 Mod.cs:=⟨Mod.cs_len,Mod.cell1,Tryz.underlying22,⟨.agg #[.string ⟨#[]⟩,.slice none 0 0,.slice none 0 0],64,by kernel_rfl,rfl,by decide⟩,by decide⟩
theorem elT : EL 25 32 5 Edt.cs:=⟨Edt.cs_len,Edt.cell1,Tryz.underlying25,⟨.agg #[iv 0,.string ⟨#[]⟩,.string ⟨#[]⟩,.slice none 0 0,.slice none 0 0],88,by kernel_rfl,rfl,by decide⟩,by decide⟩
theorem elS : EL 37 9 1 scs:=⟨Yy,scs1,Tryz.underlying37,⟨.string ⟨#[]⟩,16,by kernel_rfl,rfl,by decide⟩,by decide⟩
end Go.Proofs.YtiaenhlflgobfaaGreatDoor

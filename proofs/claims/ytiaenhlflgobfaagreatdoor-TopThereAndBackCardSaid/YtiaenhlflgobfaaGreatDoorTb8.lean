/- Words. -/
import Derived.Test.YtiaenhlflgobfaaGreatDoorTb7
namespace Go.Proofs.YtiaenhlflgobfaaGreatDoor
def kws : List T:=[[99,97,115,101],[99,104,97,110,99,101],[99,111,110,102,108,105,99,116],[101,108,115,101],[102,97,108,115,101],[102,108,97,107,121],[102,117,110],[105,102],[105,110],[108,101,116],[110,105,108],[111,102],[112,117,98],[116,101,115,116],[116,104,101,110],[116,114,117,101],[117,115,101]]
def nmB (s : T) : Bool:=!kws.contains s && (wd s && decide (s.length ≤ 24))
def shp (k : Int) : Option (Int × Int × Int) :=
 if k = 1 ∨ k = 2 then some (0,1,0) else if k = 3 then some (1,0,0) else if k = 4 then some (2,0,0) else if k = 5 then some (1,1,0) else if k = 6 then some (1,0,1)
 else if k = 7 ∨ k = 12 then some (0,0,2) else if k = 8 ∨ k = 10 then some (1,0,2) else if k = 9 ∨ k = 15 then some (0,0,3) else if k = 11 then some (0,0,0) else if k = 13 then some (2,0,3) else if k = 14 then some (0,2,0) else none
def Qdn : List T:=[[43],[45],[42],[61],[60]]
def Xh (e : PE) (n : Int) : Int :=
 let ok:=if e.kind = 5 then decide (e.name = []) || lab e.name else if e.kind = 10 then Qdn.contains e.name else if 1 ≤ n then nmB e.name else true
 if !ok || (decide (n = 2) && !nmB e.more) then 6 else if e.kind = 13 ∧ e.name = e.more then 7 else 0
def Qc4 (e : PE) : Int :=
 let ok:=if e.kind = 1 then decide (-999999999 ≤ e.int) && decide (e.int ≤ 999999999) else if e.kind = 2 then decide (e.int = 0) || decide (e.int = 1) else if e.kind = 5 then decide (1 ≤ e.int) && decide (e.int ≤ 999999)
  else if e.kind = 14 then decide (1 ≤ e.den) && decide (e.den ≤ 999999) && decide (0 ≤ e.int) && decide (e.int ≤ e.den) else true
 if ok then 0 else 2
def ckN (e : PE) : Int :=
 match shp e.kind with
 | none => 9
 | some (n,m,k) =>
   if (n < 1 ∧ e.name ≠ []) ∨ (n < 2 ∧ e.more ≠ []) ∨ (m < 1 ∧ e.int ≠ 0) ∨ (m < 2 ∧ e.den ≠ 0) ∨ (e.sub.length : Int) ≠ k then 1
   else if Xh e n ≠ 0 then Xh e n else Qc4 e
mutual
def PE.pre (d : Nat) : PE → List (Nat × PE)
 | .mk k n m i dn s => (d,.mk k n m i dn s) :: Qbt (d + 1) s
def Qbt (d : Nat) : List PE → List (Nat × PE)
 | [] => []
 | x :: l => x.pre d ++ Qbt d l
end
theorem pre_eq (d : Nat) (x : PE) : x.pre d = (d,x) :: Qbt (d + 1) x.sub:=by cases x;simp [PE.pre,PE.sub]
@[simp] theorem pres_nil (d : Nat) : Qbt d [] = []:=by simp [Qbt]
@[simp] theorem pres_cons (d : Nat) (x : PE) (l : List PE) : Qbt d (x :: l) = x.pre d ++ Qbt d l:=by simp [Qbt]
def fe : List Int → Int
 | [] => 0
 | e :: l => if e = 0 then fe l else e
theorem fe_ok {e : Int} (h : e = 0) (l : List Int) : fe (e :: l) = fe l:=by simp [fe,h]
theorem Qit {e : Int} (h : e ≠ 0) (l : List Int) : fe (e :: l) = e:=by simp [fe,h]
theorem Ql1 (l m : List Int) : fe (l ++ m) = if fe l = 0 then fe m else fe l:=by
 induction l with
 | nil => simp [fe]
 | cons e l ih =>
   by_cases h : e = 0
   ·rw [List.cons_append,fe_ok h,fe_ok h,ih]
   ·rw [List.cons_append,Qit h,Qit h,if_neg h]
theorem Qdd {l : List Int} : fe l = 0 ↔ ∀ e ∈ l,e = 0:=by
 induction l with
 | nil => simp [fe]
 | cons e l ih =>
   simp only [fe,List.mem_cons,forall_eq_or_imp]
   by_cases h : e = 0
   ·rw [if_pos h,ih];simp [h]
   ·rw [if_neg h];simp [h]
def Qdo (e : PE) : Bool:=decide (400 < (e.pre 1).length) || (e.pre 1).any fun p => decide (40 < p.1)
def ckE (e : PE) : Int:=if Qdo e then 4 else fe ((e.pre 1).map fun p => ckN p.2)
def bnd (k : Int) (n m : T) (i : Nat) : List T:=if k = 6 then [n] else if k = 8 ∧ i = 1 then [n] else if k = 13 ∧ i = 2 then [n,m] else []
def addK (K : List T) (n : T) : List T:=if K.contains n then K else K ++ [n]
mutual
def PE.fr (B K : List T) : PE → List T
 | .mk k n m _ _ s => if k = 3 then (if B.contains n then K else addK K n) else frs B k n m 0 K s
def frs (B : List T) (k : Int) (n m : T) (i : Nat) (K : List T) : List PE → List T
 | [] => K
 | x :: l => frs B k n m (i + 1) (x.fr (B ++ bnd k n m i) K) l
end
def ckB (l : T) (e : PE) : Int :=
 if ckE e ≠ 0 then ckE e else if (e.pre 1).any (fun p => decide (p.2.kind = 4)) then 9 else if e.fr [] [] ≠ [] then 21 else if (e.pre 1).any (fun p => decide (p.2.kind = 5) && decide (p.2.name = l)) then 1 else 0
def Qak (ns : List T) : Int :=
 if ns.length ≠ 1 ∧ ns.length ≠ 3 then 1 else if ns.any (fun s => !nmB s && (decide (ns.length = 1) || decide (s ≠ []))) then 6 else 0
def ckD (l : T) (d : PD) : Int :=
 if d.id < 1 ∨ 999999 < d.id then 2 else if d.kind ≠ 1 ∧ d.kind ≠ 2 ∧ d.kind ≠ 3 then 9 else if Qak d.names ≠ 0 then Qak d.names else ckB l d.body
def Qaz (s : T) : T:=(s.reverse.takeWhile (fun c => c != 47)).reverse
def Q9 (l : T) : T:=if lab l then Qaz l else []
def Qcf : Option T → List T → Int
 | _,[] => 0
 | p,u :: us => if !lab u then 6 else if p.any (fun q => !decide (q < u)) then 10 else Qcf (some u) us
def Qae (us : List T) : Int:=if 20 < us.length then 4 else Qcf none us
def Xd (l : T) : List T → List T → Int
 | _,[] => 0
 | P,u :: us => if !nmB (Q9 u) then 6 else if P.any (fun q => decide (Q9 q = Q9 u)) then 7 else if u = l then 23 else Xd l (P ++ [u]) us
def Qd4 (l : T) : Option PD → List PD → Int
 | _,[] => 0
 | p,d :: ds => if ckD l d ≠ 0 then ckD l d else if p.any (fun q => decide (d.id ≤ q.id)) then 10 else Qd4 l (some d) ds
def ckM (m : PM) : Int :=
 if !lab m.label then 6 else if Qae m.uses ≠ 0 then Qae m.uses else if Xd m.label [] m.uses ≠ 0 then Xd m.label [] m.uses else if 100 < m.decls.length then 4 else Qd4 m.label none m.decls
def oks : Oks where
 lab:=lab
 use l u:=nmB (Q9 u) && !decide (u = l)
 names ns:=decide (Qak ns = 0)
 body l e:=decide (ckB l e = 0)
 rest m:=decide (m.uses.length ≤ 20) && decide (m.decls.length ≤ 100) && decide ((m.uses.map Q9).Nodup)
 maxId:=999999
 rest0 _:=by simp
 rest1 _ _:=by simp
 rest2 _ _:=by simp
 namesA:=by decide
 bodyN l:=by
  have h1 : PE.pre 1 nilE = [(1,nilE)]:=by simp [pre_eq,nilE,PE.sub]
  have h2 : ckE nilE = 0:=by
   unfold ckE Qdo
   rw [h1]
   decide
  unfold ckB
  rw [h1,h2]
  simp [nilE,PE.kind,PE.fr,frs]
theorem Qcv : ∀ (us : List T) (p : Option T),Qcf p us = 0 ↔ (∀ u ∈ us,lab u = true) ∧ (∀ q,p = some q → ∀ u ∈ us,q < u) ∧ us.Pairwise (· < ·)
 | [],p => by simp [Qcf]
 | u :: us,p => by
   have ih:=Qcv us (some u)
   unfold Qcf
   cases hl : lab u with
   | false => simp [hl]
   | true =>
     simp only [Bool.not_true,Bool.false_eq_true,if_false]
     cases p with
     | none =>
       simp only [Option.any_none,Bool.false_eq_true,if_false,ih,List.mem_cons,forall_eq_or_imp,hl,true_and,List.pairwise_cons,Option.some.injEq,forall_eq',reduceCtorEq,false_implies,implies_true]
     | some q =>
       simp only [Option.any_some,Bool.not_eq_true',decide_eq_false_iff_not,List.mem_cons,forall_eq_or_imp,hl,true_and,List.pairwise_cons,Option.some.injEq,forall_eq']
       by_cases hq : q < u
       ·rw [if_neg (by simpa using hq),ih]
        simp only [Option.some.injEq,forall_eq',hq,true_and]
        constructor
        ·rintro ⟨a,b,c⟩
         exact ⟨a,fun x hx => Ord.tr _ _ _ hq (b x hx),b,c⟩
        ·rintro ⟨a,-,b,c⟩
         exact ⟨a,b,c⟩
       ·rw [if_pos (by simpa using hq)]
        constructor
        ·intro h;cases h
        ·rintro ⟨-,⟨h,-⟩,-⟩;exact absurd h hq
theorem Qbx (l : T) : ∀ (us P : List T),(P.map Q9).Nodup → (Xd l P us = 0 ↔ (∀ u ∈ us,nmB (Q9 u) = true ∧ u ≠ l) ∧ ((P ++ us).map Q9).Nodup)
 | [],P,hP => by simpa [Xd] using hP
 | u :: us,P,hP => by
   unfold Xd
   cases hn : nmB (Q9 u) with
   | false => simp [hn]
   | true =>
     simp only [Bool.not_true,Bool.false_eq_true,if_false]
     by_cases hd : P.any (fun q => decide (Q9 q = Q9 u)) = true
     ·rw [if_pos hd]
      constructor
      ·intro h;cases h
      ·rintro ⟨-,h⟩
       obtain ⟨q,hq,e⟩:=List.any_eq_true.1 hd
       rw [List.map_append,List.map_cons] at h
       have h3:=(List.nodup_append.1 h).2.2 (Q9 q) (List.mem_map.2 ⟨q,hq,rfl⟩) (Q9 u) (by simp)
       exact absurd (by simpa using e) h3
     ·rw [if_neg hd]
      have hP2 : ((P ++ [u]).map Q9).Nodup:=by
       rw [List.map_append,List.nodup_append]
       refine ⟨hP,by simp,fun a ha b hb e => hd ?_⟩
       obtain ⟨q,hq,rfl⟩:=List.mem_map.1 ha
       rw [List.any_eq_true]
       refine ⟨q,hq,?_⟩
       have hb : b = Q9 u:=by simpa using hb
       rw [← hb,e];simp
      have ih:=Qbx l us (P ++ [u]) hP2
      by_cases hu : u = l
      ·rw [if_pos hu]
       simp [hu]
      ·rw [if_neg hu,ih]
       simp only [List.mem_cons,forall_eq_or_imp,hn,true_and,ne_eq,hu,not_false_eq_true,List.append_assoc,List.cons_append,List.nil_append]
theorem Qcw (l : T) : ∀ (ds : List PD) (p : Option PD),Qd4 l p ds = 0 ↔ (∀ d ∈ ds,ckD l d = 0) ∧ (∀ q,p = some q → ∀ d ∈ ds,q.id < d.id) ∧ Asc PD.id ds
 | [],p => by simp [Qd4]
 | d :: ds,p => by
   have ih:=Qcw l ds (some d)
   unfold Qd4
   by_cases hd : ckD l d = 0
   ·rw [if_neg (by simp [hd])]
    cases p with
    | none =>
      simp only [Option.any_none,Bool.false_eq_true,if_false,ih,List.mem_cons,forall_eq_or_imp,hd,true_and,List.pairwise_cons,Option.some.injEq,forall_eq',reduceCtorEq,false_implies,implies_true]
    | some q =>
      simp only [Option.any_some,decide_eq_true_eq,List.mem_cons,forall_eq_or_imp,hd,true_and,List.pairwise_cons,Option.some.injEq,forall_eq']
      by_cases hq : q.id < d.id
      ·rw [if_neg (by omega),ih]
       simp only [Option.some.injEq,forall_eq',hq,true_and]
       constructor
       ·rintro ⟨a,b,c⟩
        exact ⟨a,fun x hx => Int.lt_trans hq (b x hx),b,c⟩
       ·rintro ⟨a,-,b,c⟩
        exact ⟨a,b,c⟩
      ·rw [if_pos (by omega)]
       constructor
       ·intro h;cases h
       ·rintro ⟨-,⟨h,-⟩,-⟩;exact absurd h hq
   ·rw [if_pos hd]
    simp [hd]
theorem Qhu (l : T) (d : PD) : ckD l d = 0 ↔ oks.Decl l d:=by
 unfold ckD
 constructor
 ·intro h
  split at h
  ·cases h
  split at h
  ·cases h
  split at h
  ·contradiction
  rename_i h1 h2 h3
  exact ⟨by omega,by show d.id ≤ 999999;omega,by omega,by simpa [oks] using h3,by simpa [oks] using h⟩
 ·rintro ⟨h1,h2,h3,h4,h5⟩
  have h2 : d.id ≤ 999999:=h2
  have h4 : Qak d.names = 0:=by simpa [oks] using h4
  have h5 : ckB l d.body = 0:=by simpa [oks] using h5
  rw [if_neg (by omega),if_neg (by omega),if_neg (by simp [h4]),h5]
theorem Qcg (m : PM) : ckM m = 0 ↔ oks.Mod m:=by
 unfold ckM
 constructor
 ·intro h
  cases hl : lab m.label with
  | false => rw [hl] at h;simp at h
  | true =>
    rw [hl] at h
    simp only [Bool.not_true,Bool.false_eq_true,if_false] at h
    split at h
    ·contradiction
    split at h
    ·contradiction
    split at h
    ·cases h
    rename_i h1 h2 h3
    have h1 : Qae m.uses = 0:=by simpa using h1
    have h2 : Xd m.label [] m.uses = 0:=by simpa using h2
    unfold Qae at h1
    split at h1
    ·cases h1
    rename_i h4
    obtain ⟨a1,-,a2⟩:=(Qcv _ _).1 h1
    obtain ⟨b1,b2⟩:=(Qbx m.label m.uses [] (by simp)).1 h2
    obtain ⟨c1,-,c2⟩:=(Qcw m.label m.decls none).1 h
    exact ⟨hl,fun u hu => ⟨a1 u hu,by simpa [oks] using b1 u hu⟩,a2,fun d hd => (Qhu _ _).1 (c1 d hd),c2,by
     have e1 : m.uses.length ≤ 20:=by omega
     have e2 : m.decls.length ≤ 100:=by omega
     simpa [oks,e1,e2] using b2⟩
 ·rintro ⟨h1,h2,h3,h4,h5,h6⟩
  have h6 : (m.uses.length ≤ 20 ∧ m.decls.length ≤ 100) ∧ (m.uses.map Q9).Nodup:=by simpa [oks] using h6
  have e1 : Qae m.uses = 0:=by
   unfold Qae
   rw [if_neg (by omega)]
   exact (Qcv _ _).2 ⟨fun u hu => (h2 u hu).1,by simp,h3⟩
  have e2 : Xd m.label [] m.uses = 0:=(Qbx m.label m.uses [] (by simp)).2 ⟨fun u hu => by have:=(h2 u hu).2;simpa [oks] using this,by simpa using h6.2⟩
  have h1 : lab m.label = true:=h1
  rw [h1,e1,e2]
  simp only [Bool.not_true,Bool.false_eq_true,if_false,ne_eq,not_true_eq_false]
  rw [if_neg (by omega)]
  exact (Qcw _ _ _).2 ⟨fun d hd => (Qhu _ _).2 (h4 d hd),by simp,h5⟩
end Go.Proofs.YtiaenhlflgobfaaGreatDoor

/- Walks and words: TpB, TpC. -/
import Derived.Test.YtiaenhlflgobfaaGreatDoorTb1
namespace Go.Proofs.YtiaenhlflgobfaaGreatDoor
def nilE : PE:=.mk 11 [] [] 0 0 []
structure Oks where
 lab : T → Bool
 use : T → T → Bool
 names : List T → Bool
 body : T → PE → Bool
 rest : PM → Bool
 maxId : Int
 rest0 : ∀ l,rest ⟨l,[],[]⟩ = true
 rest1 : ∀ l u,rest ⟨l,[u],[]⟩ = true
 rest2 : ∀ l d,rest ⟨l,[],[d]⟩ = true
 namesA : names [[97]] = true
 bodyN : ∀ l,body l nilE = true
structure Oks.Decl (O : Oks) (l : T) (d : PD) : Prop where
 id0 : 1 ≤ d.id
 id1 : d.id ≤ O.maxId
 kind : d.kind = 1 ∨ d.kind = 2 ∨ d.kind = 3
 names : O.names d.names = true
 body : O.body l d.body = true
structure Oks.Mod (O : Oks) (m : PM) : Prop where
 lab : O.lab m.label = true
 uses : ∀ u ∈ m.uses,O.lab u = true ∧ O.use m.label u = true
 uasc : m.uses.Pairwise (· < ·)
 decls : ∀ d ∈ m.decls,O.Decl m.label d
 dasc : Asc PD.id m.decls
 rest : O.rest m = true
structure Oks.Mods (O : Oks) (l : List PM) : Prop where
 asc : Asc PM.label l
 mods : ∀ m ∈ l,O.Mod m
def Qs (k : Int) (d : PD) : PD :=
 if k = 7 then ⟨d.id,0,false,d.names,false,zE⟩ else if k = 8 then ⟨d.id,0,false,[],false,d.body⟩ else if k = 9 then ⟨d.id,d.kind,d.pub,[],d.doubt,zE⟩ else d
def Ql (k : Int) (d : PD) : PD :=
 ⟨d.id,if k = 7 ∨ k = 8 then 1 else d.kind,d.pub,if k = 8 ∨ k = 9 then [[97]] else d.names,d.doubt,if k = 7 ∨ k = 9 then nilE else d.body⟩
def Zh (e : PT) : List PM :=
 if e.kind = 1 ∨ e.kind = 2 then [⟨e.pack,[],[]⟩] else if e.kind = 3 ∨ e.kind = 4 then [⟨e.pack,[e.text],[]⟩]
 else (e.old ++ e.new).map fun d => ⟨e.pack,[],[Ql e.kind d]⟩
def Xu (e : PT) : Bool :=
 match e.old,e.new with
 | o :: _,n :: _ => decide (o = Qs e.kind o) && decide (n = Qs e.kind n) && decide (o.id = n.id) && !decide (o = n)
 | _,_ => false
def fits (e : PT) : Bool :=
 decide (e.old.length = if e.kind = 6 ∨ 7 ≤ e.kind then 1 else 0) && decide (e.new.length = if e.kind = 5 ∨ 7 ≤ e.kind then 1 else 0) && (decide (e.text = []) || decide (e.kind = 3) || decide (e.kind = 4)) && (decide (e.kind < 7) || Xu e)
structure Oks.Edit (O : Oks) (e : PT) : Prop where
 k0 : 1 ≤ e.kind
 k1 : e.kind ≤ 9
 fit : fits e = true
 ts : ∀ m ∈ Zh e,O.Mod m
def upd (k : Int) (d n : PD) : PD :=
 if k = 7 then { d with names:=n.names } else if k = 8 then { d with body:=n.body } else { d with kind:=n.kind,pub:=n.pub,doubt:=n.doubt }
def Qz (m : PM) (e : PT) : Option PM :=
 if e.kind = 3 then (if Zd id m.uses e.text then none else some { m with uses:=Zt id m.uses e.text })
 else if e.kind = 4 then (if Zd id m.uses e.text then some { m with uses:=Yo id m.uses e.text } else none)
 else if e.kind = 5 then (match e.new with
  | n :: _ => if Zd PD.id m.decls n.id then none else some { m with decls:=Zt PD.id m.decls n }
  | [] => none)
 else (match e.old with
  | o :: _ => (match m.decls[pos PD.id m.decls o.id]? with
    | some d => if d.id = o.id then (if Qs e.kind d = o then (if e.kind = 6 then some { m with decls:=Yo PD.id m.decls o.id } else (match e.new with
       | n :: _ => some { m with decls:=m.decls.set (pos PD.id m.decls o.id) (upd e.kind d n) }
       | [] => none)) else none) else none
    | none => none)
  | [] => none)
def Zn (l : List PM) (e : PT) : Option (List PM) :=
 if e.kind = 1 then (if Zd PM.label l e.pack then none else some (Zt PM.label l ⟨e.pack,[],[]⟩))
 else match l[pos PM.label l e.pack]? with
  | some m => if m.label = e.pack then (if e.kind = 2 then (if m.uses = [] ∧ m.decls = [] then some (Yo PM.label l e.pack) else none) else (Qz m e).map fun m' => l.set (pos PM.label l e.pack) m') else none
  | none => none
def Zc : List PM → List PT → Option (List PM)
 | l,[] => some l
 | l,e :: es => (Zn l e).bind fun l' => Zc l' es
def opp (k : Int) : Int:=if k = 1 ∨ k = 3 ∨ k = 5 then k + 1 else if k = 2 ∨ k = 4 ∨ k = 6 then k - 1 else k
def X4 (e : PT) : PT:={ e with kind:=opp e.kind,old:=e.new,new:=e.old }
def inv (l : List PT) : List PT:=(l.map X4).reverse
theorem Zz (es fs : List PT) : ∀ l,Zc l (es ++ fs) = (Zc l es).bind fun l' => Zc l' fs:=by
 induction es with
 | nil => intro l;rfl
 | cons e es ih =>
   intro l
   simp only [List.cons_append,Zc]
   cases Zn l e with
   | none => rfl
   | some l' => exact ih l'
structure St (l : List PM) : Prop where
 asc : Asc PM.label l
 us : ∀ m ∈ l,m.uses.Pairwise (· < ·)
 ds : ∀ m ∈ l,Asc PD.id m.decls
theorem Oks.Mods.st {O : Oks} {l : List PM} (h : O.Mods l) : St l:=⟨h.asc,fun m hm => (h.mods m hm).uasc,fun m hm => (h.mods m hm).dasc⟩
theorem Qam {α : Type} (pre : List α) (x : α) (post : List α) : (pre ++ x :: post)[pre.length]? = some x:=by simp
theorem set_mid {α : Type} (pre : List α) (x y : α) (post : List α) : (pre ++ x :: post).set pre.length y = pre ++ y :: post:=by simp
theorem Qbz {pre post : List PM} {m : PM} {e : PT} (h : Asc PM.label (pre ++ m :: post)) (hm : m.label = e.pack) (h1 : e.kind ≠ 1) (h2 : e.kind ≠ 2) : Zn (pre ++ m :: post) e = (Qz m e).map fun m' => pre ++ m' :: post:=by
 unfold Zn
 rw [if_neg h1,← hm,Q5 h,Qam]
 simp only [if_neg h2,set_mid]
 simp
theorem Zv {e : PT} (h : fits e = true) : (e.old.length = if e.kind = 6 ∨ 7 ≤ e.kind then 1 else 0) ∧ (e.new.length = if e.kind = 5 ∨ 7 ≤ e.kind then 1 else 0) ∧ (e.text = [] ∨ e.kind = 3 ∨ e.kind = 4) ∧ (e.kind < 7 ∨ Xu e = true):=by
 unfold fits at h
 simpa [and_assoc,or_assoc] using h
theorem X0 {e : PT} (h1 : e.old.length = if e.kind = 6 ∨ 7 ≤ e.kind then 1 else 0) (h2 : e.new.length = if e.kind = 5 ∨ 7 ≤ e.kind then 1 else 0) (h3 : e.text = [] ∨ e.kind = 3 ∨ e.kind = 4) (h4 : e.kind < 7 ∨ Xu e = true) : fits e = true:=by
 unfold fits
 simp [h1,h2,or_assoc,h3,h4]
theorem X2 {α : Type} {l : List α} (h : l.length = 1) : ∃ x,l = [x]:=by
 match l,h with
 | [x],_ => exact ⟨x,rfl⟩
theorem Qad {e : PT} (h : fits e = true) (hk : 7 ≤ e.kind) : ∃ o n,e.old = [o] ∧ e.new = [n] ∧ o = Qs e.kind o ∧ n = Qs e.kind n ∧ o.id = n.id ∧ o ≠ n:=by
 obtain ⟨h1,h2,-,h4⟩:=Zv h
 rw [if_pos (Or.inr hk)] at h1 h2
 obtain ⟨o,ho⟩:=X2 h1
 obtain ⟨n,hn⟩:=X2 h2
 have h5 : Xu e = true:=by
  rcases h4 with h4 | h4
  ·omega
  ·exact h4
 unfold Xu at h5
 rw [ho,hn] at h5
 simp only [Bool.and_eq_true,decide_eq_true_eq,Bool.not_eq_true',decide_eq_false_iff_not] at h5
 exact ⟨o,n,ho,hn,h5.1.1.1,h5.1.1.2,h5.1.2,h5.2⟩
theorem Oks.Edit.inv {O : Oks} {e : PT} (h : O.Edit e) : O.Edit (X4 e):=by
 obtain ⟨k0,k1,fit,ts⟩:=h
 obtain ⟨kind,pack,text,old,new⟩:=e
 simp only at k0 k1
 obtain ⟨h1,h2,h3,-⟩:=Zv fit
 simp only at h1 h2 h3
 by_cases hk : 7 ≤ kind
 case neg =>
  have h3' : text = [] ∨ opp kind = 3 ∨ opp kind = 4:=by
   rcases h3 with h3 | rfl | rfl
   ·exact .inl h3
   ·exact .inr (.inr rfl)
   ·exact .inr (.inl rfl)
  have hc : kind = 1 ∨ kind = 2 ∨ kind = 3 ∨ kind = 4 ∨ kind = 5 ∨ kind = 6:=by omega
  have key : (1 ≤ opp kind ∧ opp kind < 7) ∧ (new.length = if opp kind = 6 ∨ 7 ≤ opp kind then 1 else 0) ∧ (old.length = if opp kind = 5 ∨ 7 ≤ opp kind then 1 else 0):=by
   rcases hc with rfl | rfl | rfl | rfl | rfl | rfl <;> exact ⟨⟨by decide,by decide⟩,by simpa [opp] using h2,by simpa [opp] using h1⟩
  obtain ⟨⟨q0,q1⟩,q2,q3⟩:=key
  refine ⟨q0,by show opp kind ≤ 9;omega,X0 q2 q3 h3' (.inl q1),?_⟩
  rcases hc with rfl | rfl | rfl | rfl | rfl | rfl
  ·exact ts
  ·exact ts
  ·exact ts
  ·exact ts
  ·intro m hm
   refine ts m ?_
   obtain rfl : old = []:=List.eq_nil_of_length_eq_zero (by simpa using h1)
   simpa [X4,Zh,opp,Ql] using hm
  ·intro m hm
   refine ts m ?_
   obtain rfl : new = []:=List.eq_nil_of_length_eq_zero (by simpa using h2)
   simpa [X4,Zh,opp,Ql] using hm
 obtain ⟨o,n,ho,hn,e1,e2,e3,e4⟩:=Qad fit hk
 simp only at ho hn e1 e2 e3 e4
 subst ho hn
 have ek : opp kind = kind:=by unfold opp;rw [if_neg (by omega),if_neg (by omega)]
 refine ⟨by simp [X4,ek];omega,by simp [X4,ek];omega,X0 (by simp [X4,ek,hk]) (by simp [X4,ek,hk]) (by simpa [X4,ek] using h3) (.inr ?_),?_⟩
 ·unfold Xu X4
  simp only [ek,Bool.and_eq_true,decide_eq_true_eq,Bool.not_eq_true',decide_eq_false_iff_not]
  exact ⟨⟨⟨e2,e1⟩,e3.symm⟩,fun h => e4 h.symm⟩
 ·intro m hm
  refine ts m ?_
  unfold Zh X4 at hm
  unfold Zh
  simp only [ek] at hm
  rw [if_neg (by omega),if_neg (by omega)] at hm
  simp only [if_neg (show ¬ (kind = 1 ∨ kind = 2) by omega),if_neg (show ¬ (kind = 3 ∨ kind = 4) by omega)]
  simp only [List.map_append,List.mem_append] at hm ⊢
  exact hm.symm
end Go.Proofs.YtiaenhlflgobfaaGreatDoor
namespace Go.Proofs.YtiaenhlflgobfaaGreatDoor
theorem Qj4 (d : PD) : Qs 6 d = d:=by simp [Qs]
theorem Qbq (k : Int) (d n : PD) : (upd k d n).id = d.id:=by
 unfold upd
 split
 ·rfl
 ·split <;> rfl
theorem Qmq {k : Int} {d o n : PD} (h0 : 7 ≤ k) (h1 : k ≤ 9) (h2 : Qs k d = o) (h3 : n = Qs k n) (h4 : o.id = n.id) : Qs k (upd k d n) = n ∧ upd k (upd k d n) o = d:=by
 have hk : k = 7 ∨ k = 8 ∨ k = 9:=by omega
 have hd : d.id = n.id:=by
  rw [← h4,← h2]
  rcases hk with rfl | rfl | rfl <;> rfl
 rcases hk with rfl | rfl | rfl
 ·subst h2
  rw [h3]
  exact ⟨by simp [Qs,upd,hd],by simp [Qs,upd]⟩
 ·subst h2
  rw [h3]
  exact ⟨by simp [Qs,upd,hd],by simp [Qs,upd]⟩
 ·subst h2
  rw [h3]
  exact ⟨by simp [Qs,upd,hd],by simp [Qs,upd]⟩
section
variable {α κ : Type} [LT κ] [DecidableRel (fun a b : κ => a < b)] [DecidableEq κ] [Ord κ] {key : α → κ}
theorem Qbd {l : List α} {p : κ} {x : α} (h : Asc key l) (hx : l[pos key l p]? = some x) (e : key x = p) : ∃ pre post,l = pre ++ x :: post ∧ pos key l p = pre.length:=by
 rcases Qbi l p h with ⟨pre,y,post,rfl,rfl⟩ | ⟨pre,post,rfl,h1,h2⟩
 ·have h1:=Q5 h
  rw [h1,Qam] at hx
  cases hx
  exact ⟨pre,post,rfl,h1⟩
 ·have:=Yi h1 h2
  unfold Zd at this
  rw [hx] at this
  simp [e] at this
theorem Qfw {l : List α} {p : κ} (h : Asc key l) (hn : Zd key l p = false) : ∃ pre post,l = pre ++ post ∧ (∀ x ∈ pre,key x < p) ∧ ∀ x ∈ post,p < key x:=by
 rcases Qbi l p h with ⟨pre,y,post,rfl,rfl⟩ | h
 ·rw [Zi h] at hn
  cases hn
 ·exact h
theorem mid_of {l : List α} {p : κ} (h : Asc key l) (hn : Zd key l p = true) : ∃ pre x post,l = pre ++ x :: post ∧ key x = p:=by
 rcases Qbi l p h with h | ⟨pre,post,rfl,h1,h2⟩
 ·exact h
 ·rw [Yi h1 h2] at hn
  cases hn
end
section
variable {α κ : Type} [LT κ] {key : α → κ}
theorem Qay {pre post : List α} {x : α} (h : Asc key (pre ++ x :: post)) : (∀ y ∈ pre,key y < key x) ∧ ∀ y ∈ post,key x < key y:=by
 obtain ⟨_,h2,h3⟩:=List.pairwise_append.1 h
 exact ⟨fun y hy => h3 y hy x (by simp),(List.pairwise_cons.1 h2).1⟩
end
theorem Qjl {m m' : PM} {e : PT} (hf : fits e = true) (k0 : 3 ≤ e.kind) (k1 : e.kind ≤ 9) (hu : m.uses.Pairwise (· < ·)) (hd : Asc PD.id m.decls) (h : Qz m e = some m') :
 m'.label = m.label ∧ m'.uses.Pairwise (· < ·) ∧ Asc PD.id m'.decls ∧ Qz m' (X4 e) = some m:=by
 obtain ⟨kind,pack,text,old,new⟩:=e
 obtain ⟨label,uses,decls⟩:=m
 simp only at k0 k1 hu hd
 obtain ⟨l1,l2,-,-⟩:=Zv hf
 simp only at l1 l2
 have hu' : Asc (id : T → T) uses:=hu
 by_cases hk : 7 ≤ kind
 ·obtain ⟨o,n,ho,hn,e1,e2,e3,e4⟩:=Qad hf hk
  simp only at ho hn e1 e2 e3 e4
  subst ho hn
  have ek : opp kind = kind:=by unfold opp;rw [if_neg (by omega),if_neg (by omega)]
  unfold Qz at h
  simp only [if_neg (show ¬ kind = 3 by omega),if_neg (show ¬ kind = 4 by omega),if_neg (show ¬ kind = 5 by omega),if_neg (show ¬ kind = 6 by omega)] at h
  cases hx : decls[pos PD.id decls o.id]? with
  | none => rw [hx] at h;cases h
  | some d =>
    rw [hx] at h
    simp only at h
    split at h
    case isFalse => cases h
    rename_i hid
    split at h
    case isFalse => cases h
    rename_i hm
    obtain ⟨pre,post,rfl,hp⟩:=Qbd hd hx hid
    rw [hp,set_mid] at h
    cases Option.some.inj h
    obtain ⟨b1,b2⟩:=Qmq hk k1 hm e2 e3
    have hi : (upd kind d n).id = n.id:=by rw [Qbq,hid,e3]
    have ha : Asc PD.id (pre ++ upd kind d n :: post):=Qan hd (Qbq _ _ _)
    refine ⟨rfl,hu,ha,?_⟩
    unfold Qz X4
    simp only [ek,if_neg (show ¬ kind = 3 by omega),if_neg (show ¬ kind = 4 by omega),if_neg (show ¬ kind = 5 by omega),if_neg (show ¬ kind = 6 by omega)]
    have hp2:=Q5 ha
    rw [hi] at hp2
    rw [hp2,Qam]
    simp only [hi,b1,if_true,set_mid,b2]
 ·have hc : kind = 3 ∨ kind = 4 ∨ kind = 5 ∨ kind = 6:=by omega
  rcases hc with rfl | rfl | rfl | rfl
  ·unfold Qz at h
   simp only [if_true] at h
   split at h
   case isTrue => cases h
   rename_i hh
   cases Option.some.inj h
   obtain ⟨pre,post,rfl,g1,g2⟩:=Qfw hu' (by simpa using hh)
   have hi : Zt id (pre ++ post) text = pre ++ text :: post:=Z8 g1 g2
   have ha : Asc (id : T → T) (pre ++ text :: post):=Qbh hu' g1 g2
   simp only [hi]
   refine ⟨trivial,ha,hd,?_⟩
   have t1:=Zi ha
   have t2:=Z9 ha
   simp only [id] at t1 t2
   unfold Qz X4
   simp [opp,t1,t2]
  ·unfold Qz at h
   simp only [if_true] at h
   rw [if_neg (by decide)] at h
   split at h
   case isFalse => cases h
   rename_i hh
   cases Option.some.inj h
   obtain ⟨pre,x,post,rfl,rfl⟩:=mid_of hu' hh
   have t2:=Z9 hu'
   simp only [id] at t2 ⊢
   rw [t2]
   refine ⟨trivial,Qao hu',hd,?_⟩
   obtain ⟨g1,g2⟩:=Qay hu'
   have t1:=Yi (key:=(id : T → T)) g1 g2
   have t3:=Z8 (key:=(id : T → T)) g1 g2
   simp only [id] at t1 t3
   unfold Qz X4
   simp [opp,t1,t3]
  ·simp at l1 l2
   subst l1
   obtain ⟨n,rfl⟩:=X2 l2
   unfold Qz at h
   simp only [if_neg (show ¬ (5 : Int) = 3 by omega),if_neg (show ¬ (5 : Int) = 4 by omega),if_true] at h
   split at h
   case isTrue => cases h
   rename_i hh
   cases Option.some.inj h
   obtain ⟨pre,post,rfl,g1,g2⟩:=Qfw hd (by simpa using hh)
   have hi : Zt PD.id (pre ++ post) n = pre ++ n :: post:=Z8 g1 g2
   have ha : Asc PD.id (pre ++ n :: post):=Qbh hd g1 g2
   simp only [hi]
   refine ⟨trivial,hu,ha,?_⟩
   unfold Qz X4
   simp only [show opp 5 = 6 from rfl,if_neg (show ¬ (6 : Int) = 3 by omega),if_neg (show ¬ (6 : Int) = 4 by omega),if_neg (show ¬ (6 : Int) = 5 by omega),if_true]
   rw [Q5 ha,Qam]
   simp only [Qj4,if_true]
   rw [Z9 ha]
  ·simp at l1 l2
   subst l2
   obtain ⟨o,rfl⟩:=X2 l1
   unfold Qz at h
   simp only [if_neg (show ¬ (6 : Int) = 3 by omega),if_neg (show ¬ (6 : Int) = 4 by omega),if_neg (show ¬ (6 : Int) = 5 by omega),if_true] at h
   cases hx : decls[pos PD.id decls o.id]? with
   | none => rw [hx] at h;cases h
   | some d =>
     rw [hx] at h
     simp only [Qj4] at h
     split at h
     case isFalse => cases h
     rename_i hid
     by_cases hm : d = o
     case neg => rw [if_neg hm] at h;cases h
     rw [if_pos hm] at h
     subst hm
     obtain ⟨pre,post,rfl,hp⟩:=Qbd hd hx hid
     rw [Z9 hd] at h
     cases Option.some.inj h
     refine ⟨rfl,hu,Qao hd,?_⟩
     obtain ⟨g1,g2⟩:=Qay hd
     have t1:=Yi (key:=PD.id) g1 g2
     have t3:=Z8 (key:=PD.id) g1 g2
     unfold Qz X4
     simp [show opp 6 = 5 from rfl,t1,t3]
theorem Qea {O : Oks} {l l' : List PM} {e : PT} (he : O.Edit e) (hl : St l) (h : Zn l e = some l') : St l' ∧ Zn l' (X4 e) = some l:=by
 obtain ⟨k0,k1,hf,-⟩:=he
 by_cases h1 : e.kind = 1
 ·unfold Zn at h
  rw [if_pos h1] at h
  split at h
  case isTrue => cases h
  rename_i hh
  cases Option.some.inj h
  obtain ⟨pre,post,rfl,g1,g2⟩:=Qfw hl.asc (by simpa using hh)
  have hi : Zt PM.label (pre ++ post) ⟨e.pack,[],[]⟩ = pre ++ ⟨e.pack,[],[]⟩ :: post:=Z8 g1 g2
  have ha : Asc PM.label (pre ++ (⟨e.pack,[],[]⟩ : PM) :: post):=Qbh hl.asc g1 g2
  rw [hi]
  have hm : ∀ m ∈ pre ++ (⟨e.pack,[],[]⟩ : PM) :: post,m ∈ pre ++ post ∨ m = ⟨e.pack,[],[]⟩:=by
   intro m hm
   simp only [List.mem_append,List.mem_cons] at hm ⊢
   rcases hm with h | h | h
   ·exact .inl (.inl h)
   ·exact .inr h
   ·exact .inl (.inr h)
  refine ⟨⟨ha,fun m h => ?_,fun m h => ?_⟩,?_⟩
  ·rcases hm m h with h | rfl
   ·exact hl.us m h
   ·exact List.Pairwise.nil
  ·rcases hm m h with h | rfl
   ·exact hl.ds m h
   ·exact List.Pairwise.nil
  have hp:=Q5 ha
  simp only at hp
  unfold Zn X4
  simp only [h1,show opp 1 = 2 from rfl,if_neg (show ¬ (2 : Int) = 1 by omega)]
  rw [hp,Qam]
  have t:=Z9 ha
  simp only at t
  simp [t]
 by_cases h2 : e.kind = 2
 ·unfold Zn at h
  rw [if_neg h1] at h
  cases hx : l[pos PM.label l e.pack]? with
  | none => rw [hx] at h;cases h
  | some m =>
    rw [hx] at h
    simp only [h2,if_true] at h
    split at h
    case isFalse => cases h
    rename_i hm
    split at h
    case isFalse => cases h
    rename_i hz
    obtain ⟨pre,post,rfl,hp⟩:=Qbd hl.asc hx hm
    rw [← hm,Z9 hl.asc] at h
    cases Option.some.inj h
    have hz' : m = ⟨e.pack,[],[]⟩:=by
     obtain ⟨a,b,c⟩:=m
     simp only at hz hm
     rw [hz.1,hz.2,hm]
    obtain ⟨g1,g2⟩:=Qay hl.asc
    have sub : ∀ x ∈ pre ++ post,x ∈ pre ++ m :: post:=by
     intro x hx
     simp only [List.mem_append,List.mem_cons] at hx ⊢
     rcases hx with h | h
     ·exact .inl h
     ·exact .inr (.inr h)
    refine ⟨⟨Qao hl.asc,fun x h => hl.us x (sub x h),fun x h => hl.ds x (sub x h)⟩,?_⟩
    unfold Zn X4
    simp only [h2,show opp 2 = 1 from rfl,if_true]
    have t1:=Yi (key:=PM.label) g1 g2
    have t3:=Z8 (key:=PM.label) g1 g2
    rw [hm] at t1
    rw [hz'] at t3
    rw [hz']
    simp [t1,t3]
 ·cases hx : l[pos PM.label l e.pack]? with
  | none =>
    unfold Zn at h
    rw [if_neg h1,hx] at h
    cases h
  | some m =>
    by_cases hm : m.label = e.pack
    ·obtain ⟨pre,post,rfl,hp⟩:=Qbd hl.asc hx hm
     rw [Qbz hl.asc hm h1 h2] at h
     cases hq : Qz m e with
     | none => rw [hq] at h;cases h
     | some m' =>
       rw [hq] at h
       cases Option.some.inj h
       obtain ⟨q1,q2,q3,q4⟩:=Qjl hf (by omega) k1 (hl.us m (by simp)) (hl.ds m (by simp)) hq
       have ha : Asc PM.label (pre ++ m' :: post):=Qan hl.asc q1
       have cs : ∀ x ∈ pre ++ m' :: post,x ∈ pre ++ m :: post ∨ x = m':=by
        intro x hx
        simp only [List.mem_append,List.mem_cons] at hx ⊢
        rcases hx with h | h | h
        ·exact .inl (.inl h)
        ·exact .inr h
        ·exact .inl (.inr (.inr h))
       refine ⟨⟨ha,fun x h => ?_,fun x h => ?_⟩,?_⟩
       ·rcases cs x h with h | rfl
        ·exact hl.us x h
        ·exact q2
       ·rcases cs x h with h | rfl
        ·exact hl.ds x h
        ·exact q3
       have ok : opp e.kind ≠ 1 ∧ opp e.kind ≠ 2:=by
        have : e.kind = 3 ∨ e.kind = 4 ∨ e.kind = 5 ∨ e.kind = 6 ∨ 7 ≤ e.kind:=by omega
        rcases this with h | h | h | h | h
        ·rw [h];decide
        ·rw [h];decide
        ·rw [h];decide
        ·rw [h];decide
        ·unfold opp
         rw [if_neg (by omega),if_neg (by omega)]
         exact ⟨h1,h2⟩
       rw [Qbz ha (by rw [q1,hm];rfl) ok.1 ok.2,q4]
       rfl
    ·unfold Zn at h
     rw [if_neg h1,hx] at h
     simp only [if_neg hm] at h
     cases h
theorem Qd9 {O : Oks} : ∀ (es : List PT) (l l' : List PM),(∀ e ∈ es,O.Edit e) → St l → Zc l es = some l' → St l' ∧ Zc l' (inv es) = some l
 | [],l,l',_,hl,h => by
   cases Option.some.inj h
   exact ⟨hl,rfl⟩
 | e :: es,l,l',he,hl,h => by
   unfold Zc at h
   cases hq : Zn l e with
   | none => rw [hq] at h;cases h
   | some l1 =>
     rw [hq] at h
     obtain ⟨s1,b1⟩:=Qea (he e (by simp)) hl hq
     obtain ⟨s2,b2⟩:=Qd9 es l1 l' (fun x hx => he x (by simp [hx])) s1 h
     refine ⟨s2,?_⟩
     have e0 : inv (e :: es) = inv es ++ [X4 e]:=by simp [inv]
     rw [e0,Zz,b2]
     simp only [Option.bind_some,Zc,b1]
end Go.Proofs.YtiaenhlflgobfaaGreatDoor

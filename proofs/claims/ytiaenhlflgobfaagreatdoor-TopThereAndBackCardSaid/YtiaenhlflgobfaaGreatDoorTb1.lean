/- Words. -/
namespace Go.Proofs.YtiaenhlflgobfaaGreatDoor
abbrev T:=List UInt8
inductive PE where
 | mk (kind : Int) (name more : T) (int den : Int) (sub : List PE)
def PE.kind : PE → Int | .mk k _ _ _ _ _ => k
def PE.name : PE → T | .mk _ n _ _ _ _ => n
def PE.more : PE → T | .mk _ _ m _ _ _ => m
def PE.int : PE → Int | .mk _ _ _ i _ _ => i
def PE.den : PE → Int | .mk _ _ _ _ d _ => d
def PE.sub : PE → List PE | .mk _ _ _ _ _ l => l
mutual
def PE.eq : PE → PE → Bool
 | .mk k n m i d l,.mk k' n' m' i' d' l' => decide (k = k') && decide (n = n') && decide (m = m') && decide (i = i') && decide (d = d') && eqs l l'
def eqs : List PE → List PE → Bool
 | [],[] => true
 | x :: l,y :: l' => x.eq y && eqs l l'
 | [],_ :: _ => false
 | _ :: _,[] => false
end
mutual
theorem PE.eq_iff : ∀ (a b : PE),a.eq b = true ↔ a = b
 | .mk k n m i d l,.mk k' n' m' i' d' l' => by
   rw [PE.eq]
   simp only [Bool.and_eq_true,decide_eq_true_eq,PE.mk.injEq,Qkd l l',and_assoc]
theorem Qkd : ∀ (a b : List PE),eqs a b = true ↔ a = b
 | [],[] => by simp [eqs]
 | x :: l,y :: l' => by rw [eqs,Bool.and_eq_true,PE.eq_iff x y,Qkd l l'];simp
 | [],_ :: _ => by simp [eqs]
 | _ :: _,[] => by simp [eqs]
end
instance : DecidableEq PE:=fun a b => if h : a.eq b = true then isTrue ((PE.eq_iff a b).1 h) else isFalse (fun e => h ((PE.eq_iff a b).2 e))
structure PD where
 id : Int
 kind : Int
 pub : Bool
 names : List T
 doubt : Bool
 body : PE
deriving DecidableEq
structure PM where
 label : T
 uses : List T
 decls : List PD
deriving DecidableEq
structure PT where
 kind : Int
 pack : T
 text : T
 old : List PD
 new : List PD
deriving DecidableEq
def zE : PE:=.mk 0 [] [] 0 0 []
section
variable {α κ : Type} [LT κ] [DecidableRel (fun a b : κ => a < b)] (key : α → κ)
def pos (l : List α) (p : κ) : Nat:=l.countP fun x => decide (key x < p)
abbrev Asc (l : List α) : Prop:=l.Pairwise fun x y => key x < key y
variable {key}
theorem Qa8 {pre post : List α} {p : κ} (h1 : ∀ x ∈ pre,key x < p) (h2 : ∀ x ∈ post,¬ key x < p) : pos key (pre ++ post) p = pre.length:=by
 unfold pos
 rw [List.countP_append,List.countP_eq_length.2 (fun x hx => by simpa using h1 x hx),List.countP_eq_zero.2 (fun x hx => by simpa using h2 x hx)]
 rfl
theorem Ys (l : List α) (p : κ) : pos key l p ≤ l.length:=List.countP_le_length
end
class Ord (κ : Type) [LT κ] : Prop where
 irr : ∀ a : κ,¬ a < a
 tr : ∀ a b c : κ,a < b → b < c → a < c
 tri : ∀ a b : κ,¬ a < b → ¬ b < a → a = b
instance : Ord Int:=⟨fun a => Int.lt_irrefl a,fun _ _ _ h k => Int.lt_trans h k,fun a b h k => by omega⟩
instance : Ord T:=⟨fun a => List.lt_irrefl a,fun _ _ _ h k => List.lt_trans h k,fun _ _ h k => List.le_antisymm (List.not_lt.1 k) (List.not_lt.1 h)⟩
theorem Ord.asym {κ : Type} [LT κ] [Ord κ] {a b : κ} (h : a < b) : ¬ b < a:=fun k => Ord.irr a (Ord.tr a b a h k)
section
variable {α κ : Type} [LT κ] [DecidableRel (fun a b : κ => a < b)] [Ord κ] {key : α → κ}
theorem Qe8 (l : List α) (p : κ) (h : Asc key l) : ∃ pre post,l = pre ++ post ∧ pre.length = pos key l p ∧ (∀ x ∈ pre,key x < p) ∧ ∀ x ∈ post,¬ key x < p:=by
 induction l with
 | nil => exact ⟨[],[],rfl,rfl,by simp,by simp⟩
 | cons x l ih =>
   obtain ⟨hx,hl⟩:=List.pairwise_cons.1 h
   by_cases hp : key x < p
   ·obtain ⟨pre,post,e,h1,h2,h3⟩:=ih hl
    refine ⟨x :: pre,post,by rw [e];rfl,?_,?_,h3⟩
    ·unfold pos at h1 ⊢
     rw [List.countP_cons,if_pos (by simpa using hp),List.length_cons,h1]
    ·intro y hy
     rcases List.mem_cons.1 hy with rfl | hy
     ·exact hp
     ·exact h2 y hy
   ·have h3 : ∀ y ∈ x :: l,¬ key y < p:=by
     intro y hy
     rcases List.mem_cons.1 hy with rfl | hy
     ·exact hp
     ·exact fun h => hp (Ord.tr _ _ _ (hx y hy) h)
    refine ⟨[],x :: l,rfl,?_,by simp,h3⟩
    have:=Qa8 (pre:=[]) (key:=key) (p:=p) (by simp) h3
    rw [List.nil_append] at this
    rw [this]
theorem Q5 {pre post : List α} {x : α} (h : Asc key (pre ++ x :: post)) : pos key (pre ++ x :: post) (key x) = pre.length:=by
 obtain ⟨_,h2,h3⟩:=List.pairwise_append.1 h
 obtain ⟨h4,_⟩:=List.pairwise_cons.1 h2
 refine Qa8 (fun y hy => h3 y hy x (by simp)) (fun y hy => ?_)
 rcases List.mem_cons.1 hy with rfl | hy
 ·exact Ord.irr _
 ·exact Ord.asym (h4 y hy)
end
section
variable {α κ : Type} [LT κ] {key : α → κ}
theorem Qbh {pre post : List α} {x : α} (h : Asc key (pre ++ post)) (h1 : ∀ y ∈ pre,key y < key x) (h2 : ∀ y ∈ post,key x < key y) : Asc key (pre ++ x :: post):=by
 obtain ⟨a,b,c⟩:=List.pairwise_append.1 h
 refine List.pairwise_append.2 ⟨a,List.pairwise_cons.2 ⟨h2,b⟩,fun y hy z hz => ?_⟩
 rcases List.mem_cons.1 hz with rfl | hz
 ·exact h1 y hy
 ·exact c y hy z hz
theorem Qao {pre post : List α} {x : α} (h : Asc key (pre ++ x :: post)) : Asc key (pre ++ post):=by
 obtain ⟨a,b,c⟩:=List.pairwise_append.1 h
 exact List.pairwise_append.2 ⟨a,(List.pairwise_cons.1 b).2,fun y hy z hz => c y hy z (by simp [hz])⟩
theorem Qan {pre post : List α} {x x' : α} (h : Asc key (pre ++ x :: post)) (e : key x' = key x) : Asc key (pre ++ x' :: post):=by
 obtain ⟨a,b,c⟩:=List.pairwise_append.1 h
 obtain ⟨b1,b2⟩:=List.pairwise_cons.1 b
 refine List.pairwise_append.2 ⟨a,List.pairwise_cons.2 ⟨fun y hy => by rw [e];exact b1 y hy,b2⟩,fun y hy z hz => ?_⟩
 rcases List.mem_cons.1 hz with rfl | hz
 ·rw [e];exact c y hy x (by simp)
 ·exact c y hy z (by simp [hz])
end
section
variable {κ : Type} [LT κ] [Ord κ]
theorem Qks : ∀ {l m : List κ},l.Pairwise (· < ·) → m.Pairwise (· < ·) → (∀ x,x ∈ l ↔ x ∈ m) → l = m
 | [],[],_,_,_ => rfl
 | [],y :: m,_,_,h => by have:=(h y).2 (by simp);simp at this
 | x :: l,[],_,_,h => by have:=(h x).1 (by simp);simp at this
 | x :: l,y :: m,hl,hm,h => by
   obtain ⟨l1,l2⟩:=List.pairwise_cons.1 hl
   obtain ⟨m1,m2⟩:=List.pairwise_cons.1 hm
   have exy : x = y:=by
    have hx:=(h x).1 (by simp)
    have hy:=(h y).2 (by simp)
    rcases List.mem_cons.1 hx with e | hx
    ·exact e
    ·rcases List.mem_cons.1 hy with e | hy
     ·exact e.symm
     ·exact absurd (l1 y hy) (Ord.asym (m1 x hx))
   subst exy
   rw [Qks l2 m2 (fun z => ?_)]
   have hz:=h z
   constructor
   ·intro hk
    have:=hz.1 (by simp [hk])
    rcases List.mem_cons.1 this with rfl | h'
    ·exact absurd (l1 _ hk) (Ord.irr _)
    ·exact h'
   ·intro hk
    have:=hz.2 (by simp [hk])
    rcases List.mem_cons.1 this with rfl | h'
    ·exact absurd (m1 _ hk) (Ord.irr _)
    ·exact h'
end
def Zt {α κ : Type} [LT κ] [DecidableRel (fun a b : κ => a < b)] (key : α → κ) (l : List α) (x : α) : List α:=l.take (pos key l (key x)) ++ x :: l.drop (pos key l (key x))
section
variable {α κ : Type} [LT κ] [DecidableRel (fun a b : κ => a < b)] [Ord κ] {key : α → κ}
theorem Z8 {pre post : List α} {x : α} (h1 : ∀ y ∈ pre,key y < key x) (h2 : ∀ y ∈ post,key x < key y) : Zt key (pre ++ post) x = pre ++ x :: post:=by
 unfold Zt
 rw [Qa8 h1 (fun y hy => Ord.asym (h2 y hy))]
 simp
end
def Yo {α κ : Type} [LT κ] [DecidableRel (fun a b : κ => a < b)] (key : α → κ) (l : List α) (p : κ) : List α:=l.take (pos key l p) ++ l.drop (pos key l p + 1)
section
variable {α κ : Type} [LT κ] [DecidableRel (fun a b : κ => a < b)] [Ord κ] {key : α → κ}
theorem Z9 {pre post : List α} {x : α} (h : Asc key (pre ++ x :: post)) : Yo key (pre ++ x :: post) (key x) = pre ++ post:=by
 unfold Yo
 rw [Q5 h]
 simp [List.drop_append]
end
def Zd {α κ : Type} [LT κ] [DecidableRel (fun a b : κ => a < b)] [DecidableEq κ] (key : α → κ) (l : List α) (p : κ) : Bool :=
 match l[pos key l p]? with
 | some x => decide (key x = p)
 | none => false
section
variable {α κ : Type} [LT κ] [DecidableRel (fun a b : κ => a < b)] [DecidableEq κ] [Ord κ] {key : α → κ}
theorem Zi {pre post : List α} {x : α} (h : Asc key (pre ++ x :: post)) : Zd key (pre ++ x :: post) (key x) = true:=by
 unfold Zd
 rw [Q5 h,List.getElem?_append_right (Nat.le_refl _)]
 simp
theorem Yi {pre post : List α} {p : κ} (h1 : ∀ x ∈ pre,key x < p) (h2 : ∀ x ∈ post,p < key x) : Zd key (pre ++ post) p = false:=by
 unfold Zd
 rw [Qa8 h1 (fun x hx => Ord.asym (h2 x hx)),List.getElem?_append_right (Nat.le_refl _)]
 cases post with
 | nil => simp
 | cons y l =>
   simp only [Nat.sub_self,List.getElem?_cons_zero,decide_eq_false_iff_not]
   intro e
   have:=h2 y (by simp)
   rw [e] at this
   exact Ord.irr _ this
theorem Qbi (l : List α) (p : κ) (h : Asc key l) : (∃ pre x post,l = pre ++ x :: post ∧ key x = p) ∨ ∃ pre post,l = pre ++ post ∧ (∀ x ∈ pre,key x < p) ∧ ∀ x ∈ post,p < key x:=by
 obtain ⟨pre,post,e,-,h1,h2⟩:=Qe8 l p h
 cases post with
 | nil => exact .inr ⟨pre,[],e,h1,by simp⟩
 | cons x post =>
   by_cases hx : key x = p
   ·exact .inl ⟨pre,x,post,e,hx⟩
   ·refine .inr ⟨pre,x :: post,e,h1,fun y hy => ?_⟩
    have hp : p < key x:=by
     rcases Classical.em (p < key x) with h' | h'
     ·exact h'
     ·exact absurd (Ord.tri _ _ (h2 x (by simp)) h') hx
    rw [e] at h
    obtain ⟨_,h3,_⟩:=List.pairwise_append.1 h
    rcases List.mem_cons.1 hy with rfl | hy
    ·exact hp
    ·exact Ord.tr _ _ _ hp ((List.pairwise_cons.1 h3).1 y hy)
theorem Qhd {l : List α} {p : κ} (h : Asc key l) : Zd key l p = true ↔ ∃ x ∈ l,key x = p:=by
 rcases Qbi l p h with ⟨pre,x,post,rfl,rfl⟩ | ⟨pre,post,rfl,h1,h2⟩
 ·rw [Zi h]
  exact ⟨fun _ => ⟨x,by simp,rfl⟩,fun _ => rfl⟩
 ·rw [Yi h1 h2]
  constructor
  ·intro h;cases h
  ·intro h
   obtain ⟨x,hx,e⟩:=h
   rcases List.mem_append.1 hx with hx | hx
   ·exact absurd (h1 x hx) (by rw [e];exact Ord.irr _)
   ·exact absurd (h2 x hx) (by rw [e];exact Ord.irr _)
end
end Go.Proofs.YtiaenhlflgobfaaGreatDoor

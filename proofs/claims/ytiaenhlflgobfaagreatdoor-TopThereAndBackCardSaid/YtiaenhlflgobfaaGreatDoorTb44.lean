/- Words. -/
import Derived.Test.YtiaenhlflgobfaaGreatDoorTb8
namespace Go.Proofs.YtiaenhlflgobfaaGreatDoor
def dig (n : Nat) : List UInt8:=if h : n < 128 then [UInt8.ofNat n] else UInt8.ofNat (n % 128 + 128) :: dig (n / 128)
termination_by n
decreasing_by omega
theorem Yv {n : Nat} (h : n < 128) : dig n = [UInt8.ofNat n]:=by rw [dig,dif_pos h]
theorem Xp {n : Nat} (h : ¬ n < 128) : dig n = UInt8.ofNat (n % 128 + 128) :: dig (n / 128):=by rw [dig,dif_neg h]
theorem dig_ne (n : Nat) : dig n ≠ []:=by
 by_cases h : n < 128
 ·simp [Yv h]
 ·simp [Xp h]
def Qp (x : T) : T:=dig x.length ++ x
def giF : Nat → Nat → Nat → Nat → T → Nat × Nat × Int
 | 0,_,_,_,_ => (0,0,13)
 | _ + 1,_,_,_,[] => (0,0,12)
 | f + 1,i,n,u,d :: r => if 128 ≤ d.toNat then giF f (i + 1) (n + (d.toNat - 128) * u) (u * 128) r
   else if (d.toNat = 0 ∧ 0 < i) ∨ 1099511627776 < n + d.toNat * u then (0,0,13) else (n + d.toNat * u,i + 1,0)
def gi (l : T) : Nat × Nat × Int:=giF 6 0 0 1 l
theorem Qor {m : Nat} (h : m < 128) : (UInt8.ofNat m).toNat = m:=by simp;omega
theorem Qos (m : Nat) : (UInt8.ofNat (m % 128 + 128)).toNat = m % 128 + 128:=by simp;omega
theorem Qj8 : ∀ (f i n u m : Nat) (r : T),0 < f → m < 128 ^ f → (0 < i → 0 < m) → n + m * u ≤ 1099511627776 → giF f i n u (dig m ++ r) = (n + m * u,i + (dig m).length,0)
 | 0,_,_,_,_,_,h0,_,_,_ => absurd h0 (by omega)
 | f + 1,i,n,u,m,r,_,h,hi,hm => by
   by_cases hs : m < 128
   ·rw [Yv hs]
    simp only [List.singleton_append,giF,Qor hs,List.length_singleton]
    rw [if_neg (by omega),if_neg]
    rintro (⟨h1,h2⟩ | h1)
    ·have:=hi h2;omega
    ·omega
   ·have e : n + m % 128 * u + m / 128 * (u * 128) = n + m * u:=by
     have : m * u = (m % 128 + 128 * (m / 128)) * u:=by rw [Nat.mod_add_div]
     rw [this,Nat.add_mul]
     have : m / 128 * (u * 128) = 128 * (m / 128) * u:=by rw [Nat.mul_comm u 128,← Nat.mul_assoc,Nat.mul_comm (m / 128) 128]
     omega
    have ih:=Qj8 f (i + 1) (n + m % 128 * u) (u * 128) (m / 128) r (by rcases Nat.eq_zero_or_pos f with rfl | h0;(simp at h;omega);exact h0) (by rw [Nat.pow_succ] at h;omega) (fun _ => by omega) (by omega)
    rw [Xp hs]
    simp only [List.cons_append,giF,Qos,List.length_cons]
    rw [if_pos (by omega),Nat.add_sub_cancel,ih,e]
    simp only [Prod.mk.injEq,true_and,and_true]
    omega
theorem gi_put {n : Nat} (h : n ≤ 1099511627776) (r : T) : gi (dig n ++ r) = (n,(dig n).length,0):=by
 unfold gi
 have h6 : (128 : Nat) ^ 6 = 4398046511104:=by decide
 rw [Qj8 6 0 0 1 n r (by omega) (by omega) (by omega) (by omega)]
 simp
theorem Qj9 : ∀ (f i n u : Nat) (l : T) (v k : Nat),giF f i n u l = (v,k,0) → ∃ (m : Nat) (r : T),l = dig m ++ r ∧ v = n + m * u ∧ k = i + (dig m).length ∧ (0 < i → 0 < m) ∧ v ≤ 1099511627776
 | 0,_,_,_,_,_,_,h => by simp [giF] at h
 | _ + 1,_,_,_,[],_,_,h => by simp [giF] at h
 | f + 1,i,n,u,d :: r,v,k,h => by
   simp only [giF] at h
   have hd : d.toNat < 256:=UInt8.toNat_lt d
   by_cases h1 : 128 ≤ d.toNat
   ·rw [if_pos h1] at h
    obtain ⟨m,r',e1,e2,e3,e4,e5⟩:=Qj9 f (i + 1) _ _ r v k h
    have hm:=e4 (by omega)
    refine ⟨d.toNat - 128 + 128 * m,r',?_,?_,?_,fun _ => by omega,e5⟩
    ·rw [Xp (by omega),e1]
     have a1 : (d.toNat - 128 + 128 * m) % 128 + 128 = d.toNat:=by omega
     have a2 : (d.toNat - 128 + 128 * m) / 128 = m:=by omega
     rw [a1,a2]
     simp
    ·rw [e2,Nat.add_mul]
     have : m * (u * 128) = 128 * m * u:=by rw [Nat.mul_comm u 128,← Nat.mul_assoc,Nat.mul_comm m 128]
     omega
    ·have a2 : (d.toNat - 128 + 128 * m) / 128 = m:=by omega
     rw [e3,Xp (n:=d.toNat - 128 + 128 * m) (by omega),a2,List.length_cons]
     omega
   ·rw [if_neg h1] at h
    by_cases h2 : (d.toNat = 0 ∧ 0 < i) ∨ 1099511627776 < n + d.toNat * u
    ·rw [if_pos h2] at h;simp at h
    ·rw [if_neg h2] at h
     simp only [Prod.mk.injEq,and_true] at h
     refine ⟨d.toNat,r,?_,h.1.symm,?_,?_,?_⟩
     ·rw [Yv (by omega)];simp
     ·rw [Yv (by omega)];simp;omega
     ·intro hi
      have:=not_or.1 h2
      have h3:=this.1
      omega
     ·have:=not_or.1 h2
      omega
theorem gi_inv {l : T} {v k : Nat} (h : gi l = (v,k,0)) : ∃ r : T,l = dig v ++ r ∧ k = (dig v).length ∧ v ≤ 1099511627776:=by
 obtain ⟨m,r,e1,e2,e3,-,e5⟩:=Qj9 6 0 0 1 l v k h
 have : m = v:=by omega
 subst this
 exact ⟨r,e1,by omega,e5⟩
def gt (l : T) : T × Nat × Int :=
 if (gi l).2.2 ≠ 0 then ([],0,(gi l).2.2) else if 65536 < (gi l).1 then ([],0,13) else if l.length - (gi l).2.1 < (gi l).1 then ([],0,12) else ((l.drop (gi l).2.1).take (gi l).1,(gi l).2.1 + (gi l).1,0)
theorem gt_put {x : T} (h : x.length ≤ 65536) (r : T) : gt (Qp x ++ r) = (x,(Qp x).length,0):=by
 have e : gi (Qp x ++ r) = (x.length,(dig x.length).length,0):=by
  unfold Qp
  rw [List.append_assoc]
  exact gi_put (by omega) _
 unfold gt
 rw [e]
 simp only [ne_eq,not_true_eq_false,if_false]
 rw [if_neg (by omega),if_neg (by simp [Qp])]
 simp [Qp]
theorem Qix : ∀ (k n : Nat),n < 128 ^ (k + 1) → (dig n).length ≤ k + 1:=by
 intro k
 induction k with
 | zero => intro n h;rw [Yv (by simpa using h)];simp
 | succ k ih =>
   intro n h
   by_cases h1 : n < 128
   ·rw [Yv h1];simp
   ·rw [Xp h1]
    have:=ih (n / 128) (by rw [Nat.pow_succ] at h;omega)
    simp only [List.length_cons]
    omega
theorem Zl {n : Nat} (h : n ≤ 1099511627776) : (dig n).length ≤ 6:=Qix 5 n (by omega)
theorem Qa6 {x : T} (h : x.length ≤ 1000) : (Qp x).length ≤ 1006:=by
 unfold Qp
 have:=Zl (n:=x.length) (by omega)
 rw [List.length_append];omega
def cA (a : Int) : Nat:=if a < 0 then 2 * (-a).toNat + 1 else 2 * a.toNat
def nB (b : Bool) : Nat:=if b then 1 else 0
def Qdw (x : PE) : T:=dig x.kind.toNat ++ (Qp x.name ++ (Qp x.more ++ (dig (cA x.int) ++ (dig x.den.toNat ++ dig x.sub.length))))
mutual
def enX : PE → T
 | .mk k n m i d l => Qdw (.mk k n m i d l) ++ Z7 l
def Z7 : List PE → T
 | [] => []
 | x :: l => enX x ++ Z7 l
end
theorem Qf1 (x : PE) : enX x = Qdw x ++ Z7 x.sub:=by cases x;simp [enX,PE.sub]
@[simp] theorem enXs_nil : Z7 [] = []:=by simp [Z7]
@[simp] theorem enXs_cons (x : PE) (l : List PE) : Z7 (x :: l) = enX x ++ Z7 l:=by simp [Z7]
structure NOk (x : PE) : Prop where
 k0 : 0 ≤ x.kind
 k1 : x.kind ≤ 1000000000
 n : x.name.length ≤ 1000
 m : x.more.length ≤ 1000
 i0 : -1000000000 ≤ x.int
 i1 : x.int ≤ 1000000000
 d0 : 0 ≤ x.den
 d1 : x.den ≤ 1000000000
 s : x.sub.length ≤ 3
theorem cA_le {a : Int} (h0 : -1000000000 ≤ a) (h1 : a ≤ 1000000000) : cA a ≤ 2000000001:=by unfold cA;split <;> omega
theorem Qgy {x : PE} (h : NOk x) : (Qdw x).length ≤ 2036:=by
 have a1:=Zl (n:=x.kind.toNat) (by have:=h.k1;omega)
 have a2:=Qa6 h.n
 have a3:=Qa6 h.m
 have a4:=Zl (n:=cA x.int) (by have:=cA_le h.i0 h.i1;omega)
 have a5:=Zl (n:=x.den.toNat) (by have:=h.d1;omega)
 have a6:=Zl (n:=x.sub.length) (by have:=h.s;omega)
 unfold Qdw
 simp only [List.length_append]
 omega
def XIn : Nat → PE → Prop
 | 0,_ => False
 | d + 1,x => NOk x ∧ ∀ y ∈ x.sub,XIn d y
mutual
theorem Qjp : ∀ (x : PE) (d : Nat),(∀ p ∈ x.pre d,NOk p.2 ∧ p.1 ≤ 40) → XIn (41 - d) x
 | .mk k n m i dn l,d,h => by
   have h0:=h (d,.mk k n m i dn l) (by simp [pre_eq])
   have h1 : d ≤ 40:=h0.2
   obtain ⟨e,he⟩ : ∃ e,41 - d = e + 1:=⟨40 - d,by omega⟩
   rw [he]
   refine ⟨h0.1,?_⟩
   have h2:=Qgh l (d + 1) (fun p hp => h p (by rw [pre_eq];exact List.mem_cons_of_mem _ hp))
   rw [show 41 - (d + 1) = e by omega] at h2
   exact h2
theorem Qgh : ∀ (l : List PE) (d : Nat),(∀ p ∈ Qbt d l,NOk p.2 ∧ p.1 ≤ 40) → ∀ y ∈ l,XIn (41 - d) y
 | [],_,_ => by simp
 | x :: l,d,h => by
   have h1:=Qjp x d (fun p hp => h p (by simp [hp]))
   have h2:=Qgh l d (fun p hp => h p (by simp [hp]))
   intro y hy
   rcases List.mem_cons.1 hy with rfl | hy
   ·exact h1
   ·exact h2 y hy
end
mutual
theorem Qkg : ∀ (x : PE) (d : Nat),(∀ p ∈ x.pre d,NOk p.2) → (enX x).length ≤ 2036 * (x.pre d).length
 | .mk k n m i dn l,d,h => by
   have h0 : (Qdw (.mk k n m i dn l)).length ≤ 2036:=Qgy (h (d,.mk k n m i dn l) (by simp [pre_eq]))
   have h1:=Qhk l (d + 1) (fun p hp => h p (by rw [pre_eq];exact List.mem_cons_of_mem _ hp))
   rw [Qf1,pre_eq,List.length_append,List.length_cons]
   simp only [PE.sub]
   omega
theorem Qhk : ∀ (l : List PE) (d : Nat),(∀ p ∈ Qbt d l,NOk p.2) → (Z7 l).length ≤ 2036 * (Qbt d l).length
 | [],_,_ => by simp
 | x :: l,d,h => by
   have h1:=Qkg x d (fun p hp => h p (by simp [hp]))
   have h2:=Qhk l d (fun p hp => h p (by simp [hp]))
   simp only [enXs_cons,pres_cons,List.length_append]
   omega
end
def enD (d : PD) : T:=dig d.id.toNat ++ (dig d.kind.toNat ++ (dig (nB d.pub) ++ (dig (nB d.doubt) ++ (dig d.names.length ++ ((d.names.map Qp).flatten ++ enX d.body)))))
def Qbv (l : List PD) : T:=dig l.length ++ (l.map enD).flatten
def enT (e : PT) : T:=dig e.kind.toNat ++ (Qp e.pack ++ (Qp e.text ++ (Qbv e.old ++ Qbv e.new)))
structure DOk (d : PD) : Prop where
 i0 : 0 ≤ d.id
 i1 : d.id ≤ 1000000000
 k0 : 0 ≤ d.kind
 k1 : d.kind ≤ 1000000000
 nl : d.names.length ≤ 3
 n : ∀ s ∈ d.names,s.length ≤ 1000
 b : XIn 40 d.body
 bl : (enX d.body).length ≤ 1000000
structure TOk (e : PT) : Prop where
 k0 : 0 ≤ e.kind
 k1 : e.kind ≤ 1000000000
 p : e.pack.length ≤ 1000
 t : e.text.length ≤ 1000
 ol : e.old.length ≤ 1
 nl : e.new.length ≤ 1
 o : ∀ d ∈ e.old,DOk d
 n : ∀ d ∈ e.new,DOk d
theorem Qcb : ∀ (l : List T),(∀ s ∈ l,s.length ≤ 1000) → (l.map Qp).flatten.length ≤ 1006 * l.length
 | [],_ => by simp
 | x :: l,h => by
   have h1:=Qa6 (h x (by simp))
   have h2:=Qcb l fun s hs => h s (by simp [hs])
   simp only [List.map_cons,List.flatten_cons,List.length_append,List.length_cons]
   omega
theorem Qj2 (b : Bool) : nB b ≤ 1:=by cases b <;> decide
theorem Qki {d : PD} (h : DOk d) : (enD d).length ≤ 1010000:=by
 have a1:=Zl (n:=d.id.toNat) (by have:=h.i1;omega)
 have a2:=Zl (n:=d.kind.toNat) (by have:=h.k1;omega)
 have a3:=Zl (n:=nB d.pub) (by have:=Qj2 d.pub;omega)
 have a4:=Zl (n:=nB d.doubt) (by have:=Qj2 d.doubt;omega)
 have a5:=Zl (n:=d.names.length) (by have:=h.nl;omega)
 have a6:=Qcb d.names h.n
 have a7:=h.bl
 have a8:=h.nl
 unfold enD
 simp only [List.length_append]
 omega
theorem Qhl {l : List PD} (hl : l.length ≤ 1) (h : ∀ d ∈ l,DOk d) : (Qbv l).length ≤ 1020000:=by
 have a1:=Zl (n:=l.length) (by omega)
 unfold Qbv
 rw [List.length_append]
 match l,hl with
 | [],_ =>
   have a2:=Zl (n:=0) (by omega)
   simp
   omega
 | [d],_ =>
   have:=Qki (h d (by simp))
   simp only [List.map_cons,List.map_nil,List.flatten_cons,List.flatten_nil,List.append_nil]
   omega
theorem Qkh {e : PT} (h : TOk e) : (enT e).length ≤ 3000000:=by
 have a1:=Zl (n:=e.kind.toNat) (by have:=h.k1;omega)
 have a2:=Qa6 h.p
 have a3:=Qa6 h.t
 have a4:=Qhl h.ol h.o
 have a5:=Qhl h.nl h.n
 unfold enT
 simp only [List.length_append]
 omega
theorem Qib {s : T} (h : nmB s = true) : s.length ≤ 24:=by
 unfold nmB at h
 simp only [Bool.and_eq_true,decide_eq_true_eq] at h
 exact h.2.2
theorem Qb8 {s : T} (h : lab s = true) : s.length ≤ 90:=by
 unfold lab at h
 simp only [Bool.and_eq_true,decide_eq_true_eq] at h
 exact h.1
theorem Qm8 {s : T} (h : Qdn.contains s = true) : s.length ≤ 1:=by
 have h1 : s ∈ Qdn:=by simpa using h
 unfold Qdn at h1
 simp only [List.mem_cons,List.not_mem_nil,or_false] at h1
 rcases h1 with rfl | rfl | rfl | rfl | rfl <;> decide
theorem shp_le {k : Int} {r : Int × Int × Int} (h : shp k = some r) : 1 ≤ k ∧ k ≤ 15 ∧ r.2.2 ≤ 3 ∧ r.1 ≤ 2:=by
 unfold shp at h
 repeat' split at h
 all_goals first
  | (simp at h;done)
  | (obtain rfl:=Option.some.inj h;refine ⟨by omega,by omega,?_,?_⟩ <;> simp)
theorem Qmf {e : PE} {n : Int} (h : Xh e n = 0) : (1 ≤ n → e.name.length ≤ 90) ∧ (n = 2 → e.more.length ≤ 90):=by
 unfold Xh at h
 simp only at h
 generalize hok : (if e.kind = 5 then decide (e.name = []) || lab e.name else if e.kind = 10 then Qdn.contains e.name else if 1 ≤ n then nmB e.name else true) = ok at h
 by_cases hb : (!ok || (decide (n = 2) && !nmB e.more)) = true
 ·rw [if_pos hb] at h;omega
 have h2 : ok = true:=by
  cases ok with
  | false => exact absurd rfl hb
  | true => rfl
 have h3 : n = 2 → nmB e.more = true:=by
  intro hn
  cases hm : nmB e.more with
  | true => rfl
  | false => exfalso;apply hb;simp [hn,hm]
 rw [h2] at hok
 refine ⟨fun hn => ?_,fun hn => by have:=Qib (h3 hn);omega⟩
 by_cases c5 : e.kind = 5
 ·rw [if_pos c5] at hok
  rcases (show e.name = [] ∨ lab e.name = true by simpa using hok) with h5 | h4
  ·rw [h5];simp
  ·exact Qb8 h4
 rw [if_neg c5] at hok
 by_cases c10 : e.kind = 10
 ·rw [if_pos c10] at hok
  have:=Qm8 hok;omega
 rw [if_neg c10,if_pos hn] at hok
 have:=Qib hok;omega
theorem nok_of {e : PE} (h : ckN e = 0) : NOk e:=by
 unfold ckN at h
 cases hs : shp e.kind with
 | none => rw [hs] at h;simp at h
 | some r =>
   obtain ⟨n,m,k⟩:=r
   rw [hs] at h
   simp only at h
   obtain ⟨k0,k1,k2,hn2⟩:=shp_le hs
   simp only at k2 hn2
   split at h
   ·omega
   rename_i h1
   simp only [not_or,not_and,Decidable.not_not] at h1
   obtain ⟨q1,q2,q3,q4,q5⟩:=h1
   split at h
   ·rename_i h2;exact absurd h h2
   rename_i h2
   have h3 : Xh e n = 0:=by omega
   obtain ⟨c1,c2⟩:=Qmf h3
   have hn : e.name.length ≤ 1000:=by
    by_cases hn : n < 1
    ·rw [q1 hn];simp
    ·have:=c1 (by omega);omega
   have hm : e.more.length ≤ 1000:=by
    by_cases hm : n < 2
    ·rw [q2 hm];simp
    ·have:=c2 (by omega);omega
   have hi : -1000000000 ≤ e.int ∧ e.int ≤ 1000000000 ∧ 0 ≤ e.den ∧ e.den ≤ 1000000000:=by
    unfold Qc4 at h
    simp only at h
    generalize hok : (if e.kind = 1 then decide (-999999999 ≤ e.int) && decide (e.int ≤ 999999999) else if e.kind = 2 then decide (e.int = 0) || decide (e.int = 1) else if e.kind = 5 then decide (1 ≤ e.int) && decide (e.int ≤ 999999) else if e.kind = 14 then decide (1 ≤ e.den) && decide (e.den ≤ 999999) && decide (0 ≤ e.int) && decide (e.int ≤ e.den) else true) = ok at h
    cases ok with
    | false => simp at h
    | true =>
      clear h h2 h3 c1 c2 hn hm q1 q2 q5
      have hc : e.kind = 1 ∨ e.kind = 2 ∨ e.kind = 3 ∨ e.kind = 4 ∨ e.kind = 5 ∨ e.kind = 6 ∨ e.kind = 7 ∨ e.kind = 8 ∨ e.kind = 9 ∨ e.kind = 10 ∨ e.kind = 11 ∨ e.kind = 12 ∨ e.kind = 13 ∨ e.kind = 14 ∨ e.kind = 15:=by omega
      generalize e.kind = ek at hs hok hc k0 k1
      rcases hc with rfl | rfl | rfl | rfl | rfl | rfl | rfl | rfl | rfl | rfl | rfl | rfl | rfl | rfl | rfl <;> simp [shp] at hs <;> obtain ⟨rfl,rfl,rfl⟩:=hs <;> simp at hok q3 q4 <;> omega
   exact ⟨by omega,by omega,hn,hm,hi.1,hi.2.1,hi.2.2.1,hi.2.2.2,by omega⟩
theorem body_ok {l : T} {e : PE} (h : ckB l e = 0) : XIn 40 e ∧ (enX e).length ≤ 1000000:=by
 have h0 : ckE e = 0:=by
  unfold ckB at h
  by_cases h1 : ckE e = 0
  ·exact h1
  ·rw [if_pos h1] at h;exact h
 unfold ckE at h0
 split at h0
 ·omega
 rename_i h1
 unfold Qdo at h1
 simp only [Bool.or_eq_true,decide_eq_true_eq,List.any_eq_true,not_or,not_exists,not_and] at h1
 obtain ⟨h2,h3⟩:=h1
 rw [Qdd] at h0
 have h4 : ∀ p ∈ e.pre 1,NOk p.2 ∧ p.1 ≤ 40:=fun p hp => ⟨nok_of (h0 _ (List.mem_map.2 ⟨p,hp,rfl⟩)),by have:=h3 p hp;omega⟩
 refine ⟨Qjp e 1 h4,?_⟩
 have:=Qkg e 1 fun p hp => (h4 p hp).1
 omega
theorem Qnd {ns : List T} (h : Qak ns = 0) : ns.length ≤ 3 ∧ ∀ s ∈ ns,s.length ≤ 1000:=by
 unfold Qak at h
 split at h
 ·omega
 rename_i h1
 split at h
 ·omega
 rename_i h2
 refine ⟨by omega,fun s hs => ?_⟩
 simp only [List.any_eq_true,Bool.and_eq_true,Bool.or_eq_true,Bool.not_eq_true',decide_eq_true_eq,not_exists,not_and] at h2
 have h3:=h2 s hs
 by_cases h4 : nmB s = true
 ·have:=Qib h4;omega
 ·have h5:=h3 (by simpa using h4)
  have h6 : s = []:=by
   apply Classical.byContradiction
   intro h7
   exact h5 (.inr h7)
  rw [h6];simp
theorem Qjo : XIn 40 zE ∧ (enX zE).length ≤ 1000000:=by
 have h : NOk zE:=⟨by decide,by decide,by decide,by decide,by decide,by decide,by decide,by decide,by decide⟩
 refine ⟨⟨h,by intro y hy;cases hy⟩,?_⟩
 have:=Qgy h
 rw [Qf1,List.length_append]
 simp only [show zE.sub = [] from rfl,enXs_nil,List.length_nil]
 omega
theorem dok_of {l : T} {k : Int} {d : PD} (hk : 5 ≤ k) (hk9 : k ≤ 9) (hm : d = Qs k d) (h : oks.Decl l (Ql k d)) : DOk d:=by
 have hc : k = 5 ∨ k = 6 ∨ k = 7 ∨ k = 8 ∨ k = 9:=by omega
 have i0:=h.id0
 have i1 : d.id ≤ 999999:=h.id1
 have kd:=h.kind
 have nm:=Qnd (of_decide_eq_true h.names)
 have bd:=body_ok (of_decide_eq_true h.body)
 simp only [Ql] at i0 i1 kd nm bd
 rcases hc with rfl | rfl | rfl | rfl | rfl
 ·simp at kd nm bd
  exact ⟨by omega,by omega,by omega,by omega,nm.1,nm.2,bd.1,bd.2⟩
 ·simp at kd nm bd
  exact ⟨by omega,by omega,by omega,by omega,nm.1,nm.2,bd.1,bd.2⟩
 ·simp at nm
  have e1 : d.kind = 0:=by rw [hm];simp [Qs]
  have e2 : d.body = zE:=by rw [hm];simp [Qs]
  exact ⟨by omega,by omega,by omega,by omega,nm.1,nm.2,by rw [e2];exact Qjo.1,by rw [e2];exact Qjo.2⟩
 ·simp at bd
  have e1 : d.kind = 0:=by rw [hm];simp [Qs]
  have e2 : d.names = []:=by rw [hm];simp [Qs]
  exact ⟨by omega,by omega,by omega,by omega,by simp [e2],by simp [e2],bd.1,bd.2⟩
 ·simp at kd
  have e1 : d.body = zE:=by rw [hm];simp [Qs]
  have e2 : d.names = []:=by rw [hm];simp [Qs]
  exact ⟨by omega,by omega,by omega,by omega,by simp [e2],by simp [e2],by rw [e1];exact Qjo.1,by rw [e1];exact Qjo.2⟩
theorem Qni {k : Int} {d : PD} (h : k ≤ 6) : d = Qs k d:=by unfold Qs;rw [if_neg (by omega),if_neg (by omega),if_neg (by omega)]
theorem tok_of {e : PT} (h : oks.Edit e) : TOk e:=by
 obtain ⟨k0,k1,fit,ts⟩:=h
 obtain ⟨h1,h2,h3,-⟩:=Zv fit
 have hl1 : e.old.length ≤ 1:=by rw [h1];split <;> omega
 have hl2 : e.new.length ≤ 1:=by rw [h2];split <;> omega
 have hml : ∀ d ∈ e.old ++ e.new,5 ≤ e.kind ∧ d = Qs e.kind d:=by
  intro d hd
  by_cases h5 : 5 ≤ e.kind
  ·refine ⟨h5,?_⟩
   by_cases h7 : 7 ≤ e.kind
   ·obtain ⟨o,n,ho,hn,e1,e2,-,-⟩:=Qad fit h7
    rw [ho,hn] at hd
    rcases (show d = o ∨ d = n by simpa using hd) with rfl | rfl
    ·exact e1
    ·exact e2
   ·exact Qni (by omega)
  ·rw [if_neg (by omega)] at h1 h2
   rw [List.eq_nil_of_length_eq_zero h1,List.eq_nil_of_length_eq_zero h2] at hd
   cases hd
 have hd : ∀ d ∈ e.old ++ e.new,DOk d:=by
  intro d hd
  obtain ⟨q1,q2⟩:=hml d hd
  have h4 : (⟨e.pack,[],[Ql e.kind d]⟩ : PM) ∈ Zh e:=by
   unfold Zh
   rw [if_neg (by omega),if_neg (by omega)]
   exact List.mem_map.2 ⟨d,hd,rfl⟩
  exact dok_of q1 k1 q2 ((ts _ h4).decls _ (by simp))
 have hp : e.pack.length ≤ 90 ∧ ((e.kind = 3 ∨ e.kind = 4) → e.text.length ≤ 90):=by
  by_cases c1 : e.kind = 1 ∨ e.kind = 2
  ·have:=(ts ⟨e.pack,[],[]⟩ (by unfold Zh;rw [if_pos c1];simp)).lab
   exact ⟨Qb8 this,fun c => by omega⟩
  by_cases c2 : e.kind = 3 ∨ e.kind = 4
  ·have:=ts ⟨e.pack,[e.text],[]⟩ (by unfold Zh;rw [if_neg c1,if_pos c2];simp)
   exact ⟨Qb8 this.lab,fun _ => Qb8 (this.uses e.text (by simp)).1⟩
  ·refine ⟨?_,fun c => absurd c c2⟩
   have hne : ∃ d,d ∈ e.old ++ e.new:=by
    by_cases c5 : e.kind = 5
    ·rw [if_pos (Or.inl c5)] at h2
     obtain ⟨x,hx⟩:=X2 h2
     exact ⟨x,by simp [hx]⟩
    ·rw [if_pos (by omega)] at h1
     obtain ⟨x,hx⟩:=X2 h1
     exact ⟨x,by simp [hx]⟩
   obtain ⟨d,hd⟩:=hne
   have:=ts ⟨e.pack,[],[Ql e.kind d]⟩ (by unfold Zh;rw [if_neg c1,if_neg c2];exact List.mem_map.2 ⟨d,hd,rfl⟩)
   exact Qb8 this.lab
 refine ⟨by omega,by omega,by have:=hp.1;omega,?_,hl1,hl2,fun d h => hd d (by simp [h]),fun d h => hd d (by simp [h])⟩
 rcases h3 with h3 | h3
 ·rw [h3];simp
 ·have:=hp.2 h3;omega
end Go.Proofs.YtiaenhlflgobfaaGreatDoor

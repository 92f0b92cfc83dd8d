/- Walks and words: TpD, TpE, TpF, TpH, Fit, CaD, Tst, Tsu, Srb, Chl. -/
import Derived.Test.YtiaenhlflgobfaaGreatDoorTb3
import Derived.Test.YtiaenhlflgobfaaGreatDoorTb6
import Derived.Test.YtiaenhlflgobfaaGreatDoorTb20
import Derived.Test.YtiaenhlflgobfaaGreatDoorTb27
import Derived.Deep.RegionHeld3
import Derived.Sort.Walk0
namespace Go.Proofs.YtiaenhlflgobfaaGreatDoor
structure Bo where
 label : T
 inA : Bool
 inB : Bool
 a : PM
 b : PM
def zM : PM:=⟨[],[],[]⟩
def Qx : List PM → List PM → List Bo
 | [],[] => []
 | x :: a,[] => ⟨x.label,true,false,x,zM⟩ :: Qx a []
 | [],y :: b => ⟨y.label,false,true,zM,y⟩ :: Qx [] b
 | x :: a,y :: b =>
   if x.label < y.label then ⟨x.label,true,false,x,zM⟩ :: Qx a (y :: b)
   else if y.label < x.label then ⟨y.label,false,true,zM,y⟩ :: Qx (x :: a) b
   else ⟨y.label,true,true,x,y⟩ :: Qx a b
termination_by a b => a.length + b.length
def Yp (k : Int) (l : T) (us others : List T) : List PT:=(us.filter fun u => !others.contains u).map fun u => ⟨k,l,u,[],[]⟩
def X5 (k : Int) (l : T) (x y : PD) : List PT:=if Qs k x = Qs k y then [] else [⟨k,l,[],[Qs k x],[Qs k y]⟩]
def Qu (l : T) : List PD → List PD → List PT
 | [],[] => []
 | x :: a,[] => ⟨6,l,[],[x],[]⟩ :: Qu l a []
 | [],y :: b => ⟨5,l,[],[],[y]⟩ :: Qu l [] b
 | x :: a,y :: b =>
   if x.id < y.id then ⟨6,l,[],[x],[]⟩ :: Qu l a (y :: b)
   else if y.id < x.id then ⟨5,l,[],[],[y]⟩ :: Qu l (x :: a) b
   else X5 7 l x y ++ (X5 8 l x y ++ (X5 9 l x y ++ Qu l a b))
termination_by a b => a.length + b.length
def Yx (p : Bo) : List PT:=if p.inA then [] else [⟨1,p.label,[],[],[]⟩]
def Yr (p : Bo) : List PT:=if p.inB then [] else [⟨2,p.label,[],[],[]⟩]
def Xc (a b : List PM) : List PT :=
 (Qx a b).flatMap Yx ++ ((Qx a b).flatMap (fun p => Yp 3 p.label p.b.uses p.a.uses) ++ ((Qx a b).flatMap (fun p => Qu p.label p.a.decls p.b.decls) ++ ((Qx a b).flatMap (fun p => Yp 4 p.label p.a.uses p.b.uses) ++ (Qx a b).flatMap Yr)))
structure Pr (a b : List PM) (ps : List Bo) : Prop where
 asc : Asc Bo.label ps
 fa : a = (ps.filter (·.inA)).map (·.a)
 fb : b = (ps.filter (·.inB)).map (·.b)
 la : ∀ p ∈ ps,p.inA = true → p.a.label = p.label ∧ p.a ∈ a
 lb : ∀ p ∈ ps,p.inB = true → p.b.label = p.label ∧ p.b ∈ b
 za : ∀ p ∈ ps,p.inA = false → p.a = zM
 zb : ∀ p ∈ ps,p.inB = false → p.b = zM
theorem Xo (a b : List PM) : ∀ p ∈ Qx a b,(∃ x ∈ a,p.label = x.label) ∨ ∃ y ∈ b,p.label = y.label:=by
 fun_induction Qx a b with
 | case1 => simp
 | case2 x a ih =>
   intro p hp
   rcases List.mem_cons.1 hp with rfl | hp
   ·exact .inl ⟨x,by simp,rfl⟩
   ·rcases ih p hp with ⟨z,h1,h2⟩ | ⟨z,h1,h2⟩
    ·exact .inl ⟨z,by simp [h1],h2⟩
    ·cases h1
 | case3 y b ih =>
   intro p hp
   rcases List.mem_cons.1 hp with rfl | hp
   ·exact .inr ⟨y,by simp,rfl⟩
   ·rcases ih p hp with ⟨z,h1,h2⟩ | ⟨z,h1,h2⟩
    ·cases h1
    ·exact .inr ⟨z,by simp [h1],h2⟩
 | case4 x a y b h ih =>
   intro p hp
   rcases List.mem_cons.1 hp with rfl | hp
   ·exact .inl ⟨x,by simp,rfl⟩
   ·rcases ih p hp with ⟨z,h1,h2⟩ | ⟨z,h1,h2⟩
    ·exact .inl ⟨z,by simp [h1],h2⟩
    ·exact .inr ⟨z,h1,h2⟩
 | case5 x a y b h k ih =>
   intro p hp
   rcases List.mem_cons.1 hp with rfl | hp
   ·exact .inr ⟨y,by simp,rfl⟩
   ·rcases ih p hp with ⟨z,h1,h2⟩ | ⟨z,h1,h2⟩
    ·exact .inl ⟨z,h1,h2⟩
    ·exact .inr ⟨z,by simp [h1],h2⟩
 | case6 x a y b h k ih =>
   intro p hp
   rcases List.mem_cons.1 hp with rfl | hp
   ·exact .inr ⟨y,by simp,rfl⟩
   ·rcases ih p hp with ⟨z,h1,h2⟩ | ⟨z,h1,h2⟩
    ·exact .inl ⟨z,by simp [h1],h2⟩
    ·exact .inr ⟨z,by simp [h1],h2⟩
theorem Qm7 (a b : List PM) : Asc PM.label a → Asc PM.label b → Pr a b (Qx a b):=by
 fun_induction Qx a b with
 | case1 => exact fun _ _ => ⟨.nil,rfl,rfl,by simp,by simp,by simp,by simp⟩
 | case2 x a ih =>
   intro ha hb
   obtain ⟨hx,ha⟩:=List.pairwise_cons.1 ha
   have h:=ih ha hb
   refine ⟨List.pairwise_cons.2 ⟨fun p hp => ?_,h.asc⟩,by simp [← h.fa],by simpa using h.fb,?_,?_,?_,?_⟩
   ·rcases Xo _ _ p hp with ⟨z,h1,h2⟩ | ⟨z,h1,h2⟩
    ·rw [h2];exact hx z h1
    ·cases h1
   ·intro p hp hi
    rcases List.mem_cons.1 hp with rfl | hp
    ·exact ⟨rfl,by simp⟩
    ·exact ⟨(h.la p hp hi).1,by simp [(h.la p hp hi).2]⟩
   ·intro p hp hi
    rcases List.mem_cons.1 hp with rfl | hp
    ·cases hi
    ·exact h.lb p hp hi
   ·intro p hp hi
    rcases List.mem_cons.1 hp with rfl | hp
    ·cases hi
    ·exact h.za p hp hi
   ·intro p hp hi
    rcases List.mem_cons.1 hp with rfl | hp
    ·rfl
    ·exact h.zb p hp hi
 | case3 y b ih =>
   intro ha hb
   obtain ⟨hx,hb⟩:=List.pairwise_cons.1 hb
   have h:=ih ha hb
   refine ⟨List.pairwise_cons.2 ⟨fun p hp => ?_,h.asc⟩,by simpa using h.fa,by simp [← h.fb],?_,?_,?_,?_⟩
   ·rcases Xo _ _ p hp with ⟨z,h1,h2⟩ | ⟨z,h1,h2⟩
    ·cases h1
    ·rw [h2];exact hx z h1
   ·intro p hp hi
    rcases List.mem_cons.1 hp with rfl | hp
    ·cases hi
    ·exact h.la p hp hi
   ·intro p hp hi
    rcases List.mem_cons.1 hp with rfl | hp
    ·exact ⟨rfl,by simp⟩
    ·exact ⟨(h.lb p hp hi).1,by simp [(h.lb p hp hi).2]⟩
   ·intro p hp hi
    rcases List.mem_cons.1 hp with rfl | hp
    ·rfl
    ·exact h.za p hp hi
   ·intro p hp hi
    rcases List.mem_cons.1 hp with rfl | hp
    ·cases hi
    ·exact h.zb p hp hi
 | case4 x a y b hxy ih =>
   intro ha hb
   obtain ⟨hx,ha⟩:=List.pairwise_cons.1 ha
   have hy:=(List.pairwise_cons.1 hb).1
   have h:=ih ha hb
   refine ⟨List.pairwise_cons.2 ⟨fun p hp => ?_,h.asc⟩,by simp [← h.fa],by simpa using h.fb,?_,?_,?_,?_⟩
   ·rcases Xo _ _ p hp with ⟨z,h1,h2⟩ | ⟨z,h1,h2⟩
    ·rw [h2];exact hx z h1
    ·rw [h2]
     rcases List.mem_cons.1 h1 with rfl | h1
     ·exact hxy
     ·exact Ord.tr _ _ _ hxy (hy z h1)
   ·intro p hp hi
    rcases List.mem_cons.1 hp with rfl | hp
    ·exact ⟨rfl,by simp⟩
    ·exact ⟨(h.la p hp hi).1,by simp [(h.la p hp hi).2]⟩
   ·intro p hp hi
    rcases List.mem_cons.1 hp with rfl | hp
    ·cases hi
    ·exact h.lb p hp hi
   ·intro p hp hi
    rcases List.mem_cons.1 hp with rfl | hp
    ·cases hi
    ·exact h.za p hp hi
   ·intro p hp hi
    rcases List.mem_cons.1 hp with rfl | hp
    ·rfl
    ·exact h.zb p hp hi
 | case5 x a y b hxy hyx ih =>
   intro ha hb
   have hx:=(List.pairwise_cons.1 ha).1
   obtain ⟨hy,hb⟩:=List.pairwise_cons.1 hb
   have h:=ih ha hb
   refine ⟨List.pairwise_cons.2 ⟨fun p hp => ?_,h.asc⟩,by simpa using h.fa,by simp [← h.fb],?_,?_,?_,?_⟩
   ·rcases Xo _ _ p hp with ⟨z,h1,h2⟩ | ⟨z,h1,h2⟩
    ·rw [h2]
     rcases List.mem_cons.1 h1 with rfl | h1
     ·exact hyx
     ·exact Ord.tr _ _ _ hyx (hx z h1)
    ·rw [h2];exact hy z h1
   ·intro p hp hi
    rcases List.mem_cons.1 hp with rfl | hp
    ·cases hi
    ·exact h.la p hp hi
   ·intro p hp hi
    rcases List.mem_cons.1 hp with rfl | hp
    ·exact ⟨rfl,by simp⟩
    ·exact ⟨(h.lb p hp hi).1,by simp [(h.lb p hp hi).2]⟩
   ·intro p hp hi
    rcases List.mem_cons.1 hp with rfl | hp
    ·rfl
    ·exact h.za p hp hi
   ·intro p hp hi
    rcases List.mem_cons.1 hp with rfl | hp
    ·cases hi
    ·exact h.zb p hp hi
 | case6 x a y b hxy hyx ih =>
   intro ha hb
   have exy : x.label = y.label:=Ord.tri _ _ hxy hyx
   obtain ⟨hx,ha⟩:=List.pairwise_cons.1 ha
   obtain ⟨hy,hb⟩:=List.pairwise_cons.1 hb
   have h:=ih ha hb
   refine ⟨List.pairwise_cons.2 ⟨fun p hp => ?_,h.asc⟩,by simp [← h.fa],by simp [← h.fb],?_,?_,?_,?_⟩
   ·rcases Xo _ _ p hp with ⟨z,h1,h2⟩ | ⟨z,h1,h2⟩
    ·rw [h2];show y.label < z.label;rw [← exy];exact hx z h1
    ·rw [h2];exact hy z h1
   ·intro p hp hi
    rcases List.mem_cons.1 hp with rfl | hp
    ·exact ⟨exy,by simp⟩
    ·exact ⟨(h.la p hp hi).1,by simp [(h.la p hp hi).2]⟩
   ·intro p hp hi
    rcases List.mem_cons.1 hp with rfl | hp
    ·exact ⟨rfl,by simp⟩
    ·exact ⟨(h.lb p hp hi).1,by simp [(h.lb p hp hi).2]⟩
   ·intro p hp hi
    rcases List.mem_cons.1 hp with rfl | hp
    ·cases hi
    ·exact h.za p hp hi
   ·intro p hp hi
    rcases List.mem_cons.1 hp with rfl | hp
    ·cases hi
    ·exact h.zb p hp hi
end Go.Proofs.YtiaenhlflgobfaaGreatDoor
namespace Go.Proofs.YtiaenhlflgobfaaGreatDoor
def Za : PM → List PT → Option PM
 | m,[] => some m
 | m,e :: es => (Qz m e).bind fun m' => Za m' es
theorem Xw (es fs : List PT) : ∀ m,Za m (es ++ fs) = (Za m es).bind fun m' => Za m' fs:=by
 induction es with
 | nil => intro m;rfl
 | cons e es ih =>
   intro m
   simp only [List.cons_append,Za]
   cases Qz m e with
   | none => rfl
   | some m' => exact ih m'
theorem Qcj {m m' : PM} {e : PT} (h : Qz m e = some m') : m'.label = m.label:=by
 unfold Qz at h
 split at h
 ·split at h
  ·cases h
  ·cases h;rfl
 split at h
 ·split at h
  ·cases h;rfl
  ·cases h
 split at h
 ·split at h
  ·split at h
   ·cases h
   ·cases h;rfl
  ·cases h
 split at h
 ·split at h
  ·split at h
   ·split at h
    ·split at h
     ·cases h;rfl
     ·split at h
      ·cases h;rfl
      ·cases h
    ·cases h
   ·cases h
  ·cases h
 ·cases h
theorem Qem {es : List PT} : ∀ {m m' : PM},Za m es = some m' → m'.label = m.label:=by
 induction es with
 | nil => intro m m' h;cases h;rfl
 | cons e es ih =>
   intro m m' h
   unfold Za at h
   cases hq : Qz m e with
   | none => rw [hq] at h;cases h
   | some m1 =>
     rw [hq] at h
     rw [ih h,Qcj hq]
theorem Qd8 {pre post : List PM} : ∀ (es : List PT) {m m' : PM},Asc PM.label (pre ++ m :: post) → (∀ e ∈ es,e.pack = m.label ∧ e.kind ≠ 1 ∧ e.kind ≠ 2) → Za m es = some m' → Zc (pre ++ m :: post) es = some (pre ++ m' :: post)
 | [],m,m',_,_,h => by cases h;rfl
 | e :: es,m,m',ha,he,h => by
   unfold Za at h
   cases hq : Qz m e with
   | none => rw [hq] at h;cases h
   | some m1 =>
     rw [hq] at h
     obtain ⟨h1,h2,h3⟩:=he e (by simp)
     have hl:=Qcj hq
     unfold Zc
     rw [Qbz ha h1.symm h2 h3,hq]
     exact Qd8 es (Qan ha hl) (fun x hx => by rw [hl];exact he x (by simp [hx])) h
theorem Xm (f g : Bo → PM) (E : Bo → List PT) : ∀ (ps : List Bo) (pre : List PM),Asc PM.label (pre ++ ps.map f) → (∀ p ∈ ps,Za (f p) (E p) = some (g p) ∧ ∀ e ∈ E p,e.pack = (f p).label ∧ e.kind ≠ 1 ∧ e.kind ≠ 2) → Zc (pre ++ ps.map f) (ps.flatMap E) = some (pre ++ ps.map g)
 | [],pre,_,_ => rfl
 | p :: ps,pre,ha,h => by
   obtain ⟨h1,h2⟩:=h p (by simp)
   rw [List.flatMap_cons,Zz,List.map_cons]
   rw [List.map_cons] at ha
   rw [Qd8 _ ha h2 h1]
   have hl:=Qem h1
   have ha2:=Qan ha hl
   have e0 : ∀ r : List PM,pre ++ g p :: r = (pre ++ [g p]) ++ r:=fun r => by simp
   simp only [Option.bind_some,List.map_cons]
   rw [e0 (ps.map f),e0 (ps.map g)]
   rw [e0 (ps.map f)] at ha2
   exact Xm f g E ps _ ha2 (fun q hq => h q (by simp [hq]))
def Qap (L xs : List T) : List T:=xs.foldl (fun L x => Zt id L x) L
def Qct (L xs : List T) : List T:=xs.foldl (fun L x => Yo id L x) L
theorem Qgg (l : T) (ds : List PD) : ∀ (xs L : List T),L.Pairwise (· < ·) → xs.Nodup → (∀ x ∈ xs,x ∉ L) → Za ⟨l,L,ds⟩ (xs.map fun u => ⟨3,l,u,[],[]⟩) = some ⟨l,Qap L xs,ds⟩ ∧ (Qap L xs).Pairwise (· < ·) ∧ ∀ y,y ∈ Qap L xs ↔ y ∈ L ∨ y ∈ xs
 | [],L,hL,_,_ => ⟨rfl,hL,fun y => by simp [Qap]⟩
 | x :: xs,L,hL,hn,hx => by
   obtain ⟨n1,n2⟩:=List.nodup_cons.1 hn
   have hg : Zd id L x = false:=by
    cases hq : Zd id L x with
    | false => rfl
    | true =>
      obtain ⟨y,hy,e⟩:=(Qhd (key:=(id : T → T)) (p:=x) hL).1 hq
      exact absurd (show x ∈ L by cases e;exact hy) (hx x (by simp))
   obtain ⟨pre,post,e0,g1,g2⟩:=Qfw (key:=(id : T → T)) hL hg
   have hi : Zt id L x = pre ++ x :: post:=by rw [e0];exact Z8 g1 g2
   have ha : (Zt id L x).Pairwise (· < ·):=by
    rw [hi]
    rw [e0] at hL
    exact Qbh (key:=(id : T → T)) hL g1 g2
   have hm : ∀ y,y ∈ Zt id L x ↔ y ∈ L ∨ y = x:=by
    intro y
    rw [hi,e0]
    simp only [List.mem_append,List.mem_cons]
    constructor
    ·rintro (h | h | h)
     ·exact .inl (.inl h)
     ·exact .inr h
     ·exact .inl (.inr h)
    ·rintro ((h | h) | h)
     ·exact .inl h
     ·exact .inr (.inr h)
     ·exact .inr (.inl h)
   obtain ⟨h1,h2,h3⟩:=Qgg l ds xs (Zt id L x) ha n2 (fun y hy hl => by
    rcases (hm y).1 hl with h | rfl
    ·exact hx y (by simp [hy]) h
    ·exact n1 hy)
   refine ⟨?_,h2,fun y => ?_⟩
   ·rw [List.map_cons]
    unfold Za Qz
    simp only [if_true,hg]
    exact h1
   ·show y ∈ Qap (Zt id L x) xs ↔ _
    rw [h3 y,hm y,List.mem_cons,or_assoc]
theorem Qkk (l : T) (ds : List PD) : ∀ (xs L : List T),L.Pairwise (· < ·) → xs.Nodup → (∀ x ∈ xs,x ∈ L) → Za ⟨l,L,ds⟩ (xs.map fun u => ⟨4,l,u,[],[]⟩) = some ⟨l,Qct L xs,ds⟩ ∧ (Qct L xs).Pairwise (· < ·) ∧ ∀ y,y ∈ Qct L xs ↔ y ∈ L ∧ y ∉ xs
 | [],L,hL,_,_ => ⟨rfl,hL,fun y => by simp [Qct]⟩
 | x :: xs,L,hL,hn,hx => by
   obtain ⟨n1,n2⟩:=List.nodup_cons.1 hn
   have hg : Zd id L x = true:=(Qhd (key:=(id : T → T)) (p:=x) hL).2 ⟨x,hx x (by simp),rfl⟩
   obtain ⟨pre,z,post,e0,ez⟩:=mid_of (key:=(id : T → T)) hL hg
   obtain rfl : x = z:=ez.symm
   have hL':=hL
   rw [e0] at hL'
   have hi : Yo id L x = pre ++ post:=by rw [e0];exact Z9 (key:=(id : T → T)) hL'
   have ha : (Yo id L x).Pairwise (· < ·):=by
    rw [hi]
    exact Qao (key:=(id : T → T)) hL'
   obtain ⟨g1,g2⟩:=Qay (key:=(id : T → T)) hL'
   have hm : ∀ y,y ∈ Yo id L x ↔ y ∈ L ∧ y ≠ x:=by
    intro y
    rw [hi,e0]
    simp only [List.mem_append,List.mem_cons]
    constructor
    ·rintro (h | h)
     ·exact ⟨.inl h,fun e => by subst e;exact Ord.irr _ (g1 _ h)⟩
     ·exact ⟨.inr (.inr h),fun e => by subst e;exact Ord.irr _ (g2 _ h)⟩
    ·rintro ⟨h | h | h,hne⟩
     ·exact .inl h
     ·exact absurd h hne
     ·exact .inr h
   obtain ⟨h1,h2,h3⟩:=Qkk l ds xs (Yo id L x) ha n2 (fun y hy => (hm y).2 ⟨hx y (by simp [hy]),fun e => n1 (by rw [← e];exact hy)⟩)
   refine ⟨?_,h2,fun y => ?_⟩
   ·rw [List.map_cons]
    unfold Za Qz
    simp only [show ¬ (4 : Int) = 3 by decide,if_false,if_true,hg]
    exact h1
   ·show y ∈ Qct (Yo id L x) xs ↔ _
    rw [h3 y,hm y,List.mem_cons,not_or,and_assoc]
theorem Qfq (k : Int) (d : PD) : (Qs k d).id = d.id:=by
 unfold Qs
 split
 ·rfl
 ·split
  ·rfl
  ·split <;> rfl
theorem Qeu (k : Int) (d : PD) : Qs k (Qs k d) = Qs k d:=by
 unfold Qs
 by_cases h7 : k = 7
 ·simp [h7]
 ·by_cases h8 : k = 8
  ·simp [h8]
  ·by_cases h9 : k = 9
   ·simp [h9]
   ·simp [h7,h8,h9]
theorem Qf7 {l : T} {us : List T} {pre post : List PD} {k : Int} {x y d : PD} (h0 : 7 ≤ k) (h1 : k ≤ 9) (ha : Asc PD.id (pre ++ d :: post)) (hx : d.id = x.id) (hm : Qs k d = Qs k x) (heq : Qs k x = Qs k y → upd k d (Qs k y) = d) :
 Za ⟨l,us,pre ++ d :: post⟩ (X5 k l x y) = some ⟨l,us,pre ++ upd k d (Qs k y) :: post⟩:=by
 unfold X5
 by_cases he : Qs k x = Qs k y
 ·rw [if_pos he,heq he];rfl
 ·rw [if_neg he]
  unfold Za Qz
  simp only [if_neg (show ¬ k = 3 by omega),if_neg (show ¬ k = 4 by omega),if_neg (show ¬ k = 5 by omega),if_neg (show ¬ k = 6 by omega)]
  have hp:=Q5 ha
  rw [hx] at hp
  rw [Qfq,hp,Qam]
  simp only [hx,if_true,hm,set_mid]
  rfl
theorem upd_all {x y : PD} (h : x.id = y.id) : upd 9 (upd 8 (upd 7 x (Qs 7 y)) (Qs 8 y)) (Qs 9 y) = y:=by
 obtain ⟨a,b,c,d,e,f⟩:=x
 obtain ⟨a',b',c',d',e',f'⟩:=y
 simp only at h
 subst h
 simp [upd,Qs]
theorem Qok (l : T) (us : List T) : ∀ (a b : List PD) (P : List PD),Asc PD.id (P ++ a) → Asc PD.id (P ++ b) → Za ⟨l,us,P ++ a⟩ (Qu l a b) = some ⟨l,us,P ++ b⟩:=by
 intro a b
 fun_induction Qu l a b with
 | case1 => intro P _ _;rfl
 | case2 x a ih =>
   intro P ha hb
   unfold Za Qz
   simp only [show ¬ (6 : Int) = 3 by decide,show ¬ (6 : Int) = 4 by decide,show ¬ (6 : Int) = 5 by decide,if_false,if_true]
   rw [Q5 ha,Qam]
   simp only [Qj4,if_true]
   rw [Z9 ha]
   exact ih P (Qao ha) hb
 | case3 y b ih =>
   intro P ha hb
   unfold Za Qz
   simp only [show ¬ (5 : Int) = 3 by decide,show ¬ (5 : Int) = 4 by decide,if_false,if_true]
   obtain ⟨g1,g2⟩:=Qay hb
   have t1:=Yi (key:=PD.id) (post:=[]) g1 (by simp)
   have t3:=Z8 (key:=PD.id) (post:=[]) g1 (by simp)
   rw [t1,t3]
   have e0 : P ++ y :: b = (P ++ [y]) ++ b:=by simp
   rw [e0] at hb ⊢
   have:=ih (P ++ [y]) (by simpa using (Qbh (key:=PD.id) (post:=[]) ha g1 (by simp))) hb
   simpa using this
 | case4 x a y b hxy ih =>
   intro P ha hb
   unfold Za Qz
   simp only [show ¬ (6 : Int) = 3 by decide,show ¬ (6 : Int) = 4 by decide,show ¬ (6 : Int) = 5 by decide,if_false,if_true]
   rw [Q5 ha,Qam]
   simp only [Qj4,if_true]
   rw [Z9 ha]
   exact ih P (Qao ha) hb
 | case5 x a y b hxy hyx ih =>
   intro P ha hb
   unfold Za Qz
   simp only [show ¬ (5 : Int) = 3 by decide,show ¬ (5 : Int) = 4 by decide,if_false,if_true]
   obtain ⟨g1,g2⟩:=Qay hb
   obtain ⟨g3,g4⟩:=Qay ha
   have g5 : ∀ z ∈ x :: a,y.id < z.id:=by
    intro z hz
    rcases List.mem_cons.1 hz with rfl | hz
    ·exact hyx
    ·exact Ord.tr _ _ _ hyx (g4 z hz)
   have t1:=Yi (key:=PD.id) g1 g5
   have t3:=Z8 (key:=PD.id) g1 g5
   rw [t1,t3]
   have e0 : ∀ r : List PD,P ++ y :: r = (P ++ [y]) ++ r:=fun r => by simp
   have ha2:=Qbh (key:=PD.id) ha g1 g5
   rw [e0] at hb ha2
   have:=ih (P ++ [y]) ha2 hb
   simpa using this
 | case6 x a y b hxy hyx ih =>
   intro P ha hb
   have exy : x.id = y.id:=Ord.tri _ _ hxy hyx
   rw [Xw,Qf7 (d:=x) (by decide) (by decide) ha rfl rfl (fun h => by
    have h2 : ∀ z w : PD,Qs 7 z = Qs 7 w → z.names = w.names:=fun z w h => by simpa [Qs] using congrArg PD.names h
    have h2:=h2 _ _ h
    obtain ⟨a1,a2,a3,a4,a5,a6⟩:=x
    simp only at h2
    simp [upd,Qs,h2])]
   simp only [Option.bind_some]
   have ha1:=Qan ha (Qbq 7 x (Qs 7 y))
   rw [Xw,Qf7 (d:=upd 7 x (Qs 7 y)) (by decide) (by decide) ha1 (Qbq _ _ _) (by simp [upd,Qs]) (fun h => by
    have h2 : ∀ z w : PD,Qs 8 z = Qs 8 w → z.body = w.body:=fun z w h => by simpa [Qs] using congrArg PD.body h
    have h2:=h2 _ _ h
    obtain ⟨a1,a2,a3,a4,a5,a6⟩:=x
    simp only at h2
    simp [upd,Qs,h2])]
   simp only [Option.bind_some]
   have ha2:=Qan ha1 (Qbq 8 (upd 7 x (Qs 7 y)) (Qs 8 y))
   rw [Xw,Qf7 (d:=upd 8 (upd 7 x (Qs 7 y)) (Qs 8 y)) (by decide) (by decide) ha2 (by rw [Qbq,Qbq]) (by simp [upd,Qs]) (fun h => by
    have h2 : ∀ z w : PD,Qs 9 z = Qs 9 w → z.kind = w.kind ∧ z.pub = w.pub ∧ z.doubt = w.doubt:=fun z w h => ⟨by simpa [Qs] using congrArg PD.kind h,by simpa [Qs] using congrArg PD.pub h,by simpa [Qs] using congrArg PD.doubt h⟩
    obtain ⟨h2,h3,h4⟩:=h2 _ _ h
    obtain ⟨a1,a2,a3,a4,a5,a6⟩:=x
    simp only at h2 h3 h4
    simp [upd,Qs,h2,h3,h4])]
   simp only [Option.bind_some]
   rw [upd_all exy]
   have ha3 : Asc PD.id (P ++ y :: a):=Qan ha exy.symm
   have e0 : ∀ r : List PD,P ++ y :: r = (P ++ [y]) ++ r:=fun r => by simp
   rw [e0] at hb ha3
   rw [e0 a,e0 b]
   exact ih (P ++ [y]) ha3 hb
end Go.Proofs.YtiaenhlflgobfaaGreatDoor
namespace Go.Proofs.YtiaenhlflgobfaaGreatDoor
def f1 (p : Bo) : PM:=⟨p.label,p.a.uses,p.a.decls⟩
def f2 (p : Bo) : PM:=⟨p.label,Qap p.a.uses (p.b.uses.filter fun u => !p.a.uses.contains u),p.a.decls⟩
def f3 (p : Bo) : PM:=⟨p.label,Qap p.a.uses (p.b.uses.filter fun u => !p.a.uses.contains u),p.b.decls⟩
def f4 (p : Bo) : PM:=⟨p.label,p.b.uses,p.b.decls⟩
theorem Qci {f : Bo → PM} (hf : ∀ p,(f p).label = p.label) {ps : List Bo} (h : Asc Bo.label ps) : Asc PM.label (ps.map f):=by
 refine List.pairwise_map.2 (h.imp fun {x y} hxy => ?_)
 rw [hf,hf];exact hxy
theorem Qkt : ∀ (ps : List Bo) (pre : List PM),Asc PM.label (pre ++ ps.map f1) → (∀ p ∈ ps,p.inA = true → p.a.label = p.label) → (∀ p ∈ ps,p.inA = false → p.a = zM) →
 Zc (pre ++ (ps.filter (·.inA)).map (·.a)) (ps.flatMap Yx) = some (pre ++ ps.map f1)
 | [],pre,_,_,_ => by simp [Zc]
 | p :: ps,pre,ha,hl,hz => by
   have e0 : ∀ (x : PM) (r : List PM),pre ++ x :: r = (pre ++ [x]) ++ r:=fun x r => by simp
   have key : (p.inA = true ∧ f1 p = p.a ∧ Yx p = []) ∨ (p.inA = false ∧ f1 p = ⟨p.label,[],[]⟩ ∧ Yx p = [⟨1,p.label,[],[],[]⟩]):=by
    cases hi : p.inA with
    | true =>
      refine .inl ⟨rfl,?_,by simp [Yx,hi]⟩
      have:=hl p (by simp) hi
      unfold f1
      rw [← this]
    | false =>
      refine .inr ⟨rfl,?_,by simp [Yx,hi]⟩
      have:=hz p (by simp) hi
      unfold f1
      rw [this];rfl
   rw [List.map_cons] at ha
   have ha2:=ha
   rw [e0] at ha2
   have ih:=Qkt ps (pre ++ [f1 p]) ha2 (fun q hq => hl q (by simp [hq])) (fun q hq => hz q (by simp [hq]))
   rw [List.flatMap_cons,List.map_cons,e0 (f1 p)]
   rcases key with ⟨hi,hf,he⟩ | ⟨hi,hf,he⟩
   ·rw [he,List.nil_append,List.filter_cons_of_pos (by simpa using hi),List.map_cons,← hf,e0 (f1 p)]
    exact ih
   ·rw [he,List.filter_cons_of_neg (by simp [hi])]
    obtain ⟨g1,g2⟩:=Qay ha
    have g3 : ∀ x ∈ (ps.filter (·.inA)).map (·.a),(f1 p).label < x.label:=by
     intro x hx
     obtain ⟨q,hq,rfl⟩:=List.mem_map.1 hx
     obtain ⟨hq1,hq2⟩:=List.mem_filter.1 hq
     rw [hl q (by simp [hq1]) (by simpa using hq2)]
     exact g2 (f1 q) (List.mem_map.2 ⟨q,hq1,rfl⟩)
    have t1:=Yi (key:=PM.label) g1 g3
    have t3:=Z8 (key:=PM.label) g1 g3
    show Zc _ (_ :: ps.flatMap Yx) = _
    unfold Zc Zn
    simp only [if_true]
    rw [hf] at t1 t3 ih ⊢
    simp only at t1
    rw [t1,t3]
    rw [e0]
    exact ih
theorem Qfi : ∀ (ps : List Bo) (pre : List PM),Asc PM.label (pre ++ ps.map f4) → (∀ p ∈ ps,p.inB = true → p.b.label = p.label) → (∀ p ∈ ps,p.inB = false → p.b = zM) →
 Zc (pre ++ ps.map f4) (ps.flatMap Yr) = some (pre ++ (ps.filter (·.inB)).map (·.b))
 | [],pre,_,_,_ => by simp [Zc]
 | p :: ps,pre,ha,hl,hz => by
   have e0 : ∀ (x : PM) (r : List PM),pre ++ x :: r = (pre ++ [x]) ++ r:=fun x r => by simp
   rw [List.map_cons] at ha
   rw [List.flatMap_cons,List.map_cons]
   cases hi : p.inB with
   | true =>
     have hf : f4 p = p.b:=by
      have:=hl p (by simp) hi
      unfold f4
      rw [← this]
     have ha2:=ha
     rw [e0] at ha2
     have ih:=Qfi ps (pre ++ [f4 p]) ha2 (fun q hq => hl q (by simp [hq])) (fun q hq => hz q (by simp [hq]))
     rw [show Yr p = [] by simp [Yr,hi],List.nil_append,List.filter_cons_of_pos (by simpa using hi),List.map_cons,← hf]
     simpa using ih
   | false =>
     have hf : f4 p = ⟨p.label,[],[]⟩:=by
      have:=hz p (by simp) hi
      unfold f4
      rw [this];rfl
     have ih:=Qfi ps pre (Qao ha) (fun q hq => hl q (by simp [hq])) (fun q hq => hz q (by simp [hq]))
     rw [show Yr p = [⟨2,p.label,[],[],[]⟩] by simp [Yr,hi],List.filter_cons_of_neg (by simp [hi])]
     have t1:=Q5 ha
     have t2:=Z9 ha
     show Zc _ (_ :: ps.flatMap Yr) = _
     unfold Zc Zn
     rw [hf] at t1 t2 ⊢
     simp only [show ¬ (2 : Int) = 1 by decide,if_false] at t1 t2 ⊢
     rw [t1,Qam]
     simp only [and_self,if_true]
     rw [t2]
     exact ih
theorem Qep {O : Oks} {k : Int} (hk : k = 3 ∨ k = 4) {l : T} (hl : O.lab l = true) {us vs : List T} (h : ∀ u ∈ us,O.lab u = true ∧ O.use l u = true) : ∀ e ∈ Yp k l us vs,O.Edit e ∧ e.pack = l ∧ e.kind ≠ 1 ∧ e.kind ≠ 2:=by
 intro e he
 unfold Yp at he
 obtain ⟨u,hu,rfl⟩:=List.mem_map.1 he
 obtain ⟨h1,h2⟩:=h u (List.mem_filter.1 hu |>.1)
 refine ⟨⟨by show 1 ≤ k;omega,by show k ≤ 9;omega,X0 ?_ ?_ (.inr ?_) (.inl ?_),fun m hm => ?_⟩,rfl,?_,?_⟩
 ·rcases hk with rfl | rfl <;> rfl
 ·rcases hk with rfl | rfl <;> rfl
 ·rcases hk with rfl | rfl
  ·exact .inl rfl
  ·exact .inr rfl
 ·show k < 7;omega
 ·have hm' : m = ⟨l,[u],[]⟩:=by
   rcases hk with rfl | rfl <;> simpa [Zh] using hm
  subst hm'
  exact ⟨hl,fun v hv => by rw [List.mem_singleton.1 hv];exact ⟨h1,h2⟩,List.pairwise_singleton _ _,by simp,.nil,O.rest1 l u⟩
 ·show ¬ k = 1;omega
 ·show ¬ k = 2;omega
theorem Oks.one {O : Oks} {l : T} (hl : O.lab l = true) {d : PD} (h : O.Decl l d) : O.Mod ⟨l,[],[d]⟩ :=
 ⟨hl,by simp,.nil,fun x hx => by rw [List.mem_singleton.1 hx];exact h,List.pairwise_singleton _ _,O.rest2 l d⟩
theorem Oks.none {O : Oks} {l : T} (hl : O.lab l = true) : O.Mod ⟨l,[],[]⟩:=⟨hl,by simp,.nil,by simp,.nil,O.rest0 l⟩
theorem Qc3 {O : Oks} {l : T} {k : Int} {d : PD} (hk : k = 7 ∨ k = 8 ∨ k = 9) (h : O.Decl l d) : O.Decl l (Ql k (Qs k d)):=by
 obtain ⟨a,b,c,d1,e⟩:=h
 rcases hk with rfl | rfl | rfl
 ·exact ⟨by simpa [Ql,Qs] using a,by simpa [Ql,Qs] using b,by simp [Ql],by simpa [Ql,Qs] using d1,by simpa [Ql] using O.bodyN l⟩
 ·exact ⟨by simpa [Ql,Qs] using a,by simpa [Ql,Qs] using b,by simp [Ql],by simpa [Ql] using O.namesA,by simpa [Ql,Qs] using e⟩
 ·exact ⟨by simpa [Ql,Qs] using a,by simpa [Ql,Qs] using b,by simpa [Ql,Qs] using c,by simpa [Ql] using O.namesA,by simpa [Ql] using O.bodyN l⟩
theorem Qcx {O : Oks} {k : Int} (hk : k = 7 ∨ k = 8 ∨ k = 9) {l : T} (hl : O.lab l = true) {x y : PD} (hx : O.Decl l x) (hy : O.Decl l y) (e0 : x.id = y.id) : ∀ e ∈ X5 k l x y,O.Edit e ∧ e.pack = l ∧ e.kind ≠ 1 ∧ e.kind ≠ 2:=by
 intro e he
 unfold X5 at he
 split at he
 ·cases he
 rename_i hne
 obtain rfl:=List.mem_singleton.1 he
 have h7 : 7 ≤ k:=by omega
 refine ⟨⟨by show 1 ≤ k;omega,by show k ≤ 9;omega,X0 ?_ ?_ (.inl rfl) (.inr ?_),fun m hm => ?_⟩,rfl,?_,?_⟩
 ·show _ = if k = 6 ∨ 7 ≤ k then 1 else 0
  rw [if_pos (.inr h7)];rfl
 ·show _ = if k = 5 ∨ 7 ≤ k then 1 else 0
  rw [if_pos (.inr h7)];rfl
 ·unfold Xu
  simp only [Bool.and_eq_true,decide_eq_true_eq,Bool.not_eq_true',decide_eq_false_iff_not]
  exact ⟨⟨⟨(Qeu k x).symm,(Qeu k y).symm⟩,by rw [Qfq,Qfq,e0]⟩,hne⟩
 ·unfold Zh at hm
  simp only [if_neg (show ¬ (k = 1 ∨ k = 2) by omega),if_neg (show ¬ (k = 3 ∨ k = 4) by omega)] at hm
  obtain ⟨d,hd,rfl⟩:=List.mem_map.1 hm
  refine Oks.one hl ?_
  simp only [List.cons_append,List.nil_append,List.mem_cons,List.not_mem_nil,or_false] at hd
  rcases hd with rfl | rfl
  ·exact Qc3 hk hx
  ·exact Qc3 hk hy
 ·show ¬ k = 1;omega
 ·show ¬ k = 2;omega
theorem Qi4 {O : Oks} {l : T} (hl : O.lab l = true) (a b : List PD) : (∀ d ∈ a,O.Decl l d) → (∀ d ∈ b,O.Decl l d) → ∀ e ∈ Qu l a b,O.Edit e ∧ e.pack = l ∧ e.kind ≠ 1 ∧ e.kind ≠ 2:=by
 have rem : ∀ x,O.Decl l x → O.Edit ⟨6,l,[],[x],[]⟩:=fun x hx => ⟨by show (1 : Int) ≤ 6;decide,by show (6 : Int) ≤ 9;decide,X0 rfl rfl (.inl rfl) (.inl (by show (6 : Int) < 7;decide)),fun m hm => by
  obtain rfl : m = ⟨l,[],[x]⟩:=by simpa [Zh,Ql] using hm
  exact Oks.one hl hx⟩
 have add : ∀ x,O.Decl l x → O.Edit ⟨5,l,[],[],[x]⟩:=fun x hx => ⟨by show (1 : Int) ≤ 5;decide,by show (5 : Int) ≤ 9;decide,X0 rfl rfl (.inl rfl) (.inl (by show (5 : Int) < 7;decide)),fun m hm => by
  obtain rfl : m = ⟨l,[],[x]⟩:=by simpa [Zh,Ql] using hm
  exact Oks.one hl hx⟩
 have k6 : (6 : Int) ≠ 1 ∧ (6 : Int) ≠ 2:=⟨by decide,by decide⟩
 have k5 : (5 : Int) ≠ 1 ∧ (5 : Int) ≠ 2:=⟨by decide,by decide⟩
 fun_induction Qu l a b with
 | case1 => intro _ _ e he;cases he
 | case2 x a ih =>
   intro ha hb e he
   rcases List.mem_cons.1 he with rfl | he
   ·exact ⟨rem x (ha x (by simp)),rfl,k6⟩
   ·exact ih (fun d hd => ha d (by simp [hd])) hb e he
 | case3 y b ih =>
   intro ha hb e he
   rcases List.mem_cons.1 he with rfl | he
   ·exact ⟨add y (hb y (by simp)),rfl,k5⟩
   ·exact ih ha (fun d hd => hb d (by simp [hd])) e he
 | case4 x a y b hxy ih =>
   intro ha hb e he
   rcases List.mem_cons.1 he with rfl | he
   ·exact ⟨rem x (ha x (by simp)),rfl,k6⟩
   ·exact ih (fun d hd => ha d (by simp [hd])) hb e he
 | case5 x a y b hxy hyx ih =>
   intro ha hb e he
   rcases List.mem_cons.1 he with rfl | he
   ·exact ⟨add y (hb y (by simp)),rfl,k5⟩
   ·exact ih ha (fun d hd => hb d (by simp [hd])) e he
 | case6 x a y b hxy hyx ih =>
   intro ha hb e he
   have exy : x.id = y.id:=Ord.tri _ _ hxy hyx
   have hx:=ha x (by simp)
   have hy:=hb y (by simp)
   simp only [List.mem_append] at he
   rcases he with he | he | he | he
   ·exact Qcx (.inl rfl) hl hx hy exy e he
   ·exact Qcx (.inr (.inl rfl)) hl hx hy exy e he
   ·exact Qcx (.inr (.inr rfl)) hl hx hy exy e he
   ·exact ih (fun d hd => ha d (by simp [hd])) (fun d hd => hb d (by simp [hd])) e he
theorem Qcc {O : Oks} {a b : List PM} (ha : O.Mods a) (hb : O.Mods b) : Zc a (Xc a b) = some b ∧ ∀ e ∈ Xc a b,O.Edit e:=by
 have P:=Qm7 a b ha.asc hb.asc
 obtain ⟨ps,hps⟩ : ∃ ps,Qx a b = ps:=⟨_,rfl⟩
 have hl : ∀ p ∈ ps,O.lab p.label = true:=by
  intro p hp
  rw [← hps] at hp
  rcases Xo a b p hp with ⟨x,h1,h2⟩ | ⟨x,h1,h2⟩
  ·rw [h2];exact (ha.mods x h1).lab
  ·rw [h2];exact (hb.mods x h1).lab
 rw [hps] at P
 have mA : ∀ p ∈ ps,(∀ u ∈ p.a.uses,O.lab u = true ∧ O.use p.label u = true) ∧ p.a.uses.Pairwise (· < ·) ∧ (∀ d ∈ p.a.decls,O.Decl p.label d) ∧ Asc PD.id p.a.decls:=by
  intro p hp
  cases hi : p.inA with
  | true =>
    obtain ⟨h1,h2⟩:=P.la p hp hi
    have h3:=ha.mods _ h2
    rw [← h1]
    exact ⟨h3.uses,h3.uasc,h3.decls,h3.dasc⟩
  | false =>
    rw [P.za p hp hi]
    exact ⟨by simp [zM],.nil,by simp [zM],.nil⟩
 have mB : ∀ p ∈ ps,(∀ u ∈ p.b.uses,O.lab u = true ∧ O.use p.label u = true) ∧ p.b.uses.Pairwise (· < ·) ∧ (∀ d ∈ p.b.decls,O.Decl p.label d) ∧ Asc PD.id p.b.decls:=by
  intro p hp
  cases hi : p.inB with
  | true =>
    obtain ⟨h1,h2⟩:=P.lb p hp hi
    have h3:=hb.mods _ h2
    rw [← h1]
    exact ⟨h3.uses,h3.uasc,h3.decls,h3.dasc⟩
  | false =>
    rw [P.zb p hp hi]
    exact ⟨by simp [zM],.nil,by simp [zM],.nil⟩
 have nd : ∀ {l : List T},l.Pairwise (· < ·) → l.Nodup:=fun h => h.imp fun {x y} hxy e => by subst e;exact Ord.irr _ hxy
 have e3 : ∀ p ∈ ps,∀ e ∈ Yp 3 p.label p.b.uses p.a.uses,O.Edit e ∧ e.pack = p.label ∧ e.kind ≠ 1 ∧ e.kind ≠ 2:=fun p hp => Qep (.inl rfl) (hl p hp) (mB p hp).1
 have e4 : ∀ p ∈ ps,∀ e ∈ Yp 4 p.label p.a.uses p.b.uses,O.Edit e ∧ e.pack = p.label ∧ e.kind ≠ 1 ∧ e.kind ≠ 2:=fun p hp => Qep (.inr rfl) (hl p hp) (mA p hp).1
 have e5 : ∀ p ∈ ps,∀ e ∈ Qu p.label p.a.decls p.b.decls,O.Edit e ∧ e.pack = p.label ∧ e.kind ≠ 1 ∧ e.kind ≠ 2:=fun p hp => Qi4 (hl p hp) _ _ (mA p hp).2.2.1 (mB p hp).2.2.1
 have p1:=Qkt ps [] (by simpa using Qci (f:=f1) (fun _ => rfl) P.asc) (fun p hp hi => (P.la p hp hi).1) P.za
 have p2:=Xm f1 f2 (fun p => Yp 3 p.label p.b.uses p.a.uses) ps [] (by simpa using Qci (f:=f1) (fun _ => rfl) P.asc) (fun p hp => by
  refine ⟨?_,fun e he => (e3 p hp e he).2⟩
  exact (Qgg p.label p.a.decls _ p.a.uses (mA p hp).2.1 ((nd (mB p hp).2.1).filter _) (fun x hx => by simpa using (List.mem_filter.1 hx).2)).1)
 have p3:=Xm f2 f3 (fun p => Qu p.label p.a.decls p.b.decls) ps [] (by simpa using Qci (f:=f2) (fun _ => rfl) P.asc) (fun p hp => by
  refine ⟨?_,fun e he => (e5 p hp e he).2⟩
  have:=Qok p.label (Qap p.a.uses (p.b.uses.filter fun u => !p.a.uses.contains u)) p.a.decls p.b.decls [] (by simpa using (mA p hp).2.2.2) (by simpa using (mB p hp).2.2.2)
  simp only [List.nil_append] at this
  exact this)
 have p4:=Xm f3 f4 (fun p => Yp 4 p.label p.a.uses p.b.uses) ps [] (by simpa using Qci (f:=f3) (fun _ => rfl) P.asc) (fun p hp => by
  refine ⟨?_,fun e he => (e4 p hp e he).2⟩
  obtain ⟨-,q2,q3⟩:=Qgg p.label p.b.decls _ p.a.uses (mA p hp).2.1 ((nd (mB p hp).2.1).filter (fun u => !p.a.uses.contains u)) (fun x hx => by simpa using (List.mem_filter.1 hx).2)
  obtain ⟨r1,r2,r3⟩:=Qkk p.label p.b.decls (p.a.uses.filter fun u => !p.b.uses.contains u) _ q2 ((nd (mA p hp).2.1).filter _) (fun x hx => (q3 x).2 (.inl (List.mem_filter.1 hx |>.1)))
  have e0 : Qct (Qap p.a.uses (p.b.uses.filter fun u => !p.a.uses.contains u)) (p.a.uses.filter fun u => !p.b.uses.contains u) = p.b.uses:=by
   refine Qks r2 (mB p hp).2.1 (fun x => ?_)
   rw [r3,q3]
   simp only [List.mem_filter,Bool.not_eq_true',List.contains_eq_mem,decide_eq_false_iff_not,not_and,Classical.not_not]
   constructor
   ·rintro ⟨h1 | h1,h2⟩
    ·exact h2 h1
    ·exact h1.1
   ·intro h
    refine ⟨?_,fun _ => h⟩
    by_cases hx : x ∈ p.a.uses
    ·exact .inl hx
    ·exact .inr ⟨h,hx⟩
  rw [e0] at r1
  exact r1)
 have p5:=Qfi ps [] (by simpa using Qci (f:=f4) (fun _ => rfl) P.asc) (fun p hp hi => (P.lb p hp hi).1) P.zb
 simp only [List.nil_append] at p1 p2 p3 p4 p5
 rw [← P.fa] at p1
 rw [← P.fb] at p5
 unfold Xc
 rw [hps]
 constructor
 ·rw [Zz,p1,Option.bind_some,Zz,p2,Option.bind_some,Zz,p3,Option.bind_some,Zz,p4,Option.bind_some,p5]
 ·intro e he
  simp only [List.mem_append,List.mem_flatMap] at he
  rcases he with ⟨p,hp,he⟩ | ⟨p,hp,he⟩ | ⟨p,hp,he⟩ | ⟨p,hp,he⟩ | ⟨p,hp,he⟩
  ·unfold Yx at he
   split at he
   ·cases he
   ·obtain rfl:=List.mem_singleton.1 he
    exact ⟨by show (1 : Int) ≤ 1;decide,by show (1 : Int) ≤ 9;decide,X0 rfl rfl (.inl rfl) (.inl (by show (1 : Int) < 7;decide)),fun m hm => by
     obtain rfl : m = ⟨p.label,[],[]⟩:=by simpa [Zh] using hm
     exact Oks.none (hl p hp)⟩
  ·exact (e3 p hp e he).1
  ·exact (e5 p hp e he).1
  ·exact (e4 p hp e he).1
  ·unfold Yr at he
   split at he
   ·cases he
   ·obtain rfl:=List.mem_singleton.1 he
    exact ⟨by show (1 : Int) ≤ 2;decide,by show (2 : Int) ≤ 9;decide,X0 rfl rfl (.inl rfl) (.inl (by show (2 : Int) < 7;decide)),fun m hm => by
     obtain rfl : m = ⟨p.label,[],[]⟩:=by simpa [Zh] using hm
     exact Oks.none (hl p hp)⟩
end Go.Proofs.YtiaenhlflgobfaaGreatDoor
namespace Go.Proofs.YtiaenhlflgobfaaGreatDoor
def Bo.swap (p : Bo) : Bo:=⟨p.label,p.inB,p.inA,p.b,p.a⟩
theorem Qh8 (a b : List PM) : Qx b a = (Qx a b).map Bo.swap:=by
 fun_induction Qx a b with
 | case1 => simp [Qx]
 | case2 x a ih => rw [Qx,ih];rfl
 | case3 y b ih => rw [Qx,ih];rfl
 | case4 x a y b h ih => rw [Qx,if_neg (Ord.asym h),if_pos h,ih];rfl
 | case5 x a y b h k ih => rw [Qx,if_pos k,ih];rfl
 | case6 x a y b h k ih =>
   rw [Qx,if_neg k,if_neg h,ih,Ord.tri _ _ h k]
   simp [Bo.swap]
theorem Qf8 (k : Int) (l l' : T) (x y : PD) : (X5 k l x y).length = (X5 k l' y x).length:=by
 unfold X5
 by_cases h : Qs k x = Qs k y
 ·rw [if_pos h,if_pos h.symm]
 ·rw [if_neg h,if_neg (fun e => h e.symm)];rfl
theorem Qoj (l l' : T) (a b : List PD) : (Qu l a b).length = (Qu l' b a).length:=by
 fun_induction Qu l a b with
 | case1 => simp [Qu]
 | case2 x a ih => rw [Qu,List.length_cons,List.length_cons,ih]
 | case3 y b ih => rw [Qu,List.length_cons,List.length_cons,ih]
 | case4 x a y b h ih => rw [Qu,if_neg (Ord.asym h),if_pos h,List.length_cons,List.length_cons,ih]
 | case5 x a y b h k ih => rw [Qu,if_pos k,List.length_cons,List.length_cons,ih]
 | case6 x a y b h k ih =>
   rw [Qu,if_neg k,if_neg h]
   simp only [List.length_append]
   rw [ih,Qf8 7 l l' x y,Qf8 8 l l' x y,Qf8 9 l l' x y]
theorem Qac {α β : Type} {f g : α → List β} (ps : List α) (h : ∀ p ∈ ps,(f p).length = (g p).length) : (ps.flatMap f).length = (ps.flatMap g).length:=by
 induction ps with
 | nil => rfl
 | cons p ps ih => rw [List.flatMap_cons,List.flatMap_cons,List.length_append,List.length_append,h p (by simp),ih (fun q hq => h q (by simp [hq]))]
theorem Qjq (k k' : Int) (l l' : T) (u v : List T) : (Yp k l u v).length = (Yp k' l' u v).length:=by simp [Yp]
theorem Qod (a b : List PM) : (Xc a b).length = (Xc b a).length:=by
 unfold Xc
 rw [Qh8 a b]
 obtain ⟨ps,hps⟩ : ∃ ps,Qx a b = ps:=⟨_,rfl⟩
 rw [hps]
 simp only [List.flatMap_map,List.length_append]
 have h1 : (ps.flatMap Yx).length = (ps.flatMap fun p => Yr p.swap).length:=Qac ps fun p _ => by unfold Yx Yr Bo.swap;cases p.inA <;> rfl
 have h2 : (ps.flatMap Yr).length = (ps.flatMap fun p => Yx p.swap).length:=Qac ps fun p _ => by unfold Yx Yr Bo.swap;cases p.inB <;> rfl
 have h3 : (ps.flatMap fun p => Yp 3 p.label p.b.uses p.a.uses).length = (ps.flatMap fun p => Yp 4 p.swap.label p.swap.a.uses p.swap.b.uses).length:=Qac ps fun p _ => Qjq _ _ _ _ _ _
 have h4 : (ps.flatMap fun p => Yp 4 p.label p.a.uses p.b.uses).length = (ps.flatMap fun p => Yp 3 p.swap.label p.swap.b.uses p.swap.a.uses).length:=Qac ps fun p _ => Qjq _ _ _ _ _ _
 have h5 : (ps.flatMap fun p => Qu p.label p.a.decls p.b.decls).length = (ps.flatMap fun p => Qu p.swap.label p.swap.a.decls p.swap.b.decls).length:=Qac ps fun p _ => Qoj _ _ _ _
 omega
end Go.Proofs.YtiaenhlflgobfaaGreatDoor
namespace Go.Proofs.YtiaenhlflgobfaaGreatDoor
open Go.RowKit
theorem Qt {V : World} {b : Nat} {e : Edt} (h : V.heap[b]? = some (.cells #[iv e.kind,tv e.pack,tv e.text,.slice e.oA e.old.length e.oc,.slice e.nA e.new.length e.nc] 32 (0,0))) : V.cell? ⟨b,0,none⟩ = some (iv e.kind) ∧ V.cell? ⟨b,1,none⟩ = some (tv e.pack) ∧ V.cell? ⟨b,2,none⟩ = some (tv e.text) ∧ V.cell? ⟨b,3,none⟩ = some (.slice e.oA e.old.length e.oc) ∧ V.cell? ⟨b,4,none⟩ = some (.slice e.nA e.new.length e.nc):=by
 refine ⟨?_,?_,?_,?_,?_⟩ <;> (rw [Lib.cell_of_heap h];rfl)
theorem Yh (k : Int) (d : Dec) : (d.ment k).er = Qs k d.er:=by
 unfold Dec.ment Qs Dec.er
 have hz : Ex.zero.er = zE:=by simp [Ex.zero,Ex.er,zE]
 by_cases h7 : k = 7
 ·rw [if_pos h7,if_pos h7];simp [hz]
 rw [if_neg h7,if_neg h7]
 by_cases h8 : k = 8
 ·rw [if_pos h8,if_pos h8]
 rw [if_neg h8,if_neg h8]
 by_cases h9 : k = 9
 ·rw [if_pos h9,if_pos h9];simp [hz]
 rw [if_neg h9,if_neg h9]
theorem Y2 {w : World} (k : Int) {d : Dec} (h : d.Rd w) : (d.ment k).Rd w:=by
 have hz : Ex.zero.Rd w:=⟨XRd.nil w,by simp [Ex.zero,Ex.name,sOk],by simp [Ex.zero,Ex.more,sOk]⟩
 unfold Dec.ment
 split
 ·exact ⟨h.n,hz⟩
 split
 ·exact ⟨SRd.nil w,h.b⟩
 split
 ·exact ⟨SRd.nil w,hz⟩
 ·exact h
theorem Qfa : (zE.pre 1).length = 1:=by simp [pre_eq,zE,PE.sub]
theorem Xs (k : Int) {d : PD} (h : (d.body.pre 1).length ≤ 400) : ((Qs k d).body.pre 1).length ≤ 400:=by
 unfold Qs
 split
 ·simp [Qfa]
 split
 ·exact h
 split
 ·simp [Qfa]
 ·exact h
set_option maxRecDepth 100000 in
set_option maxHeartbeats 4000000 in
attribute [local irreducible] Calls in
theorem Qn8 (e : Edt) (w : World) (h1 : 1 ≤ e.kind) (h7 : e.kind < 7) (hf : fits e.er = true) : Calls Tryz.prog 66 #[e.v] w fun x w' => x = .returned (.bool true) ∧ Gr w w':=by
 obtain ⟨q1,q2,q3,-⟩:=Zv hf
 replace q1 : e.old.length = if e.kind = 6 ∨ 7 ≤ e.kind then 1 else 0:=by have h:=q1;simp only [Edt.er,List.length_map] at h;exact h
 replace q2 : e.new.length = if e.kind = 5 ∨ 7 ≤ e.kind then 1 else 0:=by have h:=q2;simp only [Edt.er,List.length_map] at h;exact h
 replace q3 : e.text = [] ∨ e.kind = 3 ∨ e.kind = 4:=q3
 obtain ⟨c0,c1,c2,c3,c4⟩:=Qt (Qd w (.cells #[iv e.kind,tv e.pack,tv e.text,.slice e.oA e.old.length e.oc,.slice e.nA e.new.length e.nc] 32))
 have GW:=Qo0 (Qa w (.cells #[iv e.kind,tv e.pack,tv e.text,.slice e.oA e.old.length e.oc,.slice e.nA e.new.length e.nc] 32))
 unfold Edt.v
 have hc : e.kind = 1 ∨ e.kind = 2 ∨ e.kind = 3 ∨ e.kind = 4 ∨ e.kind = 5 ∨ e.kind = 6:=by omega
 clear hf h1 h7
 obtain ⟨K,hK⟩ : ∃ K,e.kind = K:=⟨_,rfl⟩
 obtain ⟨X,hX⟩ : ∃ X,e.text = X:=⟨_,rfl⟩
 rw [hK] at c0 c1 c2 c3 c4 q1 q2 q3 hc GW ⊢
 rw [hX] at c0 c1 c2 c3 c4 q3 GW ⊢
 clear hK hX
 rcases hc with rfl | rfl | rfl | rfl | rfl | rfl
 all_goals simp only [Int.reduceEq,Int.reduceLE,or_self,or_false,or_true,if_true,if_false] at q1 q2 q3
 all_goals rw [q1] at c0 c1 c2 c3 c4 GW ⊢
 all_goals rw [q2] at c0 c1 c2 c3 c4 GW ⊢
 all_goals clear q1 q2
 case inl => subst q3;go_enter Tryz.func66,Tryz.ntmps66;go_wp2;go_ret;exact ⟨rfl,GW.out⟩
 case inr.inl => subst q3;go_enter Tryz.func66,Tryz.ntmps66;go_wp2;go_ret;exact ⟨rfl,GW.out⟩
 case inr.inr.inl =>
  clear q3
  cases hE : X.isEmpty with
  | true => go_enter Tryz.func66,Tryz.ntmps66;go_wp2;go_ret;exact ⟨rfl,GW.out⟩
  | false => go_enter Tryz.func66,Tryz.ntmps66;go_wp2;go_ret;exact ⟨rfl,GW.out⟩
 case inr.inr.inr.inl =>
  clear q3
  cases hE : X.isEmpty with
  | true => go_enter Tryz.func66,Tryz.ntmps66;go_wp2;go_ret;exact ⟨rfl,GW.out⟩
  | false => go_enter Tryz.func66,Tryz.ntmps66;go_wp2;go_ret;exact ⟨rfl,GW.out⟩
 case inr.inr.inr.inr.inl => subst q3;go_enter Tryz.func66,Tryz.ntmps66;go_wp2;go_ret;exact ⟨rfl,GW.out⟩
 case inr.inr.inr.inr.inr => subst q3;go_enter Tryz.func66,Tryz.ntmps66;go_wp2;go_ret;exact ⟨rfl,GW.out⟩
set_option maxRecDepth 100000 in
set_option maxHeartbeats 4000000 in
attribute [local irreducible] Calls in
theorem Ql0 (e : Edt) (w : World) (he : e.Rd w) (h7 : 7 ≤ e.kind) (hf : fits e.er = true) (hs : ∀ d ∈ e.old ++ e.new,(d.body.er.pre 1).length ≤ 400) : Calls Tryz.prog 66 #[e.v] w fun x w' => x = .returned (.bool true) ∧ Gr w w':=by
 obtain ⟨o,n,ho,hn,hx1,hx2,hx3,hx4⟩:=Qad hf h7
 obtain ⟨O,hO,rfl⟩ : ∃ O,e.old = [O] ∧ O.er = o:=by
  match hh : e.old with
  | [] => simp [Edt.er,hh] at ho
  | [O] => refine ⟨O,rfl,?_⟩;simpa [Edt.er,hh] using ho
  | _ :: _ :: _ => simp [Edt.er,hh] at ho
 obtain ⟨M,hM,rfl⟩ : ∃ M,e.new = [M] ∧ M.er = n:=by
  match hh : e.new with
  | [] => simp [Edt.er,hh] at hn
  | [M] => refine ⟨M,rfl,?_⟩;simpa [Edt.er,hh] using hn
  | _ :: _ :: _ => simp [Edt.er,hh] at hn
 have hte : e.text = []:=by
  rcases (Zv hf).2.2.1 with h | h | h
  ·exact h
  ·exfalso;have h : e.kind = 3:=h;omega
  ·exfalso;have h : e.kind = 4:=h;omega
 replace hx1 : O.er = Qs e.kind O.er:=hx1
 replace hx2 : M.er = Qs e.kind M.er:=hx2
 replace hx3 : O.id = M.id:=hx3
 obtain ⟨W,hW⟩ : ∃ W,w.alloc (.cells #[iv e.kind,tv e.pack,tv e.text,.slice e.oA e.old.length e.oc,.slice e.nA e.new.length e.nc] 32) = W:=⟨_,rfl⟩
 have GW:=Qo0 (show Gr w W by rw [← hW];exact Qa _ _)
 have he2 : e.Rd W:=he.gr GW.out
 have HO:=he2.o
 have HM:=he2.n
 rw [hO] at HO
 rw [hM] at HM
 have sO : (O.er.body.pre 1).length ≤ 400:=hs O (by simp [hO])
 have sM : (M.er.body.pre 1).length ≤ 400:=hs M (by simp [hM])
 have CB:=Qo0 (fun V (g : Gr W V) => Qt (V:=V) (b:=w.heap.size) (e:=e) (Qe g (by rw [← hW];exact Qd _ _)))
 obtain ⟨a,a1,ea,ha1,hba,o0,o1,o2,o3,o4,o5,o6,o7,o8,o9,o10⟩:=rdD HO.r (k:=0) (x:=O) rfl
 obtain ⟨b,b1,eb,hb1,hbb,n0,n1,n2,n3,n4,n5,n6,n7,n8,n9,n10⟩:=rdD HM.r (k:=0) (x:=M) rfl
 rw [Nat.zero_mul,add_zero'] at ha1 hb1
 subst ha1
 subst hb1
 have oR:=HO.d O (by simp)
 have mR:=HM.d M (by simp)
 obtain ⟨K,hK⟩ : ∃ K,e.kind = K:=⟨_,rfl⟩
 rw [hK] at hx1 hx2 h7
 have M1:=Qo0 (fun V (_ : Gr W V) => Zy K O V)
 have M2:=Qo0 (fun V (_ : Gr W V) => Zy K M V)
 have E1:=Qo0 (fun V (g : Gr W V) => show Calls Tryz.prog 52 #[O.v,(O.ment K).v] V (fun e w' => e = .returned (.bool true) ∧ Gr V w') from by
  have h:=Zf O (O.ment K) V (oR.gr g) (Y2 K (oR.gr g)) sO
  rw [Yh,← hx1,decide_eq_true rfl] at h
  exact h)
 have E2:=Qo0 (fun V (g : Gr W V) => show Calls Tryz.prog 52 #[M.v,(M.ment K).v] V (fun e w' => e = .returned (.bool true) ∧ Gr V w') from by
  have h:=Zf M (M.ment K) V (mR.gr g) (Y2 K (mR.gr g)) sM
  rw [Yh,← hx2,decide_eq_true rfl] at h
  exact h)
 have E3:=Qo0 (fun V (g : Gr W V) => show Calls Tryz.prog 52 #[O.v,M.v] V (fun e w' => e = .returned (.bool false) ∧ Gr V w') from by
  have h:=Zf O M V (oR.gr g) (mR.gr g) sO
  rw [decide_eq_false hx4] at h
  exact h)
 obtain ⟨vO,hvO⟩ : ∃ v,(O.ment K).v = v:=⟨_,rfl⟩
 obtain ⟨vM,hvM⟩ : ∃ v,(M.ment K).v = v:=⟨_,rfl⟩
 rw [hvO] at M1 E1
 rw [hvM] at M2 E2
 clear hvO hvM
 unfold Dec.v at M1 M2 E1 E2 E3
 unfold Edt.v
 rw [hK,hte,hO,hM,ea,eb] at CB hW ⊢
 simp only [List.length_cons,List.length_nil,Nat.zero_add] at CB hW ⊢
 have HW:=Qo0 hW
 have hid2 : (O.id == M.id) = true:=by simpa using hx3
 have k6 : (K == 6) = false:=by simp;omega
 have k5 : (K == 5) = false:=by simp;omega
 have k7 : ¬ K < 7:=by omega
 clear hx1 hx2 hx3 hx4 hf he he2 HO HM sO sM oR mR ho hn hs hO hM hte hK hW ea eb
 go_enter Tryz.func66,Tryz.ntmps66
 go_upto_region 2 with fail
 rw [HW.out]
 obtain ⟨c0,c1,c2,c3,c4⟩:=CB.out _ (Qc _)
 go_upto_region 12 with fail
 have SS:=Qo0 (fun V (g : Gr W V) => show (V.cell? a = some (iv O.id) ∧ V.cell? ⟨a.block,a.off + 1,none⟩ = some (iv O.kind) ∧ V.cell? ⟨a.block,a.off + 2,none⟩ = some (.bool O.pub) ∧ V.cell? ⟨a.block,a.off + 3,none⟩ = some (.slice O.nA O.names.length O.nc) ∧ V.cell? ⟨a.block,a.off + 4,none⟩ = some (.bool O.doubt) ∧ V.cell? ⟨a.block,a.off + 5,none⟩ = some (iv O.body.kind) ∧ V.cell? ⟨a.block,a.off + 6,none⟩ = some (tv O.body.name) ∧ V.cell? ⟨a.block,a.off + 7,none⟩ = some (tv O.body.more) ∧ V.cell? ⟨a.block,a.off + 8,none⟩ = some (iv O.body.int) ∧ V.cell? ⟨a.block,a.off + 9,none⟩ = some (iv O.body.den) ∧ V.cell? ⟨a.block,a.off + 10,none⟩ = some (.slice O.body.A O.body.sub.length O.body.c)) ∧ (V.cell? b = some (iv M.id) ∧ V.cell? ⟨b.block,b.off + 1,none⟩ = some (iv M.kind) ∧ V.cell? ⟨b.block,b.off + 2,none⟩ = some (.bool M.pub) ∧ V.cell? ⟨b.block,b.off + 3,none⟩ = some (.slice M.nA M.names.length M.nc) ∧ V.cell? ⟨b.block,b.off + 4,none⟩ = some (.bool M.doubt) ∧ V.cell? ⟨b.block,b.off + 5,none⟩ = some (iv M.body.kind) ∧ V.cell? ⟨b.block,b.off + 6,none⟩ = some (tv M.body.name) ∧ V.cell? ⟨b.block,b.off + 7,none⟩ = some (tv M.body.more) ∧ V.cell? ⟨b.block,b.off + 8,none⟩ = some (iv M.body.int) ∧ V.cell? ⟨b.block,b.off + 9,none⟩ = some (iv M.body.den) ∧ V.cell? ⟨b.block,b.off + 10,none⟩ = some (.slice M.body.A M.body.sub.length M.body.c)) ∧ V.cell? ⟨w.heap.size,3,none⟩ = some (.slice (some a) 1 e.oc) ∧ V.cell? ⟨w.heap.size,4,none⟩ = some (.slice (some b) 1 e.nc) from
  ⟨⟨Ze g o0,Ze g o1,Ze g o2,Ze g o3,Ze g o4,Ze g o5,Ze g o6,Ze g o7,Ze g o8,Ze g o9,Ze g o10⟩,⟨Ze g n0,Ze g n1,Ze g n2,Ze g n3,Ze g n4,Ze g n5,Ze g n6,Ze g n7,Ze g n8,Ze g n9,Ze g n10⟩,Ze g c3,Ze g c4⟩)
 clear o0 o1 o2 o3 o4 o5 o6 o7 o8 o9 o10 n0 n1 n2 n3 n4 n5 n6 n7 n8 n9 n10 c0 c1 c2 c3 c4
 go_region_held3 (fun V => (V.cell? a = some (iv O.id) ∧ V.cell? ⟨a.block,a.off + 1,none⟩ = some (iv O.kind) ∧ V.cell? ⟨a.block,a.off + 2,none⟩ = some (.bool O.pub) ∧ V.cell? ⟨a.block,a.off + 3,none⟩ = some (.slice O.nA O.names.length O.nc) ∧ V.cell? ⟨a.block,a.off + 4,none⟩ = some (.bool O.doubt) ∧ V.cell? ⟨a.block,a.off + 5,none⟩ = some (iv O.body.kind) ∧ V.cell? ⟨a.block,a.off + 6,none⟩ = some (tv O.body.name) ∧ V.cell? ⟨a.block,a.off + 7,none⟩ = some (tv O.body.more) ∧ V.cell? ⟨a.block,a.off + 8,none⟩ = some (iv O.body.int) ∧ V.cell? ⟨a.block,a.off + 9,none⟩ = some (iv O.body.den) ∧ V.cell? ⟨a.block,a.off + 10,none⟩ = some (.slice O.body.A O.body.sub.length O.body.c)) ∧ (V.cell? b = some (iv M.id) ∧ V.cell? ⟨b.block,b.off + 1,none⟩ = some (iv M.kind) ∧ V.cell? ⟨b.block,b.off + 2,none⟩ = some (.bool M.pub) ∧ V.cell? ⟨b.block,b.off + 3,none⟩ = some (.slice M.nA M.names.length M.nc) ∧ V.cell? ⟨b.block,b.off + 4,none⟩ = some (.bool M.doubt) ∧ V.cell? ⟨b.block,b.off + 5,none⟩ = some (iv M.body.kind) ∧ V.cell? ⟨b.block,b.off + 6,none⟩ = some (tv M.body.name) ∧ V.cell? ⟨b.block,b.off + 7,none⟩ = some (tv M.body.more) ∧ V.cell? ⟨b.block,b.off + 8,none⟩ = some (iv M.body.int) ∧ V.cell? ⟨b.block,b.off + 9,none⟩ = some (iv M.body.den) ∧ V.cell? ⟨b.block,b.off + 10,none⟩ = some (.slice M.body.A M.body.sub.length M.body.c)) ∧ V.cell? ⟨w.heap.size,3,none⟩ = some (.slice (some a) 1 e.oc) ∧ V.cell? ⟨w.heap.size,4,none⟩ = some (.slice (some b) 1 e.nc))
  (first
    | with_reducible exact SS.out _ (Qb _)
    | with_reducible exact SS.out _ ((Qb _).trans (Qa _ _))
    | with_reducible exact SS.out _ (((Qb _).trans (Qa _ _)).trans (Qa _ _))
    | with_reducible exact SS.out _ ((Qa _ _).trans (Qb _))
    | with_reducible exact SS.out _ (((Qa _ _).trans (Qa _ _)).trans (Qb _))
    | go_keep) (fail)
 ·generalize hV : World.drew _ = V0
  have GV:=Qo0 (show Gr W V0 from by rw [← hV];exact ((Qa _ _).trans (Qa _ _)).trans (Qb _))
  have BO:=Qo0 (show V0.heap[W.heap.size]? = some (.cells #[iv O.id,iv O.kind,.bool O.pub,.slice O.nA O.names.length O.nc,.bool O.doubt,iv O.body.kind,tv O.body.name,tv O.body.more,iv O.body.int,iv O.body.den,.slice O.body.A O.body.sub.length O.body.c] 45 (0,0)) from by rw [← hV];exact Qe (Qb _) (Qe (Qa _ _) (Qd _ _)))
  have BM:=Qo0 (show V0.heap[W.heap.size + 1]? = some (.cells #[iv M.id,iv M.kind,.bool M.pub,.slice M.nA M.names.length M.nc,.bool M.doubt,iv M.body.kind,tv M.body.name,tv M.body.more,iv M.body.int,iv M.body.den,.slice M.body.A M.body.sub.length M.body.c] 45 (0,0)) from by rw [← hV];exact Qe (Qb _) (Qr _ _ (by simp)))
  obtain ⟨po,hpo⟩ : ∃ p,W.heap.size = p:=⟨_,rfl⟩
  obtain ⟨pm,hpm⟩ : ∃ p,W.heap.size + 1 = p:=⟨_,rfl⟩
  rw [hpo] at BO
  rw [hpm] at BM
  rw [hpm,hpo]
  clear hV SS hpo hpm
  have F1:=Qo0 (fun V (g : Gr V0 V) => M1.out V (GV.out.trans g))
  have F2:=Qo0 (fun V (g : Gr V0 V) => M2.out V (GV.out.trans g))
  have F3:=Qo0 (fun V (g : Gr V0 V) => E1.out V (GV.out.trans g))
  have F4:=Qo0 (fun V (g : Gr V0 V) => E2.out V (GV.out.trans g))
  have F5:=Qo0 (fun V (g : Gr V0 V) => E3.out V (GV.out.trans g))
  have SV:=Qo0 (fun V (g : Gr V0 V) => show (V.cell? ⟨po,0,none⟩ = some (iv O.id) ∧ V.cell? ⟨po,1,none⟩ = some (iv O.kind) ∧ V.cell? ⟨po,2,none⟩ = some (.bool O.pub) ∧ V.cell? ⟨po,3,none⟩ = some (.slice O.nA O.names.length O.nc) ∧ V.cell? ⟨po,4,none⟩ = some (.bool O.doubt) ∧ V.cell? ⟨po,5,none⟩ = some (iv O.body.kind) ∧ V.cell? ⟨po,6,none⟩ = some (tv O.body.name) ∧ V.cell? ⟨po,7,none⟩ = some (tv O.body.more) ∧ V.cell? ⟨po,8,none⟩ = some (iv O.body.int) ∧ V.cell? ⟨po,9,none⟩ = some (iv O.body.den) ∧ V.cell? ⟨po,10,none⟩ = some (.slice O.body.A O.body.sub.length O.body.c)) ∧ (V.cell? ⟨pm,0,none⟩ = some (iv M.id) ∧ V.cell? ⟨pm,1,none⟩ = some (iv M.kind) ∧ V.cell? ⟨pm,2,none⟩ = some (.bool M.pub) ∧ V.cell? ⟨pm,3,none⟩ = some (.slice M.nA M.names.length M.nc) ∧ V.cell? ⟨pm,4,none⟩ = some (.bool M.doubt) ∧ V.cell? ⟨pm,5,none⟩ = some (iv M.body.kind) ∧ V.cell? ⟨pm,6,none⟩ = some (tv M.body.name) ∧ V.cell? ⟨pm,7,none⟩ = some (tv M.body.more) ∧ V.cell? ⟨pm,8,none⟩ = some (iv M.body.int) ∧ V.cell? ⟨pm,9,none⟩ = some (iv M.body.den) ∧ V.cell? ⟨pm,10,none⟩ = some (.slice M.body.A M.body.sub.length M.body.c)) ∧ V.cell? ⟨w.heap.size,0,none⟩ = some (iv K) from ⟨Zj (Qe g BO.out),Zj (Qe g BM.out),(CB.out _ (GV.out.trans g)).1⟩)
  clear M1 M2 E1 E2 E3 BO BM CB
  go_upto_region 13 with fail
  go_region_held3 (fun V => (V.cell? ⟨po,0,none⟩ = some (iv O.id) ∧ V.cell? ⟨po,1,none⟩ = some (iv O.kind) ∧ V.cell? ⟨po,2,none⟩ = some (.bool O.pub) ∧ V.cell? ⟨po,3,none⟩ = some (.slice O.nA O.names.length O.nc) ∧ V.cell? ⟨po,4,none⟩ = some (.bool O.doubt) ∧ V.cell? ⟨po,5,none⟩ = some (iv O.body.kind) ∧ V.cell? ⟨po,6,none⟩ = some (tv O.body.name) ∧ V.cell? ⟨po,7,none⟩ = some (tv O.body.more) ∧ V.cell? ⟨po,8,none⟩ = some (iv O.body.int) ∧ V.cell? ⟨po,9,none⟩ = some (iv O.body.den) ∧ V.cell? ⟨po,10,none⟩ = some (.slice O.body.A O.body.sub.length O.body.c)) ∧ (V.cell? ⟨pm,0,none⟩ = some (iv M.id) ∧ V.cell? ⟨pm,1,none⟩ = some (iv M.kind) ∧ V.cell? ⟨pm,2,none⟩ = some (.bool M.pub) ∧ V.cell? ⟨pm,3,none⟩ = some (.slice M.nA M.names.length M.nc) ∧ V.cell? ⟨pm,4,none⟩ = some (.bool M.doubt) ∧ V.cell? ⟨pm,5,none⟩ = some (iv M.body.kind) ∧ V.cell? ⟨pm,6,none⟩ = some (tv M.body.name) ∧ V.cell? ⟨pm,7,none⟩ = some (tv M.body.more) ∧ V.cell? ⟨pm,8,none⟩ = some (iv M.body.int) ∧ V.cell? ⟨pm,9,none⟩ = some (iv M.body.den) ∧ V.cell? ⟨pm,10,none⟩ = some (.slice M.body.A M.body.sub.length M.body.c)) ∧ V.cell? ⟨w.heap.size,0,none⟩ = some (iv K))
   (first | with_reducible exact SV.out _ G5.out | with_reducible exact SV.out _ G4.out | with_reducible exact SV.out _ G3.out | with_reducible exact SV.out _ G2.out | with_reducible exact SV.out _ G1.out | with_reducible exact SV.out _ (Qb _) | go_keep)
   (first | (go_at_call 51;(with_reducible refine (F1.out _ (Qb _)).mono ?_);rintro e w1 ⟨rfl,g1⟩;have G1:=Qo0 (show Gr V0 w1 from (Qb _).trans g1);clear g1) | (go_at_call 52;(with_reducible refine (F3.out _ G1.out).mono ?_);rintro e w2 ⟨rfl,g2⟩;have G2:=Qo0 (show Gr V0 w2 from G1.out.trans g2);clear g2) | (go_at_call 51;(with_reducible refine (F2.out _ G2.out).mono ?_);rintro e w3 ⟨rfl,g3⟩;have G3:=Qo0 (show Gr V0 w3 from G2.out.trans g3);clear g3) | (go_at_call 52;(with_reducible refine (F4.out _ G3.out).mono ?_);rintro e w4 ⟨rfl,g4⟩;have G4:=Qo0 (show Gr V0 w4 from G3.out.trans g4);clear g4) | (go_at_call 52;(with_reducible refine (F5.out _ G4.out).mono ?_);rintro e w5 ⟨rfl,g5⟩;have G5:=Qo0 (show Gr V0 w5 from G4.out.trans g5);clear g5))
  go_wp2
  go_ret
  exact ⟨rfl,GW.out.trans (GV.out.trans G5.out)⟩
 ·generalize hV : World.drew _ = V0
  have GV:=Qo0 (show Gr W V0 from by rw [← hV];exact ((Qa _ _).trans (Qa _ _)).trans (Qb _))
  have BO:=Qo0 (show V0.heap[W.heap.size + 1]? = some (.cells #[iv O.id,iv O.kind,.bool O.pub,.slice O.nA O.names.length O.nc,.bool O.doubt,iv O.body.kind,tv O.body.name,tv O.body.more,iv O.body.int,iv O.body.den,.slice O.body.A O.body.sub.length O.body.c] 45 (0,0)) from by rw [← hV];exact Qe (Qb _) (Qr _ _ (by simp)))
  have BM:=Qo0 (show V0.heap[W.heap.size]? = some (.cells #[iv M.id,iv M.kind,.bool M.pub,.slice M.nA M.names.length M.nc,.bool M.doubt,iv M.body.kind,tv M.body.name,tv M.body.more,iv M.body.int,iv M.body.den,.slice M.body.A M.body.sub.length M.body.c] 45 (0,0)) from by rw [← hV];exact Qe (Qb _) (Qe (Qa _ _) (Qd _ _)))
  obtain ⟨po,hpo⟩ : ∃ p,W.heap.size + 1 = p:=⟨_,rfl⟩
  obtain ⟨pm,hpm⟩ : ∃ p,W.heap.size = p:=⟨_,rfl⟩
  rw [hpo] at BO
  rw [hpm] at BM
  rw [hpo,hpm]
  clear hV SS hpo hpm
  have F1:=Qo0 (fun V (g : Gr V0 V) => M1.out V (GV.out.trans g))
  have F2:=Qo0 (fun V (g : Gr V0 V) => M2.out V (GV.out.trans g))
  have F3:=Qo0 (fun V (g : Gr V0 V) => E1.out V (GV.out.trans g))
  have F4:=Qo0 (fun V (g : Gr V0 V) => E2.out V (GV.out.trans g))
  have F5:=Qo0 (fun V (g : Gr V0 V) => E3.out V (GV.out.trans g))
  have SV:=Qo0 (fun V (g : Gr V0 V) => show (V.cell? ⟨po,0,none⟩ = some (iv O.id) ∧ V.cell? ⟨po,1,none⟩ = some (iv O.kind) ∧ V.cell? ⟨po,2,none⟩ = some (.bool O.pub) ∧ V.cell? ⟨po,3,none⟩ = some (.slice O.nA O.names.length O.nc) ∧ V.cell? ⟨po,4,none⟩ = some (.bool O.doubt) ∧ V.cell? ⟨po,5,none⟩ = some (iv O.body.kind) ∧ V.cell? ⟨po,6,none⟩ = some (tv O.body.name) ∧ V.cell? ⟨po,7,none⟩ = some (tv O.body.more) ∧ V.cell? ⟨po,8,none⟩ = some (iv O.body.int) ∧ V.cell? ⟨po,9,none⟩ = some (iv O.body.den) ∧ V.cell? ⟨po,10,none⟩ = some (.slice O.body.A O.body.sub.length O.body.c)) ∧ (V.cell? ⟨pm,0,none⟩ = some (iv M.id) ∧ V.cell? ⟨pm,1,none⟩ = some (iv M.kind) ∧ V.cell? ⟨pm,2,none⟩ = some (.bool M.pub) ∧ V.cell? ⟨pm,3,none⟩ = some (.slice M.nA M.names.length M.nc) ∧ V.cell? ⟨pm,4,none⟩ = some (.bool M.doubt) ∧ V.cell? ⟨pm,5,none⟩ = some (iv M.body.kind) ∧ V.cell? ⟨pm,6,none⟩ = some (tv M.body.name) ∧ V.cell? ⟨pm,7,none⟩ = some (tv M.body.more) ∧ V.cell? ⟨pm,8,none⟩ = some (iv M.body.int) ∧ V.cell? ⟨pm,9,none⟩ = some (iv M.body.den) ∧ V.cell? ⟨pm,10,none⟩ = some (.slice M.body.A M.body.sub.length M.body.c)) ∧ V.cell? ⟨w.heap.size,0,none⟩ = some (iv K) from ⟨Zj (Qe g BO.out),Zj (Qe g BM.out),(CB.out _ (GV.out.trans g)).1⟩)
  clear M1 M2 E1 E2 E3 BO BM CB
  go_upto_region 13 with fail
  go_region_held3 (fun V => (V.cell? ⟨po,0,none⟩ = some (iv O.id) ∧ V.cell? ⟨po,1,none⟩ = some (iv O.kind) ∧ V.cell? ⟨po,2,none⟩ = some (.bool O.pub) ∧ V.cell? ⟨po,3,none⟩ = some (.slice O.nA O.names.length O.nc) ∧ V.cell? ⟨po,4,none⟩ = some (.bool O.doubt) ∧ V.cell? ⟨po,5,none⟩ = some (iv O.body.kind) ∧ V.cell? ⟨po,6,none⟩ = some (tv O.body.name) ∧ V.cell? ⟨po,7,none⟩ = some (tv O.body.more) ∧ V.cell? ⟨po,8,none⟩ = some (iv O.body.int) ∧ V.cell? ⟨po,9,none⟩ = some (iv O.body.den) ∧ V.cell? ⟨po,10,none⟩ = some (.slice O.body.A O.body.sub.length O.body.c)) ∧ (V.cell? ⟨pm,0,none⟩ = some (iv M.id) ∧ V.cell? ⟨pm,1,none⟩ = some (iv M.kind) ∧ V.cell? ⟨pm,2,none⟩ = some (.bool M.pub) ∧ V.cell? ⟨pm,3,none⟩ = some (.slice M.nA M.names.length M.nc) ∧ V.cell? ⟨pm,4,none⟩ = some (.bool M.doubt) ∧ V.cell? ⟨pm,5,none⟩ = some (iv M.body.kind) ∧ V.cell? ⟨pm,6,none⟩ = some (tv M.body.name) ∧ V.cell? ⟨pm,7,none⟩ = some (tv M.body.more) ∧ V.cell? ⟨pm,8,none⟩ = some (iv M.body.int) ∧ V.cell? ⟨pm,9,none⟩ = some (iv M.body.den) ∧ V.cell? ⟨pm,10,none⟩ = some (.slice M.body.A M.body.sub.length M.body.c)) ∧ V.cell? ⟨w.heap.size,0,none⟩ = some (iv K))
   (first | with_reducible exact SV.out _ G5.out | with_reducible exact SV.out _ G4.out | with_reducible exact SV.out _ G3.out | with_reducible exact SV.out _ G2.out | with_reducible exact SV.out _ G1.out | with_reducible exact SV.out _ (Qb _) | go_keep)
   (first | (go_at_call 51;(with_reducible refine (F1.out _ (Qb _)).mono ?_);rintro e w1 ⟨rfl,g1⟩;have G1:=Qo0 (show Gr V0 w1 from (Qb _).trans g1);clear g1) | (go_at_call 52;(with_reducible refine (F3.out _ G1.out).mono ?_);rintro e w2 ⟨rfl,g2⟩;have G2:=Qo0 (show Gr V0 w2 from G1.out.trans g2);clear g2) | (go_at_call 51;(with_reducible refine (F2.out _ G2.out).mono ?_);rintro e w3 ⟨rfl,g3⟩;have G3:=Qo0 (show Gr V0 w3 from G2.out.trans g3);clear g3) | (go_at_call 52;(with_reducible refine (F4.out _ G3.out).mono ?_);rintro e w4 ⟨rfl,g4⟩;have G4:=Qo0 (show Gr V0 w4 from G3.out.trans g4);clear g4) | (go_at_call 52;(with_reducible refine (F5.out _ G4.out).mono ?_);rintro e w5 ⟨rfl,g5⟩;have G5:=Qo0 (show Gr V0 w5 from G4.out.trans g5);clear g5))
  go_wp2
  go_ret
  exact ⟨rfl,GW.out.trans (GV.out.trans G5.out)⟩
end Go.Proofs.YtiaenhlflgobfaaGreatDoor
namespace Go.Proofs.YtiaenhlflgobfaaGreatDoor
open Go.RowKit
attribute [local irreducible] Calls in
set_option maxRecDepth 100000 in
set_option maxHeartbeats 4000000 in
theorem Qlu (n : Nat) (w : World) (hn : n ≤ 100000) : Calls Tryz.prog 147 #[.slice none 0 0,.int .i64 n] w fun e w' => ∃ v,e = .returned v ∧ OR 45 11 Dec.cs w' w.heap.size v ([] : List Dec) ∧ Gr w w':=by
 by_cases h0 : n = 0
 ·subst h0
  go_enter Tryz.func147,Tryz.ntmps147
  go_wp2
  go_ret
  exact ⟨_,rfl,OR.nil,Qc _⟩
 ·obtain ⟨i0,hi0,hz0,hzs,hzb⟩:=info_parts (show (Tryz.prog.info? 45).map (fun i => (i.zero,i.size,i.bytes)) = some (some (.agg #[iv 0,iv 0,.bool false,.slice none 0 0,.bool false,iv 0,.string ⟨#[]⟩,.string ⟨#[]⟩,iv 0,iv 0,.slice none 0 0]),11,136) by kernel_rfl)
  have hold : (Builtin.firstCells i0.size 0 (.slice none 0 0)).run Tryz.prog w.drew = .ok ([] : List Value).toArray w.drew:=run_firstCells_none w.drew i0.size 0 0 0
  have h:=fun ty => Lib.run_append_grow_zeros w 30 3 ty 45 i0 _ .i64 .i64 Tryz.underlying30 Tryz.underlying3 hi0 hz0 none 0 0 [] hold n (by omega) (by omega) (by omega) (by omega) (by rw [hzb];omega) (by rw [hzb,Nat.zero_add];exact growslice_fits (by omega) (by omega))
  simp only [Nat.zero_add] at h
  have hGn : n ≤ grownCap w n 0 45:=grownCap_ge w _ _ _
  have hG63 : grownCap w n 0 45 ≤ maxLen:=grownCap_le_maxLen w n 0 45 (by unfold maxLen;omega)
  obtain ⟨G,hG⟩ : ∃ G,grownCap w n 0 45 = G:=⟨_,rfl⟩
  rw [hG] at h hGn hG63
  obtain ⟨ROW,hROW⟩ : ∃ ROW : Array Value,ROW = ([] : List Value).toArray ++ Builtin.zeroCells (Value.cells (.agg #[iv 0,iv 0,.bool false,.slice none 0 0,.bool false,iv 0,.string ⟨#[]⟩,.string ⟨#[]⟩,iv 0,iv 0,.slice none 0 0])) n ++ Builtin.zeroCells (Value.cells (.agg #[iv 0,iv 0,.bool false,.slice none 0 0,.bool false,iv 0,.string ⟨#[]⟩,.string ⟨#[]⟩,iv 0,iv 0,.slice none 0 0])) (G - n):=⟨_,rfl⟩
  rw [← hROW] at h
  have hzc : ∀ q,(Builtin.zeroCells (Value.cells (.agg #[iv 0,iv 0,.bool false,.slice none 0 0,.bool false,iv 0,.string ⟨#[]⟩,.string ⟨#[]⟩,iv 0,iv 0,.slice none 0 0])) q).size = q * 11:=fun q => by simp [Builtin.zeroCells,Value.cells]
  have hRl : ROW.size = G * 11:=by
   rw [hROW,Array.size_append,Array.size_append,hzc,hzc]
   simp
   omega
  obtain ⟨W1,hW1⟩ : ∃ W1,W1 = w.drew.alloc (.cells ROW 45):=⟨_,rfl⟩
  rw [← hW1] at h
  have FIN:=Qo0 (show OR 45 11 Dec.cs W1 w.heap.size (.slice (some ⟨w.heap.size,0,none⟩) 0 G) ([] : List Dec) ∧ Gr w W1 from
   ⟨⟨by simp,.inr ⟨_,_,ROW,rfl,Nat.le_refl _,by rw [hW1];exact Qd w.drew _,by simp,hG63,hRl,by simp⟩⟩,by rw [hW1];exact (Qb w).trans (Qa _ _)⟩)
  have HH:=Qo0 h
  have hn0 : (0 : Int) < (n : Int):=by omega
  have hn1 : ¬ ((n : Int) < 0):=by omega
  have hG9 : G ≤ 9223372036854775807:=by unfold maxLen at hG63;omega
  clear h hW1 hROW hRl hzc hold hG hi0 hz0 hzs hzb hG63
  go_enter Tryz.func147,Tryz.ntmps147
  go_wp2_with (at_builtin;refine Lib.wpList_append_run _ rfl _ _ _ _ rfl _ _ rfl rfl _ _ (HH.out _) ?_)
  go_ret
  exact ⟨_,rfl,FIN.out⟩
structure SLD where
 A : Option Addr
 c : Nat
 L : List Dec
def SLD.cs (s : SLD) : List Value:=[.slice s.A s.L.length s.c]
def Xv (S : List SLD) : List Dec:=S.flatMap (·.L)
theorem Qe5 (S : List SLD) (j : Nat) {s : SLD} (h : S[j]? = some s) : Xv (S.take (j + 1)) = Xv (S.take j) ++ s.L:=by
 obtain ⟨hj,rfl⟩:=List.getElem?_eq_some_iff.1 h
 unfold Xv
 rw [List.take_succ_eq_append_getElem hj,List.flatMap_append,List.flatMap_cons,List.flatMap_nil,List.append_nil]
theorem catD_le (S : List SLD) (j : Nat) : (Xv (S.take j)).length ≤ (Xv S).length:=by
 have h : Xv S = Xv (S.take j) ++ Xv (S.drop j):=by unfold Xv;rw [← List.flatMap_append,List.take_append_drop]
 rw [h,List.length_append]
 omega
theorem rdSLD {w : World} {A : Option Addr} {S : List SLD} (h : RD 1 SLD.cs w A S) {k : Nat} {x : SLD} (hx : S[k]? = some x) : ∃ a a1 : Addr,A = some a ∧ a.add k = a1 ∧ a1.block < w.heap.size ∧ w.cell? a1 = some (.slice x.A x.L.length x.c):=by
 obtain ⟨hk,rfl⟩:=List.getElem?_eq_some_iff.1 hx
 obtain ⟨a,e,hb,hc⟩:=h.at hk
 exact ⟨a,_,e,rfl,by rw [add_block];exact hb,by simpa using hc 0 _ rfl⟩
set_option maxRecDepth 100000 in
set_option maxHeartbeats 4000000 in
attribute [local irreducible] Calls in
theorem Qhr (A : Option Addr) (c : Nat) (S : List SLD) (w : World) (hS : RD 1 SLD.cs w A S) (hl : S.length ≤ 1000) (hs : (Xv S).length ≤ 100000) (hr : ∀ s ∈ S,RD 11 Dec.cs w s.A s.L) :
 Calls Tryz.prog 108 #[.slice A S.length c] w fun e w' => ∃ v,e = .returned v ∧ OR 45 11 Dec.cs w' w.heap.size v (Xv S) ∧ Gr w w':=by
 obtain ⟨n,hn⟩ : ∃ n,S.length = n:=⟨_,rfl⟩
 obtain ⟨T0,hT⟩ : ∃ T0,(Xv S).length = T0:=⟨_,rfl⟩
 rw [hn] at hl
 rw [hn]
 have HN:=Qo0 hn
 have HT:=Qo0 hT
 have HTL:=Qo0 (show ∀ j,(Xv (S.take j)).length ≤ T0 from fun j => by rw [← hT];exact catD_le S j)
 rw [hT] at hs
 have HSL:=Qo0 hs
 have HS:=Qo0 (fun V (g : Gr w V) => hS.gr g)
 have HR:=Qo0 (fun s (h : s ∈ S) V (g : Gr w V) => (hr s h).gr g)
 have GC:=Qo0 (fun V => Qlu T0 V hs)
 clear hS hr hn hT
 go_enter Tryz.func108,Tryz.ntmps108
 go_wp2
 go_loopw [3,5,11] (fun s _ i V => ∃ j : Nat,j ≤ n ∧ i = .int .i64 j ∧ ∃ z : Nat,z ≤ 100000 ∧ s = .int .i64 z ∧ Hid (z = (Xv (S.take j)).length) ∧ w = V) (fun _ _ i _ => n - (intOf i).toNat)
 case atStart => exact ⟨0,by omega,rfl,0,by omega,rfl,Qo0 (by simp [Xv]),rfl⟩
 case round =>
  obtain ⟨j,hj,rfl,z,hz,rfl,HZ,rfl⟩:=hrel
  by_cases hlt : j < n
  ·obtain ⟨s,hs⟩ : ∃ s,S[j]? = some s:=⟨_,List.getElem?_eq_getElem (by rw [HN.out];exact hlt)⟩
   obtain ⟨a,a1,rfl,ha,hab,d0⟩:=rdSLD (HS.out _ (Qc _)) hs
   have HM:=Qo0 (List.mem_of_getElem? hs)
   have HC:=Qo0 (Qe5 S j hs)
   obtain ⟨m,hm⟩ : ∃ m,s.L.length = m:=⟨_,rfl⟩
   rw [hm] at d0
   have hzm : z + m ≤ 100000:=by
    have h1:=HTL.out (j + 1)
    rw [HC.out,List.length_append,hm] at h1
    have:=HZ.out
    have:=HSL.out
    omega
   have HZ2:=Qo0 (show z + m = (Xv (S.take (j + 1))).length from by rw [HC.out,List.length_append,hm,HZ.out])
   have hlt2 : (j : Int) < (n : Int):=by omega
   have hnz : ¬ ((z : Int) + (m : Int) < 0):=by omega
   clear hs hm
   go_wp2
   exact ⟨⟨j + 1,by omega,by simp,z + m,hzm,by simp,HZ2,by first | rfl | trivial⟩,by simp [intOf];omega⟩
  ·obtain rfl : j = n:=by omega
   have HZ2:=Qo0 (show z = T0 from by rw [HZ.out,List.take_of_length_le (by rw [HN.out];exact Nat.le_refl _)];exact HT.out)
   obtain rfl : z = T0:=HZ2.out
   clear HZ HZ2
   have hnj : ¬ (j : Int) < (j : Int):=by omega
   go_wp2_with (go_at_call 147;(with_reducible refine (GC.out _).mono ?_);rintro e w6 ⟨v6,rfl,o6,g6⟩;have O6:=Qo0 o6;have G6:=Qo0 g6;clear o6 g6)
   go_loopw [6,8,27] (fun v _ i V => ∃ q : Nat,q ≤ j ∧ i = .int .i64 q ∧ Hid (OR 45 11 Dec.cs V w.heap.size v (Xv (S.take q)) ∧ Gr w V)) (fun _ _ i _ => j - (intOf i).toNat)
   case atStart => exact ⟨0,by omega,rfl,Qo0 ⟨by simpa [Xv] using O6.out,G6.out⟩⟩
   case round =>
    obtain ⟨q,hq,rfl,HI⟩:=hrel
    by_cases hlt : q < j
    ·obtain ⟨s,hs⟩ : ∃ s,S[q]? = some s:=⟨_,List.getElem?_eq_getElem (by rw [HN.out];exact hlt)⟩
     obtain ⟨a,a1,rfl,ha,hab,d0⟩:=rdSLD (HS.out _ HI.out.2) hs
     have HRR:=Qo0 (HR.out s (List.mem_of_getElem? hs) _ HI.out.2)
     have HC:=Qo0 (Qe5 S q hs)
     have LN:=Qo0 (show (Xv (S.take q)).length + s.L.length ≤ 1000000 from by
      have h1:=HTL.out (q + 1)
      rw [HC.out,List.length_append] at h1
      have:=HSL.out
      omega)
     have hlt2 : (q : Int) < (j : Int):=by omega
     have BW:=Qo0 HI.out.2.size
     rcases s with ⟨sA,sc,sL⟩
     dsimp only at d0 HRR HC LN
     obtain ⟨m,hm⟩ : ∃ m,sL.length = m:=⟨_,rfl⟩
     rw [hm] at d0
     have HM:=Qo0 hm
     clear hs hm
     go_wp2_with (at_builtin;refine Qf elD rfl (.tmp 31) (.tmp 32) rfl w.heap.size (v:=u6) rfl HI.out.1 (A:=sA) (M:=sL) (m:=m) (c:=sc) HM.out rfl HRR.out LN.out BW.out ?_;intro v7 w7 o7 g7 b7;have O7:=Qo0 o7;have G7:=Qo0 (OR.grow HI.out.2 HI.out.1 (Nat.le_refl _) g7);clear o7 g7 b7)
     exact ⟨⟨q + 1,by omega,by simp,Qo0 ⟨by rw [HC.out];exact O7.out,G7.out⟩⟩,by simp [intOf];omega⟩
    ·obtain rfl : q = j:=by omega
     have hnj2 : ¬ (q : Int) < (q : Int):=by omega
     have FF:=Qo0 (show OR 45 11 Dec.cs wr w.heap.size u6 (Xv S) ∧ Gr w wr from ⟨by have h:=HI.out.1;rwa [List.take_of_length_le (by rw [HN.out];exact Nat.le_refl _)] at h,HI.out.2⟩)
     clear HI
     go_wp2
     go_ret
     exact ⟨_,rfl,FF.out⟩
end Go.Proofs.YtiaenhlflgobfaaGreatDoor
namespace Go.Proofs.YtiaenhlflgobfaaGreatDoor
open Go.RowKit
section
variable {α : Type} {e : TypeId} {n : Nat} {cs : α → List Value} {w V : World} {base : Nat} {v : Value} {L : List α}
theorem OR.typ (h : OR e n cs w base v L) {k : Nat} (hk : v.ownBlock = some k) : base ≤ k ∧ ∃ c,w.heap[k]? = some (Obj.cells c e (0,0)):=by
 rcases h.2 with ⟨rfl,_⟩ | ⟨g,cap,cur,rfl,hg,hh,_⟩
 ·simp [Value.ownBlock] at hk
 ·simp [Value.ownBlock] at hk
  subst hk
  exact ⟨hg,_,hh⟩
theorem OR.keepT (h : OR e n cs w base v L) (g : w.grownBy V v.ownBlock) {k : Nat} {c : Array Value} {t : TypeId} {fr : Nat × Nat} (ht : t ≠ e) (hk : w.heap[k]? = some (.cells c t fr)) : V.heap[k]? = some (.cells c t fr):=by
 refine (g.block k (Qn hk) (fun e1 => ?_)).trans hk
 obtain ⟨-,c',h2⟩:=h.typ e1.symm
 rw [hk] at h2
 cases h2
 exact ht rfl
end
structure TD (w V : World) (m : Mod) (kd : Nat) (d : Dec) : Prop where
 u : m.uA = none ∧ m.uc = 0 ∧ m.uses = []
 dd : m.dA = some ⟨kd,0,none⟩ ∧ m.dc = 1 ∧ m.decls = [d]
 l : sOk m.label
 h : V.heap[kd]? = some (.cells d.cs.toArray 45 (0,0))
 b : d.body.Rd w
 n : SRd w d.nA d.nc d.names ∨ ∃ kn,d.nA = some ⟨kn,0,none⟩ ∧ d.nc = 1 ∧ d.names = [[97]] ∧ V.heap[kn]? = some (.cells #[tv [97]] 9 (0,0))
theorem TD.keep {w V V' : World} {m : Mod} {kd : Nat} {d : Dec} (h : TD w V m kd d) (hk : ∀ (k : Nat) (c : Array Value) (t : TypeId),t = 45 ∨ t = 9 → V.heap[k]? = some (.cells c t (0,0)) → V'.heap[k]? = some (.cells c t (0,0))) : TD w V' m kd d :=
 ⟨h.u,h.dd,h.l,hk _ _ _ (.inl rfl) h.h,h.b,by
  rcases h.n with h1 | ⟨kn,h1,h2,h3,h4⟩
  ·exact .inl h1
  ·exact .inr ⟨kn,h1,h2,h3,hk _ _ _ (.inr rfl) h4⟩⟩
theorem TD.gr {w V V' : World} {m : Mod} {kd : Nat} {d : Dec} (h : TD w V m kd d) (g : Gr V V') : TD w V' m kd d:=h.keep fun _ _ _ _ h1 => Qe g h1
theorem TD.rd {w V : World} {m : Mod} {kd : Nat} {d : Dec} (h : TD w V m kd d) (g : Gr w V) : m.Rd V:=by
 obtain ⟨⟨u1,u2,u3⟩,⟨d1,d2,d3⟩,l,hh,hb,hn⟩:=h
 rcases m with ⟨ml,mu,muc,mus,mdA,mdc,mds⟩
 dsimp only at u1 u2 u3 d1 d2 d3 l
 subst u1;subst u2;subst u3;subst d1;subst d2;subst d3
 refine ⟨l,SRd.nil V,⟨⟨by simp,by show (1 : Nat) ≤ 9223372036854775807;omega,fun h => (by cases h),Qj (t:=45) Dec.cs_len (by rw [List.flatMap_cons,List.flatMap_nil,List.append_nil];exact hh)⟩,fun x hx => ?_⟩⟩
 rw [List.mem_singleton.1 hx]
 refine ⟨?_,hb.gr g⟩
 rcases hn with h1 | ⟨kn,h1,h2,h3,h4⟩
 ·exact h1.gr g
 ·rw [h1,h2,h3]
  refine ⟨⟨by simp,by show (1 : Nat) ≤ 9223372036854775807;omega,fun h => (by cases h),Qj (t:=9) Yy (by simpa [scs] using h4)⟩,fun s hs => ?_⟩
  rw [List.mem_singleton.1 hs]
  simp [sOk]
def TDs (w V : World) (L : List Mod) : Prop:=∀ m ∈ L,∃ kd d,TD w V m kd d
theorem Qj0 {V : World} {k : Nat} {m : Mod} (h : V.heap[k]? = some (.cells m.cs.toArray 39 (0,0))) (hm : m.Rd V) : MRd V (some ⟨k,0,none⟩) 1 [m] :=
 ⟨⟨by simp,by show (1 : Nat) ≤ 9223372036854775807;omega,fun h => (by cases h),Qj (t:=39) Mod.cs_len (by rw [List.flatMap_cons,List.flatMap_nil,List.append_nil];exact h)⟩,fun x hx => by rw [List.mem_singleton.1 hx];exact hm⟩
set_option maxRecDepth 100000 in
set_option maxHeartbeats 4000000 in
attribute [local irreducible] Calls in
theorem Qky (e : Edt) (w : World) (he : e.Rd w) (hk : e.kind = 1 ∨ e.kind = 2 ∨ e.kind = 3 ∨ e.kind = 4) : Calls Tryz.prog 67 #[e.v] w fun x w' => ∃ a c L,x = .returned (.slice a L.length c) ∧ MRd w' a c L ∧ L.map Mod.er = Zh e.er ∧ Gr w w':=by
 obtain ⟨c0,c1,c2,c3,c4⟩:=Qt (Qd w (.cells #[iv e.kind,tv e.pack,tv e.text,.slice e.oA e.old.length e.oc,.slice e.nA e.new.length e.nc] 32))
 have GW:=Qo0 (Qa w (.cells #[iv e.kind,tv e.pack,tv e.text,.slice e.oA e.old.length e.oc,.slice e.nA e.new.length e.nc] 32))
 have T1:=Qo0 (show e.kind = 1 ∨ e.kind = 2 → Zh e.er = [⟨e.pack,[],[]⟩] from fun h => by unfold Zh;rw [if_pos (show e.er.kind = 1 ∨ e.er.kind = 2 from h)];rfl)
 have T2:=Qo0 (show e.kind = 3 ∨ e.kind = 4 → Zh e.er = [⟨e.pack,[e.text],[]⟩] from fun h => by unfold Zh;rw [if_neg (show ¬ (e.er.kind = 1 ∨ e.er.kind = 2) from by show ¬ (e.kind = 1 ∨ e.kind = 2);omega),if_pos (show e.er.kind = 3 ∨ e.er.kind = 4 from h)];rfl)
 have LP:=Qo0 (And.intro he.p he.t)
 unfold Edt.v
 clear he
 obtain ⟨K,hK⟩ : ∃ K,e.kind = K:=⟨_,rfl⟩
 obtain ⟨X,hX⟩ : ∃ X,e.text = X:=⟨_,rfl⟩
 obtain ⟨Y,hY⟩ : ∃ Y,e.pack = Y:=⟨_,rfl⟩
 rw [hK] at c0 c1 c2 c3 c4 hk GW T1 T2 ⊢
 rw [hX] at c0 c1 c2 c3 c4 GW T2 LP ⊢
 rw [hY] at c0 c1 c2 c3 c4 GW T1 T2 LP ⊢
 clear hK hX hY
 rcases hk with rfl | rfl | rfl | rfl
 case inl | inr.inl =>
  have T:=Qo0 (T1.out (by decide))
  clear T1 T2
  go_enter Tryz.func67,Tryz.ntmps67
  go_wp2
  go_ret
  exact ⟨_,_,[⟨Y,none,0,[],none,0,[]⟩],rfl,Qj0 (by first | exact Qd _ _ | exact Qr _ _ (by simp)) ⟨LP.out.1,SRd.nil _,DRd.nil _⟩,by rw [T.out];rfl,GW.out.trans (Qa _ _)⟩
 case inr.inr.inl | inr.inr.inr =>
  have T:=Qo0 (T2.out (by decide))
  clear T1 T2
  go_enter Tryz.func67,Tryz.ntmps67
  go_wp2
  go_ret
  refine ⟨_,_,[⟨Y,some ⟨w.heap.size + 1,0,none⟩,1,[X],none,0,[]⟩],rfl,Qj0 (by first | exact Qd _ _ | exact Qr _ _ (by simp)) ⟨LP.out.1,⟨⟨by simp,by show (1 : Nat) ≤ 9223372036854775807;omega,fun h => (by cases h),Qj (t:=9) Yy (Qe (Qa _ _) (Qr _ _ (by simp)))⟩,fun s hs => by rw [List.mem_singleton.1 hs];exact LP.out.2⟩,DRd.nil _⟩,by rw [T.out];rfl,(GW.out.trans (Qa _ _)).trans (Qa _ _)⟩
end Go.Proofs.YtiaenhlflgobfaaGreatDoor
namespace Go.Proofs.YtiaenhlflgobfaaGreatDoor
open Go.RowKit
def Dec.comp (K : Int) (kn : Nat) (d : Dec) : Dec :=
 ⟨d.id,if K = 7 ∨ K = 8 then 1 else d.kind,d.pub,if K = 8 ∨ K = 9 then some ⟨kn,0,none⟩ else d.nA,if K = 8 ∨ K = 9 then 1 else d.nc,if K = 8 ∨ K = 9 then [[97]] else d.names,d.doubt,if K = 7 ∨ K = 9 then .mk 11 [] [] 0 0 none 0 [] else d.body⟩
theorem Qce (K : Int) (kn : Nat) (d : Dec) : (d.comp K kn).er = Ql K d.er:=by
 unfold Dec.comp Ql Dec.er
 congr 1
 by_cases h : K = 7 ∨ K = 9
 ·simp only [if_pos h];simp [Ex.er,nilE]
 ·simp only [if_neg h]
theorem Qgn {w w6 V V8 w7 : World} {v : Value} {Ls : List Mod} {m : Mod} {kd : Nat} {d' : Dec} (hi : OR 39 3 Mod.cs V w6.heap.size v Ls) (ht : TDs w V Ls) (g6 : Gr w6 V) (g8 : Gr V V8) (hm : TD w V8 m kd d') (g7 : V8.grownBy w7 v.ownBlock) : TDs w w7 (Ls ++ [m]) ∧ Gr w6 w7:=by
 have o8:=hi.gr g8
 have kp : ∀ (k : Nat) (c : Array Value) (t : TypeId),t = 45 ∨ t = 9 → V8.heap[k]? = some (.cells c t (0,0)) → w7.heap[k]? = some (.cells c t (0,0)):=fun k c t h1 h2 => o8.keepT g7 (by rcases h1 with rfl | rfl <;> decide) h2
 refine ⟨fun x hx => ?_,OR.grow (g6.trans g8) o8 (Nat.le_refl _) g7⟩
 rcases List.mem_append.1 hx with hx | hx
 ·obtain ⟨k1,d1,h1⟩:=ht x hx
  exact ⟨k1,d1,(h1.gr g8).keep kp⟩
 ·rw [List.mem_singleton.1 hx]
  exact ⟨kd,d',hm.keep kp⟩
set_option maxRecDepth 100000 in
set_option maxHeartbeats 4000000 in
attribute [local irreducible] Calls in
theorem Qh2 (e : Edt) (w : World) (he : e.Rd w) (hk : 5 ≤ e.kind) (h9 : e.kind ≤ 9) (ho : e.old.length ≤ 1) (hn : e.new.length ≤ 1) : Calls Tryz.prog 67 #[e.v] w fun x w' => ∃ a c L,x = .returned (.slice a L.length c) ∧ MRd w' a c L ∧ L.map Mod.er = Zh e.er ∧ Gr w w':=by
 obtain ⟨W,hW⟩ : ∃ W,w.alloc (.cells #[iv e.kind,tv e.pack,tv e.text,.slice e.oA e.old.length e.oc,.slice e.nA e.new.length e.nc] 32) = W:=⟨_,rfl⟩
 have GW:=Qo0 (show Gr w W by rw [← hW];exact Qa _ _)
 have CB:=Qo0 (fun V (g : Gr W V) => Qt (V:=V) (b:=w.heap.size) (e:=e) (Qe g (by rw [← hW];exact Qd _ _)))
 obtain ⟨ds,hds⟩ : ∃ ds,e.old ++ e.new = ds:=⟨_,rfl⟩
 have TT:=Qo0 (show Zh e.er = ds.map fun d => ⟨e.pack,[],[Ql e.kind d.er]⟩ from by
  unfold Zh
  rw [if_neg (show ¬ (e.er.kind = 1 ∨ e.er.kind = 2) from by show ¬ (e.kind = 1 ∨ e.kind = 2);omega),if_neg (show ¬ (e.er.kind = 3 ∨ e.er.kind = 4) from by show ¬ (e.kind = 3 ∨ e.kind = 4);omega),← hds]
  simp [Edt.er,Function.comp_def])
 have DR:=Qo0 (show ∀ d ∈ ds,d.Rd w from by rw [← hds];intro d hd;rcases List.mem_append.1 hd with h | h;exact he.o.d d h;exact he.n.d d h)
 have LP:=Qo0 he.p
 obtain ⟨U,hU⟩ : ∃ U,W.alloc (.cells #[.slice e.oA e.old.length e.oc,.slice e.nA e.new.length e.nc] 30) = U:=⟨_,rfl⟩
 have GU:=Qo0 (show Gr W U by rw [← hU];exact Qa _ _)
 have CC:=Qo0 (show Calls Tryz.prog 108 #[.slice (some ⟨W.heap.size,0,none⟩) 2 2] U fun x w' => ∃ v,x = .returned v ∧ OR 45 11 Dec.cs w' U.heap.size v ds ∧ Gr U w' from by
  have h:=Qhr (some ⟨W.heap.size,0,none⟩) 2 [⟨e.oA,e.oc,e.old⟩,⟨e.nA,e.nc,e.new⟩] U (Qj (t:=30) (fun _ => rfl) (by rw [← hU];exact Qd _ _)) (by simp) (by simp [Xv];omega) (by
   intro s hs
   simp only [List.mem_cons,List.not_mem_nil,or_false] at hs
   rcases hs with rfl | rfl
   ·exact (he.o.gr (GW.out.trans GU.out)).r
   ·exact (he.n.gr (GW.out.trans GU.out)).r)
  rw [show Xv [⟨e.oA,e.oc,e.old⟩,⟨e.nA,e.nc,e.new⟩] = ds from by rw [← hds];simp [Xv]] at h
  exact h)
 have DL:=Qo0 (show ds.length ≤ 2 from by rw [← hds,List.length_append];omega)
 unfold Edt.v
 clear he ho hn hds
 have HW:=Qo0 hW
 have HU:=Qo0 hU
 clear hW hU
 obtain ⟨K,hK⟩ : ∃ K,e.kind = K:=⟨_,rfl⟩
 rw [hK] at hk h9 CB HW TT ⊢
 clear hK
 have k1 : (K == 1) = false:=by simp;omega
 have k2 : (K == 2) = false:=by simp;omega
 have k3 : (K == 3) = false:=by simp;omega
 have k4 : (K == 4) = false:=by simp;omega
 go_enter Tryz.func67,Tryz.ntmps67
 go_upto_region 1 with fail
 rw [HW.out]
 obtain ⟨c0,c1,c2,c3,c4⟩:=CB.out _ (Qc _)
 go_wp2_with (rw [HU.out];go_at_call 108;(with_reducible refine CC.out.mono ?_);rintro x w6 ⟨v6,rfl,o6,g6⟩;obtain ⟨dA,dc,rfl,hr6,hlc6,hc9,hA0,hA⟩:=o6.form2 Dec.cs_len;have R6:=Qo0 (fun V (g : Gr w6 V) => hr6.gr g);have G6:=Qo0 (GU.out.trans g6);clear o6 g6 hr6 hA0 hA)
 obtain ⟨n,hn⟩ : ∃ n,ds.length = n:=⟨_,rfl⟩
 have HN:=Qo0 hn
 rw [hn] at hlc6 ⊢
 have DL2:=Qo0 (show n ≤ 2 from by rw [← hn];exact DL.out)
 have hn9 : n ≤ 2:=DL2.out
 clear hn CC k1 k2 k3 k4 c0 c1 c2 c3 c4
 go_loopw [3,5,32] (fun v _ i V => ∃ j : Nat,j ≤ n ∧ i = iv j ∧ ∃ Ls : List Mod,Hid (Ls.length = j ∧ OR 39 3 Mod.cs V w6.heap.size v Ls ∧ TDs w V Ls ∧ Ls.map Mod.er = (ds.take j).map (fun d => ⟨e.pack,[],[Ql K d.er]⟩) ∧ Gr w6 V)) (fun _ _ i _ => n - (intOf i).toNat)
 case atStart => exact ⟨0,by omega,rfl,[],Qo0 ⟨rfl,OR.nil,fun m hm => absurd hm (by simp),by simp,Qc _⟩⟩
 case round =>
  obtain ⟨j,hj,rfl,Ls,HI⟩:=hrel
  by_cases hlt : j < n
  ·obtain ⟨d,hd⟩ : ∃ d,ds[j]? = some d:=⟨_,List.getElem?_eq_getElem (by rw [HN.out];exact hlt)⟩
   obtain ⟨a,a1,ea,ha,hab,d0,d1,d2,d3,d4,d5,d6,d7,d8,d9,d10⟩:=rdD (R6.out _ HI.out.2.2.2.2) hd
   obtain rfl:=ea
   have DD:=Qo0 (DR.out d (List.mem_of_getElem? hd))
   have ET:=Qo0 (show ∀ m : Mod,m.er = ⟨e.pack,[],[Ql K d.er]⟩ → (Ls ++ [m]).map Mod.er = (ds.take (j + 1)).map (fun d => ⟨e.pack,[],[Ql K d.er]⟩) from fun m hm => by
    obtain ⟨hjl,hdd⟩:=List.getElem?_eq_some_iff.1 hd
    rw [List.take_succ_eq_append_getElem hjl,List.map_append,List.map_append,HI.out.2.2.2.1,hdd]
    simp [hm])
   have hlt2 : (j : Int) < (n : Int):=by omega
   obtain ⟨c0,c1,c2,c3,c4⟩:=CB.out _ (G6.out.trans HI.out.2.2.2.2)
   have lz : w.heap.size < wr.heap.size:=by have h1:=(G6.out.trans HI.out.2.2.2.2).size;have h2:=congrArg (fun V => V.heap.size) HW.out;simp at h2;omega
   clear hd
   have hc : K = 5 ∨ K = 6 ∨ K = 7 ∨ K = 8 ∨ K = 9:=by omega
   rcases hc with rfl | rfl | rfl | rfl | rfl
   case inl =>
    obtain ⟨m,hm⟩ : ∃ m : Mod,m = ⟨e.pack,none,0,[],some ⟨wr.heap.size + 1,0,none⟩,1,[d.comp 5 (wr.heap.size + 1)]⟩:=⟨_,rfl⟩
    have HM:=Qo0 hm
    have ME:=Qo0 (show m.er = ⟨e.pack,[],[Ql 5 d.er]⟩ from by rw [hm];unfold Mod.er;simp only [List.map_cons,List.map_nil,Qce])
    have MC:=Qo0 (show m.cs = [tv e.pack,.slice none 0 0,.slice (some ⟨wr.heap.size + 1,0,none⟩) 1 1] from by rw [hm];rfl)
    clear hm
    go_wp2_with (at_builtin;refine Qf elM rfl (.tmp 65) (.tmp 71) rfl w6.heap.size (v:=u3) rfl (HI.out.2.1.gr (((Qa _ _).trans (Qa _ _)).trans (Qa _ _))) (A:=some ⟨_,0,none⟩) (M:=[m]) (m:=1) (c:=1) rfl rfl (Qj (t:=39) Mod.cs_len (by rw [List.flatMap_cons,List.flatMap_nil,List.append_nil,MC.out];exact Qr _ _ (by simp))) (by have:=HI.out.1;have:=DL.out;simp;omega) (by have:=HI.out.2.2.2.2.size;simp;omega) ?_
                 intro v7 w7 o7 g7 b7
                 have O7:=Qo0 o7
                 have F7:=Qo0 (Qgn HI.out.2.1 HI.out.2.2.1 HI.out.2.2.2.2 (((Qa _ _).trans (Qa _ _)).trans (Qa _ _)) (m:=m) (kd:=wr.heap.size + 1) (d':=d.comp 5 (wr.heap.size + 1)) ⟨by rw [HM.out];exact ⟨rfl,rfl,rfl⟩,by rw [HM.out];exact ⟨rfl,rfl,rfl⟩,by rw [HM.out];exact LP.out,Qe (Qa _ _) (Qr _ _ (by simp)),DD.out.b,.inl DD.out.n⟩ g7)
                 clear o7 g7 b7)
    exact ⟨⟨j + 1,by omega,by simp,Ls ++ [m],Qo0 ⟨by rw [List.length_append,HI.out.1];rfl,O7.out,F7.out.1,ET.out m ME.out,F7.out.2⟩⟩,by simp [intOf];omega⟩
   case inr.inl =>
    obtain ⟨m,hm⟩ : ∃ m : Mod,m = ⟨e.pack,none,0,[],some ⟨wr.heap.size + 1,0,none⟩,1,[d.comp 6 (wr.heap.size + 1)]⟩:=⟨_,rfl⟩
    have HM:=Qo0 hm
    have ME:=Qo0 (show m.er = ⟨e.pack,[],[Ql 6 d.er]⟩ from by rw [hm];unfold Mod.er;simp only [List.map_cons,List.map_nil,Qce])
    have MC:=Qo0 (show m.cs = [tv e.pack,.slice none 0 0,.slice (some ⟨wr.heap.size + 1,0,none⟩) 1 1] from by rw [hm];rfl)
    clear hm
    go_wp2_with (at_builtin;refine Qf elM rfl (.tmp 65) (.tmp 71) rfl w6.heap.size (v:=u3) rfl (HI.out.2.1.gr (((Qa _ _).trans (Qa _ _)).trans (Qa _ _))) (A:=some ⟨_,0,none⟩) (M:=[m]) (m:=1) (c:=1) rfl rfl (Qj (t:=39) Mod.cs_len (by rw [List.flatMap_cons,List.flatMap_nil,List.append_nil,MC.out];exact Qr _ _ (by simp))) (by have:=HI.out.1;have:=DL.out;simp;omega) (by have:=HI.out.2.2.2.2.size;simp;omega) ?_
                 intro v7 w7 o7 g7 b7
                 have O7:=Qo0 o7
                 have F7:=Qo0 (Qgn HI.out.2.1 HI.out.2.2.1 HI.out.2.2.2.2 (((Qa _ _).trans (Qa _ _)).trans (Qa _ _)) (m:=m) (kd:=wr.heap.size + 1) (d':=d.comp 6 (wr.heap.size + 1)) ⟨by rw [HM.out];exact ⟨rfl,rfl,rfl⟩,by rw [HM.out];exact ⟨rfl,rfl,rfl⟩,by rw [HM.out];exact LP.out,Qe (Qa _ _) (Qr _ _ (by simp)),DD.out.b,.inl DD.out.n⟩ g7)
                 clear o7 g7 b7)
    exact ⟨⟨j + 1,by omega,by simp,Ls ++ [m],Qo0 ⟨by rw [List.length_append,HI.out.1];rfl,O7.out,F7.out.1,ET.out m ME.out,F7.out.2⟩⟩,by simp [intOf];omega⟩
   case inr.inr.inl =>
    obtain ⟨m,hm⟩ : ∃ m : Mod,m = ⟨e.pack,none,0,[],some ⟨wr.heap.size + 1,0,none⟩,1,[d.comp 7 (wr.heap.size + 1)]⟩:=⟨_,rfl⟩
    have HM:=Qo0 hm
    have ME:=Qo0 (show m.er = ⟨e.pack,[],[Ql 7 d.er]⟩ from by rw [hm];unfold Mod.er;simp only [List.map_cons,List.map_nil,Qce])
    have MC:=Qo0 (show m.cs = [tv e.pack,.slice none 0 0,.slice (some ⟨wr.heap.size + 1,0,none⟩) 1 1] from by rw [hm];rfl)
    clear hm
    go_wp2_with (at_builtin;refine Qf elM rfl (.tmp 65) (.tmp 71) rfl w6.heap.size (v:=u3) rfl (HI.out.2.1.gr (((Qa _ _).trans (Qa _ _)).trans (Qa _ _))) (A:=some ⟨_,0,none⟩) (M:=[m]) (m:=1) (c:=1) rfl rfl (Qj (t:=39) Mod.cs_len (by rw [List.flatMap_cons,List.flatMap_nil,List.append_nil,MC.out];exact Qr _ _ (by simp))) (by have:=HI.out.1;have:=DL.out;simp;omega) (by have:=HI.out.2.2.2.2.size;simp;omega) ?_
                 intro v7 w7 o7 g7 b7
                 have O7:=Qo0 o7
                 have F7:=Qo0 (Qgn HI.out.2.1 HI.out.2.2.1 HI.out.2.2.2.2 (((Qa _ _).trans (Qa _ _)).trans (Qa _ _)) (m:=m) (kd:=wr.heap.size + 1) (d':=d.comp 7 (wr.heap.size + 1)) ⟨by rw [HM.out];exact ⟨rfl,rfl,rfl⟩,by rw [HM.out];exact ⟨rfl,rfl,rfl⟩,by rw [HM.out];exact LP.out,Qe (Qa _ _) (Qr _ _ (by simp)),⟨XRd.nil _,by simp [Ex.name,sOk,Dec.comp],by simp [Ex.more,sOk,Dec.comp]⟩,.inl DD.out.n⟩ g7)
                 clear o7 g7 b7)
    exact ⟨⟨j + 1,by omega,by simp,Ls ++ [m],Qo0 ⟨by rw [List.length_append,HI.out.1];rfl,O7.out,F7.out.1,ET.out m ME.out,F7.out.2⟩⟩,by simp [intOf];omega⟩
   case inr.inr.inr.inl =>
    obtain ⟨m,hm⟩ : ∃ m : Mod,m = ⟨e.pack,none,0,[],some ⟨wr.heap.size + 1 + 1,0,none⟩,1,[d.comp 8 (wr.heap.size + 1)]⟩:=⟨_,rfl⟩
    have HM:=Qo0 hm
    have ME:=Qo0 (show m.er = ⟨e.pack,[],[Ql 8 d.er]⟩ from by rw [hm];unfold Mod.er;simp only [List.map_cons,List.map_nil,Qce])
    have MC:=Qo0 (show m.cs = [tv e.pack,.slice none 0 0,.slice (some ⟨wr.heap.size + 1 + 1,0,none⟩) 1 1] from by rw [hm];rfl)
    clear hm
    go_wp2_with (at_builtin;refine Qf elM rfl (.tmp 65) (.tmp 71) rfl w6.heap.size (v:=u3) rfl (HI.out.2.1.gr ((((Qa _ _).trans (Qa _ _)).trans (Qa _ _)).trans (Qa _ _))) (A:=some ⟨_,0,none⟩) (M:=[m]) (m:=1) (c:=1) rfl rfl (Qj (t:=39) Mod.cs_len (by rw [List.flatMap_cons,List.flatMap_nil,List.append_nil,MC.out];exact Qr _ _ (by simp))) (by have:=HI.out.1;have:=DL.out;simp;omega) (by have:=HI.out.2.2.2.2.size;simp;omega) ?_
                 intro v7 w7 o7 g7 b7
                 have O7:=Qo0 o7
                 have F7:=Qo0 (Qgn HI.out.2.1 HI.out.2.2.1 HI.out.2.2.2.2 ((((Qa _ _).trans (Qa _ _)).trans (Qa _ _)).trans (Qa _ _)) (m:=m) (kd:=wr.heap.size + 1 + 1) (d':=d.comp 8 (wr.heap.size + 1)) ⟨by rw [HM.out];exact ⟨rfl,rfl,rfl⟩,by rw [HM.out];exact ⟨rfl,rfl,rfl⟩,by rw [HM.out];exact LP.out,Qe (Qa _ _) (Qr _ _ (by simp)),DD.out.b,.inr ⟨wr.heap.size + 1,rfl,rfl,rfl,Qe ((Qa _ _).trans (Qa _ _)) (Qr _ _ (by simp))⟩⟩ g7)
                 clear o7 g7 b7)
    exact ⟨⟨j + 1,by omega,by simp,Ls ++ [m],Qo0 ⟨by rw [List.length_append,HI.out.1];rfl,O7.out,F7.out.1,ET.out m ME.out,F7.out.2⟩⟩,by simp [intOf];omega⟩
   case inr.inr.inr.inr =>
    obtain ⟨m,hm⟩ : ∃ m : Mod,m = ⟨e.pack,none,0,[],some ⟨wr.heap.size + 1 + 1,0,none⟩,1,[d.comp 9 (wr.heap.size + 1)]⟩:=⟨_,rfl⟩
    have HM:=Qo0 hm
    have ME:=Qo0 (show m.er = ⟨e.pack,[],[Ql 9 d.er]⟩ from by rw [hm];unfold Mod.er;simp only [List.map_cons,List.map_nil,Qce])
    have MC:=Qo0 (show m.cs = [tv e.pack,.slice none 0 0,.slice (some ⟨wr.heap.size + 1 + 1,0,none⟩) 1 1] from by rw [hm];rfl)
    clear hm
    go_wp2_with (at_builtin;refine Qf elM rfl (.tmp 65) (.tmp 71) rfl w6.heap.size (v:=u3) rfl (HI.out.2.1.gr ((((Qa _ _).trans (Qa _ _)).trans (Qa _ _)).trans (Qa _ _))) (A:=some ⟨_,0,none⟩) (M:=[m]) (m:=1) (c:=1) rfl rfl (Qj (t:=39) Mod.cs_len (by rw [List.flatMap_cons,List.flatMap_nil,List.append_nil,MC.out];exact Qr _ _ (by simp))) (by have:=HI.out.1;have:=DL.out;simp;omega) (by have:=HI.out.2.2.2.2.size;simp;omega) ?_
                 intro v7 w7 o7 g7 b7
                 have O7:=Qo0 o7
                 have F7:=Qo0 (Qgn HI.out.2.1 HI.out.2.2.1 HI.out.2.2.2.2 ((((Qa _ _).trans (Qa _ _)).trans (Qa _ _)).trans (Qa _ _)) (m:=m) (kd:=wr.heap.size + 1 + 1) (d':=d.comp 9 (wr.heap.size + 1)) ⟨by rw [HM.out];exact ⟨rfl,rfl,rfl⟩,by rw [HM.out];exact ⟨rfl,rfl,rfl⟩,by rw [HM.out];exact LP.out,Qe (Qa _ _) (Qr _ _ (by simp)),⟨XRd.nil _,by simp [Ex.name,sOk,Dec.comp],by simp [Ex.more,sOk,Dec.comp]⟩,.inr ⟨wr.heap.size + 1,rfl,rfl,rfl,Qe ((Qa _ _).trans (Qa _ _)) (Qr _ _ (by simp))⟩⟩ g7)
                 clear o7 g7 b7)
    exact ⟨⟨j + 1,by omega,by simp,Ls ++ [m],Qo0 ⟨by rw [List.length_append,HI.out.1];rfl,O7.out,F7.out.1,ET.out m ME.out,F7.out.2⟩⟩,by simp [intOf];omega⟩
  ·obtain rfl : j = n:=by omega
   have FF:=Qo0 (show ∀ (A : Option Addr) (c : Nat),u3 = .slice A Ls.length c → RW 3 Mod.cs wr A c Ls → MRd wr A c Ls from fun A c _ h => ⟨h,fun m hm => by
    obtain ⟨kd,d',h1⟩:=HI.out.2.2.1 m hm
    exact h1.rd (GW.out.trans (G6.out.trans HI.out.2.2.2.2))⟩)
   have FE:=Qo0 (show Ls.map Mod.er = Zh e.er from by rw [HI.out.2.2.2.1,TT.out,List.take_of_length_le (by rw [HN.out];exact Nat.le_refl _)])
   have FG:=Qo0 (GW.out.trans (G6.out.trans HI.out.2.2.2.2))
   obtain ⟨A,c,rfl,hr,hlc,hcm,hA0,-⟩:=HI.out.2.1.form2 Mod.cs_len
   have FM:=Qo0 (FF.out A c rfl ⟨hlc,hcm,hA0,hr⟩)
   have hnj : ¬ (j : Int) < (j : Int):=by omega
   clear HI FF hr hlc hcm hA0
   go_wp2
   go_ret
   exact ⟨A,c,Ls,rfl,FM.out,FE.out,FG.out⟩
end Go.Proofs.YtiaenhlflgobfaaGreatDoor
namespace Go.Proofs.YtiaenhlflgobfaaGreatDoor
open Go.RowKit
set_option maxRecDepth 100000 in
theorem nan144 (a : T) (w : World) : Calls Tryz.prog 144 #[tv a] w fun e w' => e = .returned (.bool false) ∧ w' = w:=by
 go_enter Tryz.func144,Tryz.ntmps144
 go_wp2
 go_ret
 exact ⟨rfl,rfl⟩
set_option maxRecDepth 100000 in
theorem nan99 (a : T) (w : World) : Calls Tryz.prog 99 #[tv a] w fun e w' => e = .returned (.bool false) ∧ w' = w:=by
 go_enter Tryz.func99,Tryz.ntmps99
 go_wp2
 go_ret
 exact ⟨rfl,rfl⟩
set_option maxRecDepth 100000 in
set_option maxHeartbeats 4000000 in
theorem less98 (a b : T) (w : World) : Calls Tryz.prog 98 #[tv a,tv b] w fun e w' => e = .returned (.bool (decide (a < b))) ∧ w' = w:=by
 have hb:=bytesLess_eq a b
 obtain ⟨q,hq⟩ : ∃ q,decide (a < b) = q:=⟨_,rfl⟩
 rw [hq] at hb ⊢
 clear hq
 go_enter Tryz.func98,Tryz.ntmps98
 go_wp2_with (go_at_call 144;(with_reducible refine (nan144 _ _).mono ?_);rintro e w6 ⟨rfl,rfl⟩;(try dsimp only))
 go_ret
 exact ⟨rfl,rfl⟩
set_option maxRecDepth 100000 in
set_option maxHeartbeats 4000000 in
attribute [local irreducible] Calls in
theorem Qkr (A : Option Addr) (c : Nat) (L : List T) (p : T) (w : World) (hL : RD 1 scs w A L) (hl : L.length ≤ 1000000) (ha : Asc id L) :
 Calls Tryz.prog 55 #[.slice A L.length c,tv p] w fun e w' => e = .returned (.tuple #[.int .i64 (pos id L p),.bool (Zd id L p)]) ∧ Gr w w':=by
 obtain ⟨q,hq⟩ : ∃ q,L.length = q:=⟨_,rfl⟩
 obtain ⟨P,hP⟩ : ∃ P,pos id L p = P:=⟨_,rfl⟩
 have hPl : P ≤ q:=by rw [← hP,← hq];exact Ys _ _
 rw [hq] at hl
 rw [hq,hP]
 have HN:=Qo0 hq
 have HL:=Qo0 (fun V (g : Gr w V) => hL.gr g)
 have HF:=Qo0 (fun j x (hx : L[j]? = some x) => show decide (x < p) = decide (j < P) from by rw [← hP];exact decide_eq_decide.2 (Qfk ha hx))
 have HPL:=Qo0 hPl
 obtain ⟨ok,hok⟩ : ∃ ok,Zd id L p = ok:=⟨_,rfl⟩
 have HOK:=Qo0 (show (∀ x,L[P]? = some x → ok = decide (x = p)) ∧ (q ≤ P → ok = false) from by
  rw [← hok,← hP,← hq]
  exact ⟨fun x hx => Qj7 hx,fun h => hasK_no h⟩)
 rw [hok]
 have CC:=Qo0 (fun (x : T) V => less98 x p V)
 clear hq hL hok hP ha
 go_enter Tryz.func55,Tryz.ntmps55
 go_wp2
 go_loopw [7,8,9] (fun lo hi _ V => ∃ i j : Nat,i ≤ j ∧ j ≤ q ∧ lo = .int .i64 i ∧ hi = .int .i64 j ∧ Hid (Gr w V ∧ i ≤ P ∧ P ≤ j)) (fun lo hi _ _ => (intOf hi).toNat - (intOf lo).toNat)
 case atStart => exact ⟨0,q,Nat.zero_le _,Nat.le_refl _,rfl,rfl,Qo0 ⟨Qc _,Nat.zero_le _,HPL.out⟩⟩
 case round =>
  obtain ⟨i,j,hij,hj,rfl,rfl,HI⟩:=hrel
  by_cases hlt : i < j
  ·obtain ⟨x,hx⟩ : ∃ x,L[(i + j) / 2]? = some x:=⟨_,List.getElem?_eq_getElem (by rw [HN.out];omega)⟩
   obtain ⟨a,a1,rfl,ha,hab,d0⟩:=rdS (HL.out _ HI.out.1) hx
   have CM:=Qo0 (fun V => CC.out x V)
   have HZ:=Qo0 (HF.out _ x hx)
   obtain ⟨z,hz⟩ : ∃ z,decide (x < p) = z:=⟨_,rfl⟩
   rw [hz] at HZ
   simp only [hz] at CM
   have hlt2 : (i : Int) < j:=by omega
   clear hx hz
   cases z with
   | true =>
     have HS:=Qo0 (of_decide_eq_true HZ.out.symm)
     go_wp2_with (first | (go_at_call 98;(with_reducible refine (CM.out _).mono ?_);rintro e w6 ⟨rfl,rfl⟩))
     exact ⟨⟨(i + j) / 2 + 1,j,by omega,hj,by simp,rfl,Qo0 ⟨HI.out.1,by have:=HS.out;omega,HI.out.2.2⟩⟩,by simp [intOf];omega⟩
   | false =>
     have HS:=Qo0 (of_decide_eq_false HZ.out.symm)
     go_wp2_with (first | (go_at_call 98;(with_reducible refine (CM.out _).mono ?_);rintro e w6 ⟨rfl,rfl⟩))
     exact ⟨⟨i,(i + j) / 2,by omega,by omega,rfl,by simp,Qo0 ⟨HI.out.1,HI.out.2.1,Nat.le_of_not_lt HS.out⟩⟩,by simp [intOf];omega⟩
  ·obtain rfl : i = j:=by omega
   obtain rfl : P = i:=by have:=HI.out.2;omega
   clear hlt hij
   by_cases hR : P < q
   ·obtain ⟨x,hx⟩ : ∃ x,L[P]? = some x:=⟨_,List.getElem?_eq_getElem (by rw [HN.out];exact hR)⟩
    obtain ⟨a,a1,rfl,ha,hab,d0⟩:=rdS (HL.out _ HI.out.1) hx
    have HZ:=Qo0 (HOK.out.1 x hx)
    clear hx
    by_cases hz0 : x = p
    ·obtain rfl : ok = true:=by rw [HZ.out];exact decide_eq_true hz0
     subst hz0
     clear HZ
     go_wp2_with (first | (go_at_call 99;(with_reducible refine (nan99 _ _).mono ?_);rintro e w6 ⟨rfl,rfl⟩;(try dsimp only)))
     go_ret2
     exact ⟨rfl,HI.out.1⟩
    ·obtain rfl : ok = false:=by rw [HZ.out];exact decide_eq_false hz0
     have hb : (x == p) = false:=by simpa using hz0
     clear HZ
     go_wp2_with (first | (go_at_call 99;(with_reducible refine (nan99 _ _).mono ?_);rintro e w6 ⟨rfl,rfl⟩;(try dsimp only)))
     go_ret2
     exact ⟨rfl,HI.out.1⟩
   ·obtain rfl : ok = false:=HOK.out.2 (by omega)
    go_wp2
    go_ret2
    exact ⟨rfl,HI.out.1⟩
end Go.Proofs.YtiaenhlflgobfaaGreatDoor
namespace Go.Proofs.YtiaenhlflgobfaaGreatDoor
open Go.RowKit
theorem Qby {l : T} {e : PE} (h : oks.body l e = true) : (e.pre 1).length ≤ 400:=by
 have h1 : ckB l e = 0:=by simpa [oks] using h
 unfold ckB at h1
 have h2 : ckE e = 0:=by
  rcases Classical.em (ckE e = 0) with h2 | h2
  ·exact h2
  ·rw [if_pos h2] at h1;exact absurd h1 h2
 unfold ckE at h2
 cases hl : Qdo e with
 | true => rw [hl] at h2;simp at h2
 | false =>
   unfold Qdo at hl
   simp only [Bool.or_eq_false_iff,decide_eq_false_iff_not] at hl
   omega
theorem Qdu {e : PT} (h : oks.Edit e) : ∀ d ∈ e.old ++ e.new,(d.body.pre 1).length ≤ 400:=by
 obtain ⟨q1,q2,-,-⟩:=Zv h.fit
 intro d hd
 by_cases h4 : e.kind ≤ 4
 ·have:=h.k0
  rw [if_neg (by omega)] at q1
  rw [if_neg (by omega)] at q2
  rw [List.eq_nil_of_length_eq_zero q1,List.eq_nil_of_length_eq_zero q2] at hd
  simp at hd
 ·have ht:=h.ts ⟨e.pack,[],[Ql e.kind d]⟩ (by
   unfold Zh
   rw [if_neg (by have:=h.k0;omega),if_neg (by have:=h.k0;omega)]
   exact List.mem_map.2 ⟨d,hd,rfl⟩)
  have hb:=Qby (ht.decls (Ql e.kind d) (by simp)).body
  by_cases h79 : e.kind = 7 ∨ e.kind = 9
  ·obtain ⟨o,n,ho,hn,e1,e2,-,-⟩:=Qad h.fit (by omega)
   rw [ho,hn] at hd
   simp only [List.cons_append,List.nil_append,List.mem_cons,List.not_mem_nil,or_false] at hd
   have key : ∀ x : PD,x = Qs e.kind x → (x.body.pre 1).length ≤ 400:=by
    intro x hx
    rw [hx]
    unfold Qs
    rcases h79 with h7 | h9
    ·rw [if_pos h7];simp [Qfa]
    ·rw [if_neg (by omega),if_neg (by omega),if_pos h9];simp [Qfa]
   rcases hd with rfl | rfl
   ·exact key _ e1
   ·exact key _ e2
  ·unfold Ql at hb
   simp only [if_neg h79] at hb
   exact hb
theorem Qj1 {e : PT} (h : oks.Edit e) : e.old.length ≤ 1 ∧ e.new.length ≤ 1:=by
 obtain ⟨q1,q2,-,-⟩:=Zv h.fit
 rw [q1,q2]
 constructor <;> split <;> omega
theorem Qn9 (e : Edt) (w : World) (he : e.Rd w) (h : oks.Edit e.er) : Calls Tryz.prog 66 #[e.v] w fun x w' => x = .returned (.bool true) ∧ Gr w w':=by
 by_cases h7 : e.kind < 7
 ·exact Qn8 e w h.k0 h7 h.fit
 ·refine Ql0 e w he (by omega) h.fit (fun d hd => ?_)
  exact Qdu h d.er (by rw [show e.er.old ++ e.er.new = (e.old ++ e.new).map Dec.er from by simp [Edt.er]];exact List.mem_map.2 ⟨d,hd,rfl⟩)
theorem Qk0 (e : Edt) (w : World) (he : e.Rd w) (h : oks.Edit e.er) : Calls Tryz.prog 67 #[e.v] w fun x w' => ∃ a c L,x = .returned (.slice a L.length c) ∧ MRd w' a c L ∧ L.map Mod.er = Zh e.er ∧ Gr w w':=by
 have h0:=h.k0
 have h9:=h.k1
 replace h0 : 1 ≤ e.kind:=h0
 replace h9 : e.kind ≤ 9:=h9
 by_cases h5 : 5 ≤ e.kind
 ·obtain ⟨h1,h2⟩:=Qj1 h
  exact Qh2 e w he h5 h9 (by simpa [Edt.er] using h1) (by simpa [Edt.er] using h2)
 ·exact Qky e w he (by omega)
theorem Qkz (e : PT) (h : oks.Edit e) : (Zh e).length ≤ 2:=by
 obtain ⟨h1,h2⟩:=Qj1 h
 unfold Zh
 split
 ·simp
 split
 ·simp
 ·simp;omega
set_option maxRecDepth 100000 in
set_option maxHeartbeats 4000000 in
attribute [local irreducible] Calls in
theorem Qd5 (e : Edt) (w : World) (he : e.Rd w) (h : oks.Edit e.er) : Calls Tryz.prog 29 #[e.v] w fun x w' => x = .returned (iv 0) ∧ Gr w w':=by
 obtain ⟨W,hW⟩ : ∃ W,w.alloc (.cells #[iv e.kind,tv e.pack,tv e.text,.slice e.oA e.old.length e.oc,.slice e.nA e.new.length e.nc] 32) = W:=⟨_,rfl⟩
 have GW:=Qo0 (show Gr w W by rw [← hW];exact Qa _ _)
 have CB:=Qo0 (fun V (g : Gr W V) => Qt (V:=V) (b:=w.heap.size) (e:=e) (Qe g (by rw [← hW];exact Qd _ _)))
 have C1:=Qo0 (fun V (g : Gr W V) => Qn9 e V (he.gr (GW.out.trans g)) h)
 have C2:=Qo0 (fun V (g : Gr W V) => Qk0 e V (he.gr (GW.out.trans g)) h)
 have TL:=Qo0 (Qkz e.er h)
 have TS:=Qo0 (fun m (hm : m ∈ Zh e.er) => (Qcg m).2 (h.ts m hm))
 have k1 : ¬ e.kind < 1:=by have h : 1 ≤ e.kind:=h.k0;omega
 have k9 : ¬ 9 < e.kind:=by have h : e.kind ≤ 9:=h.k1;omega
 have HW:=Qo0 hW
 clear he h hW
 unfold Edt.v at C1 C2 ⊢
 go_enter Tryz.func29,Tryz.ntmps29
 go_upto_region 1 with fail
 rw [HW.out]
 obtain ⟨c0,c1,c2,c3,c4⟩:=CB.out _ (Qc _)
 go_wp2_with (first
  | (go_at_call 66;(with_reducible refine (C1.out _ (Qc _)).mono ?_);rintro x w1 ⟨rfl,g1⟩;clear c0 c1 c2 c3 c4;obtain ⟨c0,c1,c2,c3,c4⟩:=CB.out _ g1;have G1:=Qo0 g1;clear g1)
  | (go_at_call 67;(with_reducible refine (C2.out _ G1.out).mono ?_);rintro x w2 ⟨a,c,L,rfl,mr,er,g2⟩;have G2:=Qo0 (G1.out.trans g2);have MR:=Qo0 (fun V (g : Gr w2 V) => mr.gr g);have ER:=Qo0 er;clear g2 mr er))
 obtain ⟨n,hn⟩ : ∃ n,L.length = n:=⟨_,rfl⟩
 have HN:=Qo0 hn
 have hn9 : n ≤ 2:=by rw [← hn];have h1:=congrArg List.length ER.out;rw [List.length_map] at h1;have:=TL.out;omega
 rw [hn]
 clear hn c0 c1 c2 c3 c4 C1 C2 k1 k9
 go_loopw [4,5,20] (fun _ _ i V => ∃ j : Nat,j ≤ n ∧ i = iv j ∧ Hid (Gr w2 V)) (fun _ _ i _ => n - (intOf i).toNat)
 case atStart => exact ⟨0,by omega,rfl,Qo0 (Qc _)⟩
 case round =>
  obtain ⟨j,hj,rfl,HG⟩:=hrel
  by_cases hlt : j < n
  ·obtain ⟨m,hm⟩ : ∃ m,L[j]? = some m:=⟨_,List.getElem?_eq_getElem (by rw [HN.out];exact hlt)⟩
   obtain ⟨b,b1,eb,hb,hbb,d0,d1,d2⟩:=rdM (MR.out _ HG.out).r hm
   subst eb
   have hmem:=List.mem_of_getElem? hm
   have C3:=Qo0 (fun V (g : Gr w2 V) => show Calls Tryz.prog 39 #[m.v] V (fun e w' => e = .returned (iv 0) ∧ Gr V w') from by
    have h:=Qal m V ((MR.out _ g).m m hmem)
    rw [TS.out m.er (by rw [← ER.out];exact List.mem_map.2 ⟨m,hmem,rfl⟩)] at h
    exact h)
   unfold Mod.v at C3
   have hlt2 : (j : Int) < (n : Int):=by omega
   clear hm hmem
   go_wp2_with (go_at_call 39;(with_reducible refine (C3.out _ (HG.out.trans (Qa _ _))).mono ?_);rintro x w3 ⟨rfl,g3⟩;have G3:=Qo0 ((HG.out.trans (Qa _ _)).trans g3);clear g3)
   exact ⟨⟨j + 1,by omega,by simp,G3⟩,by simp [intOf];omega⟩
  ·obtain rfl : j = n:=by omega
   have hnj : ¬ (j : Int) < (j : Int):=by omega
   go_wp2
   go_ret
   exact ⟨rfl,GW.out.trans (G2.out.trans HG.out)⟩
set_option maxRecDepth 100000 in
set_option maxHeartbeats 4000000 in
attribute [local irreducible] Calls in
theorem Qbo (A : Option Addr) (c : Nat) (L : List Mod) (w : World) (hL : MRd w A c L) :
 Calls Tryz.prog 31 #[.slice A L.length c] w fun e w' => ∃ r,e = .returned (iv r) ∧ (r = 0 ↔ ∀ m ∈ L,oks.Mod m.er) ∧ Gr w w':=by
 obtain ⟨n,hn⟩ : ∃ n,L.length = n:=⟨_,rfl⟩
 have HN:=Qo0 hn
 have hn9 : n ≤ 9223372036854775807:=by rw [← hn];exact Nat.le_trans hL.rw.hc hL.rw.hm
 have HL:=Qo0 (fun V (g : Gr w V) => hL.gr g)
 rw [hn]
 clear hn hL
 go_enter Tryz.func31,Tryz.ntmps31
 go_wp2
 go_loopw [4,5,8] (fun _ _ i V => ∃ j : Nat,j ≤ n ∧ i = iv j ∧ Hid (Gr w V ∧ ∀ m ∈ L.take j,oks.Mod m.er)) (fun _ _ i _ => n - (intOf i).toNat)
 case atStart => exact ⟨0,by omega,rfl,Qo0 ⟨Qc _,by simp⟩⟩
 case round =>
  obtain ⟨j,hj,rfl,HG⟩:=hrel
  by_cases hlt : j < n
  ·obtain ⟨m,hm⟩ : ∃ m,L[j]? = some m:=⟨_,List.getElem?_eq_getElem (by rw [HN.out];exact hlt)⟩
   obtain ⟨b,b1,eb,hb,hbb,d0,d1,d2⟩:=rdM (HL.out _ HG.out.1).r hm
   subst eb
   have hmem:=List.mem_of_getElem? hm
   have C3:=Qo0 (fun V (g : Gr w V) => Qal m V ((HL.out _ g).m m hmem))
   unfold Mod.v at C3
   have hlt2 : (j : Int) < (n : Int):=by omega
   obtain ⟨r,hr⟩ : ∃ r,ckM m.er = r:=⟨_,rfl⟩
   have HR:=Qo0 (show r = 0 ↔ oks.Mod m.er from by rw [← hr];exact Qcg _)
   have HM:=Qo0 hmem
   have HT:=Qo0 (show ∀ x ∈ L.take (j + 1),x ∈ L.take j ∨ x = m from by
    obtain ⟨hjl,hmm⟩:=List.getElem?_eq_some_iff.1 hm
    intro x hx
    rw [List.take_succ_eq_append_getElem hjl,hmm] at hx
    rcases List.mem_append.1 hx with h | h
    ·exact .inl h
    ·exact .inr (List.mem_singleton.1 h))
   simp only [hr] at C3
   clear hm hmem hr
   by_cases h0 : r = 0
   ·have OK:=Qo0 (HR.out.1 h0)
    subst h0
    clear HR
    go_wp2_with (go_at_call 39;(with_reducible refine (C3.out _ (HG.out.1.trans (Qa _ _))).mono ?_);rintro x w3 ⟨rfl,g3⟩;have G3:=Qo0 ((HG.out.1.trans (Qa _ _)).trans g3);clear g3)
    exact ⟨⟨j + 1,by omega,by simp,Qo0 ⟨G3.out,fun x hx => by
     rcases HT.out x hx with h | rfl
     ·exact HG.out.2 x h
     ·exact OK.out⟩⟩,by simp [intOf];omega⟩
   ·have p1 : (r != 0) = true:=by simpa using h0
    go_wp2_with (go_at_call 39;(with_reducible refine (C3.out _ (HG.out.1.trans (Qa _ _))).mono ?_);rintro x w3 ⟨rfl,g3⟩;have G3:=Qo0 ((HG.out.1.trans (Qa _ _)).trans g3);clear g3)
    go_ret
    exact ⟨r,rfl,⟨fun h => absurd h h0,fun h => HR.out.2 (h m HM.out)⟩,G3.out⟩
  ·obtain rfl : j = n:=by omega
   have hnj : ¬ (j : Int) < (j : Int):=by omega
   have FA:=Qo0 (show ∀ m ∈ L,oks.Mod m.er from by have h:=HG.out.2;rwa [List.take_of_length_le (by rw [HN.out];exact Nat.le_refl _)] at h)
   have FG:=Qo0 HG.out.1
   clear HG
   go_wp2
   go_ret
   exact ⟨0,rfl,⟨fun _ => FA.out,fun _ => rfl⟩,FG.out⟩
end Go.Proofs.YtiaenhlflgobfaaGreatDoor

/- Walks and words: Eqh, Eqs, Men, Prs. -/
import Derived.Test.YtiaenhlflgobfaaGreatDoorTb24
import Derived.Deep.DeepCutAuto
namespace Go.Proofs.YtiaenhlflgobfaaGreatDoor
open Go.RowKit
def eqHd (x y : PD) : Bool:=decide (x.kind = y.kind) && (x.pub == y.pub) && (x.doubt == y.doubt)
set_option maxRecDepth 100000 in
set_option maxHeartbeats 4000000 in
attribute [local irreducible] Calls in
theorem Qef (x y : Dec) (w : World) : Calls Tryz.prog 95 #[x.v,y.v] w fun e w' => e = .returned (.bool (eqHd x.er y.er)) ∧ Gr w w':=by
 have GX:=Qo0 (show Gr w ((w.alloc (.cells #[iv x.id,iv x.kind,.bool x.pub,.slice x.nA x.names.length x.nc,.bool x.doubt,iv x.body.kind,tv x.body.name,tv x.body.more,iv x.body.int,iv x.body.den,.slice x.body.A x.body.sub.length x.body.c] 45)).alloc (.cells #[iv y.id,iv y.kind,.bool y.pub,.slice y.nA y.names.length y.nc,.bool y.doubt,iv y.body.kind,tv y.body.name,tv y.body.more,iv y.body.int,iv y.body.den,.slice y.body.A y.body.sub.length y.body.c] 45)) from (Qa _ _).trans (Qa _ _))
 have SP : eqHd x.er y.er = (decide (x.kind = y.kind) && (x.pub == y.pub) && (x.doubt == y.doubt)):=rfl
 rw [SP]
 clear SP
 unfold Dec.v
 obtain ⟨p,hp⟩ : ∃ p,x.pub = p:=⟨_,rfl⟩
 obtain ⟨q,hq⟩ : ∃ p,y.pub = p:=⟨_,rfl⟩
 obtain ⟨r,hr⟩ : ∃ p,x.doubt = p:=⟨_,rfl⟩
 obtain ⟨s,hs⟩ : ∃ p,y.doubt = p:=⟨_,rfl⟩
 rw [hp,hq,hr,hs] at GX ⊢
 clear hp hq hr hs
 obtain ⟨k,hk⟩ : ∃ p,x.kind = p:=⟨_,rfl⟩
 obtain ⟨m,hm⟩ : ∃ p,y.kind = p:=⟨_,rfl⟩
 rw [hk,hm] at GX ⊢
 clear hk hm
 by_cases h : k = m
 ·subst h
  cases p <;> cases q <;> cases r <;> cases s
  all_goals go_enter Tryz.func95,Tryz.ntmps95
  all_goals go_wp2
  all_goals (first | go_end0 | go_ret | refine bodyPost_ret (results_none rfl _ _ _) rfl ?_)
  all_goals exact ⟨by simp,GX.out⟩
 ·have h1 : (k == m) = false:=by simpa using h
  go_enter Tryz.func95,Tryz.ntmps95
  go_wp2
  all_goals (first | go_end0 | go_ret | refine bodyPost_ret (results_none rfl _ _ _) rfl ?_)
  all_goals exact ⟨by simp [h],GX.out⟩
end Go.Proofs.YtiaenhlflgobfaaGreatDoor
namespace Go.Proofs.YtiaenhlflgobfaaGreatDoor
open Go.RowKit
set_option maxRecDepth 100000 in
set_option maxHeartbeats 4000000 in
attribute [local irreducible] Calls in
theorem Qiu (Aa : Option Addr) (c : Nat) (L : List T) (Ba : Option Addr) (d : Nat) (M : List T) (w : World) (hL : SRd w Aa c L) (hM : SRd w Ba d M) :
 Calls Tryz.prog 96 #[.slice Aa L.length c,.slice Ba M.length d] w fun e w' => e = .returned (.bool (decide (L = M))) ∧ Gr w w':=by
 have HL:=Qo0 (fun V (g : Gr w V) => hL.gr g)
 have HM:=Qo0 (fun V (g : Gr w V) => hM.gr g)
 have hl : L.length ≤ 9223372036854775807:=Nat.le_trans hL.rw.hc hL.rw.hm
 have hm : M.length ≤ 9223372036854775807:=Nat.le_trans hM.rw.hc hM.rw.hm
 clear hL hM
 by_cases hne : L.length = M.length
 ·obtain ⟨r,hr⟩ : ∃ r,decide (L = M) = r:=⟨_,rfl⟩
  have HR:=Qo0 hr
  rw [hr,← hne]
  rw [← hne] at hm
  obtain ⟨n,hn⟩ : ∃ n,L.length = n:=⟨_,rfl⟩
  have HN:=Qo0 (And.intro hn (hne.symm.trans hn))
  rw [hn] at hl hm ⊢
  clear hr hn hne hm
  have HB:=Qo0 hl
  go_enter Tryz.func96,Tryz.ntmps96
  go_wp2
  go_loopw [4,5,13] (fun _ _ i V => ∃ j : Nat,j ≤ n ∧ i = iv j ∧ Hid (Gr w V ∧ L.take j = M.take j)) (fun _ _ i _ => (n - intOf i).toNat)
  case atStart => exact ⟨0,by omega,rfl,Qo0 ⟨Qc _,by simp⟩⟩
  case round =>
   obtain ⟨j,hj,rfl,HG⟩:=hrel
   have GV:=Qo0 HG.out.1
   by_cases hlt : j < n
   ·have h1 : j < L.length:=by rw [HN.out.1];exact hlt
    have h2 : j < M.length:=by rw [HN.out.2];exact hlt
    obtain ⟨a,a1,ea,e1,hb1,c1,-⟩:=(HL.out _ GV.out).at (k:=j) h1
    obtain ⟨b,b1,eb,f1,hb2,c2,-⟩:=(HM.out _ GV.out).at (k:=j) h2
    subst ea
    subst eb
    have tj : (j : Int) < (n : Int):=by omega
    have TJ:=Qo0 (fun (h : L[j] = M[j]) => show L.take (j + 1) = M.take (j + 1) by rw [List.take_succ_eq_append_getElem h1,List.take_succ_eq_append_getElem h2,HG.out.2,h])
    have NJ:=Qo0 (fun (h : ¬ L[j] = M[j]) => show r = false by rw [← HR.out];exact decide_eq_false (fun e => h (by subst e;rfl)))
    generalize L[j] = s at *
    generalize M[j] = t at *
    clear h1 h2 HG
    by_cases hst : s = t
    ·subst hst
     have TK:=Qo0 (TJ.out rfl)
     clear TJ NJ
     go_upto_region 6 with fail
     go_quiet (fail)
     all_goals go_wp2
     all_goals exact ⟨⟨j + 1,by omega,by simp,Qo0 ⟨GV.out.trans (Qq _ _),TK.out⟩⟩,by simp [intOf];omega⟩
    ·have hq:=NJ.out hst
     subst hq
     clear TJ NJ
     have p : (s == t) = false:=by simpa using hst
     have p2 : (s != t) = true:=by simpa using hst
     go_upto_region 6 with fail
     go_quiet (fail)
     all_goals go_wp2
     all_goals (first | go_end0 | go_ret | refine bodyPost_ret (results_none rfl _ _ _) rfl ?_)
     all_goals exact ⟨rfl,GV.out.trans (Qq _ _)⟩
   ·obtain rfl : j = n:=by omega
    have hq : r = true:=by
     rw [← HR.out]
     refine decide_eq_true ?_
     have h:=HG.out.2
     rw [List.take_of_length_le (by rw [HN.out.1];exact Nat.le_refl _),List.take_of_length_le (by rw [HN.out.2];exact Nat.le_refl _)] at h
     exact h
    subst hq
    clear HG
    go_wp2
    all_goals (first | go_end0 | go_ret | refine bodyPost_ret (results_none rfl _ _ _) rfl ?_)
    all_goals exact ⟨rfl,GV.out⟩
 ·have hq : decide (L = M) = false:=decide_eq_false (fun e => hne (by rw [e]))
  rw [hq]
  have p : ((L.length : Int) != (M.length : Int)) = true:=by simp;omega
  have p2 : ¬ (L.length : Int) = (M.length : Int):=by omega
  go_enter Tryz.func96,Tryz.ntmps96
  go_wp2
  all_goals (first | go_end0 | go_ret | refine bodyPost_ret (results_none rfl _ _ _) rfl ?_)
  all_goals exact ⟨rfl,Qc _⟩
end Go.Proofs.YtiaenhlflgobfaaGreatDoor
namespace Go.Proofs.YtiaenhlflgobfaaGreatDoor
open Go.RowKit
def Ex.zero : Ex:=.mk 0 [] [] 0 0 none 0 []
def Dec.ment (k : Int) (d : Dec) : Dec :=
 if k = 7 then ⟨d.id,0,false,d.nA,d.nc,d.names,false,Ex.zero⟩ else if k = 8 then ⟨d.id,0,false,none,0,[],false,d.body⟩
 else if k = 9 then ⟨d.id,d.kind,d.pub,none,0,[],d.doubt,Ex.zero⟩ else d
theorem Qc0 {fn : Func} {p : Tmp} (h : fn.results = #[.cell p 45]) (tmps : Array Value) (w : World) (b : Nat) (d : Dec) (hp : tmps.getD p undef = .pointer (some ⟨b,0,none⟩)) (hb : w.heap[b]? = some (.cells d.cs.toArray 45 (0,0))) : (results fn tmps).run Tryz.prog w = .ok d.v w:=by
 have ha:=Tryz.isAgg45
 have hz:=Tryz.sizeOf45
 have h0 : w.cell? ⟨b,0,none⟩ = some (iv d.id):=by rw [Lib.cell_of_heap hb];rfl
 have h1 : w.cell? ⟨b,1,none⟩ = some (iv d.kind):=by rw [Lib.cell_of_heap hb];rfl
 have h2 : w.cell? ⟨b,2,none⟩ = some (.bool d.pub):=by rw [Lib.cell_of_heap hb];rfl
 have h3 : w.cell? ⟨b,3,none⟩ = some (.slice d.nA d.names.length d.nc):=by rw [Lib.cell_of_heap hb];rfl
 have h4 : w.cell? ⟨b,4,none⟩ = some (.bool d.doubt):=by rw [Lib.cell_of_heap hb];rfl
 have h5 : w.cell? ⟨b,5,none⟩ = some (iv d.body.kind):=by rw [Lib.cell_of_heap hb];rfl
 have h6 : w.cell? ⟨b,6,none⟩ = some (tv d.body.name):=by rw [Lib.cell_of_heap hb];rfl
 have h7 : w.cell? ⟨b,7,none⟩ = some (tv d.body.more):=by rw [Lib.cell_of_heap hb];rfl
 have h8 : w.cell? ⟨b,8,none⟩ = some (iv d.body.int):=by rw [Lib.cell_of_heap hb];rfl
 have h9 : w.cell? ⟨b,9,none⟩ = some (iv d.body.den):=by rw [Lib.cell_of_heap hb];rfl
 have h10 : w.cell? ⟨b,10,none⟩ = some (.slice d.body.A d.body.sub.length d.body.c):=by rw [Lib.cell_of_heap hb];rfl
 rw [Y0 h,hp]
 simp [go_sem,ha,hz,loadVar,h0,h1,h2,h3,h4,h5,h6,h7,h8,h9,h10,Dec.v]
set_option maxRecDepth 100000 in
set_option maxHeartbeats 4000000 in
attribute [local irreducible] Calls in
theorem Zy (k : Int) (d : Dec) (w : World) : Calls Tryz.prog 51 #[iv k,d.v] w fun e w' => e = .returned (d.ment k).v ∧ Gr w w':=by
 obtain ⟨m,hm⟩ : ∃ m,d.ment k = m:=⟨_,rfl⟩
 have HM:=Qo0 hm
 rw [hm]
 clear hm
 obtain ⟨v,hv⟩ : ∃ v,m.v = v:=⟨_,rfl⟩
 have HV:=Qo0 hv
 rw [hv]
 clear hv
 have fin : ∀ (V : World) (tmps : Array Value),tmps.getD 4 undef = .pointer (some ⟨w.heap.size + 1,0,none⟩) → V.heap[w.heap.size + 1]? = some (.cells m.cs.toArray 45 (0,0)) → (results Tryz.f51 tmps).run Tryz.prog V = .ok v V:=fun V tmps h1 h2 => by rw [← HV.out];exact Qc0 rfl _ _ _ m h1 h2
 unfold Dec.v
 by_cases h7 : k = 7
 ·subst h7
  go_enter Tryz.func51,Tryz.ntmps51
  go_wp2
  refine bodyPost_ret (fin _ _ rfl (by rw [← HM.out];exact Qr _ _ (by simp))) rfl ⟨rfl,(Qa _ _).trans (Qa _ _)⟩
 by_cases h8 : k = 8
 ·subst h8
  go_enter Tryz.func51,Tryz.ntmps51
  go_wp2
  refine bodyPost_ret (fin _ _ rfl (by rw [← HM.out];exact Qr _ _ (by simp))) rfl ⟨rfl,(Qa _ _).trans (Qa _ _)⟩
 by_cases h9 : k = 9
 ·subst h9
  go_enter Tryz.func51,Tryz.ntmps51
  go_wp2
  refine bodyPost_ret (fin _ _ rfl (by rw [← HM.out];exact Qr _ _ (by simp))) rfl ⟨rfl,(Qa _ _).trans (Qa _ _)⟩
 ·have HE:=Qo0 (show d.ment k = d by unfold Dec.ment;rw [if_neg h7,if_neg h8,if_neg h9])
  have p7 : (k == 7) = false:=by simpa using h7
  have p8 : (k == 8) = false:=by simpa using h8
  have p9 : (k == 9) = false:=by simpa using h9
  go_enter Tryz.func51,Tryz.ntmps51
  go_wp2
  refine bodyPost_ret (fin _ _ rfl (by rw [← HM.out,HE.out];exact Qr _ _ (by simp))) rfl ⟨rfl,(Qa _ _).trans (Qa _ _)⟩
end Go.Proofs.YtiaenhlflgobfaaGreatDoor
namespace Go.Proofs.YtiaenhlflgobfaaGreatDoor
open Go.RowKit
structure PR where
 A : Option Addr
 c : Nat
 L : List Ex
 B : Option Addr
 d : Nat
 M : List Ex
def PR.cs (p : PR) : List Value:=[.slice p.A p.L.length p.c,.slice p.B p.M.length p.d]
theorem PR.cs_len (p : PR) : p.cs.length = 2:=rfl
theorem PR.cell1 (p : PR) : ∀ u ∈ p.cs,u.oneCell' = true:=by
 intro u hu
 simp only [PR.cs,List.mem_cons,List.not_mem_nil,or_false] at hu
 rcases hu with rfl | rfl <;> rfl
structure PR.Rd (w : World) (p : PR) : Prop where
 l : XRd w p.A p.c p.L
 m : XRd w p.B p.d p.M
theorem PR.Rd.gr {w w' : World} {p : PR} (h : p.Rd w) (g : Gr w w') : p.Rd w':=⟨h.l.gr g,h.m.gr g⟩
def PR.eq (p : PR) : Prop:=ers p.L = ers p.M
theorem elP : EL 226 225 2 PR.cs:=⟨PR.cs_len,PR.cell1,Tryz.underlying226,⟨.agg #[.slice none 0 0,.slice none 0 0],48,by kernel_rfl,rfl,by decide⟩,by decide⟩
theorem OR.prAt {w : World} {base g m cap : Nat} {L : List PR} (h : OR 225 2 PR.cs w base (.slice (some ⟨g,0,none⟩) m cap) L) {k : Nat} {p : PR} (hk : L[k]? = some p) : w.cell? ⟨g,k * 2,none⟩ = some (.slice p.A p.L.length p.c) ∧ w.cell? ⟨g,k * 2 + 1,none⟩ = some (.slice p.B p.M.length p.d):=by
 obtain ⟨A,c,e,hr⟩:=h.form PR.cs_len
 obtain ⟨hkl,rfl⟩:=List.getElem?_eq_some_iff.1 hk
 obtain ⟨a,ea,hb,hc⟩:=hr.at hkl
 have e1 : some a = some (⟨g,0,none⟩ : Addr):=by rw [← ea];exact ((Value.slice.inj e).1).symm
 cases e1
 have h0:=hc 0 _ rfl
 have h1:=hc 1 _ rfl
 by_cases hk0 : k = 0
 ·subst hk0
  rw [show (0 * 2 + 0 : Nat) = 0 from rfl,add_zero'] at h0
  rw [show (0 * 2 + 1 : Nat) = 1 from rfl,Qh _ _ (by omega)] at h1
  exact ⟨by simpa using h0,by simpa using h1⟩
 ·rw [Qh _ _ (by omega)] at h0
  rw [Qh _ _ (by omega)] at h1
  exact ⟨by simpa using h0,by simpa using h1⟩
theorem Qe2 (x y : Ex) : x.er = y.er ↔ x.kind = y.kind ∧ x.name = y.name ∧ x.more = y.more ∧ x.int = y.int ∧ x.den = y.den ∧ ers x.sub = ers y.sub:=by
 constructor
 ·intro h
  refine ⟨?_,?_,?_,?_,?_,?_⟩
  ·rw [← Zk,← Zk,h]
  ·rw [← Yb,← Yb,h]
  ·rw [← Xa,← Xa,h]
  ·have:=congrArg PE.int h;cases x;cases y;rw [Ex.er,Ex.er] at this;exact this
  ·have:=congrArg PE.den h;cases x;cases y;rw [Ex.er,Ex.er] at this;exact this
  ·rw [← Yn,← Yn,h]
 ·rintro ⟨h1,h2,h3,h4,h5,h6⟩
  cases x
  cases y
  simp only [Ex.kind,Ex.name,Ex.more,Ex.int,Ex.den,Ex.sub] at h1 h2 h3 h4 h5 h6
  subst h1;subst h2;subst h3;subst h4;subst h5
  rw [Ex.er,Ex.er,h6]
end Go.Proofs.YtiaenhlflgobfaaGreatDoor

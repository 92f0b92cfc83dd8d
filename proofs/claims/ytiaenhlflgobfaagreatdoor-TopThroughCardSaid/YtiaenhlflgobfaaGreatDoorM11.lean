/- Walks and words: Eqh, Eqs, Men, Prs, Eqe, Eqd. -/
import Derived.Test.YtiaenhlflgobfaaGreatDoorM10
import Derived.Deep.DeepCutAuto
import Derived.Deep.RegionHeldLaw
import Derived.Deep.RegionLaw
namespace Go.Proofs.YtiaenhlflgobfaaGreatDoor
open Go.RowKit
def eqHd (x y : PD) : Bool := decide (x.kind = y.kind) && (x.pub == y.pub) && (x.doubt == y.doubt)
set_option maxRecDepth 100000 in
set_option maxHeartbeats 4000000 in
attribute [local irreducible] Calls in
theorem equalHead_any (x y : Dec) (w : World) : Calls Tryz.prog 95 #[x.v, y.v] w fun e w' => e = .returned (.bool (eqHd x.er y.er)) ∧ Gr w w' := by
  have GX := Lib.hid (show Gr w ((w.alloc (.cells #[iv x.id, iv x.kind, .bool x.pub, .slice x.nA x.names.length x.nc, .bool x.doubt, iv x.body.kind, tv x.body.name, tv x.body.more, iv x.body.int, iv x.body.den, .slice x.body.A x.body.sub.length x.body.c] 45)).alloc (.cells #[iv y.id, iv y.kind, .bool y.pub, .slice y.nA y.names.length y.nc, .bool y.doubt, iv y.body.kind, tv y.body.name, tv y.body.more, iv y.body.int, iv y.body.den, .slice y.body.A y.body.sub.length y.body.c] 45)) from (gr_al _ _).trans (gr_al _ _))
  have SP : eqHd x.er y.er = (decide (x.kind = y.kind) && (x.pub == y.pub) && (x.doubt == y.doubt)) := rfl
  rw [SP]
  clear SP
  unfold Dec.v
  obtain ⟨p, hp⟩ : ∃ p, x.pub = p := ⟨_, rfl⟩
  obtain ⟨q, hq⟩ : ∃ p, y.pub = p := ⟨_, rfl⟩
  obtain ⟨r, hr⟩ : ∃ p, x.doubt = p := ⟨_, rfl⟩
  obtain ⟨s, hs⟩ : ∃ p, y.doubt = p := ⟨_, rfl⟩
  rw [hp, hq, hr, hs] at GX ⊢
  clear hp hq hr hs
  obtain ⟨k, hk⟩ : ∃ p, x.kind = p := ⟨_, rfl⟩
  obtain ⟨m, hm⟩ : ∃ p, y.kind = p := ⟨_, rfl⟩
  rw [hk, hm] at GX ⊢
  clear hk hm
  by_cases h : k = m
  · subst h
    cases p <;> cases q <;> cases r <;> cases s
    all_goals go_enter Tryz.func95, Tryz.ntmps95
    all_goals go_wp2
    all_goals (first | go_end0 | go_ret | refine bodyPost_ret (results_none rfl _ _ _) rfl ?_)
    all_goals exact ⟨by simp, GX.out⟩
  · have h1 : (k == m) = false := by simpa using h
    go_enter Tryz.func95, Tryz.ntmps95
    go_wp2
    all_goals (first | go_end0 | go_ret | refine bodyPost_ret (results_none rfl _ _ _) rfl ?_)
    all_goals exact ⟨by simp [h], GX.out⟩
end Go.Proofs.YtiaenhlflgobfaaGreatDoor
namespace Go.Proofs.YtiaenhlflgobfaaGreatDoor
open Go.RowKit
set_option maxRecDepth 100000 in
set_option maxHeartbeats 4000000 in
attribute [local irreducible] Calls in
theorem equalS_any (Aa : Option Addr) (c : Nat) (L : List T) (Ba : Option Addr) (d : Nat) (M : List T) (w : World) (hL : SRd w Aa c L) (hM : SRd w Ba d M) :
    Calls Tryz.prog 96 #[.slice Aa L.length c, .slice Ba M.length d] w fun e w' => e = .returned (.bool (decide (L = M))) ∧ Gr w w' := by
  have HL := Lib.hid (fun V (g : Gr w V) => hL.gr g)
  have HM := Lib.hid (fun V (g : Gr w V) => hM.gr g)
  have hl : L.length ≤ 9223372036854775807 := Nat.le_trans hL.rw.hc hL.rw.hm
  have hm : M.length ≤ 9223372036854775807 := Nat.le_trans hM.rw.hc hM.rw.hm
  clear hL hM
  by_cases hne : L.length = M.length
  · obtain ⟨r, hr⟩ : ∃ r, decide (L = M) = r := ⟨_, rfl⟩
    have HR := Lib.hid hr
    rw [hr, ← hne]
    rw [← hne] at hm
    obtain ⟨n, hn⟩ : ∃ n, L.length = n := ⟨_, rfl⟩
    have HN := Lib.hid (And.intro hn (hne.symm.trans hn))
    rw [hn] at hl hm ⊢
    clear hr hn hne hm
    have HB := Lib.hid hl
    go_enter Tryz.func96, Tryz.ntmps96
    go_wp2
    go_loopw [4, 5, 13] (fun _ _ i V => ∃ j : Nat, j ≤ n ∧ i = iv j ∧ Hid (Gr w V ∧ L.take j = M.take j)) (fun _ _ i _ => (n - intOf i).toNat)
    case atStart => exact ⟨0, by omega, rfl, Lib.hid ⟨gr_refl _, by simp⟩⟩
    case round =>
      obtain ⟨j, hj, rfl, HG⟩ := hrel
      have GV := Lib.hid HG.out.1
      by_cases hlt : j < n
      · have h1 : j < L.length := by rw [HN.out.1]; exact hlt
        have h2 : j < M.length := by rw [HN.out.2]; exact hlt
        obtain ⟨a, a1, ea, e1, hb1, c1, -⟩ := (HL.out _ GV.out).at (k := j) h1
        obtain ⟨b, b1, eb, f1, hb2, c2, -⟩ := (HM.out _ GV.out).at (k := j) h2
        subst ea
        subst eb
        have tj : (j : Int) < (n : Int) := by omega
        have TJ := Lib.hid (fun (h : L[j] = M[j]) => show L.take (j + 1) = M.take (j + 1) by rw [List.take_succ_eq_append_getElem h1, List.take_succ_eq_append_getElem h2, HG.out.2, h])
        have NJ := Lib.hid (fun (h : ¬ L[j] = M[j]) => show r = false by rw [← HR.out]; exact decide_eq_false (fun e => h (by subst e; rfl)))
        generalize L[j] = s at *
        generalize M[j] = t at *
        clear h1 h2 HG
        by_cases hst : s = t
        · subst hst
          have TK := Lib.hid (TJ.out rfl)
          clear TJ NJ
          go_upto_region 6 with fail
          go_quiet (fail)
          all_goals go_wp2
          all_goals exact ⟨⟨j + 1, by omega, by simp, Lib.hid ⟨GV.out.trans (gr_drewN _ _), TK.out⟩⟩, by simp [intOf]; omega⟩
        · have hq := NJ.out hst
          subst hq
          clear TJ NJ
          have p : (s == t) = false := by simpa using hst
          have p2 : (s != t) = true := by simpa using hst
          go_upto_region 6 with fail
          go_quiet (fail)
          all_goals go_wp2
          all_goals (first | go_end0 | go_ret | refine bodyPost_ret (results_none rfl _ _ _) rfl ?_)
          all_goals exact ⟨rfl, GV.out.trans (gr_drewN _ _)⟩
      · obtain rfl : j = n := by omega
        have hq : r = true := by
          rw [← HR.out]
          refine decide_eq_true ?_
          have h := HG.out.2
          rw [List.take_of_length_le (by rw [HN.out.1]; exact Nat.le_refl _), List.take_of_length_le (by rw [HN.out.2]; exact Nat.le_refl _)] at h
          exact h
        subst hq
        clear HG
        go_wp2
        all_goals (first | go_end0 | go_ret | refine bodyPost_ret (results_none rfl _ _ _) rfl ?_)
        all_goals exact ⟨rfl, GV.out⟩
  · have hq : decide (L = M) = false := decide_eq_false (fun e => hne (by rw [e]))
    rw [hq]
    have p : ((L.length : Int) != (M.length : Int)) = true := by simp; omega
    have p2 : ¬ (L.length : Int) = (M.length : Int) := by omega
    go_enter Tryz.func96, Tryz.ntmps96
    go_wp2
    all_goals (first | go_end0 | go_ret | refine bodyPost_ret (results_none rfl _ _ _) rfl ?_)
    all_goals exact ⟨rfl, gr_refl _⟩
end Go.Proofs.YtiaenhlflgobfaaGreatDoor
namespace Go.Proofs.YtiaenhlflgobfaaGreatDoor
open Go.RowKit
def Ex.zero : Ex := .mk 0 [] [] 0 0 none 0 []
def Dec.ment (k : Int) (d : Dec) : Dec :=
  if k = 7 then ⟨d.id, 0, false, d.nA, d.nc, d.names, false, Ex.zero⟩ else if k = 8 then ⟨d.id, 0, false, none, 0, [], false, d.body⟩
  else if k = 9 then ⟨d.id, d.kind, d.pub, none, 0, [], d.doubt, Ex.zero⟩ else d
theorem results_dec {fn : Func} {p : Tmp} (h : fn.results = #[.cell p 45]) (tmps : Array Value) (w : World) (b : Nat) (d : Dec) (hp : tmps.getD p undef = .pointer (some ⟨b, 0, none⟩)) (hb : w.heap[b]? = some (.cells d.cs.toArray 45 (0, 0))) : (results fn tmps).run Tryz.prog w = .ok d.v w := by
  have ha := Tryz.isAgg45
  have hz := Tryz.sizeOf45
  have h0 : w.cell? ⟨b, 0, none⟩ = some (iv d.id) := by rw [Lib.cell_of_heap hb]; rfl
  have h1 : w.cell? ⟨b, 1, none⟩ = some (iv d.kind) := by rw [Lib.cell_of_heap hb]; rfl
  have h2 : w.cell? ⟨b, 2, none⟩ = some (.bool d.pub) := by rw [Lib.cell_of_heap hb]; rfl
  have h3 : w.cell? ⟨b, 3, none⟩ = some (.slice d.nA d.names.length d.nc) := by rw [Lib.cell_of_heap hb]; rfl
  have h4 : w.cell? ⟨b, 4, none⟩ = some (.bool d.doubt) := by rw [Lib.cell_of_heap hb]; rfl
  have h5 : w.cell? ⟨b, 5, none⟩ = some (iv d.body.kind) := by rw [Lib.cell_of_heap hb]; rfl
  have h6 : w.cell? ⟨b, 6, none⟩ = some (tv d.body.name) := by rw [Lib.cell_of_heap hb]; rfl
  have h7 : w.cell? ⟨b, 7, none⟩ = some (tv d.body.more) := by rw [Lib.cell_of_heap hb]; rfl
  have h8 : w.cell? ⟨b, 8, none⟩ = some (iv d.body.int) := by rw [Lib.cell_of_heap hb]; rfl
  have h9 : w.cell? ⟨b, 9, none⟩ = some (iv d.body.den) := by rw [Lib.cell_of_heap hb]; rfl
  have h10 : w.cell? ⟨b, 10, none⟩ = some (.slice d.body.A d.body.sub.length d.body.c) := by rw [Lib.cell_of_heap hb]; rfl
  rw [results_cell1 h, hp]
  simp [go_sem, ha, hz, loadVar, h0, h1, h2, h3, h4, h5, h6, h7, h8, h9, h10, Dec.v]
set_option maxRecDepth 100000 in
set_option maxHeartbeats 4000000 in
attribute [local irreducible] Calls in
theorem mentioned_any (k : Int) (d : Dec) (w : World) : Calls Tryz.prog 51 #[iv k, d.v] w fun e w' => e = .returned (d.ment k).v ∧ Gr w w' := by
  obtain ⟨m, hm⟩ : ∃ m, d.ment k = m := ⟨_, rfl⟩
  have HM := Lib.hid hm
  rw [hm]
  clear hm
  obtain ⟨v, hv⟩ : ∃ v, m.v = v := ⟨_, rfl⟩
  have HV := Lib.hid hv
  rw [hv]
  clear hv
  have fin : ∀ (V : World) (tmps : Array Value), tmps.getD 4 undef = .pointer (some ⟨w.heap.size + 1, 0, none⟩) → V.heap[w.heap.size + 1]? = some (.cells m.cs.toArray 45 (0, 0)) → (results Tryz.f51 tmps).run Tryz.prog V = .ok v V := fun V tmps h1 h2 => by rw [← HV.out]; exact results_dec rfl _ _ _ m h1 h2
  unfold Dec.v
  by_cases h7 : k = 7
  · subst h7
    go_enter Tryz.func51, Tryz.ntmps51
    go_wp2
    refine bodyPost_ret (fin _ _ rfl (by rw [← HM.out]; exact al_at _ _ (by simp))) rfl ⟨rfl, (gr_al _ _).trans (gr_al _ _)⟩
  by_cases h8 : k = 8
  · subst h8
    go_enter Tryz.func51, Tryz.ntmps51
    go_wp2
    refine bodyPost_ret (fin _ _ rfl (by rw [← HM.out]; exact al_at _ _ (by simp))) rfl ⟨rfl, (gr_al _ _).trans (gr_al _ _)⟩
  by_cases h9 : k = 9
  · subst h9
    go_enter Tryz.func51, Tryz.ntmps51
    go_wp2
    refine bodyPost_ret (fin _ _ rfl (by rw [← HM.out]; exact al_at _ _ (by simp))) rfl ⟨rfl, (gr_al _ _).trans (gr_al _ _)⟩
  · have HE := Lib.hid (show d.ment k = d by unfold Dec.ment; rw [if_neg h7, if_neg h8, if_neg h9])
    have p7 : (k == 7) = false := by simpa using h7
    have p8 : (k == 8) = false := by simpa using h8
    have p9 : (k == 9) = false := by simpa using h9
    go_enter Tryz.func51, Tryz.ntmps51
    go_wp2
    refine bodyPost_ret (fin _ _ rfl (by rw [← HM.out, HE.out]; exact al_at _ _ (by simp))) rfl ⟨rfl, (gr_al _ _).trans (gr_al _ _)⟩
end Go.Proofs.YtiaenhlflgobfaaGreatDoor
namespace Go.Proofs.YtiaenhlflgobfaaGreatDoor
open Go.RowKit
structure PR where
  A : Option Addr
  c : Nat
  L : List Ex
  B : Option Addr
  d : Nat
  M : List Ex
def PR.cs (p : PR) : List Value := [.slice p.A p.L.length p.c, .slice p.B p.M.length p.d]
theorem PR.cs_len (p : PR) : p.cs.length = 2 := rfl
theorem PR.cell1 (p : PR) : ∀ u ∈ p.cs, u.oneCell' = true := by
  intro u hu
  simp only [PR.cs, List.mem_cons, List.not_mem_nil, or_false] at hu
  rcases hu with rfl | rfl <;> rfl
structure PR.Rd (w : World) (p : PR) : Prop where
  l : XRd w p.A p.c p.L
  m : XRd w p.B p.d p.M
theorem PR.Rd.gr {w w' : World} {p : PR} (h : p.Rd w) (g : Gr w w') : p.Rd w' := ⟨h.l.gr g, h.m.gr g⟩
def PR.eq (p : PR) : Prop := ers p.L = ers p.M
theorem elP : EL 226 225 2 PR.cs := ⟨PR.cs_len, PR.cell1, Tryz.underlying226, ⟨.agg #[.slice none 0 0, .slice none 0 0], 48, by kernel_rfl, rfl, by decide⟩, by decide⟩
theorem OR.prAt {w : World} {base g m cap : Nat} {L : List PR} (h : OR 225 2 PR.cs w base (.slice (some ⟨g, 0, none⟩) m cap) L) {k : Nat} {p : PR} (hk : L[k]? = some p) : w.cell? ⟨g, k * 2, none⟩ = some (.slice p.A p.L.length p.c) ∧ w.cell? ⟨g, k * 2 + 1, none⟩ = some (.slice p.B p.M.length p.d) := by
  obtain ⟨A, c, e, hr⟩ := h.form PR.cs_len
  obtain ⟨hkl, rfl⟩ := List.getElem?_eq_some_iff.1 hk
  obtain ⟨a, ea, hb, hc⟩ := hr.at hkl
  have e1 : some a = some (⟨g, 0, none⟩ : Addr) := by rw [← ea]; exact ((Value.slice.inj e).1).symm
  cases e1
  have h0 := hc 0 _ rfl
  have h1 := hc 1 _ rfl
  by_cases hk0 : k = 0
  · subst hk0
    rw [show (0 * 2 + 0 : Nat) = 0 from rfl, add_zero'] at h0
    rw [show (0 * 2 + 1 : Nat) = 1 from rfl, fld_add _ _ (by omega)] at h1
    exact ⟨by simpa using h0, by simpa using h1⟩
  · rw [fld_add _ _ (by omega)] at h0
    rw [fld_add _ _ (by omega)] at h1
    exact ⟨by simpa using h0, by simpa using h1⟩
theorem er_eq_iff (x y : Ex) : x.er = y.er ↔ x.kind = y.kind ∧ x.name = y.name ∧ x.more = y.more ∧ x.int = y.int ∧ x.den = y.den ∧ ers x.sub = ers y.sub := by
  constructor
  · intro h
    refine ⟨?_, ?_, ?_, ?_, ?_, ?_⟩
    · rw [← er_kind, ← er_kind, h]
    · rw [← er_name, ← er_name, h]
    · rw [← er_more, ← er_more, h]
    · have := congrArg PE.int h; cases x; cases y; rw [Ex.er, Ex.er] at this; exact this
    · have := congrArg PE.den h; cases x; cases y; rw [Ex.er, Ex.er] at this; exact this
    · rw [← er_sub, ← er_sub, h]
  · rintro ⟨h1, h2, h3, h4, h5, h6⟩
    cases x
    cases y
    simp only [Ex.kind, Ex.name, Ex.more, Ex.int, Ex.den, Ex.sub] at h1 h2 h3 h4 h5 h6
    subst h1; subst h2; subst h3; subst h4; subst h5
    rw [Ex.er, Ex.er, h6]
end Go.Proofs.YtiaenhlflgobfaaGreatDoor
namespace Go.Proofs.YtiaenhlflgobfaaGreatDoor
open Go.RowKit
def totR : List PR → Nat
  | [] => 0
  | p :: l => (visL p.L).length + 1 + totR l
theorem totR_append (l m : List PR) : totR (l ++ m) = totR l + totR m := by
  induction l with
  | nil => simp [totR]
  | cons p l ih => simp [totR, ih]; omega
theorem totR_len (l : List PR) : l.length ≤ totR l := by
  induction l with
  | nil => simp [totR]
  | cons p l ih => simp [totR]; omega
def prs : List Ex → List Ex → List PR
  | x :: l, y :: m => ⟨x.A, x.c, x.sub, y.A, y.c, y.sub⟩ :: prs l m
  | _, _ => []
theorem prs_tot : ∀ (L M : List Ex), L.length = M.length → totR (prs L M) = (visL L).length
  | [], [], _ => rfl
  | x :: l, y :: m, h => by
    have ih := prs_tot l m (by simpa using h)
    rw [prs, totR, ih, visL, List.length_append, vis_eq, List.length_cons]
    show (visL x.sub).length + 1 + _ = _
    omega
  | [], _ :: _, h => by simp at h
  | _ :: _, [], h => by simp at h
theorem prs_len : ∀ (L M : List Ex), L.length = M.length → (prs L M).length = L.length
  | [], [], _ => rfl
  | x :: l, y :: m, h => by
    have ih := prs_len l m (by simpa using h)
    rw [prs, List.length_cons, List.length_cons, ih]
  | [], _ :: _, h => by simp at h
  | _ :: _, [], h => by simp at h
theorem prs_snoc : ∀ (L M : List Ex) (x y : Ex), L.length = M.length → prs (L ++ [x]) (M ++ [y]) = prs L M ++ [⟨x.A, x.c, x.sub, y.A, y.c, y.sub⟩]
  | [], [], x, y, _ => rfl
  | a :: l, b :: m, x, y, h => by
    rw [List.cons_append, List.cons_append, prs, prs, prs_snoc l m x y (by simpa using h)]
    rfl
  | [], _ :: _, _, _, h => by simp at h
  | _ :: _, [], _, _, h => by simp at h
def hdE (x y : Ex) : Prop := x.kind = y.kind ∧ x.name = y.name ∧ x.more = y.more ∧ x.int = y.int ∧ x.den = y.den
def hdsE : List Ex → List Ex → Prop
  | x :: l, y :: m => hdE x y ∧ hdsE l m
  | _, _ => True
theorem prs_eq : ∀ (L M : List Ex), L.length = M.length → hdsE L M → ((∀ p ∈ prs L M, p.eq) ↔ ers L = ers M)
  | [], [], _, _ => by simp [prs]
  | x :: l, y :: m, h, hd => by
    have ih := prs_eq l m (by simpa using h) hd.2
    rw [prs, ers_cons, ers_cons]
    simp only [List.mem_cons, forall_eq_or_imp, ih, List.cons.injEq, er_eq_iff x y]
    have h0 := hd.1
    unfold hdE at h0
    simp only [h0.1, h0.2.1, h0.2.2.1, h0.2.2.2.1, h0.2.2.2.2, true_and]
    rfl
  | [], _ :: _, h, _ => by simp at h
  | _ :: _, [], h, _ => by simp at h
theorem hdsE_snoc : ∀ (L M : List Ex) (x y : Ex), L.length = M.length → hdsE L M → hdE x y → hdsE (L ++ [x]) (M ++ [y])
  | [], [], x, y, _, _, h => ⟨h, trivial⟩
  | a :: l, b :: m, x, y, h, h1, h2 => ⟨h1.1, hdsE_snoc l m x y (by simpa using h) h1.2 h2⟩
  | [], _ :: _, _, _, h, _, _ => by simp at h
  | _ :: _, [], _, _, h, _, _ => by simp at h
theorem hd_no {L M : List Ex} {k : Nat} {x y : Ex} (hx : L[k]? = some x) (hy : M[k]? = some y) (h : ¬ hdE x y) : ¬ ers L = ers M := by
  intro e
  have h1 := congrArg (fun l => l[k]?) e
  simp only [ers_map, List.getElem?_map, hx, hy, Option.map_some, Option.some.injEq] at h1
  have h2 := (er_eq_iff x y).1 h1
  exact h ⟨h2.1, h2.2.1, h2.2.2.1, h2.2.2.2.1, h2.2.2.2.2.1⟩
theorem prs_rd {w : World} {A B : Option Addr} {c d : Nat} : ∀ (L M : List Ex), XRd w A c L → XRd w B d M → ∀ z ∈ prs L M, z.Rd w := by
  intro L M hL hM
  have h1 := hL.hs
  have h2 := hM.hs
  clear hL hM
  induction L generalizing M with
  | nil => intro z hz; simp [prs] at hz
  | cons x l ih =>
    cases M with
    | nil => intro z hz; simp [prs] at hz
    | cons y m =>
      intro z hz
      rw [prs] at hz
      rcases List.mem_cons.1 hz with rfl | hz
      · exact ⟨(h1 x (by simp)).s, (h2 y (by simp)).s⟩
      · exact ih m (fun q hq => h1 q (by simp [hq])) (fun q hq => h2 q (by simp [hq])) z hz
structure EST (x y : Ex) (w : World) (B m : Nat) (v : Value) (V : World) (g cap : Nat) (St : List PR) : Prop where
  ev : v = .slice (some ⟨g, 0, none⟩) St.length cap
  o : OR 225 2 PR.cs V B v St
  gr : Gr w V
  r : x.er = y.er ↔ ∀ p ∈ St, p.eq
  t : ∀ p ∈ St, p.Rd w
  em : m = totR St
  n : totR St ≤ 1000
theorem ex_at {w : World} {A : Option Addr} {c : Nat} {L : List Ex} (h : XRd w A c L) {k : Nat} {x : Ex} (hx : L[k]? = some x) : ∃ a a1 : Addr, A = some a ∧ a.add (k * 6) = a1 ∧ a1.block < w.heap.size ∧ w.cell? a1 = some (iv x.kind) ∧ w.cell? ⟨a1.block, a1.off + 1, none⟩ = some (tv x.name) ∧ w.cell? ⟨a1.block, a1.off + 2, none⟩ = some (tv x.more) ∧ w.cell? ⟨a1.block, a1.off + 3, none⟩ = some (iv x.int) ∧ w.cell? ⟨a1.block, a1.off + 4, none⟩ = some (iv x.den) ∧ w.cell? ⟨a1.block, a1.off + 5, none⟩ = some (.slice x.A x.sub.length x.c) ∧ x.Rd w := by
  obtain ⟨hk, rfl⟩ := List.getElem?_eq_some_iff.1 hx
  exact h.at hk
set_option maxRecDepth 100000 in
set_option maxHeartbeats 4000000 in
attribute [local irreducible] Calls in
theorem equalExpr_any (x y : Ex) (w : World) (hx : x.Rd w) (hy : y.Rd w) (hs : (x.er.pre 1).length ≤ 400) : Calls Tryz.prog 97 #[x.v, y.v] w fun e w' => e = .returned (.bool (decide (x.er = y.er))) ∧ Gr w w' := by
  obtain ⟨c0, c1, c2, c3, c4, c5⟩ := ex_box6 x w _ (gr_al _ (.cells #[iv y.kind, tv y.name, tv y.more, iv y.int, iv y.den, .slice y.A y.sub.length y.c] 43))
  obtain ⟨d0, d1, d2, d3, d4, d5⟩ := ex_box6 y (w.alloc (.cells #[iv x.kind, tv x.name, tv x.more, iv x.int, iv x.den, .slice x.A x.sub.length x.c] 43)) _ (gr_refl _)
  obtain ⟨W4, hW4⟩ : ∃ W4, ((((w.alloc (.cells #[iv x.kind, tv x.name, tv x.more, iv x.int, iv x.den, .slice x.A x.sub.length x.c] 43)).alloc (.cells #[iv y.kind, tv y.name, tv y.more, iv y.int, iv y.den, .slice y.A y.sub.length y.c] 43)).alloc (.cells #[iv x.kind, tv x.name, tv x.more, iv x.int, iv x.den, .slice x.A x.sub.length x.c] 43)).alloc (.cells #[iv y.kind, tv y.name, tv y.more, iv y.int, iv y.den, .slice y.A y.sub.length y.c] 43)) = W4 := ⟨_, rfl⟩
  have G4 := Lib.hid (show Gr w W4 by rw [← hW4]; exact (((gr_al _ _).trans (gr_al _ _)).trans (gr_al _ _)).trans (gr_al _ _))
  have Z4 := Lib.hid (show W4.heap.size = w.heap.size + 1 + 1 + 1 + 1 by rw [← hW4]; simp)
  obtain ⟨P0, hP0⟩ : ∃ P0 : PR, P0 = ⟨some ⟨w.heap.size + 1 + 1, 0, none⟩, 1, [x], some ⟨w.heap.size + 1 + 1 + 1, 0, none⟩, 1, [y]⟩ := ⟨_, rfl⟩
  have R0 := Lib.hid (show P0.Rd W4 from by
    have hx4 : x.Rd W4 := hx.gr G4.out
    have hy4 : y.Rd W4 := hy.gr G4.out
    have b2 : W4.heap[w.heap.size + 1 + 1]? = some (.cells #[iv x.kind, tv x.name, tv x.more, iv x.int, iv x.den, .slice x.A x.sub.length x.c] 43 (0, 0)) := by rw [← hW4]; exact gr_h (gr_al _ _) (al_at _ _ (by simp))
    have b3 : W4.heap[w.heap.size + 1 + 1 + 1]? = some (.cells #[iv y.kind, tv y.name, tv y.more, iv y.int, iv y.den, .slice y.A y.sub.length y.c] 43 (0, 0)) := by rw [← hW4]; exact al_at _ _ (by simp)
    subst hP0
    exact ⟨XRd.of ⟨(by simp), (show (1 : Nat) ≤ 9223372036854775807 by omega), (fun h => by cases h), rd_cells (t := 43) Ex.cs_len (by simpa [Ex.cs] using b2)⟩ (by simpa using hx4), XRd.of ⟨(by simp), (show (1 : Nat) ≤ 9223372036854775807 by omega), (fun h => by cases h), rd_cells (t := 43) Ex.cs_len (by simpa [Ex.cs] using b3)⟩ (by simpa using hy4)⟩)
  have VL := Lib.hid (show x.vis.length ≤ 400 by rw [vis_len 1]; exact hs)
  have S0 := Lib.hid (show EST x y W4 (w.heap.size + 1 + 1 + 1 + 1) (totR [P0]) (.slice (some ⟨w.heap.size + 1 + 1 + 1 + 1, 0, none⟩) 1 1) (W4.alloc (.cells #[.slice (some ⟨w.heap.size + 1 + 1, 0, none⟩) 1 1, .slice (some ⟨w.heap.size + 1 + 1 + 1, 0, none⟩) 1 1] 225)) (w.heap.size + 1 + 1 + 1 + 1) 1 [P0] from
    ⟨rfl, by rw [← Z4.out]; exact OR.one PR.cs_len P0 (Nat.le_refl _) (by rw [hP0]; rfl), gr_al _ _, by subst hP0; simp [PR.eq], fun p hp => by rw [List.mem_singleton.1 hp]; exact R0.out, rfl, by subst hP0; have := VL.out; rw [vis_eq] at this; simp [totR, visL, vis_eq] at this ⊢; omega⟩)
  obtain ⟨mu, hmu⟩ := least_fun (fun m (v : Value) (V : World) => ∃ g cap St, EST x y W4 (w.heap.size + 1 + 1 + 1 + 1) m v V g cap St)
  have MU := Lib.hid hmu
  obtain ⟨r, hr⟩ : ∃ r, decide (x.er = y.er) = r := ⟨_, rfl⟩
  have HR := Lib.hid hr
  have HW := Lib.hid hW4
  rw [hr]
  clear hmu hs hx hy hr hP0 R0 hW4
  unfold Ex.v
  go_enter Tryz.func97, Tryz.ntmps97
  go_wp2
  rw [HW.out]
  clear HW c0 c1 c2 c3 c4 c5 d0 d1 d2 d3 d4 d5
  obtain ⟨B, hB⟩ : ∃ B, w.heap.size + 1 + 1 + 1 + 1 = B := ⟨_, rfl⟩
  rw [hB] at S0 MU Z4 ⊢
  go_loopw [5, 6, 7, 8, 9] (fun v _ _ _ _ V => ∃ m g cap St, Hid (EST x y W4 B m v V g cap St)) (fun v _ _ _ _ V => mu v V)
  case atStart => exact ⟨_, _, _, _, S0⟩
  case round =>
    obtain ⟨m0, gg0, cap0, St0, hS0⟩ := hrel
    obtain ⟨⟨g, cap, St, hS⟩, hmin⟩ := MU.out _ _ ⟨m0, gg0, cap0, St0, hS0.out⟩
    obtain ⟨q, hq⟩ : ∃ q, mu u5 wr = q := ⟨_, rfl⟩
    rw [hq] at hS
    have HQ := Lib.hid hq
    obtain rfl := hS.ev
    clear hS0 hmin S0 hq
    rcases snoc_cases St with rfl | ⟨St, p, rfl⟩
    · obtain rfl : r = true := by rw [← HR.out]; exact decide_eq_true (hS.r.2 (by simp))
      have GB := Lib.hid (G4.out.trans hS.gr)
      clear hS
      go_wp2
      all_goals (first | go_end0 | go_ret | refine bodyPost_ret (results_none rfl _ _ _) rfl ?_)
      all_goals exact ⟨rfl, GB.out⟩
    · have hk : St.length ≤ 1000 := by have h1 := hS.n; have h2 := totR_len (St ++ [p]); simp at h2; omega
      obtain ⟨e0, e1⟩ := hS.o.prAt (k := St.length) (p := p) (by simp)
      have PRd := Lib.hid (hS.t p (by simp))
      have gb := hS.o.lt g rfl
      obtain ⟨k, hkk⟩ : ∃ k, St.length = k := ⟨_, rfl⟩
      have hl : (St ++ [p]).length = k + 1 := by simp [hkk]
      rw [hl] at hS HQ ⊢
      rw [hkk] at hk e0 e1
      have kc : k + 1 ≤ cap := by
        rcases hS.o.2 with ⟨h1, _⟩ | ⟨g', cap', cur, e1, hg, hh, hnc, _⟩
        · cases h1
        · have e2 := (Value.slice.inj e1).2.2
          omega
      have kc' : k ≤ cap := by omega
      have HK := Lib.hid hkk
      have ww : IntKind.i64.wrap (((k + 1 : Nat) : Int) - 1) = k := by rw [IntWalk.i64_in _ ⟨by omega, by omega⟩]; omega
      have OS := Lib.hid (show OR 225 2 PR.cs wr B (.slice (some ⟨g, 0, none⟩) k cap) St from by
        have h := hS.o
        rw [← HK.out] at h ⊢
        exact OR.short PR.cs_len h)
      have HS := Lib.hid hS
      have GB := Lib.hid gb
      have hlt : (0 : Int) < ((k + 1 : Nat) : Int) := by omega
      clear hS hkk hl gb
      rcases p with ⟨pA, pc, pL, pB, pd, pM⟩
      dsimp only at e0 e1
      by_cases hne : pL.length = pM.length
      · obtain ⟨n, hn⟩ : ∃ n, pL.length = n := ⟨_, rfl⟩
        have HN := Lib.hid (And.intro hn (hne.symm.trans hn))
        have hn9 : n ≤ 9223372036854775807 := by rw [← hn]; exact Nat.le_trans PRd.out.l.rw.hc PRd.out.l.rw.hm
        rw [hn] at e0
        rw [← hne, hn] at e1
        clear hn hne
        go_wp2
        obtain ⟨V0, hV0⟩ : ∃ V0, wr.alloc (.cells #[.slice pA n pc, .slice pB n pd] 225) = V0 := ⟨_, rfl⟩
        have GV0 := Lib.hid (show Gr W4 V0 by rw [← hV0]; exact HS.out.gr.trans (gr_al _ _))
        have HB0 := Lib.hid (show V0.heap[wr.heap.size]? = some (.cells #[.slice pA n pc, .slice pB n pd] 225 (0, 0)) by rw [← hV0]; exact al_new _ _)
        have OV0 := Lib.hid (show OR 225 2 PR.cs V0 B (.slice (some ⟨g, 0, none⟩) (k + 0) cap) (St ++ prs (pL.take 0) (pM.take 0)) by rw [← hV0]; have h := OS.out.alloc (.cells #[.slice pA n pc, .slice pB n pd] 225); simpa [prs] using h)
        obtain ⟨bp, hbp⟩ : ∃ bp, wr.heap.size = bp := ⟨_, rfl⟩
        have GBP := Lib.hid (show B ≤ bp ∧ g < bp from by have := GB.out; omega)
        rw [hV0, hbp]
        rw [hbp] at HB0
        clear hV0 OS hbp
        go_loopw [5, 7, 8, 9, 40] (fun v _ _ _ i V => ∃ (j g' cap' : Nat), j ≤ n ∧ i = iv j ∧ v = .slice (some ⟨g', 0, none⟩) (k + j) cap' ∧ Hid (OR 225 2 PR.cs V B v (St ++ prs (pL.take j) (pM.take j)) ∧ Gr W4 V ∧ V.heap[bp]? = some (.cells #[.slice pA n pc, .slice pB n pd] 225 (0, 0)) ∧ g' ≠ bp ∧ hdsE (pL.take j) (pM.take j))) (fun _ _ _ _ i _ => (n - intOf i).toNat)
        case atStart => exact ⟨0, g, cap, by omega, rfl, rfl, Lib.hid ⟨OV0.out, GV0.out, HB0.out, by have := GBP.out; omega, by simp [hdsE]⟩⟩
        case round =>
          obtain ⟨j, g', cap', hj, rfl, rfl, HI⟩ := hrel
          clear OV0 HB0 GV0
          have f0 := Lib.cell_of_heap HI.out.2.2.1 0
          have f1 := Lib.cell_of_heap HI.out.2.2.1 1
          simp only [List.getElem?_toArray, List.getElem?_cons_zero, List.getElem?_cons_succ] at f0 f1
          by_cases hlt : j < n
          · obtain ⟨X, hX⟩ : ∃ X, pL[j]? = some X := ⟨_, List.getElem?_eq_getElem (by rw [HN.out.1]; exact hlt)⟩
            obtain ⟨Y, hY⟩ : ∃ Y, pM[j]? = some Y := ⟨_, List.getElem?_eq_getElem (by rw [HN.out.2]; exact hlt)⟩
            obtain ⟨a, a1, ea, ha1, hba, x0, x1, x2, x3, x4, x5, xr⟩ := ex_at (PRd.out.l.gr HI.out.2.1) hX
            obtain ⟨b, b1, eb, hb1, hbb, y0, y1, y2, y3, y4, y5, yr⟩ := ex_at (PRd.out.m.gr HI.out.2.1) hY
            have LAB := Lib.hid (show a1.block < B ∧ b1.block < B from by
              obtain ⟨a', a1', ea', ha1', hba', -⟩ := ex_at PRd.out.l hX
              obtain ⟨b', b1', eb', hb1', hbb', -⟩ := ex_at PRd.out.m hY
              dsimp only at ea eb ea' eb'
              rw [ea] at ea'; rw [eb] at eb'
              cases ea'; cases eb'
              rw [← ha1, ← hb1, ha1', hb1']
              have := Z4.out
              omega)
            dsimp only at ea eb
            subst ea
            subst eb
            have tj : (j : Int) < (n : Int) := by omega
            have hjL : j < pL.length := by rw [HN.out.1]; exact hlt
            have hjM : j < pM.length := by rw [HN.out.2]; exact hlt
            have hX2 : pL[j] = X := by rw [List.getElem?_eq_getElem hjL] at hX; exact Option.some.inj hX
            have hY2 : pM[j] = Y := by rw [List.getElem?_eq_getElem hjM] at hY; exact Option.some.inj hY
            have htl : (pL.take j).length = (pM.take j).length := by rw [List.length_take, List.length_take, HN.out.1, HN.out.2]
            have TJ := Lib.hid (fun (h : hdE X Y) => show hdsE (pL.take (j + 1)) (pM.take (j + 1)) by rw [List.take_succ_eq_append_getElem hjL, List.take_succ_eq_append_getElem hjM, hX2, hY2]; exact hdsE_snoc _ _ _ _ htl HI.out.2.2.2.2 h)
            have PJ := Lib.hid (show prs (pL.take (j + 1)) (pM.take (j + 1)) = prs (pL.take j) (pM.take j) ++ [⟨X.A, X.c, X.sub, Y.A, Y.c, Y.sub⟩] by rw [List.take_succ_eq_append_getElem hjL, List.take_succ_eq_append_getElem hjM, hX2, hY2]; exact prs_snoc _ _ _ _ htl)
            have NJ := Lib.hid (fun (h : ¬ hdE X Y) => show r = false by rw [← HR.out]; exact decide_eq_false (fun e => hd_no hX hY h ((HS.out.r.1 e) _ (List.mem_append_right _ (List.mem_singleton.2 rfl)))))
            clear hX hY hX2 hY2 hjL hjM htl xr yr
            by_cases h0 : X.kind = Y.kind
            case neg =>
              obtain rfl : r = false := NJ.out (fun h => h0 h.1)
              have p2 : (X.kind != Y.kind) = true := by simpa using h0
              clear TJ NJ
              go_upto_region 10 with fail
              go_quiet (fail)
              all_goals go_upto_region 11 with fail
              all_goals go_quiet (fail)
              all_goals go_wp2
              all_goals (first | go_end0 | go_ret | refine bodyPost_ret (results_none rfl _ _ _) rfl ?_)
              all_goals exact ⟨rfl, G4.out.trans (HI.out.2.1.trans ((gr_drewN _ _).trans (gr_drewN _ _)))⟩
            by_cases h1 : X.name = Y.name
            case neg =>
              rw [h0] at x0
              obtain rfl : r = false := NJ.out (fun h => h1 h.2.1)
              have p1 : (X.name == Y.name) = false := by simpa using h1
              have p2 : (X.name != Y.name) = true := by simpa using h1
              clear TJ NJ
              go_upto_region 10 with fail
              go_quiet (fail)
              all_goals go_upto_region 11 with fail
              all_goals go_quiet (fail)
              all_goals go_wp2
              all_goals (first | go_end0 | go_ret | refine bodyPost_ret (results_none rfl _ _ _) rfl ?_)
              all_goals exact ⟨rfl, G4.out.trans (HI.out.2.1.trans ((gr_drewN _ _).trans (gr_drewN _ _)))⟩
            by_cases h2 : X.more = Y.more
            case neg =>
              rw [h0] at x0; rw [h1] at x1
              obtain rfl : r = false := NJ.out (fun h => h2 h.2.2.1)
              have p1 : (X.more == Y.more) = false := by simpa using h2
              have p2 : (X.more != Y.more) = true := by simpa using h2
              clear TJ NJ
              go_upto_region 10 with fail
              go_quiet (fail)
              all_goals go_upto_region 11 with fail
              all_goals go_quiet (fail)
              all_goals go_wp2
              all_goals (first | go_end0 | go_ret | refine bodyPost_ret (results_none rfl _ _ _) rfl ?_)
              all_goals exact ⟨rfl, G4.out.trans (HI.out.2.1.trans ((gr_drewN _ _).trans (gr_drewN _ _)))⟩
            by_cases h3 : X.int = Y.int
            case neg =>
              rw [h0] at x0; rw [h1] at x1; rw [h2] at x2
              obtain rfl : r = false := NJ.out (fun h => h3 h.2.2.2.1)
              have p2 : (X.int != Y.int) = true := by simpa using h3
              clear TJ NJ
              go_upto_region 10 with fail
              go_quiet (fail)
              all_goals go_upto_region 11 with fail
              all_goals go_quiet (fail)
              all_goals go_wp2
              all_goals (first | go_end0 | go_ret | refine bodyPost_ret (results_none rfl _ _ _) rfl ?_)
              all_goals exact ⟨rfl, G4.out.trans (HI.out.2.1.trans ((gr_drewN _ _).trans (gr_drewN _ _)))⟩
            by_cases h4 : X.den = Y.den
            case neg =>
              rw [h0] at x0; rw [h1] at x1; rw [h2] at x2; rw [h3] at x3
              obtain rfl : r = false := NJ.out (fun h => h4 h.2.2.2.2)
              have p2 : (X.den != Y.den) = true := by simpa using h4
              clear TJ NJ
              go_upto_region 10 with fail
              go_quiet (fail)
              all_goals go_upto_region 11 with fail
              all_goals go_quiet (fail)
              all_goals go_wp2
              all_goals (first | go_end0 | go_ret | refine bodyPost_ret (results_none rfl _ _ _) rfl ?_)
              all_goals exact ⟨rfl, G4.out.trans (HI.out.2.1.trans ((gr_drewN _ _).trans (gr_drewN _ _)))⟩
            have TK := Lib.hid (TJ.out ⟨h0, h1, h2, h3, h4⟩)
            rw [h0] at x0; rw [h1] at x1; rw [h2] at x2; rw [h3] at x3; rw [h4] at x4
            clear TJ NJ h0 h1 h2 h3 h4
            go_upto_region 10 with fail
            go_quiet (fail)
            generalize nq = nq1 at *
            go_upto_region 11 with fail
            go_quiet (fail)
            generalize nq = nq2 at *
            go_upto_region 13 with fail
            have GU := Lib.hid (show Gr wr ((wr.drewN nq1).drewN nq2) from (gr_drewN _ _).trans (gr_drewN _ _))
            have y5' := gr_c GU.out y5
            have x5' := gr_c GU.out x5
            have bw := HI.out.2.1
            have OU := Lib.hid (show OR 225 2 PR.cs ((wr.drewN nq1).drewN nq2) B (.slice (some ⟨g', 0, none⟩) (k + j) cap') (St ++ prs (pL.take j) (pM.take j)) from HI.out.1.gr GU.out)
            have GWU := Lib.hid (HI.out.2.1.trans GU.out)
            have BU := Lib.hid (gr_h GU.out HI.out.2.2.1)
            have NU := Lib.hid (And.intro HI.out.2.2.2.1 HI.out.2.2.2.2)
            clear f0 f1 x0 x1 x2 x3 x4 x5 y0 y1 y2 y3 y4 y5 e0 e1 HI hba hbb bw
            generalize (wr.drewN nq1).drewN nq2 = U at *
            have SS := Lib.hid (fun V (h : U.grownBy V (some g')) => show V.cell? ⟨a1.block, a1.off + 5, none⟩ = some (.slice X.A X.sub.length X.c) ∧ V.cell? ⟨b1.block, b1.off + 5, none⟩ = some (.slice Y.A Y.sub.length Y.c) from by
              have h1 := (OU.out.lt g' rfl).1
              have h2 := LAB.out
              exact ⟨h.cell x5' (by simp only [ne_eq, Option.some.injEq]; omega), h.cell y5' (by simp only [ne_eq, Option.some.injEq]; omega)⟩)
            have LN := Lib.hid (show (St ++ prs (pL.take j) (pM.take j)).length + [(⟨X.A, X.c, X.sub, Y.A, Y.c, Y.sub⟩ : PR)].length ≤ 1000000 from by
              have h1 := prs_len (pL.take j) (pM.take j) (by rw [List.length_take, List.length_take, HN.out.1, HN.out.2])
              have h2 := HS.out.n
              have h3 := totR_append St [(⟨some a, pc, pL, some b, pd, pM⟩ : PR)]
              have h4 := visL_le pL
              have h5 := HN.out.1
              simp only [totR] at h3
              rw [List.length_append, h1, HK.out, List.length_take]
              simp
              omega)
            have HU := Lib.hid (show B ≤ U.heap.size from by have := GWU.out.size; have := Z4.out; have := HS.out.o.1; have h := heap_lt BU.out; have := GBP.out.1; omega)
            clear x5' y5'
            go_region_held_law (fun V => V.cell? ⟨a1.block, a1.off + 5, none⟩ = some (.slice X.A X.sub.length X.c) ∧ V.cell? ⟨b1.block, b1.off + 5, none⟩ = some (.slice Y.A Y.sub.length Y.c))
              (first | (with_reducible exact SS.out _ (World.grownBy.but (gr_drew _) _)) | (with_reducible exact SS.out _ (World.grownBy.but ((gr_drew _).trans (gr_al _ _)) _)) | (with_reducible exact SS.out _ G7.out))
              (first
              | (refine step_app elP rfl (.tmp 104) (.tmp 114) rfl B (v := .slice (some ⟨g', 0, none⟩) (k + j) cap') (L := St ++ prs (pL.take j) (pM.take j)) rfl (OU.out.gr (by first | exact (gr_drew _).trans (gr_al _ _) | exact (gr_al _ _).trans (gr_drew _))) (A := some ⟨_, 0, none⟩) (M := [⟨X.A, X.c, X.sub, Y.A, Y.c, Y.sub⟩]) (m := 1) (c := 1) rfl rfl (rd_cells (t := 225) PR.cs_len (by first | exact al_new _ _ | exact gr_h (gr_drew _) (al_new _ _))) LN.out (by have := HU.out; simp; omega) ?_
                 intro v7 w7 o7 g7 b7
                 have G7 := Lib.hid (show U.grownBy w7 (some g') from (World.grownBy.but (by first | exact (gr_drew _).trans (gr_al _ _) | exact (gr_al _ _).trans (gr_drew _)) _).trans g7)
                 have B7 := Lib.hid (show v7.ownBlock = some g' ∨ ∃ q, v7.ownBlock = some q ∧ U.heap.size ≤ q from by
                   rcases b7 with h | h
                   · exact .inl h
                   · exact .inr ⟨_, h, by simp⟩)
                 have O7 := Lib.hid o7
                 clear o7 g7 b7))
            go_wp2
            obtain ⟨g8, c8, hv8, hne8⟩ : ∃ g8 c8, v7 = .slice (some ⟨g8, 0, none⟩) (k + (j + 1)) c8 ∧ g8 ≠ bp := by
              have hl8 : (St ++ prs (pL.take j) (pM.take j) ++ [(⟨X.A, X.c, X.sub, Y.A, Y.c, Y.sub⟩ : PR)]).length = k + (j + 1) := by
                rw [List.length_append, List.length_append, prs_len _ _ (by rw [List.length_take, List.length_take, HN.out.1, HN.out.2]), List.length_take, HK.out, HN.out.1]
                simp
                omega
              rcases O7.out.2 with ⟨e9, _⟩ | ⟨g9, cap9, cur9, e9, _⟩
              · rcases B7.out with h | ⟨q9, h, _⟩ <;> rw [e9] at h <;> simp [Value.ownBlock] at h
              · refine ⟨g9, cap9, by rw [e9, hl8], fun h9 => ?_⟩
                rcases B7.out with h | ⟨q9, h, h2⟩
                · rw [e9] at h
                  simp only [Value.ownBlock, Option.some.injEq] at h
                  exact NU.out.1 (h.symm.trans h9)
                · rw [e9] at h
                  simp only [Value.ownBlock, Option.some.injEq] at h
                  have := heap_lt BU.out
                  omega
            subst hv8
            have g0 := (OU.out.lt g' rfl).1
            exact ⟨⟨j + 1, g8, c8, by omega, by simp, rfl, Lib.hid ⟨by rw [PJ.out, ← List.append_assoc]; exact O7.out, grown_new GWU.out G7.out (fun q9 h9 => by cases h9; have := Z4.out; omega), (G7.out.block _ (heap_lt BU.out) (by simp only [ne_eq, Option.some.injEq]; exact fun h => NU.out.1 h.symm)).trans BU.out, hne8, TK.out⟩⟩, by simp [intOf]; omega⟩
          · obtain rfl : j = n := by omega
            have nj : ¬ (j : Int) < (j : Int) := by omega
            have tL : pL.take j = pL := List.take_of_length_le (by rw [HN.out.1]; exact Nat.le_refl _)
            have tM : pM.take j = pM := List.take_of_length_le (by rw [HN.out.2]; exact Nat.le_refl _)
            rw [tL, tM] at HI
            have hlm : pL.length = pM.length := HN.out.1.trans HN.out.2.symm
            have hlen : (St ++ prs pL pM).length = k + j := by rw [List.length_append, prs_len _ _ hlm, HK.out, HN.out.1]
            have htot : totR (St ++ prs pL pM) < totR (St ++ [(⟨pA, pc, pL, pB, pd, pM⟩ : PR)]) := by rw [totR_append, totR_append, prs_tot _ _ hlm]; simp [totR]
            have hN : EST x y W4 B (totR (St ++ prs pL pM)) (.slice (some ⟨g', 0, none⟩) (k + j) cap') wr g' cap' (St ++ prs pL pM) := by
              refine ⟨by rw [hlen], HI.out.1, HI.out.2.1, ?_, fun z hz => ?_, rfl, by have := HS.out.n; omega⟩
              · rw [HS.out.r]
                have h1 := prs_eq pL pM hlm HI.out.2.2.2.2
                constructor
                · intro h z hz
                  rcases List.mem_append.1 hz with hz | hz
                  · exact h z (List.mem_append_left _ hz)
                  · exact h1.2 (h _ (List.mem_append_right _ (List.mem_singleton.2 rfl))) z hz
                · intro h z hz
                  rcases List.mem_append.1 hz with hz | hz
                  · exact h z (List.mem_append_left _ hz)
                  · rw [List.mem_singleton.1 hz]
                    exact h1.1 (fun p hp => h p (List.mem_append_right _ hp))
              · rcases List.mem_append.1 hz with hz | hz
                · exact HS.out.t z (List.mem_append_left _ hz)
                · exact prs_rd pL pM PRd.out.l PRd.out.m z hz
            have HNN := Lib.hid hN
            have HT := Lib.hid (show totR (St ++ prs pL pM) < q from by rw [HS.out.em]; exact htot)
            clear tL tM hlm hlen htot hN
            go_wp2
            exact ⟨⟨_, _, _, _, HNN⟩, by rw [HQ.out]; exact Nat.lt_of_le_of_lt ((MU.out _ _ ⟨_, _, _, _, HNN.out⟩).2 _ ⟨_, _, _, HNN.out⟩) HT.out⟩
      · obtain rfl : r = false := by
          rw [← HR.out]
          refine decide_eq_false (fun h => hne ?_)
          have := (HS.out.r.1 h) _ (List.mem_append_right _ (List.mem_singleton.2 rfl))
          have h2 := congrArg List.length (show ers pL = ers pM from this)
          simpa using h2
        have p2 : ¬ (pL.length : Int) = (pM.length : Int) := by omega
        have p3 : ((pL.length : Int) != (pM.length : Int)) = true := by simpa using p2
        have G9 := Lib.hid ((G4.out.trans HS.out.gr).trans (gr_al wr (.cells #[.slice pA pL.length pc, .slice pB pM.length pd] 225)))
        clear hne
        go_wp2
        all_goals (first | go_end0 | go_ret | refine bodyPost_ret (results_none rfl _ _ _) rfl ?_)
        all_goals exact ⟨rfl, G9.out⟩
end Go.Proofs.YtiaenhlflgobfaaGreatDoor
namespace Go.Proofs.YtiaenhlflgobfaaGreatDoor
open Go.RowKit
theorem decCells {V : World} {b : Nat} {d : Dec} (h : V.heap[b]? = some (.cells #[iv d.id, iv d.kind, .bool d.pub, .slice d.nA d.names.length d.nc, .bool d.doubt, iv d.body.kind, tv d.body.name, tv d.body.more, iv d.body.int, iv d.body.den, .slice d.body.A d.body.sub.length d.body.c] 45 (0, 0))) : V.cell? ⟨b, 0, none⟩ = some (iv d.id) ∧ V.cell? ⟨b, 1, none⟩ = some (iv d.kind) ∧ V.cell? ⟨b, 2, none⟩ = some (.bool d.pub) ∧ V.cell? ⟨b, 3, none⟩ = some (.slice d.nA d.names.length d.nc) ∧ V.cell? ⟨b, 4, none⟩ = some (.bool d.doubt) ∧ V.cell? ⟨b, 5, none⟩ = some (iv d.body.kind) ∧ V.cell? ⟨b, 6, none⟩ = some (tv d.body.name) ∧ V.cell? ⟨b, 7, none⟩ = some (tv d.body.more) ∧ V.cell? ⟨b, 8, none⟩ = some (iv d.body.int) ∧ V.cell? ⟨b, 9, none⟩ = some (iv d.body.den) ∧ V.cell? ⟨b, 10, none⟩ = some (.slice d.body.A d.body.sub.length d.body.c) := by
  refine ⟨?_, ?_, ?_, ?_, ?_, ?_, ?_, ?_, ?_, ?_, ?_⟩ <;> (rw [Lib.cell_of_heap h]; rfl)
theorem decEr (x y : Dec) : x.er = y.er ↔ x.id = y.id ∧ eqHd x.er y.er = true ∧ x.names = y.names ∧ x.body.er = y.body.er := by
  unfold eqHd Dec.er
  simp only [PD.mk.injEq, Bool.and_eq_true, decide_eq_true_eq, beq_iff_eq]
  constructor
  · rintro ⟨h1, h2, h3, h4, h5, h6⟩; exact ⟨h1, ⟨⟨h2, h3⟩, h5⟩, h4, h6⟩
  · rintro ⟨h1, ⟨⟨h2, h3⟩, h5⟩, h4, h6⟩; exact ⟨h1, h2, h3, h4, h5, h6⟩
set_option maxRecDepth 100000 in
set_option maxHeartbeats 4000000 in
attribute [local irreducible] Calls in
theorem equalDecl_any (x y : Dec) (w : World) (hx : x.Rd w) (hy : y.Rd w) (hs : (x.body.er.pre 1).length ≤ 400) : Calls Tryz.prog 52 #[x.v, y.v] w fun e w' => e = .returned (.bool (decide (x.er = y.er))) ∧ Gr w w' := by
  obtain ⟨W, hW⟩ : ∃ W, (w.alloc (.cells #[iv x.id, iv x.kind, .bool x.pub, .slice x.nA x.names.length x.nc, .bool x.doubt, iv x.body.kind, tv x.body.name, tv x.body.more, iv x.body.int, iv x.body.den, .slice x.body.A x.body.sub.length x.body.c] 45)).alloc (.cells #[iv y.id, iv y.kind, .bool y.pub, .slice y.nA y.names.length y.nc, .bool y.doubt, iv y.body.kind, tv y.body.name, tv y.body.more, iv y.body.int, iv y.body.den, .slice y.body.A y.body.sub.length y.body.c] 45) = W := ⟨_, rfl⟩
  have GW := Lib.hid (show Gr w W by rw [← hW]; exact (gr_al _ _).trans (gr_al _ _))
  have BX := Lib.hid (fun V (g : Gr W V) => decCells (d := x) (V := V) (b := w.heap.size) (gr_h g (by rw [← hW]; exact gr_h (gr_al _ _) (al_new _ _))))
  have BY := Lib.hid (fun V (g : Gr W V) => decCells (d := y) (V := V) (b := w.heap.size + 1) (gr_h g (by rw [← hW]; exact al_at _ _ (by simp))))
  have C1 := Lib.hid (fun V (_ : Gr W V) => equalHead_any x y V)
  have C2 := Lib.hid (fun V (g : Gr W V) => equalS_any x.nA x.nc x.names y.nA y.nc y.names V (hx.n.gr (GW.out.trans g)) (hy.n.gr (GW.out.trans g)))
  have C3 := Lib.hid (fun V (g : Gr W V) => equalExpr_any x.body y.body V (hx.b.gr (GW.out.trans g)) (hy.b.gr (GW.out.trans g)) hs)
  obtain ⟨r, hr⟩ : ∃ r, decide (x.er = y.er) = r := ⟨_, rfl⟩
  have HR := Lib.hid (show (r = true ↔ x.id = y.id ∧ eqHd x.er y.er = true ∧ x.names = y.names ∧ x.body.er = y.body.er) from by rw [← hr, decide_eq_true_iff]; exact decEr x y)
  rw [hr]
  have HW := Lib.hid hW
  clear hx hy hs hr hW
  unfold Dec.v at C1 ⊢
  unfold Ex.v at C3
  obtain ⟨b1, hb1⟩ : ∃ b, eqHd x.er y.er = b := ⟨_, rfl⟩
  obtain ⟨b2, hb2⟩ : ∃ b, decide (x.names = y.names) = b := ⟨_, rfl⟩
  obtain ⟨b3, hb3⟩ : ∃ b, decide (x.body.er = y.body.er) = b := ⟨_, rfl⟩
  rw [hb1] at C1 HR
  simp only [hb2] at C2
  simp only [hb3] at C3
  have HB := Lib.hid (And.intro (show b2 = true ↔ x.names = y.names by rw [← hb2]; simp) (show b3 = true ↔ x.body.er = y.body.er by rw [← hb3]; simp))
  clear hb1 hb2 hb3
  go_enter Tryz.func52, Tryz.ntmps52
  go_upto_region 1 with fail
  rw [HW.out]
  have GP := gr_refl W
  obtain ⟨c0, c1, c2, c3, c4, c5, c6, c7, c8, c9, c10⟩ := BX.out _ GP
  obtain ⟨d0, d1, d2, d3, d4, d5, d6, d7, d8, d9, d10⟩ := BY.out _ GP
  clear GP HW
  by_cases hid : x.id = y.id
  case neg =>
    have p1 : (x.id == y.id) = false := by simpa using hid
    have hr : r = false := by cases r with
      | true => exact absurd (HR.out.1 rfl).1 hid
      | false => rfl
    clear hid
    go_wp2
    go_ret
    exact ⟨by rw [hr]; rfl, GW.out⟩
  have HID := Lib.hid hid
  have p1 : (x.id == y.id) = true := by simpa using hid
  clear hid
  cases b1 with
  | false =>
    have hr : r = false := by cases r with
      | true => exact absurd (HR.out.1 rfl).2.1 (by simp)
      | false => rfl
    clear HR
    go_wp2_with ((go_at_call 95; (with_reducible refine (C1.out _ (gr_refl _)).mono ?_); rintro e w1 ⟨rfl, g1⟩; clear c0 d0 c1 d1 c2 d2 c3 d3 c4 d4 c5 d5 c6 d6 c7 d7 c8 d8 c9 d9 c10 d10; have G1 := Lib.hid (show Gr W w1 from g1); clear g1; have GP := G1.out; obtain ⟨c0, c1, c2, c3, c4, c5, c6, c7, c8, c9, c10⟩ := BX.out _ GP; obtain ⟨d0, d1, d2, d3, d4, d5, d6, d7, d8, d9, d10⟩ := BY.out _ GP; clear GP; (try dsimp only)))
    go_ret
    exact ⟨by rw [hr]; rfl, GW.out.trans G1.out⟩
  | true =>
    cases b2 with
    | false =>
      have hr : r = false := by cases r with
        | true => exact absurd (HB.out.1.2 (HR.out.1 rfl).2.2.1) (by simp)
        | false => rfl
      clear HR HB
      go_wp2_with (first | (go_at_call 95; (with_reducible refine (C1.out _ (gr_refl _)).mono ?_); rintro e w1 ⟨rfl, g1⟩; clear c0 d0 c1 d1 c2 d2 c3 d3 c4 d4 c5 d5 c6 d6 c7 d7 c8 d8 c9 d9 c10 d10; have G1 := Lib.hid (show Gr W w1 from g1); clear g1; have GP := G1.out; obtain ⟨c0, c1, c2, c3, c4, c5, c6, c7, c8, c9, c10⟩ := BX.out _ GP; obtain ⟨d0, d1, d2, d3, d4, d5, d6, d7, d8, d9, d10⟩ := BY.out _ GP; clear GP; (try dsimp only)) | (go_at_call 96; (with_reducible refine (C2.out _ G1.out).mono ?_); rintro e w2 ⟨rfl, g2⟩; clear c0 d0 c1 d1 c2 d2 c3 d3 c4 d4 c5 d5 c6 d6 c7 d7 c8 d8 c9 d9 c10 d10; have G2 := Lib.hid (show Gr W w2 from G1.out.trans g2); clear g2; have GP := G2.out; obtain ⟨c0, c1, c2, c3, c4, c5, c6, c7, c8, c9, c10⟩ := BX.out _ GP; obtain ⟨d0, d1, d2, d3, d4, d5, d6, d7, d8, d9, d10⟩ := BY.out _ GP; clear GP; (try dsimp only)))
      go_ret
      exact ⟨by rw [hr]; rfl, GW.out.trans G2.out⟩
    | true =>
      have hr : r = b3 := by
        cases b3 with
        | true => exact HR.out.2 ⟨HID.out, rfl, HB.out.1.1 rfl, HB.out.2.1 rfl⟩
        | false => cases r with
          | true => exact absurd (HB.out.2.2 (HR.out.1 rfl).2.2.2) (by simp)
          | false => rfl
      clear HR HB
      go_wp2_with (first | (go_at_call 95; (with_reducible refine (C1.out _ (gr_refl _)).mono ?_); rintro e w1 ⟨rfl, g1⟩; clear c0 d0 c1 d1 c2 d2 c3 d3 c4 d4 c5 d5 c6 d6 c7 d7 c8 d8 c9 d9 c10 d10; have G1 := Lib.hid (show Gr W w1 from g1); clear g1; have GP := G1.out; obtain ⟨c0, c1, c2, c3, c4, c5, c6, c7, c8, c9, c10⟩ := BX.out _ GP; obtain ⟨d0, d1, d2, d3, d4, d5, d6, d7, d8, d9, d10⟩ := BY.out _ GP; clear GP; (try dsimp only)) | (go_at_call 96; (with_reducible refine (C2.out _ G1.out).mono ?_); rintro e w2 ⟨rfl, g2⟩; clear c0 d0 c1 d1 c2 d2 c3 d3 c4 d4 c5 d5 c6 d6 c7 d7 c8 d8 c9 d9 c10 d10; have G2 := Lib.hid (show Gr W w2 from G1.out.trans g2); clear g2; have GP := G2.out; obtain ⟨c0, c1, c2, c3, c4, c5, c6, c7, c8, c9, c10⟩ := BX.out _ GP; obtain ⟨d0, d1, d2, d3, d4, d5, d6, d7, d8, d9, d10⟩ := BY.out _ GP; clear GP; (try dsimp only)) | (go_at_call 97; (with_reducible refine (C3.out _ G2.out).mono ?_); rintro e w3 ⟨rfl, g3⟩; clear c0 d0 c1 d1 c2 d2 c3 d3 c4 d4 c5 d5 c6 d6 c7 d7 c8 d8 c9 d9 c10 d10; have G3 := Lib.hid (show Gr W w3 from G2.out.trans g3); clear g3; have GP := G3.out; obtain ⟨c0, c1, c2, c3, c4, c5, c6, c7, c8, c9, c10⟩ := BX.out _ GP; obtain ⟨d0, d1, d2, d3, d4, d5, d6, d7, d8, d9, d10⟩ := BY.out _ GP; clear GP; (try dsimp only)))
      go_ret
      exact ⟨by rw [hr]; rfl, GW.out.trans G3.out⟩
end Go.Proofs.YtiaenhlflgobfaaGreatDoor

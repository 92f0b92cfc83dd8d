/- Walks and words: TpB, TpC. -/
import Derived.Test.YtiaenhlflgobfaaGreatDoorTpA
namespace Go.Proofs.YtiaenhlflgobfaaGreatDoor
def nilE : PE := .mk 11 [] [] 0 0 []
structure Oks where
  lab : T → Bool
  use : T → T → Bool
  names : List T → Bool
  body : T → PE → Bool
  rest : PM → Bool
  maxId : Int
  rest0 : ∀ l, rest ⟨l, [], []⟩ = true
  rest1 : ∀ l u, rest ⟨l, [u], []⟩ = true
  rest2 : ∀ l d, rest ⟨l, [], [d]⟩ = true
  namesA : names [[97]] = true
  bodyN : ∀ l, body l nilE = true
structure Oks.Decl (O : Oks) (l : T) (d : PD) : Prop where
  id0 : 1 ≤ d.id
  id1 : d.id ≤ O.maxId
  kind : d.kind = 1 ∨ d.kind = 2 ∨ d.kind = 3
  names : O.names d.names = true
  body : O.body l d.body = true
structure Oks.Mod (O : Oks) (m : PM) : Prop where
  lab : O.lab m.label = true
  uses : ∀ u ∈ m.uses, O.lab u = true ∧ O.use m.label u = true
  uasc : m.uses.Pairwise (· < ·)
  decls : ∀ d ∈ m.decls, O.Decl m.label d
  dasc : Asc PD.id m.decls
  rest : O.rest m = true
structure Oks.Mods (O : Oks) (l : List PM) : Prop where
  asc : Asc PM.label l
  mods : ∀ m ∈ l, O.Mod m
def ment (k : Int) (d : PD) : PD :=
  if k = 7 then ⟨d.id, 0, false, d.names, false, zE⟩ else if k = 8 then ⟨d.id, 0, false, [], false, d.body⟩ else if k = 9 then ⟨d.id, d.kind, d.pub, [], d.doubt, zE⟩ else d
def complete (k : Int) (d : PD) : PD :=
  ⟨d.id, if k = 7 ∨ k = 8 then 1 else d.kind, d.pub, if k = 8 ∨ k = 9 then [[97]] else d.names, d.doubt, if k = 7 ∨ k = 9 then nilE else d.body⟩
def tests (e : PT) : List PM :=
  if e.kind = 1 ∨ e.kind = 2 then [⟨e.pack, [], []⟩] else if e.kind = 3 ∨ e.kind = 4 then [⟨e.pack, [e.text], []⟩]
  else (e.old ++ e.new).map fun d => ⟨e.pack, [], [complete e.kind d]⟩
def fitsLast (e : PT) : Bool :=
  match e.old, e.new with
  | o :: _, n :: _ => decide (o = ment e.kind o) && decide (n = ment e.kind n) && decide (o.id = n.id) && !decide (o = n)
  | _, _ => false
def fits (e : PT) : Bool :=
  decide (e.old.length = if e.kind = 6 ∨ 7 ≤ e.kind then 1 else 0) && decide (e.new.length = if e.kind = 5 ∨ 7 ≤ e.kind then 1 else 0) && (decide (e.text = []) || decide (e.kind = 3) || decide (e.kind = 4)) && (decide (e.kind < 7) || fitsLast e)
structure Oks.Edit (O : Oks) (e : PT) : Prop where
  k0 : 1 ≤ e.kind
  k1 : e.kind ≤ 9
  fit : fits e = true
  ts : ∀ m ∈ tests e, O.Mod m
def upd (k : Int) (d n : PD) : PD :=
  if k = 7 then { d with names := n.names } else if k = 8 then { d with body := n.body } else { d with kind := n.kind, pub := n.pub, doubt := n.doubt }
def applyM (m : PM) (e : PT) : Option PM :=
  if e.kind = 3 then (if hasK id m.uses e.text then none else some { m with uses := insK id m.uses e.text })
  else if e.kind = 4 then (if hasK id m.uses e.text then some { m with uses := delK id m.uses e.text } else none)
  else if e.kind = 5 then (match e.new with
    | n :: _ => if hasK PD.id m.decls n.id then none else some { m with decls := insK PD.id m.decls n }
    | [] => none)
  else (match e.old with
    | o :: _ => (match m.decls[pos PD.id m.decls o.id]? with
      | some d => if d.id = o.id then (if ment e.kind d = o then (if e.kind = 6 then some { m with decls := delK PD.id m.decls o.id } else (match e.new with
          | n :: _ => some { m with decls := m.decls.set (pos PD.id m.decls o.id) (upd e.kind d n) }
          | [] => none)) else none) else none
      | none => none)
    | [] => none)
def apply1 (l : List PM) (e : PT) : Option (List PM) :=
  if e.kind = 1 then (if hasK PM.label l e.pack then none else some (insK PM.label l ⟨e.pack, [], []⟩))
  else match l[pos PM.label l e.pack]? with
    | some m => if m.label = e.pack then (if e.kind = 2 then (if m.uses = [] ∧ m.decls = [] then some (delK PM.label l e.pack) else none) else (applyM m e).map fun m' => l.set (pos PM.label l e.pack) m') else none
    | none => none
def applyL : List PM → List PT → Option (List PM)
  | l, [] => some l
  | l, e :: es => (apply1 l e).bind fun l' => applyL l' es
def opp (k : Int) : Int := if k = 1 ∨ k = 3 ∨ k = 5 then k + 1 else if k = 2 ∨ k = 4 ∨ k = 6 then k - 1 else k
def inv1 (e : PT) : PT := { e with kind := opp e.kind, old := e.new, new := e.old }
def inv (l : List PT) : List PT := (l.map inv1).reverse
theorem applyL_append (es fs : List PT) : ∀ l, applyL l (es ++ fs) = (applyL l es).bind fun l' => applyL l' fs := by
  induction es with
  | nil => intro l; rfl
  | cons e es ih =>
    intro l
    simp only [List.cons_append, applyL]
    cases apply1 l e with
    | none => rfl
    | some l' => exact ih l'
structure St (l : List PM) : Prop where
  asc : Asc PM.label l
  us : ∀ m ∈ l, m.uses.Pairwise (· < ·)
  ds : ∀ m ∈ l, Asc PD.id m.decls
theorem Oks.Mods.st {O : Oks} {l : List PM} (h : O.Mods l) : St l := ⟨h.asc, fun m hm => (h.mods m hm).uasc, fun m hm => (h.mods m hm).dasc⟩
theorem at_mid {α : Type} (pre : List α) (x : α) (post : List α) : (pre ++ x :: post)[pre.length]? = some x := by simp
theorem set_mid {α : Type} (pre : List α) (x y : α) (post : List α) : (pre ++ x :: post).set pre.length y = pre ++ y :: post := by simp
theorem apply1_mid {pre post : List PM} {m : PM} {e : PT} (h : Asc PM.label (pre ++ m :: post)) (hm : m.label = e.pack) (h1 : e.kind ≠ 1) (h2 : e.kind ≠ 2) : apply1 (pre ++ m :: post) e = (applyM m e).map fun m' => pre ++ m' :: post := by
  unfold apply1
  rw [if_neg h1, ← hm, pos_mid h, at_mid]
  simp only [if_neg h2, set_mid]
  simp
theorem fits_parts {e : PT} (h : fits e = true) : (e.old.length = if e.kind = 6 ∨ 7 ≤ e.kind then 1 else 0) ∧ (e.new.length = if e.kind = 5 ∨ 7 ≤ e.kind then 1 else 0) ∧ (e.text = [] ∨ e.kind = 3 ∨ e.kind = 4) ∧ (e.kind < 7 ∨ fitsLast e = true) := by
  unfold fits at h
  simpa [and_assoc, or_assoc] using h
theorem fits_of {e : PT} (h1 : e.old.length = if e.kind = 6 ∨ 7 ≤ e.kind then 1 else 0) (h2 : e.new.length = if e.kind = 5 ∨ 7 ≤ e.kind then 1 else 0) (h3 : e.text = [] ∨ e.kind = 3 ∨ e.kind = 4) (h4 : e.kind < 7 ∨ fitsLast e = true) : fits e = true := by
  unfold fits
  simp [h1, h2, or_assoc, h3, h4]
theorem one_of {α : Type} {l : List α} (h : l.length = 1) : ∃ x, l = [x] := by
  match l, h with
  | [x], _ => exact ⟨x, rfl⟩
theorem fits_last {e : PT} (h : fits e = true) (hk : 7 ≤ e.kind) : ∃ o n, e.old = [o] ∧ e.new = [n] ∧ o = ment e.kind o ∧ n = ment e.kind n ∧ o.id = n.id ∧ o ≠ n := by
  obtain ⟨h1, h2, -, h4⟩ := fits_parts h
  rw [if_pos (Or.inr hk)] at h1 h2
  obtain ⟨o, ho⟩ := one_of h1
  obtain ⟨n, hn⟩ := one_of h2
  have h5 : fitsLast e = true := by
    rcases h4 with h4 | h4
    · omega
    · exact h4
  unfold fitsLast at h5
  rw [ho, hn] at h5
  simp only [Bool.and_eq_true, decide_eq_true_eq, Bool.not_eq_true', decide_eq_false_iff_not] at h5
  exact ⟨o, n, ho, hn, h5.1.1.1, h5.1.1.2, h5.1.2, h5.2⟩
theorem Oks.Edit.inv {O : Oks} {e : PT} (h : O.Edit e) : O.Edit (inv1 e) := by
  obtain ⟨k0, k1, fit, ts⟩ := h
  obtain ⟨kind, pack, text, old, new⟩ := e
  simp only at k0 k1
  obtain ⟨h1, h2, h3, -⟩ := fits_parts fit
  simp only at h1 h2 h3
  by_cases hk : 7 ≤ kind
  case neg =>
    have h3' : text = [] ∨ opp kind = 3 ∨ opp kind = 4 := by
      rcases h3 with h3 | rfl | rfl
      · exact .inl h3
      · exact .inr (.inr rfl)
      · exact .inr (.inl rfl)
    have hc : kind = 1 ∨ kind = 2 ∨ kind = 3 ∨ kind = 4 ∨ kind = 5 ∨ kind = 6 := by omega
    have key : (1 ≤ opp kind ∧ opp kind < 7) ∧ (new.length = if opp kind = 6 ∨ 7 ≤ opp kind then 1 else 0) ∧ (old.length = if opp kind = 5 ∨ 7 ≤ opp kind then 1 else 0) := by
      rcases hc with rfl | rfl | rfl | rfl | rfl | rfl <;> exact ⟨⟨by decide, by decide⟩, by simpa [opp] using h2, by simpa [opp] using h1⟩
    obtain ⟨⟨q0, q1⟩, q2, q3⟩ := key
    refine ⟨q0, by show opp kind ≤ 9; omega, fits_of q2 q3 h3' (.inl q1), ?_⟩
    rcases hc with rfl | rfl | rfl | rfl | rfl | rfl
    · exact ts
    · exact ts
    · exact ts
    · exact ts
    · intro m hm
      refine ts m ?_
      obtain rfl : old = [] := List.eq_nil_of_length_eq_zero (by simpa using h1)
      simpa [inv1, tests, opp, complete] using hm
    · intro m hm
      refine ts m ?_
      obtain rfl : new = [] := List.eq_nil_of_length_eq_zero (by simpa using h2)
      simpa [inv1, tests, opp, complete] using hm
  obtain ⟨o, n, ho, hn, e1, e2, e3, e4⟩ := fits_last fit hk
  simp only at ho hn e1 e2 e3 e4
  subst ho hn
  have ek : opp kind = kind := by unfold opp; rw [if_neg (by omega), if_neg (by omega)]
  refine ⟨by simp [inv1, ek]; omega, by simp [inv1, ek]; omega, fits_of (by simp [inv1, ek, hk]) (by simp [inv1, ek, hk]) (by simpa [inv1, ek] using h3) (.inr ?_), ?_⟩
  · unfold fitsLast inv1
    simp only [ek, Bool.and_eq_true, decide_eq_true_eq, Bool.not_eq_true', decide_eq_false_iff_not]
    exact ⟨⟨⟨e2, e1⟩, e3.symm⟩, fun h => e4 h.symm⟩
  · intro m hm
    refine ts m ?_
    unfold tests inv1 at hm
    unfold tests
    simp only [ek] at hm
    rw [if_neg (by omega), if_neg (by omega)] at hm
    simp only [if_neg (show ¬ (kind = 1 ∨ kind = 2) by omega), if_neg (show ¬ (kind = 3 ∨ kind = 4) by omega)]
    simp only [List.map_append, List.mem_append] at hm ⊢
    exact hm.symm
end Go.Proofs.YtiaenhlflgobfaaGreatDoor
namespace Go.Proofs.YtiaenhlflgobfaaGreatDoor
theorem ment6 (d : PD) : ment 6 d = d := by simp [ment]
theorem upd_id (k : Int) (d n : PD) : (upd k d n).id = d.id := by
  unfold upd
  split
  · rfl
  · split <;> rfl
theorem upd_back {k : Int} {d o n : PD} (h0 : 7 ≤ k) (h1 : k ≤ 9) (h2 : ment k d = o) (h3 : n = ment k n) (h4 : o.id = n.id) : ment k (upd k d n) = n ∧ upd k (upd k d n) o = d := by
  have hk : k = 7 ∨ k = 8 ∨ k = 9 := by omega
  have hd : d.id = n.id := by
    rw [← h4, ← h2]
    rcases hk with rfl | rfl | rfl <;> rfl
  rcases hk with rfl | rfl | rfl
  · subst h2
    rw [h3]
    exact ⟨by simp [ment, upd, hd], by simp [ment, upd]⟩
  · subst h2
    rw [h3]
    exact ⟨by simp [ment, upd, hd], by simp [ment, upd]⟩
  · subst h2
    rw [h3]
    exact ⟨by simp [ment, upd, hd], by simp [ment, upd]⟩
section
variable {α κ : Type} [LT κ] [DecidableRel (fun a b : κ => a < b)] [DecidableEq κ] [Ord κ] {key : α → κ}
theorem found_mid {l : List α} {p : κ} {x : α} (h : Asc key l) (hx : l[pos key l p]? = some x) (e : key x = p) : ∃ pre post, l = pre ++ x :: post ∧ pos key l p = pre.length := by
  rcases asc_cases l p h with ⟨pre, y, post, rfl, rfl⟩ | ⟨pre, post, rfl, h1, h2⟩
  · have h1 := pos_mid h
    rw [h1, at_mid] at hx
    cases hx
    exact ⟨pre, post, rfl, h1⟩
  · have := hasK_gap h1 h2
    unfold hasK at this
    rw [hx] at this
    simp [e] at this
theorem gap_of {l : List α} {p : κ} (h : Asc key l) (hn : hasK key l p = false) : ∃ pre post, l = pre ++ post ∧ (∀ x ∈ pre, key x < p) ∧ ∀ x ∈ post, p < key x := by
  rcases asc_cases l p h with ⟨pre, y, post, rfl, rfl⟩ | h
  · rw [hasK_mid h] at hn
    cases hn
  · exact h
theorem mid_of {l : List α} {p : κ} (h : Asc key l) (hn : hasK key l p = true) : ∃ pre x post, l = pre ++ x :: post ∧ key x = p := by
  rcases asc_cases l p h with h | ⟨pre, post, rfl, h1, h2⟩
  · exact h
  · rw [hasK_gap h1 h2] at hn
    cases hn
end
section
variable {α κ : Type} [LT κ] {key : α → κ}
theorem mid_lt {pre post : List α} {x : α} (h : Asc key (pre ++ x :: post)) : (∀ y ∈ pre, key y < key x) ∧ ∀ y ∈ post, key x < key y := by
  obtain ⟨_, h2, h3⟩ := List.pairwise_append.1 h
  exact ⟨fun y hy => h3 y hy x (by simp), (List.pairwise_cons.1 h2).1⟩
end
theorem applyM_inv {m m' : PM} {e : PT} (hf : fits e = true) (k0 : 3 ≤ e.kind) (k1 : e.kind ≤ 9) (hu : m.uses.Pairwise (· < ·)) (hd : Asc PD.id m.decls) (h : applyM m e = some m') :
    m'.label = m.label ∧ m'.uses.Pairwise (· < ·) ∧ Asc PD.id m'.decls ∧ applyM m' (inv1 e) = some m := by
  obtain ⟨kind, pack, text, old, new⟩ := e
  obtain ⟨label, uses, decls⟩ := m
  simp only at k0 k1 hu hd
  obtain ⟨l1, l2, -, -⟩ := fits_parts hf
  simp only at l1 l2
  have hu' : Asc (id : T → T) uses := hu
  by_cases hk : 7 ≤ kind
  · obtain ⟨o, n, ho, hn, e1, e2, e3, e4⟩ := fits_last hf hk
    simp only at ho hn e1 e2 e3 e4
    subst ho hn
    have ek : opp kind = kind := by unfold opp; rw [if_neg (by omega), if_neg (by omega)]
    unfold applyM at h
    simp only [if_neg (show ¬ kind = 3 by omega), if_neg (show ¬ kind = 4 by omega), if_neg (show ¬ kind = 5 by omega), if_neg (show ¬ kind = 6 by omega)] at h
    cases hx : decls[pos PD.id decls o.id]? with
    | none => rw [hx] at h; cases h
    | some d =>
      rw [hx] at h
      simp only at h
      split at h
      case isFalse => cases h
      rename_i hid
      split at h
      case isFalse => cases h
      rename_i hm
      obtain ⟨pre, post, rfl, hp⟩ := found_mid hd hx hid
      rw [hp, set_mid] at h
      cases Option.some.inj h
      obtain ⟨b1, b2⟩ := upd_back hk k1 hm e2 e3
      have hi : (upd kind d n).id = n.id := by rw [upd_id, hid, e3]
      have ha : Asc PD.id (pre ++ upd kind d n :: post) := asc_set hd (upd_id _ _ _)
      refine ⟨rfl, hu, ha, ?_⟩
      unfold applyM inv1
      simp only [ek, if_neg (show ¬ kind = 3 by omega), if_neg (show ¬ kind = 4 by omega), if_neg (show ¬ kind = 5 by omega), if_neg (show ¬ kind = 6 by omega)]
      have hp2 := pos_mid ha
      rw [hi] at hp2
      rw [hp2, at_mid]
      simp only [hi, b1, if_true, set_mid, b2]
  · have hc : kind = 3 ∨ kind = 4 ∨ kind = 5 ∨ kind = 6 := by omega
    rcases hc with rfl | rfl | rfl | rfl
    · unfold applyM at h
      simp only [if_true] at h
      split at h
      case isTrue => cases h
      rename_i hh
      cases Option.some.inj h
      obtain ⟨pre, post, rfl, g1, g2⟩ := gap_of hu' (by simpa using hh)
      have hi : insK id (pre ++ post) text = pre ++ text :: post := insK_gap g1 g2
      have ha : Asc (id : T → T) (pre ++ text :: post) := asc_ins hu' g1 g2
      simp only [hi]
      refine ⟨trivial, ha, hd, ?_⟩
      have t1 := hasK_mid ha
      have t2 := delK_mid ha
      simp only [id] at t1 t2
      unfold applyM inv1
      simp [opp, t1, t2]
    · unfold applyM at h
      simp only [if_true] at h
      rw [if_neg (by decide)] at h
      split at h
      case isFalse => cases h
      rename_i hh
      cases Option.some.inj h
      obtain ⟨pre, x, post, rfl, rfl⟩ := mid_of hu' hh
      have t2 := delK_mid hu'
      simp only [id] at t2 ⊢
      rw [t2]
      refine ⟨trivial, asc_del hu', hd, ?_⟩
      obtain ⟨g1, g2⟩ := mid_lt hu'
      have t1 := hasK_gap (key := (id : T → T)) g1 g2
      have t3 := insK_gap (key := (id : T → T)) g1 g2
      simp only [id] at t1 t3
      unfold applyM inv1
      simp [opp, t1, t3]
    · simp at l1 l2
      subst l1
      obtain ⟨n, rfl⟩ := one_of l2
      unfold applyM at h
      simp only [if_neg (show ¬ (5 : Int) = 3 by omega), if_neg (show ¬ (5 : Int) = 4 by omega), if_true] at h
      split at h
      case isTrue => cases h
      rename_i hh
      cases Option.some.inj h
      obtain ⟨pre, post, rfl, g1, g2⟩ := gap_of hd (by simpa using hh)
      have hi : insK PD.id (pre ++ post) n = pre ++ n :: post := insK_gap g1 g2
      have ha : Asc PD.id (pre ++ n :: post) := asc_ins hd g1 g2
      simp only [hi]
      refine ⟨trivial, hu, ha, ?_⟩
      unfold applyM inv1
      simp only [show opp 5 = 6 from rfl, if_neg (show ¬ (6 : Int) = 3 by omega), if_neg (show ¬ (6 : Int) = 4 by omega), if_neg (show ¬ (6 : Int) = 5 by omega), if_true]
      rw [pos_mid ha, at_mid]
      simp only [ment6, if_true]
      rw [delK_mid ha]
    · simp at l1 l2
      subst l2
      obtain ⟨o, rfl⟩ := one_of l1
      unfold applyM at h
      simp only [if_neg (show ¬ (6 : Int) = 3 by omega), if_neg (show ¬ (6 : Int) = 4 by omega), if_neg (show ¬ (6 : Int) = 5 by omega), if_true] at h
      cases hx : decls[pos PD.id decls o.id]? with
      | none => rw [hx] at h; cases h
      | some d =>
        rw [hx] at h
        simp only [ment6] at h
        split at h
        case isFalse => cases h
        rename_i hid
        by_cases hm : d = o
        case neg => rw [if_neg hm] at h; cases h
        rw [if_pos hm] at h
        subst hm
        obtain ⟨pre, post, rfl, hp⟩ := found_mid hd hx hid
        rw [delK_mid hd] at h
        cases Option.some.inj h
        refine ⟨rfl, hu, asc_del hd, ?_⟩
        obtain ⟨g1, g2⟩ := mid_lt hd
        have t1 := hasK_gap (key := PD.id) g1 g2
        have t3 := insK_gap (key := PD.id) g1 g2
        unfold applyM inv1
        simp [show opp 6 = 5 from rfl, t1, t3]
theorem apply1_inv {O : Oks} {l l' : List PM} {e : PT} (he : O.Edit e) (hl : St l) (h : apply1 l e = some l') : St l' ∧ apply1 l' (inv1 e) = some l := by
  obtain ⟨k0, k1, hf, -⟩ := he
  by_cases h1 : e.kind = 1
  · unfold apply1 at h
    rw [if_pos h1] at h
    split at h
    case isTrue => cases h
    rename_i hh
    cases Option.some.inj h
    obtain ⟨pre, post, rfl, g1, g2⟩ := gap_of hl.asc (by simpa using hh)
    have hi : insK PM.label (pre ++ post) ⟨e.pack, [], []⟩ = pre ++ ⟨e.pack, [], []⟩ :: post := insK_gap g1 g2
    have ha : Asc PM.label (pre ++ (⟨e.pack, [], []⟩ : PM) :: post) := asc_ins hl.asc g1 g2
    rw [hi]
    have hm : ∀ m ∈ pre ++ (⟨e.pack, [], []⟩ : PM) :: post, m ∈ pre ++ post ∨ m = ⟨e.pack, [], []⟩ := by
      intro m hm
      simp only [List.mem_append, List.mem_cons] at hm ⊢
      rcases hm with h | h | h
      · exact .inl (.inl h)
      · exact .inr h
      · exact .inl (.inr h)
    refine ⟨⟨ha, fun m h => ?_, fun m h => ?_⟩, ?_⟩
    · rcases hm m h with h | rfl
      · exact hl.us m h
      · exact List.Pairwise.nil
    · rcases hm m h with h | rfl
      · exact hl.ds m h
      · exact List.Pairwise.nil
    have hp := pos_mid ha
    simp only at hp
    unfold apply1 inv1
    simp only [h1, show opp 1 = 2 from rfl, if_neg (show ¬ (2 : Int) = 1 by omega)]
    rw [hp, at_mid]
    have t := delK_mid ha
    simp only at t
    simp [t]
  by_cases h2 : e.kind = 2
  · unfold apply1 at h
    rw [if_neg h1] at h
    cases hx : l[pos PM.label l e.pack]? with
    | none => rw [hx] at h; cases h
    | some m =>
      rw [hx] at h
      simp only [h2, if_true] at h
      split at h
      case isFalse => cases h
      rename_i hm
      split at h
      case isFalse => cases h
      rename_i hz
      obtain ⟨pre, post, rfl, hp⟩ := found_mid hl.asc hx hm
      rw [← hm, delK_mid hl.asc] at h
      cases Option.some.inj h
      have hz' : m = ⟨e.pack, [], []⟩ := by
        obtain ⟨a, b, c⟩ := m
        simp only at hz hm
        rw [hz.1, hz.2, hm]
      obtain ⟨g1, g2⟩ := mid_lt hl.asc
      have sub : ∀ x ∈ pre ++ post, x ∈ pre ++ m :: post := by
        intro x hx
        simp only [List.mem_append, List.mem_cons] at hx ⊢
        rcases hx with h | h
        · exact .inl h
        · exact .inr (.inr h)
      refine ⟨⟨asc_del hl.asc, fun x h => hl.us x (sub x h), fun x h => hl.ds x (sub x h)⟩, ?_⟩
      unfold apply1 inv1
      simp only [h2, show opp 2 = 1 from rfl, if_true]
      have t1 := hasK_gap (key := PM.label) g1 g2
      have t3 := insK_gap (key := PM.label) g1 g2
      rw [hm] at t1
      rw [hz'] at t3
      rw [hz']
      simp [t1, t3]
  · cases hx : l[pos PM.label l e.pack]? with
    | none =>
      unfold apply1 at h
      rw [if_neg h1, hx] at h
      cases h
    | some m =>
      by_cases hm : m.label = e.pack
      · obtain ⟨pre, post, rfl, hp⟩ := found_mid hl.asc hx hm
        rw [apply1_mid hl.asc hm h1 h2] at h
        cases hq : applyM m e with
        | none => rw [hq] at h; cases h
        | some m' =>
          rw [hq] at h
          cases Option.some.inj h
          obtain ⟨q1, q2, q3, q4⟩ := applyM_inv hf (by omega) k1 (hl.us m (by simp)) (hl.ds m (by simp)) hq
          have ha : Asc PM.label (pre ++ m' :: post) := asc_set hl.asc q1
          have cs : ∀ x ∈ pre ++ m' :: post, x ∈ pre ++ m :: post ∨ x = m' := by
            intro x hx
            simp only [List.mem_append, List.mem_cons] at hx ⊢
            rcases hx with h | h | h
            · exact .inl (.inl h)
            · exact .inr h
            · exact .inl (.inr (.inr h))
          refine ⟨⟨ha, fun x h => ?_, fun x h => ?_⟩, ?_⟩
          · rcases cs x h with h | rfl
            · exact hl.us x h
            · exact q2
          · rcases cs x h with h | rfl
            · exact hl.ds x h
            · exact q3
          have ok : opp e.kind ≠ 1 ∧ opp e.kind ≠ 2 := by
            have : e.kind = 3 ∨ e.kind = 4 ∨ e.kind = 5 ∨ e.kind = 6 ∨ 7 ≤ e.kind := by omega
            rcases this with h | h | h | h | h
            · rw [h]; decide
            · rw [h]; decide
            · rw [h]; decide
            · rw [h]; decide
            · unfold opp
              rw [if_neg (by omega), if_neg (by omega)]
              exact ⟨h1, h2⟩
          rw [apply1_mid ha (by rw [q1, hm]; rfl) ok.1 ok.2, q4]
          rfl
      · unfold apply1 at h
        rw [if_neg h1, hx] at h
        simp only [if_neg hm] at h
        cases h
theorem applyL_inv {O : Oks} : ∀ (es : List PT) (l l' : List PM), (∀ e ∈ es, O.Edit e) → St l → applyL l es = some l' → St l' ∧ applyL l' (inv es) = some l
  | [], l, l', _, hl, h => by
    cases Option.some.inj h
    exact ⟨hl, rfl⟩
  | e :: es, l, l', he, hl, h => by
    unfold applyL at h
    cases hq : apply1 l e with
    | none => rw [hq] at h; cases h
    | some l1 =>
      rw [hq] at h
      obtain ⟨s1, b1⟩ := apply1_inv (he e (by simp)) hl hq
      obtain ⟨s2, b2⟩ := applyL_inv es l1 l' (fun x hx => he x (by simp [hx])) s1 h
      refine ⟨s2, ?_⟩
      have e0 : inv (e :: es) = inv es ++ [inv1 e] := by simp [inv]
      rw [e0, applyL_append, b2]
      simp only [Option.bind_some, applyL, b1]
end Go.Proofs.YtiaenhlflgobfaaGreatDoor

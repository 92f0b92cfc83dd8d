/- Plain: the reference's solver: making types equal. -/
import Derived.Test.YtjlmhfdigoogfaaRuB
namespace Go.Proofs.Ytjlmhfdigoogfaa

/-- Two different classes become one. -/
def jn2P (V : List Int) (g : SS → PT → PT → Option (Bool × SS)) (S : SS) (a b : Nat) : Option (Bool × SS) :=
  if S.b b = false then some (sndP V (S.jn a b) a, S.jn a b)
  else if S.b a = false then some (sndP V ((S.jn a b).bd a (S.t b)) a, (S.jn a b).bd a (S.t b))
  else if sndP V (S.jn a b) a = false then some (false, S.jn a b)
  else match g (S.jn a b) (S.t a) (S.t b) with
    | some (true, S3) => some (sndP V S3 a, S3)
    | some (false, S3) => some (false, S3)
    | none => none
def jnP (V : List Int) (g : SS → PT → PT → Option (Bool × SS)) (S : SS) (a b : Nat) : Option (Bool × SS) :=
  if a = b then some (true, S) else if b < a then jn2P V g S b a else jn2P V g S a b
def eqL (g : SS → PT → PT → Option (Bool × SS)) : SS → List PT → List PT → Option (Bool × SS)
  | S, [], _ => some (true, S)
  | _, _ :: _, [] => none
  | S, x :: l, y :: m => match g S x y with
    | some (true, S') => eqL g S' l m
    | some (false, S') => some (false, S')
    | none => none
/-- A variable and a type that is none. -/
def evP (V : List Int) (g : SS → PT → PT → Option (Bool × SS)) (S : SS) (v : Int) (b : PT) : Option (Bool × SS) :=
  if S.b (cls V S v) = true then g S (S.t (cls V S v)) b else some (sndP V (S.bd (cls V S v) b) (cls V S v), S.bd (cls V S v) b)
/-- Two types become equal. -/
def eqP (V : List Int) : Nat → SS → PT → PT → Option (Bool × SS)
  | 0, _, _, _ => none
  | f + 1, S, a, b =>
    if a.kind = 5 ∧ b.kind = 5 then jnP V (eqP V f) S (cls V S a.var) (cls V S b.var)
    else if b.kind = 5 then evP V (eqP V f) S b.var a
    else if a.kind = 5 then evP V (eqP V f) S a.var b
    else if a.kind ≠ b.kind then some (false, S) else eqL (eqP V f) S a.sub b.sub
section
variable {V : List Int}
theorem eqL_mono {g g' : SS → PT → PT → Option (Bool × SS)} (h : ∀ S a b r, g S a b = some r → g' S a b = some r) : ∀ (l m : List PT) (S : SS) (r : Bool × SS), eqL g S l m = some r → eqL g' S l m = some r
  | [], _, _, _, e => by rw [eqL] at e ⊢; exact e
  | _ :: _, [], _, _, e => by rw [eqL] at e; cases e
  | x :: l, y :: m, S, r, e => by
    rw [eqL] at e ⊢
    cases hq : g S x y with
    | none => rw [hq] at e; cases e
    | some p =>
      obtain ⟨q, S'⟩ := p
      rw [hq] at e
      rw [h _ _ _ _ hq]
      cases q with
      | true => exact eqL_mono h l m S' r e
      | false => exact e
theorem jn2P_mono {g g' : SS → PT → PT → Option (Bool × SS)} (h : ∀ S a b r, g S a b = some r → g' S a b = some r) {S : SS} {a b : Nat} {r : Bool × SS} (e : jn2P V g S a b = some r) : jn2P V g' S a b = some r := by
  unfold jn2P at e ⊢
  split
  · rename_i h1; rw [if_pos h1] at e; exact e
  · rename_i h1
    rw [if_neg h1] at e
    split
    · rename_i h2; rw [if_pos h2] at e; exact e
    · rename_i h2
      rw [if_neg h2] at e
      split
      · rename_i h3; rw [if_pos h3] at e; exact e
      · rename_i h3
        rw [if_neg h3] at e
        cases hq : g (S.jn a b) (S.t a) (S.t b) with
        | none => rw [hq] at e; cases e
        | some p => rw [h _ _ _ _ hq]; rw [hq] at e; exact e
theorem jnP_mono {g g' : SS → PT → PT → Option (Bool × SS)} (h : ∀ S a b r, g S a b = some r → g' S a b = some r) {S : SS} {a b : Nat} {r : Bool × SS} (e : jnP V g S a b = some r) : jnP V g' S a b = some r := by
  unfold jnP at e ⊢
  split
  · rename_i h1; rw [if_pos h1] at e; exact e
  · rename_i h1
    rw [if_neg h1] at e
    split
    · rename_i h2; rw [if_pos h2] at e; exact jn2P_mono h e
    · rename_i h2; rw [if_neg h2] at e; exact jn2P_mono h e
theorem evP_mono {g g' : SS → PT → PT → Option (Bool × SS)} (h : ∀ S a b r, g S a b = some r → g' S a b = some r) {S : SS} {v : Int} {b : PT} {r : Bool × SS} (e : evP V g S v b = some r) : evP V g' S v b = some r := by
  unfold evP at e ⊢
  split
  · rename_i h1; rw [if_pos h1] at e; exact h _ _ _ _ e
  · rename_i h1; rw [if_neg h1] at e; exact e
theorem eqP_succ : ∀ (f : Nat) (S : SS) (a b : PT) (r : Bool × SS), eqP V f S a b = some r → eqP V (f + 1) S a b = some r
  | 0, _, _, _, _, e => by cases e
  | f + 1, S, a, b, r, e => by
    have h := eqP_succ f
    rw [eqP] at e ⊢
    split
    · rename_i h1; rw [if_pos h1] at e; exact jnP_mono h e
    · rename_i h1
      rw [if_neg h1] at e
      split
      · rename_i h2; rw [if_pos h2] at e; exact evP_mono h e
      · rename_i h2
        rw [if_neg h2] at e
        split
        · rename_i h3; rw [if_pos h3] at e; exact evP_mono h e
        · rename_i h3
          rw [if_neg h3] at e
          split
          · rename_i h4; rw [if_pos h4] at e; exact e
          · rename_i h4; rw [if_neg h4] at e; exact eqL_mono h _ _ _ _ e
theorem eqP_mono {f f' : Nat} (h : f ≤ f') {S : SS} {a b : PT} {r : Bool × SS} (e : eqP V f S a b = some r) : eqP V f' S a b = some r := by
  induction h with
  | refl => exact e
  | step _ ih => exact eqP_succ _ _ _ _ _ ih
/-- How many classes are still free. -/
def unb (V : List Int) (S : SS) : Nat := ((List.range V.length).map fun i => if S.u i = i then (if S.b i = true then 1 else 2) else 0).sum
theorem sum_le {f g : Nat → Nat} : ∀ {n : Nat}, (∀ i, i < n → f i ≤ g i) → ((List.range n).map f).sum ≤ ((List.range n).map g).sum
  | 0, _ => by simp
  | n + 1, h => by
    have h1 := sum_le (f := f) (g := g) (n := n) fun i hi => h i (by omega)
    have h2 := h n (by omega)
    rw [List.range_succ, List.map_append, List.sum_append, List.map_append, List.sum_append]
    simp
    omega
theorem sum_lt {f g : Nat → Nat} : ∀ {n j : Nat}, (∀ i, i < n → f i ≤ g i) → j < n → f j < g j → ((List.range n).map f).sum < ((List.range n).map g).sum
  | 0, j, _, h, _ => by omega
  | n + 1, j, h, hj, hlt => by
    have h2 := h n (by omega)
    rw [List.range_succ, List.map_append, List.sum_append, List.map_append, List.sum_append]
    simp only [List.map_cons, List.map_nil, List.sum_cons, List.sum_nil, Nat.add_zero]
    rcases Nat.lt_succ_iff_lt_or_eq.1 hj with hj | rfl
    · have := sum_lt (f := f) (g := g) (n := n) (fun i hi => h i (by omega)) hj hlt
      omega
    · have := sum_le (f := f) (g := g) (n := j) fun i hi => h i (by omega)
      omega
/-- What is left where something is made equal. -/
structure EqR (V : List Int) (S : SS) (q : (Int → PT) → Prop) (r : Bool) (S' : SS) : Prop where
  wf : WF V S'
  ext : ∀ i, i < V.length → S.b i = true → S'.b i = true ∧ S'.t i = S.t i
  no : r = false → ∀ m, Mo V S m → ¬ q m
  yes : r = true → ACY V S' ∧ (∀ m, Mo V S' m ↔ Mo V S m ∧ q m) ∧ (S' = S ∨ unb V S' < unb V S)
theorem EqR.congr {S : SS} {q q' : (Int → PT) → Prop} {r : Bool} {S' : SS} (h : EqR V S q r S') (hq : ∀ m, Mo V S m → (q m ↔ q' m)) : EqR V S q' r S' :=
  ⟨h.wf, h.ext, fun hr m hm h2 => h.no hr m hm ((hq m hm).2 h2), fun hr => ⟨(h.yes hr).1, fun m => by
    rw [(h.yes hr).2.1 m]
    exact ⟨fun ⟨h1, h2⟩ => ⟨h1, (hq m h1).1 h2⟩, fun ⟨h1, h2⟩ => ⟨h1, (hq m h1).2 h2⟩⟩, (h.yes hr).2.2⟩⟩
/-- A class gets its first type. -/
theorem bd_ok {S : SS} (w : WF V S) (hac : ACY V S) {c : Nat} (hc : c < V.length) (hr : S.u c = c) (hb : S.b c = false) {t : PT} (hk : t.kind ≠ 5) (hg : GV V t) : EqR V S (fun m => m (vat V c) = t.rep m) (sndP V (S.bd c t) c) (S.bd c t) := by
  have w1 := w.bd hc hk hg
  have hmo : ∀ m, Mo V (S.bd c t) m ↔ Mo V S m ∧ m (vat V c) = t.rep m := by
    intro m
    constructor
    · intro h
      refine ⟨⟨h.up, fun i hi hri hbi => ?_⟩, ?_⟩
      · have hic : i ≠ c := by rintro rfl; rw [hb] at hbi; cases hbi
        have := h.ty i hi hri (by rw [bd_b w hc, if_neg hic]; exact hbi)
        rwa [bd_t w hc, if_neg hic] at this
      · have := h.ty c hc hr (by rw [bd_b w hc, if_pos rfl])
        rwa [bd_t w hc, if_pos rfl] at this
    · rintro ⟨h, hq⟩
      refine ⟨h.up, fun i hi hri hbi => ?_⟩
      rw [bd_t w hc]
      by_cases hic : i = c
      · rw [if_pos hic, hic]; exact hq
      · rw [if_neg hic]
        rw [bd_b w hc, if_neg hic] at hbi
        exact h.ty i hi hri hbi
  refine ⟨w1, fun i hi hbi => ?_, fun h m hm hq => (snd_no w1 hc h).2.2 m ((hmo m).2 ⟨hm, hq⟩), fun h => ⟨?_, hmo, .inr ?_⟩⟩
  · have hic : i ≠ c := by rintro rfl; rw [hb] at hbi; cases hbi
    rw [bd_b w hc, bd_t w hc, if_neg hic, if_neg hic]
    exact ⟨hbi, rfl⟩
  · refine acy_step w1 hac hc (fun i hi hri hic hbi => ?_) (fun u _ _ => (cls_bd S c t u).symm) h
    rw [bd_b w hc, if_neg hic] at hbi
    exact ⟨hri, hbi, by rw [bd_t w hc, if_neg hic]⟩
  · unfold unb
    refine sum_lt (j := c) (fun i hi => ?_) hc ?_
    · rw [bd_u, bd_b w hc]
      by_cases hic : i = c
      · subst hic
        rw [if_pos rfl, if_pos hr, if_pos hr, hb]
        simp
      · rw [if_neg hic]
        exact Nat.le_refl _
    · rw [bd_u, bd_b w hc, if_pos hr, if_pos hr, if_pos rfl, hb]
      simp
theorem unb_jn {S S1 : SS} {a b : Nat} (hb : b < V.length) (hub : S.u b = b) (hab : a ≠ b) (h1 : ∀ i, S1.u i = if i = b then a else S.u i) (h2 : ∀ i, S.b i = true → S1.b i = true) : unb V S1 < unb V S := by
  unfold unb
  refine sum_lt (j := b) (fun i hi => ?_) hb ?_
  · rw [h1]
    by_cases hib : i = b
    · subst hib
      rw [if_pos rfl, if_neg hab]
      exact Nat.zero_le _
    · rw [if_neg hib]
      split
      · cases hq : S.b i with
        | true => rw [h2 i hq]; simp
        | false => simp; split <;> omega
      · exact Nat.le_refl _
  · rw [h1, if_pos rfl, if_neg hab, if_pos hub]
    split <;> omega
theorem jn_of {S : SS} (w : WF V S) {a b : Nat} (hab : a < b) (hb : b < V.length) {m : Int → PT} (h : Mo V S m) (hq : m (vat V a) = m (vat V b)) : Mo V (S.jn a b) m := by
  refine ⟨fun i hi => ?_, fun i hi hr hbi => ?_⟩
  · rw [jn_u w hb]
    by_cases hib : i = b
    · rw [if_pos hib, hib]; exact hq.symm
    · rw [if_neg hib]; exact h.up i hi
  · rw [jn_u w hb] at hr
    by_cases hib : i = b
    · rw [if_pos hib] at hr; omega
    · rw [if_neg hib] at hr; exact h.ty i hi hr hbi
theorem of_jn {S : SS} (w : WF V S) {a b : Nat} (hb : b < V.length) (hub : S.u b = b) {m : Int → PT} (h : Mo V (S.jn a b) m) (ht : S.b b = true → m (vat V b) = (S.t b).rep m) : Mo V S m ∧ m (vat V a) = m (vat V b) := by
  have hq : m (vat V b) = m (vat V a) := by
    have := h.up b hb
    rwa [jn_u w hb, if_pos rfl] at this
  refine ⟨⟨fun i hi => ?_, fun i hi hr hbi => ?_⟩, hq.symm⟩
  · by_cases hib : i = b
    · rw [hib, hub]
    · have := h.up i hi
      rwa [jn_u w hb, if_neg hib] at this
  · by_cases hib : i = b
    · subst hib; exact ht hbi
    · exact h.ty i hi (by rw [jn_u w hb, if_neg hib]; exact hr) hbi
theorem jn2_ok {S : SS} (w : WF V S) (hac : ACY V S) {a b : Nat} (hab : a < b) (hb : b < V.length) (hua : S.u a = a) (hub : S.u b = b)
    (H : ∀ S', WF V S' → ACY V S' → unb V S' < unb V S → ∀ x y, GV V x → GV V y → ∃ f r S'', eqP V f S' x y = some (r, S'') ∧ EqR V S' (fun m => x.rep m = y.rep m) r S'') :
    ∃ f r S', jn2P V (eqP V f) S a b = some (r, S') ∧ EqR V S (fun m => m (vat V a) = m (vat V b)) r S' := by
  have w1 := w.jn hab hb
  have ha : a < V.length := by omega
  have hua1 : (S.jn a b).u a = a := by rw [jn_u w hb, if_neg (by omega)]; exact hua
  have hcl : ∀ u, u ∈ V → cls V (S.jn a b) u ≠ a → cls V S u = cls V (S.jn a b) u := fun u hu hn => by
    rw [cls_jn w hab hb hua hub hu] at hn ⊢
    by_cases e : cls V S u = b
    · rw [if_pos e] at hn; exact absurd rfl hn
    · rw [if_neg e]
  have hroot : ∀ i, (S.jn a b).u i = i → i ≠ b ∧ S.u i = i := fun i hr => by
    rw [jn_u w hb] at hr
    by_cases hib : i = b
    · rw [if_pos hib] at hr; omega
    · rw [if_neg hib] at hr; exact ⟨hib, hr⟩
  have hub1 : unb V (S.jn a b) < unb V S := unb_jn hb hub (by omega) (jn_u w hb) fun i h => h
  unfold jn2P
  cases hbb : S.b b with
  | false =>
    refine ⟨0, sndP V (S.jn a b) a, S.jn a b, by rw [if_pos rfl], ?_⟩
    refine ⟨w1, fun i _ h => ⟨h, rfl⟩, fun h m hm hq => (snd_no w1 ha h).2.2 m (jn_of w hab hb hm hq), fun h => ⟨?_, fun m => ⟨fun hm => of_jn w hb hub hm (fun h => by rw [hbb] at h; cases h), fun hm => jn_of w hab hb hm.1 hm.2⟩, .inr hub1⟩⟩
    exact acy_step w1 hac ha (fun i hi hr _ hbi => ⟨(hroot i hr).2, hbi, rfl⟩) hcl h
  | true =>
    have hgb := w.gv hb hbb
    have hkb := (w.ok b hb hbb).1
    cases hba : S.b a with
    | false =>
      have w2 := w1.bd (c := a) (t := S.t b) ha hkb hgb
      refine ⟨0, sndP V ((S.jn a b).bd a (S.t b)) a, (S.jn a b).bd a (S.t b), by rw [if_neg (by simp), if_pos rfl], ?_⟩
      have hmo : ∀ m, Mo V ((S.jn a b).bd a (S.t b)) m ↔ Mo V S m ∧ m (vat V a) = m (vat V b) := by
        intro m
        constructor
        · intro h
          have h1 : m (vat V a) = (S.t b).rep m := by
            have := h.ty a ha hua1 (by rw [bd_b w1 ha, if_pos rfl])
            rwa [bd_t w1 ha, if_pos rfl] at this
          have h2 : m (vat V b) = m (vat V a) := by
            have := h.up b hb
            rwa [bd_u, jn_u w hb, if_pos rfl] at this
          refine of_jn w hb hub ⟨h.up, fun i hi hr hbi => ?_⟩ fun _ => h2.trans h1
          have hia : i ≠ a := by rintro rfl; rw [jn_b, hba] at hbi; cases hbi
          have := h.ty i hi hr (by rw [bd_b w1 ha, if_neg hia]; exact hbi)
          rwa [bd_t w1 ha, if_neg hia] at this
        · rintro ⟨hm, hq⟩
          have h1 := jn_of w hab hb hm hq
          refine ⟨h1.up, fun i hi hr hbi => ?_⟩
          rw [bd_t w1 ha]
          by_cases hia : i = a
          · rw [if_pos hia, hia, hq]
            exact hm.ty b hb hub hbb
          · rw [if_neg hia]
            rw [bd_b w1 ha, if_neg hia] at hbi
            exact h1.ty i hi hr hbi
      refine ⟨w2, fun i hi h => ?_, fun h m hm hq => (snd_no w2 ha h).2.2 m ((hmo m).2 ⟨hm, hq⟩), fun h => ⟨?_, hmo, .inr ?_⟩⟩
      · have hia : i ≠ a := by rintro rfl; rw [hba] at h; cases h
        rw [bd_b w1 ha, bd_t w1 ha, if_neg hia, if_neg hia]
        exact ⟨h, rfl⟩
      · refine acy_step w2 hac ha (fun i hi hr hia hbi => ?_) (fun u hu hn => ?_) h
        · rw [bd_b w1 ha, if_neg hia] at hbi
          exact ⟨(hroot i hr).2, hbi, by rw [bd_t w1 ha, if_neg hia]; rfl⟩
        · rw [cls_bd] at hn ⊢
          exact hcl u hu hn
      · refine unb_jn hb hub (by omega) (fun i => jn_u w hb i) fun i hi => ?_
        rw [bd_b w1 ha]
        split
        · rfl
        · exact hi
    | true =>
      have hga := w.gv ha hba
      cases hs : sndP V (S.jn a b) a with
      | false =>
        refine ⟨0, false, S.jn a b, by rw [if_neg (by simp), if_neg (by simp), if_pos rfl], w1, fun i _ h => ⟨h, rfl⟩, fun _ m hm hq => (snd_no w1 ha hs).2.2 m (jn_of w hab hb hm hq), (fun h => by cases h)⟩
      | true =>
        have hac1 : ACY V (S.jn a b) := acy_step w1 hac ha (fun i hi hr _ hbi => ⟨(hroot i hr).2, hbi, rfl⟩) hcl hs
        obtain ⟨f, r, S3, e, h3⟩ := H (S.jn a b) w1 hac1 hub1 (S.t a) (S.t b) hga hgb
        have key : ∀ m, (Mo V S m ∧ m (vat V a) = m (vat V b)) ↔ (Mo V (S.jn a b) m ∧ (S.t a).rep m = (S.t b).rep m) := by
          intro m
          constructor
          · rintro ⟨hm, hq⟩
            refine ⟨jn_of w hab hb hm hq, ?_⟩
            rw [← hm.ty a ha hua hba, ← hm.ty b hb hub hbb, hq]
          · rintro ⟨hm, hq⟩
            refine of_jn w hb hub hm fun _ => ?_
            have h1 := hm.ty a ha hua1 hba
            have h2 := hm.up b hb
            rw [jn_u w hb, if_pos rfl] at h2
            rw [h2, h1, jn_t, hq]
        refine ⟨f, r, S3, ?_, h3.wf, fun i hi hbi => h3.ext i hi hbi, fun hr m hm hq => ?_, fun hr => ⟨(h3.yes hr).1, fun m => by rw [(h3.yes hr).2.1 m]; exact (key m).symm, .inr ?_⟩⟩
        · rw [if_neg (by simp), if_neg (by simp), if_neg (by simp), e]
          cases r with
          | false => rfl
          | true =>
            obtain ⟨m, hm⟩ := mdl_ex h3.wf (h3.yes rfl).1
            simp only
            rw [snd_of_mo h3.wf ha (hm.mo h3.wf)]
        · have := (key m).1 ⟨hm, hq⟩
          exact h3.no hr m this.1 this.2
        · rcases (h3.yes hr).2.2 with h | h
          · rw [h]; exact hub1
          · omega
theorem jn_ok {S : SS} (w : WF V S) (hac : ACY V S) {a b : Nat} (ha : a < V.length) (hb : b < V.length) (hua : S.u a = a) (hub : S.u b = b)
    (H : ∀ S', WF V S' → ACY V S' → unb V S' < unb V S → ∀ x y, GV V x → GV V y → ∃ f r S'', eqP V f S' x y = some (r, S'') ∧ EqR V S' (fun m => x.rep m = y.rep m) r S'') :
    ∃ f r S', jnP V (eqP V f) S a b = some (r, S') ∧ EqR V S (fun m => m (vat V a) = m (vat V b)) r S' := by
  unfold jnP
  by_cases e : a = b
  · subst e
    exact ⟨0, true, S, by rw [if_pos rfl], w, fun i _ h => ⟨h, rfl⟩, (fun h => by cases h), fun _ => ⟨hac, fun m => by simp, .inl rfl⟩⟩
  · by_cases h : b < a
    · obtain ⟨f, r, S', e1, h1⟩ := jn2_ok w hac h ha hub hua H
      exact ⟨f, r, S', by rw [if_neg e, if_pos h]; exact e1, h1.congr fun m _ => eq_comm⟩
    · obtain ⟨f, r, S', e1, h1⟩ := jn2_ok w hac (by omega) hb hua hub H
      exact ⟨f, r, S', by rw [if_neg e, if_neg h]; exact e1, h1⟩
theorem eqL_ok {S0 : SS} : ∀ (l l' : List PT) (S : SS), WF V S → ACY V S → (S = S0 ∨ unb V S < unb V S0) → l.length = l'.length → (∀ x ∈ l, GV V x) → (∀ x ∈ l', GV V x) →
    (∀ x ∈ l, ∀ y ∈ l', ∃ f r S', eqP V f S0 x y = some (r, S') ∧ EqR V S0 (fun m => x.rep m = y.rep m) r S') →
    (∀ S', WF V S' → ACY V S' → unb V S' < unb V S0 → ∀ x y, GV V x → GV V y → ∃ f r S'', eqP V f S' x y = some (r, S'') ∧ EqR V S' (fun m => x.rep m = y.rep m) r S'') →
    ∃ f r S', eqL (eqP V f) S l l' = some (r, S') ∧ EqR V S (fun m => l.map (PT.rep m) = l'.map (PT.rep m)) r S'
  | [], [], S, w, hac, _, _, _, _, _, _ => ⟨0, true, S, by rw [eqL], w, fun i _ h => ⟨h, rfl⟩, (fun h => by cases h), fun _ => ⟨hac, fun m => by simp, .inl rfl⟩⟩
  | [], _ :: _, _, _, _, _, hl, _, _, _, _ => by simp at hl
  | _ :: _, [], _, _, _, _, hl, _, _, _, _ => by simp at hl
  | x :: l, y :: l', S, w, hac, hS, hl, hg, hg', h0, H => by
    obtain ⟨f1, r1, S1, e1, h1⟩ : ∃ f r S', eqP V f S x y = some (r, S') ∧ EqR V S (fun m => x.rep m = y.rep m) r S' := by
      rcases hS with rfl | hS
      · exact h0 x (by simp) y (by simp)
      · exact H S w hac hS x y (hg x (by simp)) (hg' y (by simp))
    cases r1 with
    | false =>
      refine ⟨f1, false, S1, by rw [eqL, e1], h1.wf, h1.ext, fun _ m hm hq => h1.no rfl m hm ?_, (fun h => by cases h)⟩
      simp only [List.map_cons, List.cons.injEq] at hq
      exact hq.1
    | true =>
      have hS1 : S1 = S0 ∨ unb V S1 < unb V S0 := by
        rcases (h1.yes rfl).2.2 with h | h
        · rw [h]; exact hS
        · rcases hS with rfl | hS
          · exact .inr h
          · exact .inr (Nat.lt_trans h hS)
      obtain ⟨f2, r2, S2, e2, h2⟩ := eqL_ok l l' S1 h1.wf (h1.yes rfl).1 hS1 (by simpa using hl) (fun z hz => hg z (by simp [hz])) (fun z hz => hg' z (by simp [hz])) (fun z hz z' hz' => h0 z (by simp [hz]) z' (by simp [hz'])) H
      refine ⟨max f1 f2, r2, S2, ?_, h2.wf, fun i hi hb => ?_, fun hr m hm hq => ?_, fun hr => ⟨(h2.yes hr).1, fun m => ?_, ?_⟩⟩
      · rw [eqL, eqP_mono (Nat.le_max_left f1 f2) e1]
        exact eqL_mono (fun S a b r h => eqP_mono (Nat.le_max_right f1 f2) h) _ _ _ _ e2
      · have h3 := h1.ext i hi hb
        have h4 := h2.ext i hi h3.1
        exact ⟨h4.1, h4.2.trans h3.2⟩
      · simp only [List.map_cons, List.cons.injEq] at hq
        exact h2.no hr m (((h1.yes rfl).2.1 m).2 ⟨hm, hq.1⟩) hq.2
      · rw [(h2.yes hr).2.1 m, (h1.yes rfl).2.1 m]
        simp only [List.map_cons, List.cons.injEq]
        exact ⟨fun ⟨⟨a, b⟩, c⟩ => ⟨a, b, c⟩, fun ⟨a, b, c⟩ => ⟨⟨a, b⟩, c⟩⟩
      · rcases (h2.yes hr).2.2 with h | h
        · rw [h]; exact (h1.yes rfl).2.2
        · rcases (h1.yes rfl).2.2 with h' | h'
          · rw [h'] at h; exact .inr h
          · exact .inr (Nat.lt_trans h h')
/-- How much is still to be done at two types. -/
def wgt (m : Int → PT) (a b : PT) : Nat := 2 * (a.rep m).size + 2 * (b.rep m).size + (if a.kind = 5 then 1 else 0) + (if b.kind = 5 then 1 else 0)
theorem rep_mkB (f : Int → PT) (k v : Int) (s : List PT) : (PT.mk k v s).rep f = if k = 5 then f v else .mk k 0 (s.map (PT.rep f)) := by rw [PT.rep, reps_map]
theorem rep_sub_size {m : Int → PT} {a x : PT} (hk : a.kind ≠ 5) (hx : x ∈ a.sub) : (x.rep m).size < (a.rep m).size := by
  cases a with
  | mk k v s =>
    simp only [PT.kind, PT.sub] at hk hx
    rw [rep_mkB, if_neg hk, size_eq (.mk k 0 _)]
    have := psz_mem (List.mem_map.2 ⟨x, hx, rfl⟩ : x.rep m ∈ s.map (PT.rep m))
    simp only [PT.sub]
    omega
theorem ev_ok {S : SS} (w : WF V S) (hac : ACY V S) {m : Int → PT} (hm : Mo V S m) {v : Int} {b : PT} (hv : v ∈ V) (hk : b.kind ≠ 5) (hg : GV V b)
    (h0 : ∀ x, GV V x → x.kind ≠ 5 → x.rep m = m v → ∃ f r S', eqP V f S x b = some (r, S') ∧ EqR V S (fun m => x.rep m = b.rep m) r S') :
    ∃ f r S', evP V (eqP V f) S v b = some (r, S') ∧ EqR V S (fun m => m v = b.rep m) r S' := by
  have hl := cls_lt w hv
  have hr := cls_fix w hv
  unfold evP
  cases hb : S.b (cls V S v) with
  | true =>
    obtain ⟨f, r, S', e, h⟩ := h0 (S.t (cls V S v)) (w.gv hl hb) (w.ok _ hl hb).1 (by rw [hm.cls w hv, hm.ty _ hl hr hb])
    exact ⟨f, r, S', by rw [if_pos rfl]; exact e, h.congr fun m' hm' => by rw [hm'.cls w hv, hm'.ty _ hl hr hb]⟩
  | false =>
    refine ⟨0, _, _, by rw [if_neg (by simp)], (bd_ok w hac hl hr hb hk hg).congr fun m' hm' => ?_⟩
    rw [hm'.cls w hv]
theorem eq_ok : ∀ (n : Nat) (S : SS), WF V S → ACY V S → unb V S ≤ n → ∀ a b, GV V a → GV V b → ∃ f r S', eqP V f S a b = some (r, S') ∧ EqR V S (fun m => a.rep m = b.rep m) r S' := by
  intro n
  induction n using Nat.strongRecOn with
  | ind n ihn =>
    intro S w hac hn
    have H : ∀ S', WF V S' → ACY V S' → unb V S' < unb V S → ∀ x y, GV V x → GV V y → ∃ f r S'', eqP V f S' x y = some (r, S'') ∧ EqR V S' (fun m => x.rep m = y.rep m) r S'' := fun S' w' h' hlt => ihn (unb V S') (by omega) S' w' h' (Nat.le_refl _)
    obtain ⟨m, hm⟩ := mdl_ex w hac
    have hmo := hm.mo w
    have key : ∀ (p : Nat) (a b : PT), GV V a → GV V b → wgt m a b ≤ p → ∃ f r S', eqP V f S a b = some (r, S') ∧ EqR V S (fun m => a.rep m = b.rep m) r S' := by
      intro p
      induction p with
      | zero =>
        intro a b _ _ h
        have := size_pos (a.rep m)
        unfold wgt at h
        omega
      | succ p ih =>
        intro a b ga gb hp
        by_cases hka : a.kind = 5
        · obtain ⟨v, rfl⟩ : ∃ v, a = vr v := ⟨_, good_var ga.c hka⟩
          have hv : v ∈ V := ga.v v (vin_vr.2 rfl)
          by_cases hkb : b.kind = 5
          · obtain ⟨u, rfl⟩ : ∃ v, b = vr v := ⟨_, good_var gb.c hkb⟩
            have hu : u ∈ V := gb.v u (vin_vr.2 rfl)
            obtain ⟨f, r, S', e, h⟩ := jn_ok w hac (cls_lt w hv) (cls_lt w hu) (cls_fix w hv) (cls_fix w hu) H
            refine ⟨f + 1, r, S', by rw [eqP, if_pos ⟨hka, hkb⟩]; exact e, h.congr fun m' hm' => ?_⟩
            rw [rep_vr, rep_vr, hm'.cls w hv, hm'.cls w hu]
          · obtain ⟨f, r, S', e, h⟩ := ev_ok w hac hmo hv hkb gb fun x gx hkx hx => ih x b gx gb (by
              unfold wgt at hp ⊢
              rw [rep_vr, ← hx, if_pos hka, if_neg hkb] at hp
              rw [if_neg hkx, if_neg hkb]
              omega)
            refine ⟨f + 1, r, S', by rw [eqP, if_neg (fun h => hkb h.2), if_neg hkb, if_pos hka]; exact e, h.congr fun m' hm' => ?_⟩
            rw [rep_vr]
        · by_cases hkb : b.kind = 5
          · obtain ⟨u, rfl⟩ : ∃ v, b = vr v := ⟨_, good_var gb.c hkb⟩
            have hu : u ∈ V := gb.v u (vin_vr.2 rfl)
            obtain ⟨f, r, S', e, h⟩ := ev_ok w hac hmo hu hka ga fun x gx hkx hx => ih x a gx ga (by
              unfold wgt at hp ⊢
              rw [rep_vr, ← hx, if_neg hka, if_pos hkb] at hp
              rw [if_neg hkx, if_neg hka]
              omega)
            refine ⟨f + 1, r, S', by rw [eqP, if_neg (fun h => hka h.1), if_pos hkb]; exact e, h.congr fun m' hm' => ?_⟩
            rw [rep_vr]
            exact eq_comm
          · by_cases hk : a.kind = b.kind
            · have hl : a.sub.length = b.sub.length := by rw [(cke_ok ga.c).1.n, (cke_ok gb.c).1.n, hk]
              obtain ⟨f, r, S', e, h⟩ := eqL_ok a.sub b.sub S w hac (.inl rfl) hl (fun x hx => ga.sub hx) (fun x hx => gb.sub hx) (fun x hx y hy => ih x y (ga.sub hx) (gb.sub hy) (by
                have h1 := rep_sub_size (m := m) hka hx
                have h2 := rep_sub_size (m := m) hkb hy
                unfold wgt at hp ⊢
                rw [if_neg hka, if_neg hkb] at hp
                split <;> split <;> omega)) H
              refine ⟨f + 1, r, S', by rw [eqP, if_neg (fun h => hka h.1), if_neg hkb, if_neg hka, if_neg (by simpa using hk)]; exact e, h.congr fun m' hm' => ?_⟩
              rw [rep_eq m' a, rep_eq m' b, if_neg hka, if_neg hkb, hk]
              simp
            · refine ⟨1, false, S, by rw [eqP, if_neg (fun h => hka h.1), if_neg hkb, if_neg hka, if_pos hk], w, fun i _ h => ⟨h, rfl⟩, fun _ m' _ hq => ?_, (fun h => by cases h)⟩
              rw [rep_eq m' a, rep_eq m' b, if_neg hka, if_neg hkb] at hq
              injection hq with h1
              exact hk h1
    exact fun a b ga gb => key _ a b ga gb (Nat.le_refl _)
end
end Go.Proofs.Ytjlmhfdigoogfaa

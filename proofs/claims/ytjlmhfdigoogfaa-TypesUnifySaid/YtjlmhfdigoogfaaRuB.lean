/- Plain: the reference's solver: what settings there are. -/
import Derived.Test.YtjlmhfdigoogfaaRuA
namespace Go.Proofs.Ytjlmhfdigoogfaa

/-- One class goes up to another. -/
def SS.jn (S : SS) (a b : Nat) : SS := ⟨S.up.set b a, S.is, S.ty⟩
/-- A class gets a type. -/
def SS.bd (S : SS) (c : Nat) (t : PT) : SS := ⟨S.up, S.is.set c true, S.ty.set c t⟩
section
variable {V : List Int} {S : SS}
theorem getD_setA {α : Type} {l : List α} {j k : Nat} {x z : α} (hj : j < l.length) : (l.set j x).getD k z = if k = j then x else l.getD k z := by
  rw [List.getD_eq_getElem?_getD, List.getD_eq_getElem?_getD, List.getElem?_set]
  by_cases h : j = k
  · subst h
    simp [hj]
  · rw [if_neg h, if_neg (Ne.symm h)]
theorem jn_u (w : WF V S) {a b : Nat} (hb : b < V.length) (i : Nat) : (S.jn a b).u i = if i = b then a else S.u i := getD_setA (by rw [w.lu]; exact hb)
theorem jn_b (S : SS) (a b i : Nat) : (S.jn a b).b i = S.b i := rfl
theorem jn_t (S : SS) (a b i : Nat) : (S.jn a b).t i = S.t i := rfl
theorem bd_u (S : SS) (c : Nat) (t : PT) (i : Nat) : (S.bd c t).u i = S.u i := rfl
theorem bd_b (w : WF V S) {c : Nat} (hc : c < V.length) (t : PT) (i : Nat) : (S.bd c t).b i = if i = c then true else S.b i := getD_setA (by rw [w.lb]; exact hc)
theorem bd_t (w : WF V S) {c : Nat} (hc : c < V.length) (t : PT) (i : Nat) : (S.bd c t).t i = if i = c then t else S.t i := getD_setA (by rw [w.lt]; exact hc)
/-- A type that a solver can have. -/
structure GV (V : List Int) (t : PT) : Prop where
  c : cke t = 0
  v : ∀ u, Vin u t → u ∈ V
theorem GV.sub {t x : PT} (h : GV V t) (hx : x ∈ t.sub) : GV V x := ⟨good_sub h.c hx, fun u hu => h.v u (vin_iff.2 (.inr ⟨x, hx, hu⟩))⟩
theorem WF.gv (w : WF V S) {i : Nat} (hi : i < V.length) (hb : S.b i = true) : GV V (S.t i) := ⟨(w.ok i hi hb).2.1, (w.ok i hi hb).2.2⟩
theorem WF.jn (w : WF V S) {a b : Nat} (hab : a < b) (hb : b < V.length) : WF V (S.jn a b) :=
  ⟨w.nd, by simp [SS.jn, w.lu], w.lb, w.lt, fun i hi => by
    rw [jn_u w hb]
    split
    · omega
    · exact w.up i hi, w.ok⟩
theorem WF.bd (w : WF V S) {c : Nat} {t : PT} (hc : c < V.length) (hk : t.kind ≠ 5) (hg : GV V t) : WF V (S.bd c t) :=
  ⟨w.nd, w.lu, by simp [SS.bd, w.lb], by simp [SS.bd, w.lt], w.up, fun i hi h => by
    rw [bd_t w hc]
    rw [bd_b w hc] at h
    by_cases e : i = c
    · rw [if_pos e]
      exact ⟨hk, hg.c, hg.v⟩
    · rw [if_neg e] at h ⊢
      exact w.ok i hi h⟩
theorem rootN_root {f i : Nat} (h : S.u i = i) : rootN S f i = i := by
  cases f with
  | zero => rfl
  | succ f => unfold rootN; rw [if_pos h]
theorem rootN_jn (w : WF V S) {a b : Nat} (hab : a < b) (hb : b < V.length) (ha : S.u a = a) (hub : S.u b = b) : ∀ (f i : Nat), i < V.length → i < f + 1 → rootN (S.jn a b) f i = if rootN S f i = b then a else rootN S f i
  | 0, i, hi, hf => by
    have : i = 0 := by omega
    subst this
    show 0 = if 0 = b then a else 0
    rw [if_neg (by omega)]
  | f + 1, i, hi, hf => by
    have haj : (S.jn a b).u a = a := by rw [jn_u w hb, if_neg (by omega)]; exact ha
    by_cases hib : i = b
    · subst hib
      rw [rootN_root hub, if_pos rfl]
      unfold rootN
      rw [jn_u w hb, if_pos rfl, if_neg (by omega)]
      exact rootN_root haj
    · unfold rootN
      rw [jn_u w hb, if_neg hib]
      by_cases hr : S.u i = i
      · rw [if_pos hr, if_pos hr, if_neg hib]
      · rw [if_neg hr, if_neg hr]
        have := w.up i hi
        exact rootN_jn w hab hb ha hub f _ (by omega) (by omega)
theorem cls_jn (w : WF V S) {a b : Nat} (hab : a < b) (hb : b < V.length) (ha : S.u a = a) (hub : S.u b = b) {n : Int} (hn : n ∈ V) : cls V (S.jn a b) n = if cls V S n = b then a else cls V S n :=
  rootN_jn w hab hb ha hub _ _ (vix_lt hn) (Nat.lt_succ_of_lt (vix_lt hn))
theorem rootN_same {S S' : SS} (h : ∀ i, S'.u i = S.u i) : ∀ (f i : Nat), rootN S' f i = rootN S f i
  | 0, _ => rfl
  | f + 1, i => by
    unfold rootN
    rw [h i, rootN_same h f]
theorem cls_bd (S : SS) (c : Nat) (t : PT) (n : Int) : cls V (S.bd c t) n = cls V S n := rootN_same (S := S) (S' := S.bd c t) (fun _ => rfl) _ _
/-- No class occurs, through others, in its own type. -/
def ACY (V : List Int) (S : SS) : Prop := ∃ ρ : Nat → Nat, ∀ i, i < V.length → S.u i = i → S.b i = true → ∀ u, Vin u (S.t i) → ρ (cls V S u) < ρ i
theorem acy_of_mo (w : WF V S) {m : Int → PT} (h : Mo V S m) : ACY V S := by
  refine ⟨fun i => (m (vat V i)).size, fun i hi hr hb u hu => ?_⟩
  have h1 := w.ok i hi hb
  have h2 := (vin_size (f := m) hu h1.2.1).2 h1.1
  show (m (vat V (cls V S u))).size < (m (vat V i)).size
  rw [← h.cls w (h1.2.2 u hu), h.ty i hi hr hb]
  exact h2
theorem sum_ge {f : Nat → Nat} : ∀ {n i : Nat}, i < n → f i ≤ ((List.range n).map f).sum
  | 0, i, h => by omega
  | n + 1, i, h => by
    rw [List.range_succ, List.map_append, List.sum_append]
    simp only [List.map_cons, List.map_nil, List.sum_cons, List.sum_nil, Nat.add_zero]
    rcases Nat.lt_succ_iff_lt_or_eq.1 h with h | rfl
    · have := sum_ge (f := f) h; omega
    · omega
open Classical in
theorem acy_step {S1 : SS} (w1 : WF V S1) (hac : ACY V S) {a : Nat} (ha : a < V.length)
    (h1 : ∀ i, i < V.length → S1.u i = i → i ≠ a → S1.b i = true → S.u i = i ∧ S.b i = true ∧ S1.t i = S.t i)
    (h2 : ∀ u, u ∈ V → cls V S1 u ≠ a → cls V S u = cls V S1 u) (hs : sndP V S1 a = true) : ACY V S1 := by
  obtain ⟨ρ, hρ⟩ := hac
  cases hb : S1.b a with
  | false =>
    refine ⟨fun i => if i = a then 0 else ρ i + 1, fun i hi hr hbi u hu => ?_⟩
    have hia : i ≠ a := by rintro rfl; rw [hb] at hbi; cases hbi
    obtain ⟨e1, e2, e3⟩ := h1 i hi hr hia hbi
    have huV := (w1.ok i hi hbi).2.2 u hu
    show (if cls V S1 u = a then 0 else ρ (cls V S1 u) + 1) < (if i = a then 0 else ρ i + 1)
    rw [if_neg hia]
    split
    · omega
    · rename_i hc
      rw [e3] at hu
      have := hρ i hi e1 e2 u hu
      rw [h2 u huV hc] at this
      omega
  | true =>
    obtain ⟨D, hDa, hD1, hD2⟩ := snd_yes w1 ha hs hb
    obtain ⟨B, hB⟩ : ∃ B, ∀ i, i < V.length → ρ i < B := ⟨((List.range V.length).map ρ).sum + 1, fun i hi => Nat.lt_succ_of_le (sum_ge hi)⟩
    refine ⟨fun i => if S1.b i = false then 0 else if i = a then B + 1 else if D i then ρ i + 1 else ρ i + B + 2, fun i hi hr hbi u hu => ?_⟩
    have huV := (w1.ok i hi hbi).2.2 u hu
    have hjl := cls_lt w1 huV
    have hBj := hB _ hjl
    show (if S1.b (cls V S1 u) = false then 0 else if cls V S1 u = a then B + 1 else if D (cls V S1 u) then ρ (cls V S1 u) + 1 else ρ (cls V S1 u) + B + 2) < (if S1.b i = false then 0 else if i = a then B + 1 else if D i then ρ i + 1 else ρ i + B + 2)
    rw [if_neg (show ¬ S1.b i = false by rw [hbi]; simp)]
    by_cases hjb : S1.b (cls V S1 u) = false
    · rw [if_pos hjb]
      split
      · omega
      · split <;> omega
    · rw [if_neg hjb]
      by_cases hia : i = a
      · subst hia
        rw [if_pos rfl]
        have h3 := hD1 u hu
        rw [if_neg h3.1, if_pos (h3.2.resolve_right hjb)]
        omega
      · rw [if_neg hia]
        obtain ⟨e1, e2, e3⟩ := h1 i hi hr hia hbi
        have hlt : cls V S1 u ≠ a → ρ (cls V S1 u) < ρ i := fun hc => by
          have := hρ i hi e1 e2 u (by rw [← e3]; exact hu)
          rwa [h2 u huV hc] at this
        by_cases hDi : D i
        · rw [if_pos hDi]
          have h3 := hD2 i hi hDi u hu
          rw [if_neg h3.1, if_pos (h3.2.resolve_right hjb)]
          have := hlt h3.1
          omega
        · rw [if_neg hDi]
          by_cases hja : cls V S1 u = a
          · rw [if_pos hja]
            omega
          · rw [if_neg hja]
            have := hlt hja
            split <;> omega
/-- The setting that a solver has. -/
structure Mdl (V : List Int) (S : SS) (m : Int → PT) : Prop where
  ty : ∀ v, v ∈ V → S.b (cls V S v) = true → m v = (S.t (cls V S v)).rep m
  fr : ∀ v, v ∈ V → S.b (cls V S v) = false → m v = vr (vat V (cls V S v))
  out : ∀ v, v ∉ V → m v = vr v
open Classical in
noncomputable def mF (V : List Int) (S : SS) : Nat → Int → PT
  | 0, v => vr v
  | n + 1, v => if v ∈ V then (if S.b (cls V S v) then (S.t (cls V S v)).rep (mF V S n) else vr (vat V (cls V S v))) else vr v
theorem mF_stab (w : WF V S) {ρ : Nat → Nat} (hρ : ∀ i, i < V.length → S.u i = i → S.b i = true → ∀ u, Vin u (S.t i) → ρ (cls V S u) < ρ i) : ∀ (n : Nat) (v : Int), v ∈ V → ρ (cls V S v) < n → mF V S (n + 1) v = mF V S n v
  | 0, v, _, h => absurd h (Nat.not_lt_zero _)
  | n + 1, v, hv, h => by
    rw [mF, mF, if_pos hv, if_pos hv]
    cases hb : S.b (cls V S v) with
    | false => rfl
    | true =>
      simp only [if_true]
      refine rep_congr fun u hu => ?_
      have hl := cls_lt w hv
      exact mF_stab w hρ n u ((w.ok _ hl hb).2.2 u hu) (by have := hρ _ hl (cls_fix w hv) hb u hu; omega)
theorem mdl_ex (w : WF V S) (h : ACY V S) : ∃ m, Mdl V S m := by
  obtain ⟨ρ, hρ⟩ := h
  obtain ⟨B, hB⟩ : ∃ B, ∀ i, i < V.length → ρ i < B := ⟨((List.range V.length).map ρ).sum + 1, fun i hi => Nat.lt_succ_of_le (sum_ge hi)⟩
  have key : ∀ v, v ∈ V → mF V S B v = if S.b (cls V S v) then (S.t (cls V S v)).rep (mF V S B) else vr (vat V (cls V S v)) := fun v hv => by
    rw [← mF_stab w hρ B v hv (hB _ (cls_lt w hv)), mF, if_pos hv]
  refine ⟨mF V S B, fun v hv hb => by rw [key v hv, if_pos hb], fun v hv hb => by rw [key v hv, if_neg (by rw [hb]; simp)], fun v hv => ?_⟩
  cases B with
  | zero => rfl
  | succ B => rw [mF, if_neg hv]
theorem cls_vat (w : WF V S) {i : Nat} (hi : i < V.length) : cls V S (vat V i) = rootN S V.length i := by
  unfold cls
  rw [vix_of w (vat_at hi)]
theorem Mdl.mo {m : Int → PT} (h : Mdl V S m) (w : WF V S) : Mo V S m := by
  have key : ∀ v v', v ∈ V → v' ∈ V → cls V S v = cls V S v' → m v = m v' := fun v v' hv hv' e => by
    cases hb : S.b (cls V S v) with
    | true => rw [h.ty v hv hb, h.ty v' hv' (by rw [← e]; exact hb), e]
    | false => rw [h.fr v hv hb, h.fr v' hv' (by rw [← e]; exact hb), e]
  refine ⟨fun i hi => ?_, fun i hi hr hb => ?_⟩
  · have hu := w.up i hi
    refine key _ _ (vat_mem hi) (vat_mem (by omega)) ?_
    rw [cls_vat w hi, cls_vat w (by omega)]
    by_cases e : S.u i = i
    · rw [e]
    · have h1 : rootN S (V.length + 1) i = rootN S V.length (S.u i) := by
        rw [rootN, if_neg e]
      rw [← h1]
      exact rootN_more w _ _ i hi (by omega) (by omega)
  · have e : cls V S (vat V i) = i := by rw [cls_vat w hi, rootN_root hr]
    have := h.ty (vat V i) (vat_mem hi) (by rw [e]; exact hb)
    rw [e] at this
    exact this
/-- Every setting that a solver lets comes of the one that it has. -/
theorem Mdl.gen {m : Int → PT} (h : Mdl V S m) (w : WF V S) {s : Int → PT} (hs : Mo V S s) : ∀ v, s v = (m v).rep s := by
  obtain ⟨ρ, hρ⟩ := acy_of_mo w (h.mo w)
  have key : ∀ (n : Nat) v, v ∈ V → ρ (cls V S v) < n → s v = (m v).rep s := by
    intro n
    induction n with
    | zero => intro v _ h; exact absurd h (Nat.not_lt_zero _)
    | succ n ih =>
      intro v hv hn
      have hl := cls_lt w hv
      rw [hs.cls w hv]
      cases hb : S.b (cls V S v) with
      | false => rw [h.fr v hv hb, rep_vr]
      | true =>
        rw [h.ty v hv hb, rep_comp, hs.ty _ hl (cls_fix w hv) hb]
        exact rep_congr fun u hu => ih u ((w.ok _ hl hb).2.2 u hu) (by have := hρ _ hl (cls_fix w hv) hb u hu; omega)
  intro v
  by_cases hv : v ∈ V
  · exact key _ v hv (Nat.lt_succ_self _)
  · rw [h.out v hv, rep_vr]
end
end Go.Proofs.Ytjlmhfdigoogfaa

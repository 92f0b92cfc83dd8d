/- Plain: the reference's solver: classes, and what occurs in a type. -/
import Derived.Test.YtjlmhfdigoogfaaM5
namespace Go.Proofs.Ytjlmhfdigoogfaa

/-- The reference's solver, but for its variables. -/
structure SS where
  up : List Nat
  is : List Bool
  ty : List PT
def SS.u (S : SS) (i : Nat) : Nat := S.up.getD i 0
def SS.b (S : SS) (i : Nat) : Bool := S.is.getD i false
def SS.t (S : SS) (i : Nat) : PT := S.ty.getD i (.mk 0 0 [])
/-- Where a variable stands. -/
def vix (V : List Int) (n : Int) : Nat := V.idxOf n
/-- Up to the class. -/
def rootN (S : SS) : Nat → Nat → Nat
  | 0, i => i
  | f + 1, i => if S.u i = i then i else rootN S f (S.u i)
def cls (V : List Int) (S : SS) (n : Int) : Nat := rootN S V.length (vix V n)
/-- A solver that is well formed. -/
structure WF (V : List Int) (S : SS) : Prop where
  nd : V.Nodup
  lu : S.up.length = V.length
  lb : S.is.length = V.length
  lt : S.ty.length = V.length
  up : ∀ i, i < V.length → S.u i ≤ i
  ok : ∀ i, i < V.length → S.b i = true → (S.t i).kind ≠ 5 ∧ cke (S.t i) = 0 ∧ ∀ u, Vin u (S.t i) → u ∈ V
section
variable {V : List Int} {S : SS}
theorem rootN_le (h : WF V S) : ∀ (f i : Nat), i < V.length → rootN S f i ≤ i
  | 0, i, _ => Nat.le_refl _
  | f + 1, i, hi => by
    unfold rootN
    split
    · exact Nat.le_refl _
    · have := h.up i hi
      exact Nat.le_trans (rootN_le h f _ (by omega)) this
theorem rootN_fix (h : WF V S) : ∀ (f i : Nat), i < V.length → i < f + 1 → S.u (rootN S f i) = rootN S f i
  | 0, i, hi, hf => by
    have := h.up i hi
    show S.u i = i
    omega
  | f + 1, i, hi, hf => by
    unfold rootN
    split
    · assumption
    · have h1 := h.up i hi
      exact rootN_fix h f _ (by omega) (by omega)
theorem rootN_more (h : WF V S) : ∀ (f g i : Nat), i < V.length → i < f + 1 → i < g + 1 → rootN S f i = rootN S g i
  | 0, 0, i, _, _, _ => rfl
  | 0, g + 1, i, hi, hf, _ => by
    have := h.up i hi
    have h0 : i = 0 := by omega
    subst h0
    unfold rootN
    rw [if_pos (by omega)]
  | f + 1, 0, i, hi, _, hg => by
    have := h.up i hi
    have h0 : i = 0 := by omega
    subst h0
    unfold rootN
    rw [if_pos (by omega)]
  | f + 1, g + 1, i, hi, hf, hg => by
    unfold rootN
    split
    · rfl
    · have h1 := h.up i hi
      exact rootN_more h f g _ (by omega) (by omega) (by omega)
theorem vix_lt {n : Int} (h : n ∈ V) : vix V n < V.length := List.idxOf_lt_length_iff.2 h
theorem vix_at {n : Int} (h : n ∈ V) : V[vix V n]? = some n := by
  have h1 := vix_lt h
  rw [List.getElem?_eq_getElem h1]
  exact congrArg some (List.getElem_idxOf h1)
theorem nodup_inj {α : Type} {l : List α} (h : l.Nodup) {i j : Nat} {x : α} (hi : l[i]? = some x) (hj : l[j]? = some x) : i = j := by
  obtain ⟨l1, e1⟩ := List.getElem?_eq_some_iff.1 hi
  obtain ⟨l2, e2⟩ := List.getElem?_eq_some_iff.1 hj
  have hp := List.pairwise_iff_getElem.1 h
  rcases Nat.lt_trichotomy i j with h1 | h1 | h1
  · exact absurd (e1.trans e2.symm) (hp i j l1 l2 h1)
  · exact h1
  · exact absurd (e2.trans e1.symm) (hp j i l2 l1 h1)
theorem vix_of (h : WF V S) {i : Nat} {n : Int} (e : V[i]? = some n) : vix V n = i := by
  have hm : n ∈ V := List.mem_of_getElem? e
  exact nodup_inj h.nd (vix_at hm) e
theorem cls_lt (h : WF V S) {n : Int} (hn : n ∈ V) : cls V S n < V.length := Nat.lt_of_le_of_lt (rootN_le h _ _ (vix_lt hn)) (vix_lt hn)
theorem cls_le (h : WF V S) {n : Int} (hn : n ∈ V) : cls V S n ≤ vix V n := rootN_le h _ _ (vix_lt hn)
theorem cls_fix (h : WF V S) {n : Int} (hn : n ∈ V) : S.u (cls V S n) = cls V S n := rootN_fix h _ _ (vix_lt hn) (Nat.lt_succ_of_lt (vix_lt hn))
end
/-- The variable at a place. -/
def vat (V : List Int) (i : Nat) : Int := V.getD i 0
/-- A setting that a solver lets. -/
structure Mo (V : List Int) (S : SS) (m : Int → PT) : Prop where
  up : ∀ i, i < V.length → m (vat V i) = m (vat V (S.u i))
  ty : ∀ i, i < V.length → S.u i = i → S.b i = true → m (vat V i) = (S.t i).rep m
section
variable {V : List Int} {S : SS} {m : Int → PT}
theorem vat_vix {n : Int} (h : n ∈ V) : vat V (vix V n) = n := by
  unfold vat
  rw [List.getD_eq_getElem?_getD, vix_at h]
  rfl
theorem vat_mem {i : Nat} (h : i < V.length) : vat V i ∈ V := by
  unfold vat
  rw [List.getD_eq_getElem?_getD, List.getElem?_eq_getElem h]
  exact List.getElem_mem h
theorem vat_at {i : Nat} (h : i < V.length) : V[i]? = some (vat V i) := by
  unfold vat
  rw [List.getD_eq_getElem?_getD, List.getElem?_eq_getElem h]
  rfl
theorem Mo.root (h : Mo V S m) (w : WF V S) : ∀ (f i : Nat), i < V.length → m (vat V i) = m (vat V (rootN S f i))
  | 0, i, _ => rfl
  | f + 1, i, hi => by
    unfold rootN
    split
    · rfl
    · rw [h.up i hi]
      have := w.up i hi
      exact h.root w f _ (by omega)
theorem Mo.cls (h : Mo V S m) (w : WF V S) {n : Int} (hn : n ∈ V) : m n = m (vat V (cls V S n)) := by
  have := h.root w V.length (vix V n) (vix_lt hn)
  rw [vat_vix hn] at this
  exact this
end

mutual
/-- Does a class occur in a type? -/
def insT (c : Nat) (cl : Int → Nat) (st : Nat → Bool) (f : Nat → List Bool → Option (Bool × List Bool)) : PT → List Bool → Option (Bool × List Bool)
  | .mk k v s, d =>
    if k = 5 then
      (if cl v = c then some (true, d) else if d.getD (cl v) false || !st (cl v) then some (false, d) else f (cl v) (d.set (cl v) true))
    else insL c cl st f s d
def insL (c : Nat) (cl : Int → Nat) (st : Nat → Bool) (f : Nat → List Bool → Option (Bool × List Bool)) : List PT → List Bool → Option (Bool × List Bool)
  | [], d => some (false, d)
  | x :: l, d => match insT c cl st f x d with
    | some (true, d') => some (true, d')
    | some (false, d') => insL c cl st f l d'
    | none => none
end
def insP (V : List Int) (S : SS) (c : Nat) : Nat → PT → List Bool → Option (Bool × List Bool)
  | 0, _, _ => none
  | n + 1, t, d => insT c (cls V S) S.b (fun j d => insP V S c n (S.t j) d) t d
/-- How many classes have not been examined. -/
def und (d : List Bool) : Nat := d.count false
theorem und_set {d : List Bool} {j : Nat} (hj : j < d.length) (h : d.getD j false = false) : und (d.set j true) + 1 = und d := by
  unfold und
  have h2 : d[j] = false := by rw [List.getD_eq_getElem?_getD, List.getElem?_eq_getElem hj] at h; exact h
  have h3 := List.count_set (a := true) (b := false) (l := d) (i := j) hj
  rw [h3, h2]
  simp
  have : 0 < d.count false := List.count_pos_iff.2 (by rw [← h2]; exact List.getElem_mem hj)
  omega
/-- What the variables of a type lead to is examined, and is not the class. -/
def Ok2 (V : List Int) (S : SS) (c : Nat) (t : PT) (d : List Bool) : Prop := ∀ u, Vin u t → cls V S u ≠ c ∧ (d.getD (cls V S u) false = true ∨ S.b (cls V S u) = false)
/-- What the search leaves. -/
structure InsR (V : List Int) (S : SS) (c : Nat) (t : PT) (d : List Bool) (r : Bool) (d' : List Bool) : Prop where
  len : d'.length = d.length
  mono : ∀ k, d.getD k false = true → d'.getD k false = true
  und : und d' ≤ und d
  own : d'.getD c false = d.getD c false
  yes : r = true → S.u c = c ∧ ∀ m, Mo V S m → (m (vat V c)).size ≤ (t.rep m).size ∧ (t.kind ≠ 5 → (m (vat V c)).size < (t.rep m).size)
  no : r = false → Ok2 V S c t d' ∧ ∀ k, k < V.length → d'.getD k false = true → d.getD k false = false → Ok2 V S c (S.t k) d'
theorem Ok2.mono {V : List Int} {S : SS} {c : Nat} {t : PT} {d d' : List Bool} (h : Ok2 V S c t d) (hm : ∀ k, d.getD k false = true → d'.getD k false = true) : Ok2 V S c t d' := fun u hu => ⟨(h u hu).1, (h u hu).2.imp (hm _) id⟩
theorem getD_set {d : List Bool} {j k : Nat} {b : Bool} (hj : j < d.length) : (d.set j b).getD k false = if k = j then b else d.getD k false := by
  rw [List.getD_eq_getElem?_getD, List.getD_eq_getElem?_getD, List.getElem?_set]
  by_cases h : j = k
  · subst h
    simp [hj]
  · rw [if_neg h, if_neg (Ne.symm h)]
theorem insL_ok {V : List Int} {S : SS} {c : Nat} {f : Nat → List Bool → Option (Bool × List Bool)} {U : Nat} (s : List PT)
    (ih : ∀ x ∈ s, ∀ d, d.length = V.length → und d ≤ U → ∃ r d', insT c (cls V S) S.b f x d = some (r, d') ∧ InsR V S c x d r d') :
    ∀ d, d.length = V.length → und d ≤ U → ∃ r d', insL c (cls V S) S.b f s d = some (r, d') ∧ (∀ k v, k ≠ 5 → InsR V S c (.mk k v s) d r d') := by
  induction s with
  | nil =>
    intro d hl hu
    refine ⟨false, d, by rw [insL], fun k v hk => ⟨rfl, fun _ h => h, Nat.le_refl _, rfl, (fun h => by cases h), fun _ => ⟨fun u hv => ?_, fun j _ h1 h2 => by rw [h1] at h2; cases h2⟩⟩⟩
    rw [vin_iff] at hv
    rcases hv with ⟨h, -⟩ | ⟨x, hx, -⟩
    · exact absurd h hk
    · cases hx
  | cons x l ihl =>
    intro d hl hu
    obtain ⟨r1, d1, e1, h1⟩ := ih x (by simp) d hl hu
    rw [insL, e1]
    cases r1 with
    | true =>
      refine ⟨true, d1, rfl, fun k v hk => ⟨h1.len, h1.mono, h1.und, h1.own, fun _ => ⟨(h1.yes rfl).1, fun m hm => ?_⟩, (fun h => by cases h)⟩⟩
      have h2 := ((h1.yes rfl).2 m hm).1
      have h3 : ((PT.mk k v (x :: l)).rep m).size = 1 + ((x.rep m).size + psz (l.map (PT.rep m))) := by
        rw [PT.rep, reps_map, if_neg hk, size_eq]
        simp [PT.sub]
      rw [h3]
      exact ⟨by omega, fun _ => by omega⟩
    | false =>
      obtain ⟨r2, d2, e2, h2⟩ := ihl (fun y hy => ih y (by simp [hy])) d1 (h1.len.trans hl) (Nat.le_trans h1.und hu)
      refine ⟨r2, d2, e2, fun k v hk => ?_⟩
      have h2 := h2 k v hk
      refine ⟨h2.len.trans h1.len, fun j hj => h2.mono j (h1.mono j hj), Nat.le_trans h2.und h1.und, h2.own.trans h1.own, fun hr => ⟨(h2.yes hr).1, fun m hm => ?_⟩, fun hr => ⟨fun u hv => ?_, fun j hj hd2 hd => ?_⟩⟩
      · have h4 := ((h2.yes hr).2 m hm).2 hk
        have h5 : ((PT.mk k v l).rep m).size = 1 + psz (l.map (PT.rep m)) := by
          rw [PT.rep, reps_map, if_neg hk, size_eq]
          simp [PT.sub]
        have h3 : ((PT.mk k v (x :: l)).rep m).size = 1 + ((x.rep m).size + psz (l.map (PT.rep m))) := by
          rw [PT.rep, reps_map, if_neg hk, size_eq]
          simp [PT.sub]
        rw [h3]
        rw [h5] at h4
        exact ⟨by omega, fun _ => by omega⟩
      · rw [vin_iff] at hv
        rcases hv with ⟨h, -⟩ | ⟨y, hy, hv⟩
        · exact absurd h hk
        · simp only [PT.sub, List.mem_cons] at hy
          rcases hy with rfl | hy
          · exact ((h1.no rfl).1.mono h2.mono) u hv
          · exact (h2.no hr).1 u (vin_iff.2 (.inr ⟨y, hy, hv⟩))
      · cases hq : d1.getD j false with
        | true => exact ((h1.no rfl).2 j hj hq hd).mono h2.mono
        | false => exact (h2.no hr).2 j hj hd2 hq
theorem insT_ok {V : List Int} {S : SS} (w : WF V S) {c : Nat} {f : Nat → List Bool → Option (Bool × List Bool)} {U : Nat}
    (hf : ∀ j, j < V.length → S.b j = true → S.u j = j → j ≠ c → ∀ d, d.length = V.length → und d < U → ∃ r d', f j d = some (r, d') ∧ InsR V S c (S.t j) d r d') :
    ∀ t : PT, cke t = 0 → (∀ u, Vin u t → u ∈ V) → ∀ d, d.length = V.length → und d ≤ U → ∃ r d', insT c (cls V S) S.b f t d = some (r, d') ∧ InsR V S c t d r d' := by
  intro t
  induction t using PT.ind with
  | h k v s ih =>
    intro hg hv d hl hu
    rw [insT]
    by_cases hk : k = 5
    · subst hk
      rw [if_pos rfl]
      have hone : ∀ u, Vin u (.mk 5 v s) → u = v := fun u hu => by
        rw [good_var hg rfl] at hu
        exact vin_vr.1 hu
      have hin : v ∈ V := hv v (vin_iff.2 (.inl ⟨rfl, rfl⟩))
      have hrep : ∀ m, (PT.mk 5 v s).rep m = m v := fun m => by rw [PT.rep, if_pos rfl]
      have hlt := cls_lt w hin
      have hfx := cls_fix w hin
      by_cases hc : cls V S v = c
      · rw [if_pos hc]
        refine ⟨true, d, rfl, rfl, fun _ h => h, Nat.le_refl _, rfl, fun _ => ⟨by rw [← hc]; exact hfx, fun m hm => ⟨?_, fun h => absurd rfl h⟩⟩, (fun h => by cases h)⟩
        rw [hrep, hm.cls w hin, hc]
        exact Nat.le_refl _
      · rw [if_neg hc]
        by_cases hd : (d.getD (cls V S v) false || !S.b (cls V S v)) = true
        · rw [if_pos hd]
          refine ⟨false, d, rfl, rfl, fun _ h => h, Nat.le_refl _, rfl, (fun h => by cases h), fun _ => ⟨fun u hu => ?_, fun j _ h1 h2 => by rw [h1] at h2; cases h2⟩⟩
          have hs : u = v := hone u hu
          subst hs
          refine ⟨hc, ?_⟩
          simp only [Bool.or_eq_true, Bool.not_eq_true'] at hd
          exact hd
        · rw [if_neg hd]
          simp only [Bool.or_eq_true, Bool.not_eq_true', not_or, Bool.not_eq_true, Bool.not_eq_false] at hd
          obtain ⟨hd1, hb⟩ := hd
          generalize hj : cls V S v = j at *
          have hjd : j < d.length := by omega
          have hus := und_set hjd hd1
          obtain ⟨r, d', e, h⟩ := hf j hlt hb hfx hc (d.set j true) (by simpa using hl) (by omega)
          have hm1 : ∀ k, d.getD k false = true → (d.set j true).getD k false = true := fun k hk => by
            rw [getD_set hjd]
            split
            · rfl
            · exact hk
          have hj1 : (d.set j true).getD j false = true := by rw [getD_set hjd, if_pos rfl]
          refine ⟨r, d', e, by rw [h.len]; simp, fun k hk => h.mono k (hm1 k hk), by have := h.und; omega, by rw [h.own, getD_set hjd, if_neg (Ne.symm hc)], fun hr => ⟨(h.yes hr).1, fun m hm => ⟨?_, fun h => absurd rfl h⟩⟩, fun hr => ⟨fun u hu => ?_, fun k hk h1 h2 => ?_⟩⟩
          · rw [hrep, hm.cls w hin, hj, hm.ty j hlt hfx hb]
            exact ((h.yes hr).2 m hm).1
          · rw [hone u hu, hj]
            exact ⟨hc, .inl (h.mono j hj1)⟩
          · by_cases hkj : k = j
            · subst hkj
              exact (h.no hr).1
            · exact (h.no hr).2 k hk h1 (by rw [getD_set hjd, if_neg hkj]; exact h2)
    · rw [if_neg hk]
      obtain ⟨r, d', e, h⟩ := insL_ok s (fun x hx d hl hu => ih x hx (good_sub hg hx) (fun u hu' => hv u (vin_iff.2 (.inr ⟨x, hx, hu'⟩))) d hl hu) d hl hu
      exact ⟨r, d', e, h k v hk⟩
theorem insP_ok {V : List Int} {S : SS} (w : WF V S) {c : Nat} : ∀ (n : Nat) (t : PT), cke t = 0 → (∀ u, Vin u t → u ∈ V) → ∀ d, d.length = V.length → und d ≤ n → ∃ r d', insP V S c (n + 1) t d = some (r, d') ∧ InsR V S c t d r d'
  | 0, t, hg, hv, d, hl, hu => by
    have h := insT_ok w (c := c) (f := fun j d => insP V S c 0 (S.t j) d) (U := 0) (fun j _ _ _ _ d _ h => absurd h (Nat.not_lt_zero _)) t hg hv d hl hu
    rw [insP]
    exact h
  | n + 1, t, hg, hv, d, hl, hu => by
    have h := insT_ok w (c := c) (f := fun j d => insP V S c (n + 1) (S.t j) d) (U := n + 1) (fun j hj hb _ _ d hl h => insP_ok w n (S.t j) (w.ok j hj hb).2.1 (w.ok j hj hb).2.2 d hl (by omega)) t hg hv d hl hu
    rw [insP]
    exact h
/-- A class does not occur in its own type. -/
def sndP (V : List Int) (S : SS) (c : Nat) : Bool := !S.b c || !((insP V S c (V.length + 1) (S.t c) (List.replicate V.length false)).map (·.1)).getD true
theorem und_new (n : Nat) : und (List.replicate n false) = n := by unfold und; simp
theorem getD_new (n k : Nat) : (List.replicate n false).getD k false = false := by
  rw [List.getD_eq_getElem?_getD, List.getElem?_replicate]
  split <;> rfl
/-- What follows where a class does not occur in its type. -/
theorem snd_yes {V : List Int} {S : SS} (w : WF V S) {c : Nat} (hc : c < V.length) (h : sndP V S c = true) (hb : S.b c = true) : ∃ d : Nat → Prop, ¬ d c ∧ (∀ u, Vin u (S.t c) → cls V S u ≠ c ∧ (d (cls V S u) ∨ S.b (cls V S u) = false)) ∧ ∀ k, k < V.length → d k → ∀ u, Vin u (S.t k) → cls V S u ≠ c ∧ (d (cls V S u) ∨ S.b (cls V S u) = false) := by
  obtain ⟨r, d', e, h2⟩ := insP_ok w (c := c) V.length (S.t c) (w.ok c hc hb).2.1 (w.ok c hc hb).2.2 (List.replicate V.length false) (by simp) (by rw [und_new]; exact Nat.le_refl _)
  unfold sndP at h
  rw [hb, e] at h
  simp only [Bool.not_true, Bool.false_or, Option.map_some, Option.getD_some, Bool.not_eq_true'] at h
  subst h
  have h3 := h2.no rfl
  refine ⟨fun k => d'.getD k false = true, ?_, h3.1, fun k hk hd => h3.2 k hk hd (getD_new _ _)⟩
  show ¬ d'.getD c false = true
  rw [h2.own, getD_new]
  simp
theorem snd_no {V : List Int} {S : SS} (w : WF V S) {c : Nat} (hc : c < V.length) (h : sndP V S c = false) : S.b c = true ∧ S.u c = c ∧ ∀ m, ¬ Mo V S m := by
  unfold sndP at h
  simp only [Bool.or_eq_false_iff, Bool.not_eq_false'] at h
  obtain ⟨hb, h⟩ := h
  obtain ⟨r, d', e, h2⟩ := insP_ok w (c := c) V.length (S.t c) (w.ok c hc hb).2.1 (w.ok c hc hb).2.2 (List.replicate V.length false) (by simp) (by rw [und_new]; exact Nat.le_refl _)
  rw [e] at h
  simp only [Option.map_some, Option.getD_some] at h
  subst h
  have h3 := h2.yes rfl
  refine ⟨hb, h3.1, fun m hm => ?_⟩
  have h4 := (h3.2 m hm).2 (w.ok c hc hb).1
  rw [hm.ty c hc h3.1 hb] at h4
  exact Nat.lt_irrefl _ h4
theorem snd_of_mo {V : List Int} {S : SS} (w : WF V S) {c : Nat} (hc : c < V.length) {m : Int → PT} (hm : Mo V S m) : sndP V S c = true := by
  cases h : sndP V S c with
  | true => rfl
  | false => exact absurd hm ((snd_no w hc h).2.2 m)
end Go.Proofs.Ytjlmhfdigoogfaa

/- Plain: what the reference's Unify answers. -/
import Derived.Test.YtjlmhfdigoogfaaRuC
namespace Go.Proofs.Ytjlmhfdigoogfaa

/-- The types of a list with all classes replaced, up to a limit. -/
def flL (g : PT → Nat → Option (PT × Nat)) (L : Nat) : List PT → Nat → List PT → Option (List PT × Nat)
  | [], n, acc => some (acc, n)
  | x :: l, n, acc => if n ≤ L then (match g x (L - n) with
      | some (y, k) => flL g L l (n + k) (acc ++ [y])
      | none => none) else some (acc, n)
/-- A type with all classes replaced, up to a limit. -/
def flP (V : List Int) (S : SS) : Nat → PT → Nat → Option (PT × Nat)
  | 0, _, _ => none
  | f + 1, t, L =>
    if t.kind = 5 then (if S.b (cls V S t.var) = true then flP V S f (S.t (cls V S t.var)) L else some (vr (vat V (cls V S t.var)), 1))
    else match flL (flP V S f) L t.sub 1 [] with
      | some (s, n) => some (.mk t.kind 0 s, n)
      | none => none
section
variable {V : List Int} {S : SS}
theorem flL_mono {g g' : PT → Nat → Option (PT × Nat)} (h : ∀ t L r, g t L = some r → g' t L = some r) {L : Nat} : ∀ (l : List PT) (n : Nat) (acc : List PT) (r : List PT × Nat), flL g L l n acc = some r → flL g' L l n acc = some r
  | [], _, _, _, e => by rw [flL] at e ⊢; exact e
  | x :: l, n, acc, r, e => by
    rw [flL] at e ⊢
    split
    · rename_i h1
      rw [if_pos h1] at e
      cases hq : g x (L - n) with
      | none => rw [hq] at e; cases e
      | some p =>
        rw [hq] at e
        rw [h _ _ _ hq]
        exact flL_mono h l _ _ _ e
    · rename_i h1
      rw [if_neg h1] at e
      exact e
theorem flP_succ : ∀ (f : Nat) (t : PT) (L : Nat) (r : PT × Nat), flP V S f t L = some r → flP V S (f + 1) t L = some r
  | 0, _, _, _, e => by cases e
  | f + 1, t, L, r, e => by
    have h := flP_succ f
    rw [flP] at e ⊢
    split
    · rename_i h1
      rw [if_pos h1] at e
      split
      · rename_i h2; rw [if_pos h2] at e; exact h _ _ _ e
      · rename_i h2; rw [if_neg h2] at e; exact e
    · rename_i h1
      rw [if_neg h1] at e
      cases hq : flL (flP V S f) L t.sub 1 [] with
      | none => rw [hq] at e; cases e
      | some p => rw [hq] at e; rw [flL_mono h _ _ _ _ hq]; exact e
theorem flP_mono {f f' : Nat} (h : f ≤ f') {t : PT} {L : Nat} {r : PT × Nat} (e : flP V S f t L = some r) : flP V S f' t L = some r := by
  induction h with
  | refl => exact e
  | step _ ih => exact flP_succ _ _ _ _ ih
/-- A type that was replaced in whole, if it is not too great. -/
structure FlR (m : Int → PT) (t : PT) (L : Nat) (x : PT) (k : Nat) : Prop where
  k : k = min (t.rep m).size (L + 1)
  x : (t.rep m).size ≤ L → x = t.rep m
theorem flL_ok {m : Int → PT} {L : Nat} : ∀ (l : List PT) (n : Nat) (acc done : List PT), acc = done.map (PT.rep m) → n = 1 + psz acc → n ≤ L + 1 →
    (∀ x ∈ l, ∀ L', ∃ f y k, flP V S f x L' = some (y, k) ∧ FlR m x L' y k) →
    ∃ f s k, flL (flP V S f) L l n acc = some (s, k) ∧ k = min (n + psz (l.map (PT.rep m))) (L + 1) ∧ (n + psz (l.map (PT.rep m)) ≤ L → s = (done ++ l).map (PT.rep m))
  | [], n, acc, done, ha, _, hL, _ => ⟨0, acc, n, by rw [flL], by simp; omega, fun _ => by rw [ha]; simp⟩
  | x :: l, n, acc, done, ha, hn, hL, H => by
    by_cases h : n ≤ L
    · obtain ⟨f1, y, k, e1, h1⟩ := H x (by simp) (L - n)
      have hk := h1.k
      have hx := size_pos (x.rep m)
      simp only [List.map_cons, psz_cons]
      by_cases hs : (x.rep m).size ≤ L - n
      · have hy := h1.x hs
        obtain ⟨f2, s, k2, e2, h2, h3⟩ := flL_ok (L := L) l (n + k) (acc ++ [y]) (done ++ [x]) (by rw [ha, hy]; simp) (by rw [hn, psz_append, hy]; simp; omega) (by omega) (fun z hz => H z (by simp [hz]))
        refine ⟨max f1 f2, s, k2, ?_, by rw [h2]; congr 1; omega, fun hle => by rw [h3 (by omega)]; simp⟩
        rw [flL, if_pos h, flP_mono (Nat.le_max_left f1 f2) e1]
        exact flL_mono (fun t L r h => flP_mono (Nat.le_max_right f1 f2) h) _ _ _ _ e2
      · -- too great: the rest is not read
        have hkk : n + k = L + 1 := by omega
        refine ⟨f1, acc ++ [y], n + k, ?_, by omega, fun hle => by omega⟩
        rw [flL, if_pos h, e1]
        simp only
        cases l with
        | nil => rw [flL]
        | cons z l => rw [flL, if_neg (by omega)]
    · refine ⟨0, acc, n, by rw [flL, if_neg h], ?_, fun hle => ?_⟩
      · omega
      · omega
theorem fl_ok (w : WF V S) {m : Int → PT} (hm : Mdl V S m) : ∀ (p : Nat) (t : PT), GV V t → 2 * (t.rep m).size + (if t.kind = 5 then 1 else 0) ≤ p → ∀ L, ∃ f x k, flP V S f t L = some (x, k) ∧ FlR m t L x k := by
  intro p
  induction p with
  | zero =>
    intro t _ h
    have := size_pos (t.rep m)
    omega
  | succ p ih =>
    intro t gt hp L
    by_cases hk : t.kind = 5
    · obtain ⟨v, rfl⟩ : ∃ v, t = vr v := ⟨_, good_var gt.c hk⟩
      have hv : v ∈ V := gt.v v (vin_vr.2 rfl)
      have hl := cls_lt w hv
      rw [if_pos hk, rep_vr] at hp
      cases hb : S.b (cls V S v) with
      | true =>
        have e := hm.ty v hv hb
        obtain ⟨f, x, k, e1, h1⟩ := ih (S.t (cls V S v)) (w.gv hl hb) (by rw [if_neg (w.ok _ hl hb).1, ← e]; omega) L
        refine ⟨f + 1, x, k, ?_, by rw [rep_vr, e]; exact h1.k, fun h => by rw [rep_vr, e]; rw [rep_vr, e] at h; exact h1.x h⟩
        rw [flP, if_pos hk]
        show (if S.b (cls V S v) = true then _ else _) = _
        rw [if_pos hb]
        exact e1
      | false =>
        have e := hm.fr v hv hb
        refine ⟨1, vr (vat V (cls V S v)), 1, ?_, by rw [rep_vr, e]; simp [vr, PT.size], fun _ => by rw [rep_vr, e]⟩
        rw [flP, if_pos hk]
        show (if S.b (cls V S v) = true then _ else _) = _
        rw [if_neg (by rw [hb]; simp)]
        rfl
    · rw [if_neg hk] at hp
      obtain ⟨f, s, k, e, h1, h2⟩ := flL_ok (V := V) (S := S) (m := m) (L := L) t.sub 1 [] [] rfl (by simp) (by omega) (fun x hx => ih x (gt.sub hx) (by
        have := rep_sub_size (m := m) hk hx
        split <;> omega))
      have hs : (t.rep m).size = 1 + psz (t.sub.map (PT.rep m)) := by
        rw [rep_eq m t, if_neg hk, size_eq]
        rfl
      refine ⟨f + 1, .mk t.kind 0 s, k, ?_, by rw [hs]; exact h1, fun h => ?_⟩
      · rw [flP, if_neg hk, e]
      · rw [hs] at h
        rw [h2 h, rep_eq m t, if_neg hk]
        simp
end
/-- The solver at the beginning. -/
def SS0 (V : List Int) : SS := ⟨List.range V.length, List.replicate V.length false, List.replicate V.length (.mk 0 0 [])⟩
theorem ss0_u (V : List Int) {i : Nat} (h : i < V.length) : (SS0 V).u i = i := by
  unfold SS.u SS0
  rw [List.getD_eq_getElem?_getD, List.getElem?_range h]
  rfl
theorem ss0_b (V : List Int) (i : Nat) : (SS0 V).b i = false := getD_new _ _
theorem ss0_wf {V : List Int} (h : V.Nodup) : WF V (SS0 V) :=
  ⟨h, by simp [SS0], by simp [SS0], by simp [SS0], fun i hi => by rw [ss0_u V hi]; exact Nat.le_refl _, fun i _ hb => by rw [ss0_b] at hb; cases hb⟩
theorem ss0_mo (V : List Int) (m : Int → PT) : Mo V (SS0 V) m := ⟨fun i hi => by rw [ss0_u V hi], fun i _ _ hb => by rw [ss0_b] at hb; cases hb⟩
/-- The variables of two types, ascending. -/
def uvs (a b : PT) : List Int := ascd (sn (sn [] a) b)
theorem uvs_mem {a b : PT} {n : Int} : n ∈ uvs a b ↔ Vab a b n := by
  unfold uvs
  rw [(ascd_perm _).mem_iff, mem_sn, mem_sn]
  simp [Vab]
theorem uvs_nodup (a b : PT) : (uvs a b).Nodup := (ascd_perm _).nodup_iff.2 (nodup_fold_adv b.pre _ (nodup_fold_adv a.pre [] List.nodup_nil))
theorem uvs_gv {a b : PT} (ha : cke a = 0) (hb : cke b = 0) : GV (uvs a b) a ∧ GV (uvs a b) b := ⟨⟨ha, fun _ hu => uvs_mem.2 (.inl hu)⟩, ⟨hb, fun _ hu => uvs_mem.2 (.inr hu)⟩⟩
theorem uvs_lt {a b : PT} {i j : Nat} (hj : j < (uvs a b).length) (h : i ≤ j) : vat (uvs a b) i ≤ vat (uvs a b) j := by
  rcases Nat.lt_or_ge i j with h1 | h1
  · have hs := List.pairwise_iff_getElem.1 (ascd_sorted (sn (sn [] a) b)) i j (by have : (uvs a b).length = _ := rfl; unfold uvs at hj; omega) hj h1
    have e1 := vat_at (V := uvs a b) (i := i) (by omega)
    have e2 := vat_at (V := uvs a b) hj
    rw [List.getElem?_eq_getElem (by omega)] at e1
    rw [List.getElem?_eq_getElem hj] at e2
    rw [← Option.some.inj e1, ← Option.some.inj e2]
    exact hs
  · have : i = j := by omega
    rw [this]
    exact Int.le_refl _
/-- The solver makes two types equal, or there is no unifier. -/
theorem ref_solve {a b : PT} (ha : cke a = 0) (hb : cke b = 0) : ∃ f r S, eqP (uvs a b) f (SS0 (uvs a b)) a b = some (r, S) ∧ WF (uvs a b) S ∧ (r = false → ∀ s, a.rep s ≠ b.rep s) ∧ (r = true → ∃ m, Mdl (uvs a b) S m ∧ Mgu a b m) := by
  have w := ss0_wf (uvs_nodup a b)
  obtain ⟨ga, gb⟩ := uvs_gv ha hb
  obtain ⟨f, r, S, e, h⟩ := eq_ok _ (SS0 (uvs a b)) w (acy_of_mo w (ss0_mo _ vr)) (Nat.le_refl _) a b ga gb
  refine ⟨f, r, S, e, h.wf, fun hr s => h.no hr s (ss0_mo _ s), fun hr => ?_⟩
  obtain ⟨hac, hmo, -⟩ := h.yes hr
  obtain ⟨m, hm⟩ := mdl_ex h.wf hac
  have h1 := (hmo m).1 (hm.mo h.wf)
  refine ⟨m, hm, h1.2, fun s hs => hm.gen h.wf ((hmo s).2 ⟨ss0_mo _ s, hs⟩), fun n k hk => ?_, fun n hn => ?_, fun n hn => hm.out n fun h' => hn (uvs_mem.1 h')⟩
  · by_cases hn : n ∈ uvs a b
    · cases hbn : S.b (cls (uvs a b) S n) with
      | true =>
        rw [hm.ty n hn hbn] at hk
        exact absurd (rep_is_vr hk).1 (h.wf.ok _ (cls_lt h.wf hn) hbn).1
      | false =>
        rw [hm.fr n hn hbn] at hk
        have hk2 : vat (uvs a b) (cls (uvs a b) S n) = k := by injection hk
        rw [← hk2]
        have := uvs_lt (vix_lt hn) (cls_le h.wf hn)
        rwa [vat_vix hn] at this
    · rw [hm.out n hn] at hk
      have : n = k := by injection hk
      omega
  · have hn := uvs_mem.2 hn
    obtain ⟨ρ, hρ⟩ := hac
    have key : ∀ (q : Nat) v, v ∈ uvs a b → ρ (cls (uvs a b) S v) < q → cke (m v) = 0 := by
      intro q
      induction q with
      | zero => intro v _ h; exact absurd h (Nat.not_lt_zero _)
      | succ q ih =>
        intro v hv hq
        have hl := cls_lt h.wf hv
        cases hbn : S.b (cls (uvs a b) S v) with
        | true =>
          rw [hm.ty v hv hbn]
          exact good_rep (h.wf.ok _ hl hbn).2.1 fun u hu => ih u ((h.wf.ok _ hl hbn).2.2 u hu) (by have := hρ _ hl (cls_fix h.wf hv) hbn u hu; omega)
        | false =>
          rw [hm.fr v hv hbn]
          refine good_vr ?_
          have h2 := vat_mem (V := uvs a b) hl
          rcases uvs_mem.1 h2 with h3 | h3
          · exact vin_range ha h3
          · exact vin_range hb h3
    exact key _ n hn (Nat.lt_succ_self _)
end Go.Proofs.Ytjlmhfdigoogfaa

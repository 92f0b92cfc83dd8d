/- Plain: what match answers: one way of setting the own variables. -/
import Derived.Test.YtjlmhfdigoogfaaInC
import Derived.Test.YtjlmhfdigoogfaaTun
namespace Go.Proofs.Ytjlmhfdigoogfaa
open Go.RowKit

theorem rep_mk (f : Int → PT) (k v : Int) (s : List PT) : (PT.mk k v s).rep f = if k = 5 then f v else .mk k 0 (s.map (PT.rep f)) := by rw [PT.rep, reps_map]
theorem mt_mk (m k v : Int) (s : List PT) (t : PT) (fd : FA) : mt m (.mk k v s) t fd = if k = 5 then
      (if m ≤ v then (if t.seq (.mk 5 (wr64 (v - m)) []) then some fd else none)
      else match fas v fd with
        | some o => if o.seq t then some fd else none
        | none => some (fd ++ [(v, t)]))
    else if k = t.kind ∧ s.length = t.sub.length then mts m s t.sub fd else none := by rw [mt]; rfl
/-- A setting of the own variables, the others put down. -/
def ext (m : Int) (σ : Int → PT) (v : Int) : PT := if m ≤ v then vr (v - m) else σ v
/-- A row that a setting agrees with. -/
def Agr (σ : Int → PT) (fd : FA) : Prop := ∀ v o, fas v fd = some o → σ v = o
theorem fas_app {v u : Int} {t : PT} {fd : FA} (h : fas u fd = none) : fas v (fd ++ [(u, t)]) = if u = v then some t else fas v fd := by
  unfold fas at h ⊢
  rw [List.find?_append]
  by_cases hv : u = v
  · subst hv
    simp only [Option.map_eq_none_iff] at h
    simp [h]
  · rw [if_neg hv]
    cases hq : fd.find? (fun p => decide (p.1 = v)) with
    | none => simp [hv]
    | some q => simp
theorem agr_app {σ : Int → PT} {u : Int} {t : PT} {fd : FA} (h : Agr σ fd) (hn : fas u fd = none) (hu : σ u = t) : Agr σ (fd ++ [(u, t)]) := by
  intro v o ho
  rw [fas_app hn] at ho
  split at ho
  · rename_i e
    cases ho
    rw [← e]; exact hu
  · exact h v o ho
theorem agr_mono {σ : Int → PT} {u : Int} {t : PT} {fd : FA} (h : Agr σ (fd ++ [(u, t)])) (hn : fas u fd = none) : Agr σ fd ∧ σ u = t := by
  refine ⟨fun v o ho => h v o ?_, h u t ?_⟩
  · rw [fas_app hn]
    split
    · rename_i e; subst e; rw [hn] at ho; cases ho
    · exact ho
  · rw [fas_app hn, if_pos rfl]
theorem w64 {n m : Int} (h : 0 ≤ n ∧ n ≤ 999999) (hm : 0 ≤ m ∧ m ≤ 999999) : wr64 (n - m) = n - m := IntWalk.i64_in _ (by omega)
/-- What fits is found. -/
theorem mt_fits {m : Int} (hm : 0 ≤ m ∧ m ≤ 999999) {σ : Int → PT} (p : PT) : ∀ (t : PT) (fd : FA), cke p = 0 → Agr σ fd → p.rep (ext m σ) = t → ∃ fd', mt m p t fd = some fd' ∧ Agr σ fd' := by
  induction p using PT.ind with
  | h k v s ih =>
    intro t fd hc ha ht
    have hv := (cke_ok hc).1.r
    simp only [PT.var] at hv
    rw [mt_mk]
    rw [rep_mk] at ht
    by_cases hk : k = 5
    · rw [if_pos hk] at ht ⊢
      unfold ext at ht
      by_cases hmv : m ≤ v
      · rw [if_pos hmv] at ht ⊢
        rw [w64 hv hm, if_pos]
        · exact ⟨fd, rfl, ha⟩
        · rw [seq_iff, ← ht]; rfl
      · rw [if_neg hmv] at ht ⊢
        cases hf : fas v fd with
        | some o =>
          simp only
          rw [if_pos]
          · exact ⟨fd, rfl, ha⟩
          · rw [seq_iff, ← ha v o hf, ht]
        | none => exact ⟨_, rfl, agr_app ha hf ht⟩
    · rw [if_neg hk] at ht ⊢
      subst ht
      simp only [PT.kind, PT.sub, List.length_map, and_self, if_true]
      have hs : ∀ x ∈ s, cke x = 0 := (cke_ok hc).2
      clear hc hv hk
      induction s generalizing fd with
      | nil => exact ⟨fd, rfl, ha⟩
      | cons x l ihl =>
        obtain ⟨f1, h1, a1⟩ := ih x (by simp) _ fd (hs x (by simp)) ha rfl
        simp only [List.map_cons, mts, h1]
        exact ihl (fun y hy => ih y (by simp [hy])) f1 a1 fun y hy => hs y (by simp [hy])
/-- What is found fits, by every setting that agrees with it. -/
theorem mt_sound {m : Int} (hm : 0 ≤ m ∧ m ≤ 999999) (p : PT) : ∀ (t : PT) (fd fd' : FA), cke p = 0 → t.rep vr = t → mt m p t fd = some fd' → ∀ σ, Agr σ fd' → Agr σ fd ∧ p.rep (ext m σ) = t := by
  induction p using PT.ind with
  | h k v s ih =>
    intro t fd fd' hc hct h σ ha
    have hv := (cke_ok hc).1.r
    simp only [PT.var] at hv
    rw [mt_mk] at h
    rw [rep_mk]
    by_cases hk : k = 5
    · rw [if_pos hk] at h ⊢
      unfold ext
      by_cases hmv : m ≤ v
      · rw [if_pos hmv] at h ⊢
        split at h
        · rename_i hq
          cases h
          rw [seq_iff, w64 hv hm] at hq
          exact ⟨ha, hq.symm⟩
        · cases h
      · rw [if_neg hmv] at h ⊢
        cases hf : fas v fd with
        | some o =>
          rw [hf] at h
          simp only at h
          split at h
          · rename_i hq
            cases h
            rw [seq_iff] at hq
            exact ⟨ha, (ha v o hf).trans hq⟩
          · cases h
        | none =>
          rw [hf] at h
          cases h
          exact agr_mono ha hf
    · rw [if_neg hk] at h ⊢
      split at h
      · rename_i hq
        cases t with
        | mk k' v' s' =>
          simp only [PT.kind, PT.sub] at hq h
          obtain ⟨rfl, hl⟩ := hq
          rw [rep_mk, if_neg hk] at hct
          injection hct with h1 h2 h3
          subst h2
          have hs : ∀ x ∈ s, cke x = 0 := (cke_ok hc).2
          have key : Agr σ fd ∧ s.map (PT.rep (ext m σ)) = s' := by
            clear hc hv hk
            induction s generalizing s' fd with
            | nil =>
              obtain rfl : s' = [] := List.eq_nil_of_length_eq_zero hl.symm
              simp only [mts] at h
              cases h
              exact ⟨ha, rfl⟩
            | cons x l ihl =>
              cases s' with
              | nil => simp at hl
              | cons y n =>
                simp only [mts] at h
                simp only [List.map_cons] at h3
                injection h3 with h4 h5
                cases hq : mt m x y fd with
                | none => rw [hq] at h; cases h
                | some f1 =>
                  rw [hq] at h
                  obtain ⟨a1, e1⟩ := ihl (fun z hz => ih z (by simp [hz])) f1 n h (by simpa using hl) h5 (fun z hz => hs z (by simp [hz]))
                  obtain ⟨a2, e2⟩ := ih x (by simp) y fd f1 (hs x (by simp)) h4 hq σ a1
                  exact ⟨a2, by rw [List.map_cons, e1, e2]⟩
          exact ⟨key.1, by rw [key.2]⟩
      · cases h
/-- A type results from one of a scheme, just where a setting of the own variables leads to it. -/
theorem mt_iff {m : Int} (hm : 0 ≤ m ∧ m ≤ 999999) {p t : PT} (hp : cke p = 0) (ht : t.rep vr = t) : (mt m p t []).isSome = true ↔ ∃ σ : Int → PT, p.rep (ext m σ) = t := by
  constructor
  · intro h
    obtain ⟨fd, hfd⟩ := Option.isSome_iff_exists.1 h
    exact ⟨_, (mt_sound hm p t [] fd hp ht hfd (fun v => (fas v fd).getD (vr 0)) fun v o h => by simp [h]).2⟩
  · rintro ⟨σ, h⟩
    obtain ⟨fd, hfd, -⟩ := mt_fits hm p t [] hp (fun v o h => by simp [fas] at h) h
    rw [hfd]
    rfl
/-- All variables put down. -/
def dn (m : Int) (v : Int) : PT := vr (v - m)
theorem dn_rep {m : Int} (hm : 0 ≤ m ∧ m ≤ 999999) {u : PT} (hu : cke u = 0) : (u.rep fun i => .mk 5 (wr64 (i - m)) []) = u.rep (dn m) :=
  rep_congr fun i hi => by rw [w64 (vin_range hu hi) hm]; rfl
theorem dn_ok (m : Int) (u : PT) : (u.rep (dn m)).rep vr = u.rep (dn m) := by
  rw [rep_comp]
  exact rep_congr fun i _ => by unfold dn; rw [rep_vr]
theorem more_iff {n m : Int} {t u : PT} (ht : sval n t = true) (hu : sval m u = true) : moreP n t m u = true ↔ ∃ σ : Int → PT, t.rep (ext n σ) = u.rep (dn m) := by
  have hn := sval_bd ht
  have hm := sval_bd hu
  unfold moreP
  rw [ht, hu, Bool.true_and, Bool.true_and, dn_rep (by omega) (ck_cke (sval_ck hu)).1, mt_iff (by omega) (ck_cke (sval_ck ht)).1 (dn_ok m u)]
theorem more_valid {n m : Int} {t u : PT} (h : moreP n t m u = true) : sval n t = true ∧ sval m u = true := by
  unfold moreP at h
  simp only [Bool.and_eq_true] at h
  exact h.1
theorem more_refl {n : Int} {t : PT} (h : sval n t = true) : moreP n t n t = true :=
  (more_iff h h).2 ⟨fun v => vr (v - n), rep_congr fun i _ => by unfold ext dn; split <;> rfl⟩
theorem more_trans {n m k : Int} {t u z : PT} (h1 : moreP n t m u = true) (h2 : moreP m u k z = true) : moreP n t k z = true := by
  obtain ⟨vt, vu⟩ := more_valid h1
  obtain ⟨-, vz⟩ := more_valid h2
  obtain ⟨σ, e1⟩ := (more_iff vt vu).1 h1
  obtain ⟨τ, e2⟩ := (more_iff vu vz).1 h2
  have e3 : u.rep (ext m τ) = (u.rep (dn m)).rep (fun j => if 0 ≤ j then vr j else τ (j + m)) := by
    rw [rep_comp]
    refine rep_congr fun i _ => ?_
    unfold ext dn
    rw [rep_vr]
    by_cases h : m ≤ i
    · rw [if_pos h, if_pos (by omega)]
    · rw [if_neg h, if_neg (by omega), show i - m + m = i by omega]
  refine (more_iff vt vz).2 ⟨fun v => (σ v).rep (fun j => if 0 ≤ j then vr j else τ (j + m)), ?_⟩
  rw [← e2, e3, ← e1, rep_comp]
  refine rep_congr fun i _ => ?_
  unfold ext
  by_cases h : n ≤ i
  · rw [if_pos h, if_pos h, rep_vr, if_pos (by omega)]
  · rw [if_neg h, if_neg h]
theorem inst_iff {n : Int} {t u : PT} (ht : sval n t = true) (hu : ck u = 0) : instP n t u = true ↔ ∃ σ : Int → PT, t.rep (ext n σ) = u := by
  have hn := sval_bd ht
  unfold instP
  rw [ht, hu, Bool.true_and, BEq.rfl, Bool.true_and, mt_iff (by omega) (ck_cke (sval_ck ht)).1 (rep_id (ck_cke hu).1)]
end Go.Proofs.Ytjlmhfdigoogfaa

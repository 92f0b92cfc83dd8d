/- Plain: what the answer of Unify is good for. -/
import Derived.Test.YtjlmhfdigoogfaaApC
namespace Go.Proofs.Ytjlmhfdigoogfaa

theorem mem_V {a b : PT} {n : Int} : n ∈ ascd (sn (sn [] a) b) ↔ Vab a b n := by
  rw [(ascd_perm _).mem_iff, mem_sn, mem_sn]
  unfold Vab
  simp
theorem nodup_sn (t : PT) (l : List Int) (h : l.Nodup) : (sn l t).Nodup := nodup_fold_adv t.pre l h
theorem V_lt {a b : PT} : (ascd (sn (sn [] a) b)).Pairwise (· < ·) := by
  have h1 := ascd_sorted (sn (sn [] a) b)
  have h2 : (ascd (sn (sn [] a) b)).Nodup := (ascd_perm _).nodup_iff.2 (nodup_sn b _ (nodup_sn a _ List.nodup_nil))
  generalize ascd (sn (sn [] a) b) = l at *
  induction l with
  | nil => exact .nil
  | cons x l ih =>
    rw [List.pairwise_cons] at h1 ⊢
    rw [List.nodup_cons] at h2
    exact ⟨fun y hy => by
      have h3 := h1.1 y hy
      have h4 : x ≠ y := fun e => h2.1 (e ▸ hy)
      omega, ih h1.2 h2.2⟩
theorem V_symm (a b : PT) : ascd (sn (sn [] a) b) = ascd (sn (sn [] b) a) := by
  refine ascd_congr ?_
  have h1 := nodup_sn b _ (nodup_sn a _ List.nodup_nil)
  have h2 := nodup_sn a _ (nodup_sn b _ List.nodup_nil)
  rw [List.perm_iff_count]
  intro x
  have h3 : x ∈ sn (sn [] a) b ↔ x ∈ sn (sn [] b) a := by rw [mem_sn, mem_sn, mem_sn, mem_sn]; simp; exact or_comm
  by_cases hx : x ∈ sn (sn [] a) b
  · rw [h1.count, h2.count, if_pos hx, if_pos (h3.1 hx)]
  · rw [List.count_eq_zero_of_not_mem hx, List.count_eq_zero_of_not_mem fun h => hx (h3.2 h)]
theorem uans_cases {a b : PT} (ha : ck a = 0) (hb : ck b = 0) : ((∀ s, a.rep s ≠ b.rep s) ∧ uans a b = ([], 22)) ∨ ∃ m, Mgu a b m ∧ uans a b = uout m (ascd (sn (sn [] a) b)) := by
  obtain ⟨r, cl, -, -, -, h1, h2⟩ := unify_ok (ck_cke ha).1 (ck_cke hb).1
  cases r with
  | false => exact .inl ⟨h1 rfl, uans_no ha hb (h1 rfl)⟩
  | true =>
    obtain ⟨r2, kn, -, h3, h4⟩ := h2 rfl
    cases r2 with
    | false => exact .inl ⟨h3 rfl, uans_no ha hb (h3 rfl)⟩
    | true =>
      obtain ⟨m, hm, -⟩ := h4 rfl
      exact .inr ⟨m, hm, uans_ok ha hb hm⟩
/-- The answer for two types that can be unified. -/
def ulist (m : Int → PT) (V : List Int) : List PA := V.filterMap (uo1 m)
theorem uout_cases (m : Int → PT) (V : List Int) : (∃ n ∈ V, 200 < (m n).size) ∧ uout m V = ([], 4) ∨ (∀ n ∈ V, (m n).size ≤ 200) ∧ uout m V = (ulist m V, 0) := by
  by_cases h : ∃ n ∈ V, 200 < (m n).size
  · obtain ⟨n, h1, h2⟩ := h
    exact .inl ⟨⟨n, h1, h2⟩, uout_great h1 h2⟩
  · have h' : ∀ n ∈ V, (m n).size ≤ 200 := fun n hn => by
      rcases Nat.lt_or_ge 200 (m n).size with h1 | h1
      · exact absurd ⟨n, hn, h1⟩ h
      · exact h1
    exact .inr ⟨h', uout_small h'⟩
theorem mem_ulist {m : Int → PT} {V : List Int} {p : PA} : p ∈ ulist m V ↔ p.1 ∈ V ∧ p.2 = m p.1 ∧ ¬ ((m p.1).kind = 5 ∧ (m p.1).var = p.1) := by
  unfold ulist
  rw [List.mem_filterMap]
  constructor
  · rintro ⟨n, hn, h⟩
    unfold uo1 at h
    split at h
    · cases h
    · rename_i h1
      cases h
      exact ⟨hn, rfl, h1⟩
  · rintro ⟨h1, h2, h3⟩
    exact ⟨p.1, h1, by unfold uo1; rw [if_neg h3, ← h2]⟩
theorem va_of {s : List PA} (hp : (s.map (·.1)).Pairwise (· < ·)) (hr : ∀ p ∈ s, 0 ≤ p.1 ∧ p.1 ≤ 999999) (hg : ∀ p ∈ s, ck p.2 = 0) : VA s := by
  refine ⟨fun j p h => hr p (List.mem_of_getElem? h), fun i j p q hij h1 h2 => ?_, fun j p h => hg p (List.mem_of_getElem? h)⟩
  rw [List.pairwise_iff_getElem] at hp
  obtain ⟨k1, e1⟩ := List.getElem?_eq_some_iff.1 h1
  obtain ⟨k2, e2⟩ := List.getElem?_eq_some_iff.1 h2
  have := hp i j (by simpa using k1) (by simpa using k2) hij
  simp only [List.getElem_map] at this
  rw [e1, e2] at this
  exact this
theorem va_apg : ∀ {s : List PA} (o : Option Int), VA s → (∀ m, o = some m → ∀ (j : Nat) p, s[j]? = some p → m < p.1) → apg o s = 0
  | [], _, _, _ => rfl
  | x :: l, o, h, ho => by
    have h1 := h.r 0 x rfl
    have h2 := h.g 0 x rfl
    simp only [apg]
    rw [if_neg (by omega), if_neg, if_neg (by simpa using h2)]
    · refine va_apg (s := l) _ ⟨fun j p hp => h.r (j + 1) p (by simpa using hp), fun i j p q hij hp hq => h.m (i + 1) (j + 1) p q (by omega) (by simpa using hp) (by simpa using hq), fun j p hp => h.g (j + 1) p (by simpa using hp)⟩ fun m hm j p hp => ?_
      cases hm
      exact h.m 0 (j + 1) x p (by omega) rfl (by simpa using hp)
    · intro h3
      cases o with
      | none => simp at h3
      | some m =>
        have := ho m rfl 0 x rfl
        simp at h3
        omega
theorem apf_mem {s : List PA} (h : VA s) {p : PA} (hp : p ∈ s) : apf s p.1 = p.2 := by
  obtain ⟨k, hk⟩ := List.getElem?_of_mem hp
  unfold apf
  rw [fidx_some hk rfl fun j q hj hq e => by have := h.m j k q p hj hq hk; omega]
  simp [hk]
theorem apf_not {s : List PA} {n : Int} (h : ∀ p ∈ s, p.1 ≠ n) : apf s n = vr n := by
  unfold apf
  rw [fidx_none fun j q hq => h q (List.mem_of_getElem? hq)]
section
variable {a b : PT} {m : Int → PT}
theorem ulist_va (ha : ck a = 0) (hb : ck b = 0) (hm : Mgu a b m) (hs : ∀ n ∈ ascd (sn (sn [] a) b), (m n).size ≤ 200) : VA (ulist m (ascd (sn (sn [] a) b))) := by
  refine va_of ?_ (fun p hp => ?_) fun p hp => ?_
  · have h := V_lt (a := a) (b := b)
    generalize ascd (sn (sn [] a) b) = V at *
    clear hs
    unfold ulist
    induction V with
    | nil => simp
    | cons x l ih =>
      rw [List.pairwise_cons] at h
      rw [List.filterMap_cons]
      unfold uo1
      split
      · rename_i h1
        exact ih h.2
      · rename_i q h1
        split at h1
        · cases h1
        · cases h1
          rw [List.map_cons, List.pairwise_cons]
          refine ⟨fun y hy => ?_, ih h.2⟩
          obtain ⟨p, hp, rfl⟩ := List.mem_map.1 hy
          exact h.1 p.1 (mem_ulist.1 (show p ∈ ulist m l from hp)).1
  · have h1 := mem_V.1 (mem_ulist.1 hp).1
    rcases h1 with h1 | h1
    · exact vin_range (ck_cke ha).1 h1
    · exact vin_range (ck_cke hb).1 h1
  · obtain ⟨h1, h2, -⟩ := mem_ulist.1 hp
    rw [h2]
    have h3 := hs _ h1
    have h4 := hm.ok _ (mem_V.1 h1)
    unfold ck
    rw [if_neg (by omega)]
    exact h4
theorem apf_ulist (ha : ck a = 0) (hb : ck b = 0) (hm : Mgu a b m) (hs : ∀ n ∈ ascd (sn (sn [] a) b), (m n).size ≤ 200) (n : Int) : apf (ulist m (ascd (sn (sn [] a) b))) n = m n := by
  have hv := ulist_va ha hb hm hs
  by_cases hn : n ∈ ascd (sn (sn [] a) b)
  · by_cases h5 : (m n).kind = 5 ∧ (m n).var = n
    · rw [apf_not fun p hp e => ?_]
      · have := good_var (hm.ok n (mem_V.1 hn)) h5.1
        rw [this, h5.2]
      · obtain ⟨-, -, h2⟩ := mem_ulist.1 hp
        rw [e] at h2
        exact h2 h5
    · exact apf_mem hv (p := (n, m n)) (mem_ulist.2 ⟨hn, rfl, h5⟩)
  · rw [apf_not (n := n) (fun p hp e => hn (by rw [← e]; exact (mem_ulist.1 hp).1)), hm.out n fun h => hn (mem_V.2 h)]
theorem ulist_fix (hm : Mgu a b m) {p q : PA} (hp : p ∈ ulist m (ascd (sn (sn [] a) b))) (hq : q ∈ ulist m (ascd (sn (sn [] a) b))) : ¬ Vin p.1 q.2 := by
  intro h
  obtain ⟨-, -, h3⟩ := mem_ulist.1 hp
  obtain ⟨h4, h5, -⟩ := mem_ulist.1 hq
  rw [h5] at h
  have h6 := hm.fix (mem_V.1 h4) h
  rw [h6] at h3
  exact h3 ⟨rfl, rfl⟩
theorem uout_symm (hm : Mgu a b m) (m' : Int → PT) (hm' : Mgu b a m') : uout m (ascd (sn (sn [] a) b)) = uout m' (ascd (sn (sn [] b) a)) := by
  rw [V_symm a b]
  exact uout_congr (fun n => (hm.symm.uniq hm' n)) _
end
theorem uans_symm {a b : PT} (ha : ck a = 0) (hb : ck b = 0) : uans a b = uans b a := by
  rcases uans_cases ha hb with ⟨h1, h2⟩ | ⟨m, h1, h2⟩
  · rw [h2, uans_no hb ha fun s e => h1 s e.symm]
  · rw [h2, uans_ok hb ha h1.symm]
    exact uout_symm h1 m h1.symm
theorem apE_ok {s : List PA} {t : PT} (h : (apE s t).2 = 0) : ck t = 0 ∧ VA s ∧ ck (t.rep (apf s)) = 0 ∧ (apE s t).1 = t.rep (apf s) := by
  unfold apE at *
  split at h
  · rename_i h1; exact absurd h h1
  · rename_i h1
    split at h
    · rename_i h2; exact absurd h h2
    · rename_i h2
      split at h
      · cases h
      · rename_i h3
        rw [if_neg h1, if_neg h2, if_neg h3]
        exact ⟨by simpa using h1, (apg_va s none (by simpa using h2)).1, by simpa using h3, rfl⟩
theorem apE_mk {s : List PA} {t : PT} (h1 : ck t = 0) (h2 : VA s) (h3 : ck (t.rep (apf s)) = 0) : apE s t = (t.rep (apf s), 0) := by
  unfold apE
  rw [if_neg (by simpa using h1), if_neg (by simpa using va_apg none h2 (by simp)), if_neg (by simpa using h3)]
theorem apE_lim {s : List PA} {t : PT} (h1 : ck t = 0) (h2 : VA s) (h3 : ck (t.rep (apf s)) ≠ 0) : apE s t = (.mk 0 0 [], 4) := by
  unfold apE
  rw [if_neg (by simpa using h1), if_neg (by simpa using va_apg none h2 (by simp)), if_pos h3]
theorem ck_mk {t : PT} (h1 : cke t = 0) (h2 : t.size ≤ 200) : ck t = 0 := by unfold ck; rw [if_neg (by omega)]; exact h1
theorem ck_vr {n : Int} (h : 0 ≤ n ∧ n ≤ 999999) : ck (vr n) = 0 := ck_mk (good_vr h) (by simp [vr, PT.size])
theorem apf_good {s : List PA} (h : VA s) {n : Int} (hn : 0 ≤ n ∧ n ≤ 999999) : cke (apf s n) = 0 := by
  unfold apf
  cases hq : fidx n s with
  | none => exact good_vr hn
  | some i =>
    obtain ⟨p, hp, -⟩ := fidx_at hq
    simp only [hp, Option.map_some, Option.getD_some]
    exact (ck_cke (h.g i p hp)).1
theorem uans_len (a b : PT) : (uans a b).1.length ≤ 1000 := by
  by_cases ha : ck a = 0
  · by_cases hb : ck b = 0
    · rcases uans_cases ha hb with ⟨-, h1⟩ | ⟨m, -, h2⟩
      · rw [h1]; simp
      · rcases uout_cases m (ascd (sn (sn [] a) b)) with ⟨-, h3⟩ | ⟨-, h4⟩
        · rw [h2, h3]; simp
        · rw [h2, h4]
          have h5 := List.length_filterMap_le (uo1 m) (ascd (sn (sn [] a) b))
          have h6 := sn_len (sn [] a) b
          have h7 := sn_len [] a
          have h8 := (ck_cke ha).2
          have h9 := (ck_cke hb).2
          rw [ascd_len] at h5
          simp at h7
          show (List.filterMap _ _).length ≤ _
          omega
    · rw [uans_bad2 ha hb]; simp
  · rw [uans_bad1 ha]; simp
/-- An assignment that makes two types equal: there is a unifier, and it is at least as general. -/
theorem general {a b : PT} {s : List PA} (ha : (apE s a).2 = 0) (hb : (apE s b).2 = 0) (he : (apE s a).1 = (apE s b).1) : ((uans a b).2 = 4) ∨ ((uans a b).2 = 0 ∧ ∀ p ∈ (uans a b).1, apE s (vr p.1) = (apf s p.1, 0) ∧ apE s p.2 = (apf s p.1, 0)) := by
  obtain ⟨a1, va, a2, a3⟩ := apE_ok ha
  obtain ⟨b1, -, b2, b3⟩ := apE_ok hb
  rw [a3, b3] at he
  rcases uans_cases a1 b1 with ⟨h1, -⟩ | ⟨m, hm, h2⟩
  · exact absurd he (h1 _)
  · rcases uout_cases m (ascd (sn (sn [] a) b)) with ⟨-, h3⟩ | ⟨h3, h4⟩
    · left; rw [h2, h3]
    · right
      rw [h2, h4]
      refine ⟨rfl, fun p hp => ?_⟩
      obtain ⟨p1, p2, -⟩ := mem_ulist.1 hp
      have hV := mem_V.1 p1
      have hr : 0 ≤ p.1 ∧ p.1 ≤ 999999 := by
        rcases hV with h | h
        · exact vin_range (ck_cke a1).1 h
        · exact vin_range (ck_cke b1).1 h
      have hg := hm.gen (apf s) he p.1
      have hsz : ck (apf s p.1) = 0 := by
        refine ck_mk (apf_good va hr) ?_
        rcases hV with h | h
        · exact Nat.le_trans (vin_size h (ck_cke a1).1).1 (ck_cke a2).2
        · exact Nat.le_trans (vin_size h (ck_cke b1).1).1 (ck_cke b2).2
      refine ⟨?_, ?_⟩
      · have h5 := apE_mk (s := s) (t := vr p.1) (ck_vr hr) va (by rw [rep_vr]; exact hsz)
        rw [rep_vr] at h5; exact h5
      · have h6 : ck p.2 = 0 := by rw [p2]; exact ck_mk (hm.ok _ hV) (h3 _ p1)
        have h5 := apE_mk (s := s) (t := p.2) h6 va (by rw [p2, ← hg]; exact hsz)
        rw [h5, p2, ← hg]
/-- What the unifier is good for. -/
theorem solves {a b : PT} (ha : ck a = 0) (hb : ck b = 0) (h : (uans a b).2 = 0) : uans b a = uans a b ∧ apE (uans a b).1 a = apE (uans a b).1 b ∧ ((apE (uans a b).1 a).2 = 0 ∨ (apE (uans a b).1 a).2 = 4) ∧ ∀ p ∈ (uans a b).1, ∀ q ∈ (uans a b).1, p.1 ∉ vrs q.2 := by
  refine ⟨(uans_symm ha hb).symm, ?_⟩
  rcases uans_cases ha hb with ⟨-, h1⟩ | ⟨m, hm, h2⟩
  · rw [h1] at h; cases h
  · rcases uout_cases m (ascd (sn (sn [] a) b)) with ⟨-, h3⟩ | ⟨h3, h4⟩
    · rw [h2, h3] at h; cases h
    · rw [h2, h4]
      have hv := ulist_va ha hb hm h3
      have hf : ∀ t : PT, t.rep (apf (ulist m (ascd (sn (sn [] a) b)))) = t.rep m := fun t => rep_congr fun u _ => apf_ulist ha hb hm h3 u
      have hab : a.rep (apf (ulist m (ascd (sn (sn [] a) b)))) = b.rep (apf (ulist m (ascd (sn (sn [] a) b)))) := by rw [hf, hf]; exact hm.un
      refine ⟨?_, ?_, fun p hp q hq hi => ?_⟩
      · by_cases hc : ck (a.rep (apf (ulist m (ascd (sn (sn [] a) b))))) = 0
        · rw [apE_mk ha hv hc, apE_mk hb hv (hab ▸ hc), hab]
        · rw [apE_lim ha hv hc, apE_lim hb hv (hab ▸ hc)]
      · by_cases hc : ck (a.rep (apf (ulist m (ascd (sn (sn [] a) b))))) = 0
        · rw [apE_mk ha hv hc]; exact .inl rfl
        · rw [apE_lim ha hv hc]; exact .inr rfl
      · refine ulist_fix hm hp hq ?_
        unfold vrs at hi
        split at hi
        · rw [(ascd_perm _).mem_iff, mem_sn] at hi
          simpa using hi
        · cases hi
/-- .. and where there is none. -/
theorem solves_no {a b : PT} (h : (uans a b).2 ≠ 0) : (uans a b).1 = [] ∧ ((uans b a).2 = (uans a b).2 ∨ ck a ≠ 0 ∧ ck b ≠ 0) := by
  by_cases ha : ck a = 0
  · by_cases hb : ck b = 0
    · rw [uans_symm hb ha]
      refine ⟨?_, .inl rfl⟩
      rcases uans_cases ha hb with ⟨-, h1⟩ | ⟨m, -, h2⟩
      · rw [h1]
      · rcases uout_cases m (ascd (sn (sn [] a) b)) with ⟨-, h3⟩ | ⟨-, h4⟩
        · rw [h2, h3]
        · rw [h2, h4] at h; exact absurd rfl h
    · rw [uans_bad2 ha hb, uans_bad1 hb]
      exact ⟨rfl, .inl rfl⟩
  · rw [uans_bad1 ha]
    refine ⟨rfl, ?_⟩
    by_cases hb : ck b = 0
    · rw [uans_bad2 hb ha]; exact .inl rfl
    · exact .inr ⟨ha, hb⟩
end Go.Proofs.Ytjlmhfdigoogfaa

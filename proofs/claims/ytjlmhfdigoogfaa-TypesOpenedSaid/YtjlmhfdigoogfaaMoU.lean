/- Plain: the scheme of a type without free variables. -/
import Derived.Test.YtjlmhfdigoogfaaMoT
namespace Go.Proofs.Ytjlmhfdigoogfaa
open Go.RowKit

theorem size_ren (f : Int → Int) (t : PT) : (t.rep fun n => vr (f n)).size ≤ t.size := by
  induction t using PT.ind with
  | h k v s ih =>
    rw [rep_mk]
    by_cases hk : k = 5
    · rw [if_pos hk]
      exact size_pos (.mk k v s)
    · rw [if_neg hk, size_eq, size_eq (.mk k v s)]
      simp only [PT.sub]
      have key : psz (s.map (PT.rep fun n => vr (f n))) ≤ psz s := by
        clear hk
        induction s with
        | nil => simp
        | cons x l ihl =>
          have h1 := ih x (by simp)
          have h2 := ihl fun y hy => ih y (by simp [hy])
          simp only [List.map_cons, psz_cons]
          omega
      omega
theorem sn_ren {f : Int → Int} {S : Int → Prop} (hS : ∀ a b, S a → S b → f a = f b → a = b) (t : PT) : ∀ l : List Int, cke t = 0 → (∀ a ∈ l, S a) → (∀ a, Vin a t → S a) → sn (l.map f) (t.rep fun n => vr (f n)) = (sn l t).map f := by
  induction t using PT.ind with
  | h k v s ih =>
    intro l hc hl ht
    rw [rep_mk]
    by_cases hk : k = 5
    · subst hk
      rw [if_pos rfl]
      have hs : s = [] := List.eq_nil_of_length_eq_zero ((cke_ok hc).1.n)
      subst hs
      have hv : S v := ht v (by rw [show PT.mk 5 v [] = vr v from rfl]; exact (vin_vr).2 rfl)
      rw [sn_eq, sn_eq l]
      simp only [vr, PT.sub, sns_nil]
      unfold adv
      simp only [PT.kind, PT.var, true_and]
      by_cases hm : v ∈ l
      · rw [if_neg (by rw [Classical.not_not]; exact List.mem_map.2 ⟨v, hm, rfl⟩), if_neg (by simpa using hm)]
      · rw [if_pos hm, if_pos]
        · simp
        · intro h
          obtain ⟨a, ha, e⟩ := List.mem_map.1 h
          exact hm (hS a v (hl a ha) hv e ▸ ha)
    · rw [if_neg hk, sn_eq, sn_eq l]
      have e1 : adv (l.map f) (.mk k 0 (s.map (PT.rep fun n => vr (f n)))) = l.map f := by unfold adv; rw [if_neg (fun h => hk h.1)]
      have e2 : adv l (.mk k v s) = l := by unfold adv; rw [if_neg (fun h => hk h.1)]
      rw [e1, e2]
      simp only [PT.sub]
      have hs : ∀ x ∈ s, cke x = 0 := (cke_ok hc).2
      have hv : ∀ x ∈ s, ∀ a, Vin a x → S a := fun x hx a ha => ht a (vin_iff.2 (.inr ⟨x, hx, ha⟩))
      clear hc ht e1 e2 hk
      induction s generalizing l with
      | nil => simp [sns_nil]
      | cons x r ihr =>
        rw [List.map_cons, sns_cons, sns_cons, ih x (by simp) l (hs x (by simp)) hl (hv x (by simp))]
        refine ihr (fun y hy => ih y (by simp [hy])) (sn l x) (fun a ha => ?_) (fun y hy => hs y (by simp [hy])) fun y hy => hv y (by simp [hy])
        rw [mem_sn] at ha
        rcases ha with ha | ha
        · exact hl a ha
        · exact hv x (by simp) a ha
theorem vl_count {l : List Int} {n : Int} (hn : (l.length : Int) ≤ n) (h : ∀ i (hi : i < l.length), l[i] = (i : Int)) : ∀ k, k ≤ l.length → vl n (l.take k) = some (k : Int)
  | 0, _ => by simp [vl]
  | k + 1, hk => by
    rw [vl_succ (by omega), vl_count hn h k (by omega), vst_some, h k (by omega), if_pos (by omega), if_pos rfl]
    simp
theorem cln_at {ow : List Int} (hd : ow.Nodup) {i : Nat} {u : Int} (h : ow[i]? = some u) : cln ow u = (i : Int) := by
  unfold cln
  rw [nidx_at h fun j hj e => ?_]
  have h1 := List.getElem?_eq_some_iff.1 h
  have h2 := List.getElem?_eq_some_iff.1 e
  obtain ⟨l1, e1⟩ := h1
  obtain ⟨l2, e2⟩ := h2
  exact List.pairwise_iff_getElem.1 hd j i l2 l1 hj (e2.trans e1.symm)
/-- The scheme of a valid type without free variables. -/
def clT (t : PT) : PT := t.rep fun n => vr (cln (sn [] t) n)
def clN (t : PT) : Int := ((sn [] t).length : Int)
theorem owns_nil (t : PT) : owns [] t = sn [] t := by unfold owns; simp
theorem clE_nil (t : PT) : clE [] t = if ck t ≠ 0 then ((0, .mk 0 0 []), ck t) else ((clN t, clT t), 0) := by
  unfold clE clN clT
  rw [owns_nil]
  by_cases h : ck t = 0
  · rw [if_neg (by simpa using h), if_neg (by simp), if_neg (by simpa using h)]
  · rw [if_pos h, if_pos h]
theorem sn_max {t : PT} (h : ck t = 0) : (sn [] t).length ≤ 200 := by
  have := sn_len [] t
  have := (ck_cke h).2
  simp at *
  omega
theorem clT_valid {t : PT} (h : ck t = 0) : sval (clN t) (clT t) = true := by
  have hd := nodup_sn0 t
  have hm := sn_max h
  have hc := ck_cke h
  have e1 : ck (clT t) = 0 := by
    refine ck_mk ?_ (Nat.le_trans (size_ren _ t) hc.2)
    refine good_rep hc.1 fun u hu => good_vr ?_
    have := cln_in (ow := sn [] t) (x := u) (by rw [mem_sn]; exact .inr hu)
    omega
  have e2 : sn [] (clT t) = (sn [] t).map (cln (sn [] t)) := by
    have h1 := sn_ren (f := cln (sn [] t)) (S := fun a => a ∈ sn [] t) (fun a b ha hb e => by
      obtain ⟨i, hi⟩ := List.getElem?_of_mem ha
      obtain ⟨j, hj⟩ := List.getElem?_of_mem hb
      rw [cln_at hd hi, cln_at hd hj] at e
      obtain rfl : i = j := by omega
      rw [hi] at hj
      exact Option.some.inj hj) t [] hc.1 (by simp) (fun a ha => by rw [mem_sn]; exact .inr ha)
    unfold clT
    simpa using h1
  have e3 : vl (clN t) (sn [] (clT t)) = some (clN t) := by
    have hl : (sn [] (clT t)).length = (sn [] t).length := by rw [e2, List.length_map]
    have h2 := vl_count (l := sn [] (clT t)) (n := clN t) (by rw [hl]; exact Int.le_refl _) (fun i hi => by
      have hi2 : i < (sn [] t).length := by omega
      simp only [e2, List.getElem_map]
      exact cln_at hd (List.getElem?_eq_getElem hi2)) _ (Nat.le_refl _)
    rw [List.take_length, hl] at h2
    exact h2
  unfold sval
  rw [e1, e3]
  have h0 : (0 : Int) ≤ clN t := by unfold clN; omega
  have h2 : clN t ≤ 200 := by unfold clN; omega
  simp [h0, h2]
theorem clT_ext {t : PT} (g : Int → PT) : (clT t).rep (ext (clN t) fun i => g (((sn [] t)[i.toNat]?).getD 0)) = t.rep g := by
  unfold clT
  rw [rep_comp]
  refine rep_congr fun u hu => ?_
  have hin : u ∈ sn [] t := by rw [mem_sn]; exact .inr hu
  obtain ⟨i, hi⟩ := List.getElem?_of_mem hin
  have hlt := (List.getElem?_eq_some_iff.1 hi).1
  rw [rep_vr, cln_at (nodup_sn0 t) hi]
  unfold ext clN
  rw [if_neg (by omega)]
  simp [hi]
/-- What results from a type is an instance of its scheme. -/
theorem clT_inst {t : PT} (h : ck t = 0) (g : Int → PT) (hg : ck (t.rep g) = 0) : instP (clN t) (clT t) (t.rep g) = true := (inst_iff (clT_valid h) hg).2 ⟨_, clT_ext g⟩
theorem clT_self {t : PT} (h : ck t = 0) : instP (clN t) (clT t) t = true := by
  have e := rep_id (ck_cke h).1
  have := clT_inst h vr (by rw [e]; exact h)
  rwa [e] at this
end Go.Proofs.Ytjlmhfdigoogfaa

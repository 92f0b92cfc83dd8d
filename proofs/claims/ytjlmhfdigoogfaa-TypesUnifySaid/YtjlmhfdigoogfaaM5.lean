/- The walks and the words of the family types, part 5: Thd, The, Rgm, UnA, UnB, UnD, UnC, AwP, Awk. -/
import Derived.Test.YtjlmhfdigoogfaaM4
import Derived.Maps.RangeWalk
import Derived.Deep.DeepCutAuto
namespace Go.Proofs.Ytjlmhfdigoogfaa

/-- T c is the type of class c. -/
structure AG (S : US) (T : Nat → PT) : Prop where
  cl : ∀ (c : Nat) x, S.cl[c]? = some x → x.up = c ∧ ((x.term = -1 ∧ 0 ≤ x.least ∧ T c = vr x.least ∧ vget x.least S.vs = some c) ∨ (x.least = -1 ∧ 0 ≤ x.term ∧ ∃ k s, S.tm[x.term.toNat]? = some (k, s) ∧ T c = .mk k 0 (s.map T) ∧ k ≠ 5 ∧ ∀ i ∈ s, i < c))
  tl : ∀ (j : Nat) k s, S.tm[j]? = some (k, s) → s.length = prt k ∧ (k ≠ 5 ∧ 1 ≤ k ∧ k ≤ 5) ∧ ∀ i ∈ s, i < S.cl.length
  vs : ∀ v c, vget v S.vs = some c → ∃ x, S.cl[c]? = some x ∧ x.term = -1 ∧ x.least = v
  ok : ∀ c, c < S.cl.length → cke (T c) = 0
theorem vget_app {l : List (Int × Nat)} {v u : Int} {c : Nat} : vget u (l ++ [(v, c)]) = match vget u l with | some d => some d | none => if v = u then some c else none := by
  unfold vget
  rw [List.find?_append]
  cases h : l.find? (fun p => decide (p.1 = u)) with
  | some p => simp
  | none =>
    by_cases e : v = u
    · simp [List.find?, e]
    · simp [List.find?, e]
theorem vget_key {l : List (Int × Nat)} {v : Int} : vget v l = none ↔ v ∉ l.map (·.1) := by
  unfold vget
  simp only [Option.map_eq_none_iff, List.find?_eq_none, decide_eq_true_eq, List.mem_map, not_exists, not_and]
theorem adv_app (l : List (Int × Nat)) (t : PT) : adv (l.map (·.1)) t = if t.kind = 5 ∧ vget t.var l = none then l.map (·.1) ++ [t.var] else l.map (·.1) := by
  unfold adv
  simp only [vget_key]
/-- Add, step by step. -/
structure AddG (S : US) (T : Nat → PT) (l : List PT) (S' : US) (T' : Nat → PT) (ids : List Nat) : Prop where
  ag : AG S' T'
  le : S.cl.length ≤ S'.cl.length
  old : ∀ c, c < S.cl.length → T' c = T c
  ids : ids.map T' = l ∧ ∀ i ∈ ids, i < S'.cl.length
  key : S'.vs.map (·.1) = sns (S.vs.map (·.1)) l
theorem AG.mono_ids {T T' : Nat → PT} {n : Nat} (h : ∀ c, c < n → T' c = T c) {s : List Nat} (hs : ∀ i ∈ s, i < n) : s.map T' = s.map T := List.map_congr_left fun i hi => h i (hs i hi)
mutual
theorem addU_ag : ∀ (t : PT) (S : US) (T : Nat → PT), cke t = 0 → AG S T → ∃ T', AddG S T [t] (addU t S).1 T' [(addU t S).2]
  | .mk k v s, S, T, hg, h => by
    have hV := (cke_ok hg).1
    by_cases hk : k = 5
    · have ht : PT.mk k v s = vr v := good_var hg hk
      have hs : s = [] := (PT.mk.inj ht).2.2
      subst hs
      rw [addU_eq, if_pos (show (PT.mk k v []).kind = 5 from hk)]
      have hkey : sns (S.vs.map (·.1)) [PT.mk k v []] = adv (S.vs.map (·.1)) (PT.mk k v []) := by simp [sns_cons, sns_nil, sn_eq, PT.sub]
      rw [adv_app] at hkey
      simp only [PT.kind, PT.var, hk, true_and] at hkey
      cases hv : vget (PT.mk k v []).var S.vs with
      | some c =>
        obtain ⟨x, h1, h2, h3⟩ := h.vs _ _ hv
        have h4 := h.cl c x h1
        simp only [PT.var] at hv h3
        refine ⟨T, h, Nat.le_refl _, fun _ _ => rfl, ⟨?_, fun i hi => ?_⟩, by rw [hk, hkey, hv]; simp⟩
        · rcases h4.2 with h5 | h5
          · simp only [List.map_cons, List.map_nil]; rw [h5.2.2.1, h3, ← ht]
          · omega
        · simp only [List.mem_singleton] at hi; subst hi; exact (List.getElem?_eq_some_iff.1 h1).1
      | none =>
        simp only [PT.var] at hv
        have hr := hV.r
        simp only [PT.var] at hr
        refine ⟨fun c => if c = S.cl.length then vr v else T c, ⟨fun c x hx => ?_, fun j k' s' hj => ?_, fun u c hc => ?_, fun c hc => ?_⟩, by simp, fun c hc => by rw [if_neg (by omega)], ⟨?_, fun i hi => ?_⟩, ?_⟩
        · simp only [PT.var] at hx
          rw [List.getElem?_append] at hx
          split at hx
          · rename_i hl
            obtain ⟨h1, h2⟩ := h.cl c x hx
            refine ⟨h1, ?_⟩
            simp only
            rw [if_neg (by omega)]
            rcases h2 with ⟨a, b, d, e⟩ | ⟨a, b, k', s', d, e, f, g⟩
            · exact .inl ⟨a, b, d, by rw [vget_app, e]⟩
            · refine .inr ⟨a, b, k', s', d, ?_, f, g⟩
              rw [e]
              congr 1
              exact (AG.mono_ids (n := S.cl.length) (fun i hi => by rw [if_neg (by omega)]) fun i hi => by have := g i hi; omega).symm
          · rename_i hl
            have h0 : c = S.cl.length := by
              have := (List.getElem?_eq_some_iff.1 hx).1
              simp at this
              omega
            subst h0
            simp at hx
            subst hx
            refine ⟨rfl, .inl ⟨rfl, hr.1, by simp, ?_⟩⟩
            simp only [PT.var]
            rw [vget_app, hv]
            simp
        · have := h.tl j k' s' hj
          refine ⟨this.1, this.2.1, fun i hi => ?_⟩
          have := this.2.2 i hi
          simp
          omega
        · simp only [PT.var] at hc
          rw [vget_app] at hc
          cases hq : vget u S.vs with
          | some d =>
            rw [hq] at hc
            cases hc
            obtain ⟨x, h1, h2⟩ := h.vs u c hq
            exact ⟨x, by simp only [PT.var]; rw [List.getElem?_append_left (List.getElem?_eq_some_iff.1 h1).1]; exact h1, h2⟩
          | none =>
            rw [hq] at hc
            simp only at hc
            split at hc
            · rename_i e
              cases hc
              subst e
              exact ⟨_, by simp only [PT.var]; rw [List.getElem?_append_right (Nat.le_refl _), Nat.sub_self]; rfl, rfl, rfl⟩
            · cases hc
        · by_cases e : c = S.cl.length
          · rw [if_pos e]; exact good_vr hr
          · rw [if_neg e]; simp at hc; exact h.ok c (by omega)
        · simp [ht]
        · simp only [List.mem_singleton] at hi; subst hi; simp
        · simp only [PT.var]
          rw [List.map_append, hk, hkey, hv]
          simp
    · have hv0 : v = 0 := hV.v hk
      rw [addU_eq, if_neg (show ¬ (PT.mk k v s).kind = 5 from hk)]
      simp only [PT.sub, PT.kind]
      obtain ⟨T1, h1⟩ := addUs_ag s S T (fun x hx => good_sub hg (by exact hx)) h
      generalize addUs s S = q at *
      have hn := hV.n
      simp only [PT.sub, PT.kind] at hn
      have hlen : q.2.length = prt k := by
        have := congrArg List.length h1.ids.1
        simp at this
        omega
      refine ⟨fun c => if c = q.1.cl.length then .mk k v s else T1 c, ⟨fun c x hx => ?_, fun j k' s' hj => ?_, fun u c hc => ?_, fun c hc => ?_⟩, by have := h1.le; simp; omega, fun c hc => ?_, ⟨by simp, fun i hi => ?_⟩, ?_⟩
      · rw [List.getElem?_append] at hx
        split at hx
        · rename_i hl
          obtain ⟨g1, g2⟩ := h1.ag.cl c x hx
          refine ⟨g1, ?_⟩
          simp only
          rw [if_neg (by omega)]
          rcases g2 with g2 | ⟨a, b, k', s', d, e, f, g⟩
          · exact .inl g2
          · refine .inr ⟨a, b, k', s', ?_, ?_, f, g⟩
            · rw [List.getElem?_append_left (List.getElem?_eq_some_iff.1 d).1]; exact d
            · rw [e]
              congr 1
              exact (AG.mono_ids (n := q.1.cl.length) (fun i hi => by rw [if_neg (by omega)]) fun i hi => by have := g i hi; omega).symm
        · rename_i hl
          have h0 : c = q.1.cl.length := by
            have := (List.getElem?_eq_some_iff.1 hx).1
            simp at this
            omega
          subst h0
          simp at hx
          subst hx
          refine ⟨rfl, .inr ⟨rfl, by simp, k, q.2, by simp, ?_, hk, h1.ids.2⟩⟩
          simp only [if_true]
          rw [hv0]
          congr 1
          rw [← h1.ids.1]
          exact (AG.mono_ids (n := q.1.cl.length) (fun i hi => by rw [if_neg (by omega)]) h1.ids.2).symm
      · rw [List.getElem?_append] at hj
        split at hj
        · have := h1.ag.tl j k' s' hj
          refine ⟨this.1, this.2.1, fun i hi => ?_⟩
          have := this.2.2 i hi
          simp
          omega
        · rename_i hl
          have h0 : j = q.1.tm.length := by
            have := (List.getElem?_eq_some_iff.1 hj).1
            simp at this
            omega
          subst h0
          simp at hj
          obtain ⟨rfl, rfl⟩ := hj
          refine ⟨hlen, ⟨hk, hV.k⟩, fun i hi => ?_⟩
          have := h1.ids.2 i hi
          simp
          omega
      · obtain ⟨x, g1, g2⟩ := h1.ag.vs u c hc
        exact ⟨x, by rw [List.getElem?_append_left (List.getElem?_eq_some_iff.1 g1).1]; exact g1, g2⟩
      · by_cases e : c = q.1.cl.length
        · rw [if_pos e]; exact hg
        · rw [if_neg e]; simp at hc; exact h1.ag.ok c (by omega)
      · have := h1.le
        try simp only
        rw [if_neg (by omega)]
        exact h1.old c hc
      · simp only [List.mem_singleton] at hi; subst hi; simp
      · rw [h1.key, sns_cons, sns_nil, sn_eq]
        have : adv (S.vs.map (·.1)) (PT.mk k v s) = S.vs.map (·.1) := by
          unfold adv
          rw [if_neg (fun e => hk e.1)]
        rw [this]
        rfl
theorem addUs_ag : ∀ (l : List PT) (S : US) (T : Nat → PT), (∀ x ∈ l, cke x = 0) → AG S T → ∃ T', AddG S T l (addUs l S).1 T' (addUs l S).2
  | [], S, T, _, h => ⟨T, by simpa [addUs] using h, by simp [addUs], fun _ _ => rfl, ⟨by simp [addUs], by simp [addUs]⟩, by simp [addUs, sns_nil]⟩
  | x :: l, S, T, hg, h => by
    obtain ⟨T1, h1⟩ := addU_ag x S T (hg x (by simp)) h
    obtain ⟨T2, h2⟩ := addUs_ag l (addU x S).1 T1 (fun y hy => hg y (by simp [hy])) h1.ag
    have hi := h1.ids
    simp only [List.map_cons, List.map_nil, List.cons.injEq, and_true, List.mem_singleton, forall_eq] at hi
    simp only [addUs]
    refine ⟨T2, h2.ag, Nat.le_trans h1.le h2.le, fun c hc => (h2.old c (Nat.lt_of_lt_of_le hc h1.le)).trans (h1.old c hc), ⟨?_, fun i hm => ?_⟩, ?_⟩
    · rw [List.map_cons, h2.ids.1, h2.old _ hi.2, hi.1]
    · rcases List.mem_cons.1 hm with rfl | hm
      · exact Nat.lt_of_lt_of_le hi.2 h2.le
      · exact h2.ids.2 i hm
    · rw [h2.key, h1.key]
      simp [sns_cons, sns_nil]
end
def US.nil : US := ⟨[], [], []⟩
theorem AG.nil (T : Nat → PT) : AG US.nil T := ⟨fun c x h => by simp [US.nil] at h, fun j k s h => by simp [US.nil] at h, fun v c h => by simp [US.nil, vget] at h, fun c h => by simp [US.nil] at h⟩
theorem AG.roots {S : US} {T : Nat → PT} (h : AG S T) : roots S.cl = S.cl.length := by
  unfold Ytjlmhfdigoogfaa.roots
  rw [List.countP_eq_length.2]
  · simp
  · intro c hc
    have hc := List.mem_range.1 hc
    obtain ⟨x, hx⟩ : ∃ x, S.cl[c]? = some x := ⟨_, List.getElem?_eq_getElem hc⟩
    simp [hx, (h.cl c x hx).1]
theorem AG.ci {S : US} {T : Nat → PT} (h : AG S T) : CI S.tm S.cl := by
  refine ⟨fun c hc => ?_, fun c x hx => ?_, fun c x hx => ?_, fun j k s hj => ⟨(h.tl j k s hj).1, (h.tl j k s hj).2.2⟩⟩
  · obtain ⟨x, hx⟩ : ∃ x, S.cl[c]? = some x := ⟨_, List.getElem?_eq_getElem hc⟩
    rw [h.roots, show S.cl.length + 1 - S.cl.length = 0 + 1 by omega]
    exact ⟨c, findP_of_root hx (h.cl c x hx).1 0⟩
  · have := (List.getElem?_eq_some_iff.1 hx).1
    have := (h.cl c x hx).1
    omega
  · rcases (h.cl c x hx).2 with h1 | ⟨_, h1, k, s, h2, _⟩
    · omega
    · have := (List.getElem?_eq_some_iff.1 h2).1
      omega
/-- An assignment gives a tree to each class .. -/
theorem AG.mod {S : US} {T : Nat → PT} (h : AG S T) (f : Int → PT) : Mod S.tm S.cl fun c => (T c).rep f := by
  intro c x hx
  obtain ⟨h1, h2⟩ := h.cl c x hx
  refine ⟨by rw [h1]; rfl, fun _ k s h3 h4 => ?_⟩
  rcases h2 with h2 | ⟨_, _, k', s', h5, h6, h7, _⟩
  · omega
  · rw [h5] at h4
    cases h4
    show (T c).rep f = _
    rw [h6, rep_eq, if_neg (show ¬ (PT.mk k 0 _).kind = 5 from h7)]
    simp [PT.kind, PT.sub]
def cof (S : US) (v : Int) : Nat := (vget v S.vs).getD 0
/-- .. and the other way round. -/
theorem AG.of_mod {S : US} {T : Nat → PT} (h : AG S T) {m : Nat → PT} (hm : Mod S.tm S.cl m) : ∀ c, c < S.cl.length → m c = (T c).rep fun v => m (cof S v) := by
  intro c
  induction c using Nat.strongRecOn with
  | ind c ih =>
    intro hc
    obtain ⟨x, hx⟩ : ∃ x, S.cl[c]? = some x := ⟨_, List.getElem?_eq_getElem hc⟩
    obtain ⟨h1, h2⟩ := h.cl c x hx
    rcases h2 with ⟨_, _, h3, h4⟩ | ⟨_, h0, k, s, h5, h6, h7, h8⟩
    · rw [h3, rep_vr]
      unfold cof
      rw [h4]
      rfl
    · rw [(hm c x hx).2 h1 k s h0 h5, h6, rep_eq, if_neg (show ¬ (PT.mk k 0 _).kind = 5 from h7)]
      simp only [PT.kind, PT.sub, List.map_map]
      congr 1
      exact List.map_congr_left fun i hi => ih i (h8 i hi) (by have := h8 i hi; omega)
/-- The least variables. -/
structure LI (vs : List (Int × Nat)) (cl : List Cl) : Prop where
  l1 : ∀ v c r x, vget v vs = some c → findP (cl.length + 1) cl c = some r → cl[r]? = some x → 0 ≤ x.least ∧ x.least ≤ v
  l2 : ∀ (r : Nat) x, cl[r]? = some x → x.up = r → 0 ≤ x.least → ∃ c, vget x.least vs = some c ∧ findP (cl.length + 1) cl c = some r
  l3 : ∀ (r : Nat) x, cl[r]? = some x → x.up = r → x.term < 0 → 0 ≤ x.least
  l4 : ∀ v c, vget v vs = some c → c < cl.length
theorem AG.li {S : US} {T : Nat → PT} (h : AG S T) : LI S.vs S.cl := by
  refine ⟨fun v c r x hv hf hx => ?_, fun r x hx hu h0 => ?_, fun r x hx hu h0 => ?_, fun v c hv => ?_⟩
  · obtain ⟨y, h1, h2, h3⟩ := h.vs v c hv
    have h4 := findP_uniq hf (findP_of_root h1 (h.cl c y h1).1 0)
    subst h4
    rw [h1] at hx
    cases hx
    rcases (h.cl r x h1).2 with h5 | h5 <;> omega
  · rcases (h.cl r x hx).2 with ⟨_, _, _, h5⟩ | h5
    · exact ⟨r, h5, findP_of_root hx hu _⟩
    · omega
  · rcases (h.cl r x hx).2 with h5 | h5 <;> omega
  · obtain ⟨y, h1, -⟩ := h.vs v c hv
    exact (List.getElem?_eq_some_iff.1 h1).1
theorem LI.uni {tm : List (Int × List Nat)} {vs : List (Int × Nat)} {cl : List Cl} (hc : CI tm cl) (h : LI vs cl) {a b : Nat} {x y : Cl} {t : Int} (hx : cl[a]? = some x) (hy : cl[b]? = some y) (hxu : x.up = a) (hyu : y.up = b) (hne : a ≠ b) (ht : t < 0 → x.term < 0 ∧ y.term < 0) : LI vs (uni cl a b x y t) := by
  have ha := (List.getElem?_eq_some_iff.1 hx).1
  have hb := (List.getElem?_eq_some_iff.1 hy).1
  have fu : ∀ {c r : Nat}, c < cl.length → findP ((Ytjlmhfdigoogfaa.uni cl a b x y t).length + 1) (Ytjlmhfdigoogfaa.uni cl a b x y t) c = some r → ∃ r0, findP (cl.length + 1) cl c = some r0 ∧ r = if r0 = b then a else r0 := fun {c r} hcl hf => by
    obtain ⟨r0, _, h1, _⟩ := hc.find hcl
    exact ⟨r0, h1, findP_uniq hf (findP_uni hx hy hxu hyu hne h1)⟩
  have fu' : ∀ {c r0 : Nat}, findP (cl.length + 1) cl c = some r0 → c < cl.length → findP ((Ytjlmhfdigoogfaa.uni cl a b x y t).length + 1) (Ytjlmhfdigoogfaa.uni cl a b x y t) c = some (if r0 = b then a else r0) := fun {c r0} hf hcl => by
    have hr := roots_uni (t := t) hx hy hxu hyu hne
    have hl := roots_le cl
    obtain ⟨r1, h1⟩ := hc.fd c hcl
    obtain rfl := findP_uniq hf h1
    have h2 := findP_uni (t := t) hx hy hxu hyu hne h1
    rw [uni_len]
    exact findP_mono h2 (by omega)
  have ga := uni_get (x := x) (y := y) (t := t) ha hb
  refine ⟨fun v c r z hv hf hz => ?_, fun r z hz hu h0 => ?_, fun r z hz hu h0 => ?_, fun v c hv => by rw [uni_len]; exact h.l4 v c hv⟩
  · obtain ⟨r0, h1, rfl⟩ := fu (h.l4 v c hv) hf
    obtain ⟨z0, hz0, hzu⟩ := findP_root h1
    have h2 := h.l1 v c r0 z0 hv h1 hz0
    by_cases e : r0 = b
    · subst e
      rw [if_pos rfl, ga, if_pos rfl] at hz
      cases hz
      rw [hy] at hz0
      cases hz0
      simp only [lst]
      split <;> omega
    · rw [if_neg e, ga] at hz
      by_cases e2 : r0 = a
      · subst e2
        rw [if_pos rfl] at hz
        cases hz
        rw [hx] at hz0
        cases hz0
        simp only [lst]
        split <;> omega
      · rw [if_neg e2, if_neg e, hz0] at hz
        cases hz
        exact h2
  · rw [ga] at hz
    by_cases e : r = a
    · subst e
      rw [if_pos rfl] at hz
      cases hz
      simp only at h0 ⊢
      by_cases hl : x.least < 0 ∨ (0 ≤ y.least ∧ y.least < x.least)
      · have e1 : lst x y = y.least := if_pos hl
        rw [e1] at h0 ⊢
        obtain ⟨c, h1, h2⟩ := h.l2 b y hy hyu h0
        exact ⟨c, h1, by have := fu' h2 (h.l4 _ _ h1); rw [if_pos rfl] at this; exact this⟩
      · have e1 : lst x y = x.least := if_neg hl
        rw [e1] at h0 ⊢
        obtain ⟨c, h1, h2⟩ := h.l2 r x hx hxu h0
        exact ⟨c, h1, by have := fu' h2 (h.l4 _ _ h1); rw [if_neg hne] at this; exact this⟩
    · rw [if_neg e] at hz
      by_cases e2 : r = b
      · subst e2
        rw [if_pos rfl] at hz
        cases hz
        simp only at hu
        omega
      · rw [if_neg e2] at hz
        obtain ⟨c, h1, h2⟩ := h.l2 r z hz hu h0
        exact ⟨c, h1, by have := fu' h2 (h.l4 _ _ h1); rw [if_neg e2] at this; exact this⟩
  · rw [ga] at hz
    by_cases e : r = a
    · subst e
      rw [if_pos rfl] at hz
      cases hz
      have h1 := ht h0
      have h2 := h.l3 r x hx hxu h1.1
      have h3 := h.l3 b y hy hyu h1.2
      simp only [lst]
      split <;> omega
    · rw [if_neg e] at hz
      by_cases e2 : r = b
      · subst e2
        rw [if_pos rfl] at hz
        cases hz
        simp only at hu
        omega
      · rw [if_neg e2] at hz
        exact h.l3 r z hz hu h0
theorem joinL_pres {P : List Cl → Prop} {f : List Cl → Nat → Nat → Option (Bool × List Cl)} (hf : ∀ cl i j r cl', P cl → f cl i j = some (r, cl') → P cl') : ∀ (s t : List Nat) (cl : List Cl) (r : Bool) (cl' : List Cl), P cl → joinL f cl s t = some (r, cl') → P cl'
  | [], t, cl, r, cl', h, e => by cases t <;> · simp only [joinL] at e; cases e; exact h
  | i :: s, [], cl, r, cl', h, e => by simp [joinL] at e
  | i :: s, j :: t, cl, r, cl', h, e => by
    simp only [joinL] at e
    cases hq : f cl i j with
    | none => rw [hq] at e; cases e
    | some p =>
      obtain ⟨q, c1⟩ := p
      rw [hq] at e
      cases q with
      | true => exact joinL_pres hf s t c1 r cl' (hf _ _ _ _ _ h hq) e
      | false => simp only at e; cases e; exact hf _ _ _ _ _ h hq
theorem joinP_pres {tm : List (Int × List Nat)} {P : List Cl → Prop} (hP : ∀ (cl : List Cl) (a b : Nat) (x y : Cl) (t : Int), P cl → cl[a]? = some x → cl[b]? = some y → x.up = ((a : Nat) : Int) → y.up = ((b : Nat) : Int) → a ≠ b → (t = x.term ∨ t = y.term) → (t < 0 → x.term < 0 ∧ y.term < 0) → P (uni cl a b x y t)) : ∀ (n : Nat) (cl : List Cl) (a b : Nat) (r : Bool) (cl' : List Cl), P cl → joinP n tm cl a b = some (r, cl') → P cl'
  | 0, _, _, _, _, _, _, e => by simp [joinP] at e
  | n + 1, cl, a0, b0, r, cl', h, e => by
    rw [joinP] at e
    cases fa : findP (cl.length + 1) cl a0 with
    | none => rw [fa] at e; simp at e
    | some a =>
      cases fb : findP (cl.length + 1) cl b0 with
      | none => rw [fa, fb] at e; simp at e
      | some b =>
        obtain ⟨x, hx, hxu⟩ := findP_root fa
        obtain ⟨y, hy, hyu⟩ := findP_root fb
        rw [fa, fb] at e
        simp only at e
        by_cases hne : a = b
        · rw [if_pos hne] at e; cases e; exact h
        · rw [if_neg hne] at e
          simp only [hx, hy] at e
          have hU := fun t => hP cl a b x y t h hx hy hxu hyu hne
          by_cases hy0 : y.term < 0
          · rw [if_pos hy0] at e; cases e; exact hU _ (.inl rfl) fun h => ⟨h, hy0⟩
          · rw [if_neg hy0] at e
            by_cases hx0 : x.term < 0
            · rw [if_pos hx0] at e; cases e; exact hU _ (.inr rfl) fun h => absurd h hy0
            · rw [if_neg hx0] at e
              cases hs : tm[x.term.toNat]? with
              | none => rw [hs] at e; simp at e
              | some s =>
                cases ht : tm[y.term.toNat]? with
                | none => rw [hs, ht] at e; simp at e
                | some t =>
                  rw [hs, ht] at e
                  simp only at e
                  have h1 := hU x.term (.inl rfl) fun h => absurd h hx0
                  by_cases hk : s.1 = t.1
                  · rw [if_pos hk] at e
                    exact joinL_pres (fun cl i j r cl' => joinP_pres hP n cl i j r cl') _ _ _ _ _ h1 e
                  · rw [if_neg hk] at e; cases e; exact h1
end Go.Proofs.Ytjlmhfdigoogfaa
namespace Go.Proofs.Ytjlmhfdigoogfaa

theorem mem_fold_adv {u : Int} : ∀ (m : List PT) (l : List Int), u ∈ m.foldl adv l ↔ u ∈ l ∨ ∃ x ∈ m, x.kind = 5 ∧ x.var = u
  | [], l => by simp
  | x :: m, l => by
    rw [List.foldl_cons, mem_fold_adv m]
    have h : u ∈ adv l x ↔ u ∈ l ∨ (x.kind = 5 ∧ x.var = u) := by
      unfold adv
      by_cases hk : x.kind = 5
      · by_cases hv : x.var ∈ l
        · rw [if_neg (by simp [hv])]
          constructor
          · exact .inl
          · rintro (h | ⟨-, rfl⟩)
            · exact h
            · exact hv
        · rw [if_pos ⟨hk, hv⟩, List.mem_append, List.mem_singleton]
          simp [hk, eq_comm]
      · rw [if_neg (by simp [hk])]
        simp [hk]
    rw [h]
    simp only [List.mem_cons, exists_eq_or_imp, or_assoc]
theorem mem_sn {u : Int} {l : List Int} {t : PT} : u ∈ sn l t ↔ u ∈ l ∨ Vin u t := mem_fold_adv t.pre l
theorem nodup_fold_adv : ∀ (m : List PT) (l : List Int), l.Nodup → (m.foldl adv l).Nodup
  | [], _, h => h
  | x :: m, l, h => by
    rw [List.foldl_cons]
    refine nodup_fold_adv m _ ?_
    unfold adv
    split
    · rename_i hx
      rw [List.nodup_append]
      exact ⟨h, by simp, fun a ha b hb e => by simp at hb; subst hb; subst e; exact hx.2 ha⟩
    · exact h
/-- The unifier of two types. -/
def usA (a b : PT) : US := (addU b (addU a US.nil).1).1
def uca (a : PT) : Nat := (addU a US.nil).2
def ucb (a b : PT) : Nat := (addU b (addU a US.nil).1).2
theorem usA_ok {a b : PT} (ha : cke a = 0) (hb : cke b = 0) : ∃ T, AG (usA a b) T ∧ T (uca a) = a ∧ T (ucb a b) = b ∧ uca a < (usA a b).cl.length ∧ ucb a b < (usA a b).cl.length ∧ (usA a b).vs.map (·.1) = sn (sn [] a) b := by
  obtain ⟨T1, h1⟩ := addU_ag a US.nil (fun _ => vr 0) ha (AG.nil _)
  obtain ⟨T2, h2⟩ := addU_ag b (addU a US.nil).1 T1 hb h1.ag
  have i1 := h1.ids
  have i2 := h2.ids
  simp only [List.map_cons, List.map_nil, List.cons.injEq, and_true, List.mem_singleton, forall_eq] at i1 i2
  refine ⟨T2, h2.ag, (h2.old _ i1.2).trans i1.1, i2.1, Nat.lt_of_lt_of_le i1.2 h2.le, i2.2, ?_⟩
  show (addU b (addU a US.nil).1).1.vs.map (·.1) = _
  rw [h2.key, h1.key]
  simp [sns_cons, sns_nil, US.nil]
theorem key_iff {a b : PT} {S : US} (h : S.vs.map (·.1) = sn (sn [] a) b) (v : Int) : (∃ c, vget v S.vs = some c) ↔ Vab a b v := by
  have h1 : vget v S.vs = none ↔ ¬ Vab a b v := by
    rw [vget_key, h, mem_sn, mem_sn]
    simp [Vab]
  cases hq : vget v S.vs with
  | none => rw [hq] at h1; simp only [true_iff] at h1; simp [h1]
  | some c => rw [hq] at h1; simp only [reduceCtorEq, false_iff] at h1; exact ⟨fun _ => Classical.not_not.1 h1, fun _ => ⟨c, rfl⟩⟩
section
variable {a b : PT} {S : US} {T : Nat → PT} {cl : List Cl}
theorem build_mod (hc : CI S.tm cl) (hl : LI S.vs cl) (hk : ∀ (j : Nat) k s, S.tm[j]? = some (k, s) → k ≠ 5) {m : Nat → PT} (hm : Mod S.tm cl m) : ∀ (n c : Nat) (t : PT), c < cl.length → buildP n S.tm cl c = some t → m c = t.rep fun v => m (cof S v)
  | 0, _, _, _, h => by simp [buildP] at h
  | n + 1, c, t, hcl, h => by
    obtain ⟨r, x, fc, hx, hxu, hr⟩ := hc.find hcl
    rw [buildP, fc] at h
    simp only [hx] at h
    rw [hm.find fc]
    by_cases hx0 : x.term < 0
    · rw [if_pos hx0] at h
      cases h
      rw [rep_vr]
      obtain ⟨c', h1, h2⟩ := hl.l2 r x hx hxu (hl.l3 r x hx hxu hx0)
      unfold cof
      rw [h1]
      exact (hm.find h2).symm
    · rw [if_neg hx0] at h
      cases hq : S.tm[x.term.toNat]? with
      | none => rw [hq] at h; cases h
      | some q =>
        obtain ⟨k, s⟩ := q
        rw [hq] at h
        obtain ⟨l, h1, rfl⟩ := Option.map_eq_some_iff.1 h
        rw [(hm r x hx).2 hxu k s (by omega) hq, rep_eq, if_neg (show ¬ (PT.mk k 0 l).kind = 5 from hk _ _ _ hq)]
        simp only [PT.kind, PT.sub]
        congr 1
        have hs := (hc.tl _ _ _ hq).2
        clear h hq
        induction s generalizing l with
        | nil => simp only [buildL, Option.some.injEq] at h1; subst h1; rfl
        | cons i s ih =>
          simp only [buildL] at h1
          cases e1 : buildP n S.tm cl i with
          | none => rw [e1] at h1; cases h1
          | some t =>
            cases e2 : buildL (buildP n S.tm cl) s with
            | none => rw [e1, e2] at h1; cases h1
            | some l' =>
              rw [e1, e2] at h1
              cases h1
              rw [List.map_cons, List.map_cons, build_mod hc hl hk hm n i t (hs i (by simp)) e1, ih l' e2 fun j hj => hs j (by simp [hj])]
theorem build_good (hc : CI S.tm cl) (hl : LI S.vs cl) (hk : ∀ (j : Nat) k s, S.tm[j]? = some (k, s) → k ≠ 5 ∧ 1 ≤ k ∧ k ≤ 5) (hr : ∀ v c, vget v S.vs = some c → 0 ≤ v ∧ v ≤ 999999) : ∀ (n c : Nat) (t : PT), c < cl.length → buildP n S.tm cl c = some t → cke t = 0 ∧ ∀ u, Vin u t → ∃ c, vget u S.vs = some c
  | 0, _, _, _, h => by simp [buildP] at h
  | n + 1, c, t, hcl, h => by
    obtain ⟨r, x, fc, hx, hxu, hr'⟩ := hc.find hcl
    rw [buildP, fc] at h
    simp only [hx] at h
    by_cases hx0 : x.term < 0
    · rw [if_pos hx0] at h
      cases h
      obtain ⟨c', h1, h2⟩ := hl.l2 r x hx hxu (hl.l3 r x hx hxu hx0)
      refine ⟨good_vr (hr _ _ h1), fun u hu => ?_⟩
      rw [vin_vr.1 hu]
      exact ⟨c', h1⟩
    · rw [if_neg hx0] at h
      cases hq : S.tm[x.term.toNat]? with
      | none => rw [hq] at h; cases h
      | some q =>
        obtain ⟨k, s⟩ := q
        rw [hq] at h
        obtain ⟨l, h1, rfl⟩ := Option.map_eq_some_iff.1 h
        have hK := hk _ _ _ hq
        have key : l.length = s.length ∧ ∀ x ∈ l, cke x = 0 ∧ ∀ u, Vin u x → ∃ c, vget u S.vs = some c := by
          have hs := (hc.tl _ _ _ hq).2
          clear h hq
          induction s generalizing l with
          | nil => simp only [buildL, Option.some.injEq] at h1; subst h1; simp
          | cons i s ih =>
            simp only [buildL] at h1
            cases e1 : buildP n S.tm cl i with
            | none => rw [e1] at h1; cases h1
            | some t =>
              cases e2 : buildL (buildP n S.tm cl) s with
              | none => rw [e1, e2] at h1; cases h1
              | some l' =>
                rw [e1, e2] at h1
                cases h1
                obtain ⟨h3, h4⟩ := ih l' e2 fun j hj => hs j (by simp [hj])
                refine ⟨by simp [h3], fun y hy => ?_⟩
                rcases List.mem_cons.1 hy with rfl | hy
                · exact build_good hc hl hk hr n i y (hs i (by simp)) e1
                · exact h4 y hy
        refine ⟨cke_mk ⟨hK.2, fun _ => rfl, by simp [PT.var], ?_⟩ fun x hx => (key.2 x hx).1, fun u hu => ?_⟩
        · rw [show (PT.mk k 0 l).sub = l from rfl, key.1, (hc.tl _ _ _ hq).1]; rfl
        · rcases vin_iff.1 hu with ⟨h2, -⟩ | ⟨y, hy, h2⟩
          · exact absurd h2 hK.1
          · exact (key.2 y hy).2 u h2
open Classical in
/-- The type of a class that can be built. -/
noncomputable def bty (S : US) (cl : List Cl) (c : Nat) : PT := if h : ∃ t, ∃ n, buildP n S.tm cl c = some t then Classical.choose h else vr 0
theorem bty_eq {n c : Nat} {t : PT} (h : buildP n S.tm cl c = some t) : bty S cl c = t := by
  unfold bty
  have h1 : ∃ t, ∃ n, buildP n S.tm cl c = some t := ⟨t, n, h⟩
  rw [dif_pos h1]
  obtain ⟨m, hm⟩ := Classical.choose_spec h1
  exact buildP_uniq hm h
theorem mod_bty (hc : CI S.tm cl) (hall : ∀ c, c < cl.length → ∃ n t, buildP n S.tm cl c = some t) : Mod S.tm cl (bty S cl) := by
  intro c x hx
  have hcl := (List.getElem?_eq_some_iff.1 hx).1
  obtain ⟨n, t, ht⟩ := hall c hcl
  have hu := hc.up c x hx
  refine ⟨?_, fun hxu k s h0 hq => ?_⟩
  · rw [bty_eq ht]
    cases n with
    | zero => simp [buildP] at ht
    | succ n =>
      by_cases e : x.up = c
      · rw [e, Int.toNat_natCast, bty_eq ht]
      · obtain ⟨r, z, fr, hz, hzu, hrl⟩ := hc.find hcl
        obtain ⟨r', z', fr', -⟩ := hc.find hu.2
        have h1 : r = r' := by
          have h2 := fr
          rw [findP, hx] at h2
          simp only at h2
          rw [if_neg e, if_pos hu.1] at h2
          exact findP_uniq h2 fr'
        subst h1
        have h3 : buildP (n + 1) S.tm cl x.up.toNat = some t := by
          rw [buildP] at ht ⊢
          rw [fr'] 
          rw [fr] at ht
          exact ht
        rw [bty_eq h3]
  · cases n with
    | zero => simp [buildP] at ht
    | succ n =>
      have ht' := ht
      rw [buildP, findP_of_root hx hxu] at ht
      simp only [hx] at ht
      rw [if_neg (by omega), hq] at ht
      obtain ⟨l, h1, rfl⟩ := Option.map_eq_some_iff.1 ht
      rw [bty_eq ht']
      congr 1
      clear ht ht' hq
      induction s generalizing l with
      | nil => simp only [buildL, Option.some.injEq] at h1; subst h1; rfl
      | cons i s ih =>
        simp only [buildL] at h1
        cases e1 : buildP n S.tm cl i with
        | none => rw [e1] at h1; cases h1
        | some t =>
          cases e2 : buildL (buildP n S.tm cl) s with
          | none => rw [e1, e2] at h1; cases h1
          | some l' =>
            rw [e1, e2] at h1
            cases h1
            rw [List.map_cons, ← ih l' e2, bty_eq e1]
end
/-- The variables, as the unifier found them. -/
structure Sol (S : US) (cl : List Cl) (kn : KN) (m : Int → PT) : Prop where
  get : ∀ v c, vget v S.vs = some c → ∃ q x n, findP (cl.length + 1) cl c = some q ∧ cl[q]? = some x ∧ ((x.term < 0 ∧ x.least = v) ↔ ((m v).kind = 5 ∧ (m v).var = v)) ∧ kget q kn = some (min ((m v).size : Int) 201) ∧ buildP n S.tm cl q = some (m v)
theorem unify_ok {a b : PT} (ha : cke a = 0) (hb : cke b = 0) : ∃ r cl, joinP ((usA a b).cl.length + 1) (usA a b).tm (usA a b).cl (uca a) (ucb a b) = some (r, cl) ∧ CI (usA a b).tm cl ∧ cl.length = (usA a b).cl.length ∧ (r = false → ∀ s, a.rep s ≠ b.rep s) ∧
    (r = true → ∃ r2 kn, allP (sizesP (cl.length + 1) (usA a b).tm cl) [] (List.range cl.length) = some (r2, kn) ∧ (r2 = false → ∀ s, a.rep s ≠ b.rep s) ∧ (r2 = true → ∃ m, Mgu a b m ∧ Sol (usA a b) cl kn m)) := by
  obtain ⟨T, hT, ta, tb, la, lb, hkey⟩ := usA_ok ha hb
  generalize usA a b = S at *
  generalize uca a = ca at *
  generalize ucb a b = cb at *
  obtain ⟨r, cl, e, h1, h2, h3, h4, h5⟩ := joinP_ok (tm := S.tm) S.cl.length S.cl hT.ci (roots_le _) ca cb la lb
  have hli : CI S.tm cl ∧ LI S.vs cl := joinP_pres (P := fun cl => CI S.tm cl ∧ LI S.vs cl) (fun cl a b x y t h hx hy hxu hyu hne ht ht' => ⟨h.1.uni hx hy hxu hyu hne (by
    rcases ht with rfl | rfl
    · exact h.1.tr _ _ hx
    · exact h.1.tr _ _ hy), h.2.uni h.1 hx hy hxu hyu hne ht'⟩) _ _ _ _ _ _ ⟨hT.ci, hT.li⟩ e
  have hrg : ∀ v c, vget v S.vs = some c → 0 ≤ v ∧ v ≤ 999999 := fun v c hv => by
    rcases (key_iff hkey v).1 ⟨c, hv⟩ with h | h
    · exact vin_range ha h
    · exact vin_range hb h
  have two : ∀ s : Int → PT, (T ca).rep s = (T cb).rep s ↔ a.rep s = b.rep s := fun s => by rw [ta, tb]
  refine ⟨r, cl, e, h1, h2, fun h s hs => h5 h _ (hT.mod s) ((two s).2 hs), fun h => ?_⟩
  have ki0 : KI S.tm cl [] := fun c v hc => by simp [kget] at hc
  obtain ⟨r2, kn, g1, g2, g3, g4⟩ := allP_ok (tm := S.tm) (cl := cl) (f := sizesP (cl.length + 1) S.tm cl) (fun kn hk i hi => sizesP_ok h1 cl.length kn hk (by unfold unk; exact Nat.le_trans List.countP_le_length (by simp)) i hi) (List.range cl.length) [] ki0 (fun c => by simp [kget]) (fun i hi => List.mem_range.1 hi)
  refine ⟨r2, kn, g1, fun hr2 s hs => g4 hr2 _ ((h4 h _).2 ⟨hT.mod s, (two s).2 hs⟩), fun hr2 => ?_⟩
  have hall : ∀ c, c < cl.length → ∃ n t, buildP n S.tm cl c = some t := fun c hc => by
    obtain ⟨q, n, t, -, h6, -⟩ := g3 hr2 c (List.mem_range.2 hc)
    exact ⟨n, t, h6⟩
  have hm := mod_bty h1 hall
  have hk5 : ∀ (j : Nat) k s, S.tm[j]? = some (k, s) → k ≠ 5 := fun j k s hj => (hT.tl j k s hj).2.1.1
  obtain ⟨hm0, hmab⟩ := (h4 h _).1 hm
  have hmv : ∀ v c, vget v S.vs = some c → (match vget v S.vs with | some c => bty S cl c | none => vr v) = bty S cl c := fun v c hv => by rw [hv]
  have hbr : ∀ t, (t = a ∨ t = b) → (t.rep fun v => match vget v S.vs with | some c => bty S cl c | none => vr v) = t.rep fun v => bty S cl (cof S v) := fun t ht => rep_congr fun u hu => by
    obtain ⟨c, hc⟩ := (key_iff hkey u).2 (by rcases ht with rfl | rfl; exact .inl hu; exact .inr hu)
    simp only [cof, hc, Option.getD_some]
  refine ⟨fun v => match vget v S.vs with | some c => bty S cl c | none => vr v, ⟨?_, fun s hs v => ?_, fun n k hnk => ?_, fun n hn => ?_, fun n hn => ?_⟩, ⟨fun v c hv => ?_⟩⟩
  · have e1 := hT.of_mod hm0 ca la
    have e2 := hT.of_mod hm0 cb lb
    rw [ta] at e1
    rw [tb] at e2
    rw [hbr a (.inl rfl), hbr b (.inr rfl), ← e1, ← e2]
    exact hmab
  · have hms := (h4 h _).2 ⟨hT.mod s, (two s).2 hs⟩
    cases hv : vget v S.vs with
    | none => simp only; rw [rep_vr]
    | some c =>
      simp only
      have hcl : c < cl.length := hli.2.l4 v c hv
      obtain ⟨n, t, ht⟩ := hall c hcl
      rw [bty_eq ht]
      have e1 := build_mod h1 hli.2 hk5 hms n c t hcl ht
      have hvv : ∀ u c, vget u S.vs = some c → (T c).rep s = s u := fun u c hu => by
        obtain ⟨x, hx, hx1, hx2⟩ := hT.vs u c hu
        rcases (hT.cl c x hx).2 with ⟨_, _, h6, _⟩ | h6
        · rw [h6, rep_vr, hx2]
        · omega
      rw [hvv v c hv] at e1
      rw [e1]
      refine rep_congr fun u hu => ?_
      obtain ⟨d, hd⟩ := (build_good h1 hli.2 (fun j k s hj => (hT.tl j k s hj).2.1) hrg n c t hcl ht).2 u hu
      simp only [cof, hd, Option.getD_some]
      exact hvv u d hd
  · cases hv : vget n S.vs with
    | none => simp only [hv] at hnk; have := (PT.mk.inj hnk).2.1; omega
    | some c =>
      simp only [hv] at hnk
      have hcl : c < cl.length := hli.2.l4 n c hv
      obtain ⟨N, t, ht⟩ := hall c hcl
      rw [bty_eq ht] at hnk
      subst hnk
      cases N with
      | zero => simp [buildP] at ht
      | succ N =>
        obtain ⟨q, x, fq, hx, hxu, hq⟩ := h1.find hcl
        rw [buildP, fq] at ht
        simp only [hx] at ht
        by_cases hx0 : x.term < 0
        · rw [if_pos hx0] at ht
          have e3 := (PT.mk.inj (Option.some.inj ht)).2.1
          have := (hli.2.l1 n c q x hv fq hx).2
          omega
        · rw [if_neg hx0] at ht
          cases hq2 : S.tm[x.term.toNat]? with
          | none => rw [hq2] at ht; cases ht
          | some p =>
            rw [hq2] at ht
            obtain ⟨l, -, h8⟩ := Option.map_eq_some_iff.1 ht
            exact absurd (PT.mk.inj h8).1 (hk5 _ p.1 p.2 hq2)
  · obtain ⟨c, hc⟩ := (key_iff hkey n).2 hn
    simp only [hc]
    have hcl : c < cl.length := hli.2.l4 n c hc
    obtain ⟨N, t, ht⟩ := hall c hcl
    rw [bty_eq ht]
    exact (build_good h1 hli.2 (fun j k s hj => (hT.tl j k s hj).2.1) hrg N c t hcl ht).1
  · cases hv : vget n S.vs with
    | none => rfl
    | some c => exact absurd ((key_iff hkey n).1 ⟨c, hv⟩) hn
  · have hcl : c < cl.length := hli.2.l4 v c hv
    obtain ⟨q, n, t, h6, h7, h8⟩ := g3 hr2 c (List.mem_range.2 hcl)
    obtain ⟨x, hx, hxu⟩ := findP_root h6
    have e3 : (match vget v S.vs with | some c => bty S cl c | none => vr v) = t := by rw [hv]; exact bty_eq h7
    cases n with
    | zero => simp [buildP] at h7
    | succ n =>
      have h9 : buildP (n + 1) S.tm cl q = some t := by
        rw [buildP, h6] at h7
        rw [buildP, findP_of_root hx hxu]
        exact h7
      simp only [e3]
      refine ⟨q, x, n + 1, h6, hx, ?_, h8, h9⟩
      rw [buildP, h6] at h7
      simp only [hx] at h7
      by_cases hx0 : x.term < 0
      · rw [if_pos hx0] at h7
        cases h7
        simp [vr, PT.kind, PT.var, hx0]
      · rw [if_neg hx0] at h7
        cases hq2 : S.tm[x.term.toNat]? with
        | none => rw [hq2] at h7; cases h7
        | some p =>
          rw [hq2] at h7
          obtain ⟨l, -, rfl⟩ := Option.map_eq_some_iff.1 h7
          have := hk5 _ p.1 p.2 hq2
          simp only [PT.kind, this, false_and, iff_false]
          exact fun h => hx0 h.1
/-- What Unify answers. -/
def uout (m : Int → PT) (V : List Int) : List (Int × PT) × Int := if V.any (fun n => decide (200 < (m n).size)) then ([], 4) else (V.filterMap fun n => if (m n).kind = 5 ∧ (m n).var = n then none else some (n, m n), 0)
end Go.Proofs.Ytjlmhfdigoogfaa
namespace Go.Proofs.Ytjlmhfdigoogfaa
open Go.RowKit Go.ChangeMaps

theorem ensF_get : ∀ (l : ML) (j i : Nat), (ensF j l)[i]? = l[i]?.map fun p => { key := iv p.1, val := p.2, born := j + i }
  | [], _, _ => by simp [ensF]
  | p :: l, j, 0 => by simp [ensF]
  | p :: l, j, i + 1 => by
    simp only [ensF, List.getElem?_cons_succ, ensF_get l (j + 1) i]
    congr 1
    funext p
    congr 1
    omega
theorem ensF_mem {l : ML} {e : MapEntry} (h : e ∈ ensF 0 l) : ∃ i p, l[i]? = some p ∧ e = { key := iv p.1, val := p.2, born := i } := by
  obtain ⟨i, hi⟩ := List.getElem?_of_mem h
  rw [ensF_get] at hi
  obtain ⟨p, h1, rfl⟩ := Option.map_eq_some_iff.1 hi
  exact ⟨i, p, h1, by simp⟩
theorem mem_ensF {l : ML} {i : Nat} {p : Int × Value} (h : l[i]? = some p) : ({ key := iv p.1, val := p.2, born := i } : MapEntry) ∈ ensF 0 l := by
  refine List.mem_of_getElem? (i := i) ?_
  rw [ensF_get, h]
  simp
theorem ensF_born (l : ML) : ∀ j, (ensF j l).map (·.born) = List.range' j l.length := by
  induction l with
  | nil => intro j; simp [ensF]
  | cons p l ih => intro j; simp [ensF, ih, List.range'_succ]
theorem nodup_perm {l m : List Nat} (h : l.Nodup) (k : m.Nodup) (e : ∀ a, a ∈ l ↔ a ∈ m) : l.Perm m := by
  rw [List.perm_iff_count]
  intro a
  by_cases ha : a ∈ l
  · rw [h.count, k.count, if_pos ha, if_pos ((e a).1 ha)]
  · rw [List.count_eq_zero_of_not_mem ha, List.count_eq_zero_of_not_mem fun hm => ha ((e a).2 hm)]
theorem nodup_len {n : Nat} {l : List Nat} (h : l.Nodup) (hl : ∀ j ∈ l, j < n) : l.length ≤ n := by
  have hp : (l ++ (List.range n).filter fun j => decide (j ∉ l)).Perm (List.range n) := by
    refine nodup_perm ?_ List.nodup_range fun a => ?_
    · rw [List.nodup_append]
      refine ⟨h, List.nodup_range.filter _, fun a ha b hb e => ?_⟩
      subst e
      have := (List.mem_filter.1 hb).2
      simp [ha] at this
    · rw [List.mem_append, List.mem_filter, List.mem_range]
      constructor
      · rintro (h | h)
        · exact hl a h
        · exact h.1
      · intro h
        by_cases ha : a ∈ l
        · exact .inl ha
        · exact .inr ⟨h, by simpa using ha⟩
  have := hp.length_eq
  simp at this
  omega
/-- A range under way: the places of the entries that have come. -/
structure RM (w : World) (b r : Nat) (l : ML) (got : List Nat) : Prop where
  m : MP w b l
  r : ∃ c0, w.heap[r]? = some (.mapIter (some b) l.length got.toArray c0) ∧ l.length ≤ c0
  nd : got.Nodup
  lt : ∀ j ∈ got, j < l.length
section
variable {w : World} {b r : Nat} {l : ML} {got : List Nat}
theorem RM.rlt (h : RM w b r l got) : r < w.heap.size := by obtain ⟨c0, h1, -⟩ := h.r; exact heap_lt h1
theorem RM.ne (h : RM w b r l got) : r ≠ b := by
  rintro rfl
  obtain ⟨c0, h1, -⟩ := h.r
  have := h.m
  unfold MP at this
  rw [h1] at this
  cases this
theorem RM.keep {V : World} (h : RM w b r l got) (hb : V.heap[b]? = w.heap[b]?) (hr : V.heap[r]? = w.heap[r]?) : RM V b r l got := by
  obtain ⟨c0, h1, h2⟩ := h.r
  exact ⟨h.m.keep hb, ⟨c0, hr.trans h1, h2⟩, h.nd, h.lt⟩
theorem RM.len (h : RM w b r l got) : got.length ≤ l.length := nodup_len h.nd h.lt
variable {ops : Array Oper} {rest : List Oper} {o : Oper} {a : Act} {Q : Exit → Act → World → Prop}
theorem wpList_range_rm (hg : o.guard = none) (m : Operand) {t e : TypeId} (hop : o.op = Op.range t m) (ht : Try.prog.underlying t = some (.map 3 e)) (hm : a.eval m = .map (some b)) (h : MP w b l)
    (hK : ∀ w', RM w' b w.heap.size l [] → Gr w w' → w'.heap.size = w.heap.size + 1 → wpList Try.prog ops Q rest (a.put o.dst (.pointer (some ⟨w.heap.size, 0, none⟩))) w') : wpList Try.prog ops Q (o :: rest) a w := by
  refine wpList_plain hg fun K' hK' => ?_
  have hrun := run_range_map (P := Try.prog) w t 3 e b (ensF 0 l).toArray l.length ht h
  unfold Oper.wp
  simp [execOp, hop, hm, hrun, Result.andThen]
  exact hK' _ _ (hK _ ⟨h.gr (gr_al _ _), ⟨l.length, al_new _ _, Nat.le_refl _⟩, List.nodup_nil, by simp⟩ (gr_al _ _) (by simp))
theorem wpList_next_rm (hg : o.guard = none) (it : Operand) (hop : o.op = Op.next it false) (hit : a.eval it = .pointer (some ⟨r, 0, none⟩)) (h : RM w b r l got)
    (hDone : got.Perm (List.range l.length) → wpList Try.prog ops Q rest (a.put o.dst (.tuple #[.bool false])) w)
    (hMore : ∀ (i : Nat) (p : Int × Value) (w' : World), l[i]? = some p → RM w' b r l (got ++ [i]) → w.grownBy w' (some r) → w'.heap.size = w.heap.size → (Instr.entry (.pointer (some ⟨r, 0, none⟩))).run Try.prog w' = .ok (.tuple #[iv p.1, p.2]) w' → wpList Try.prog ops Q rest (a.put o.dst (.tuple #[.bool true, iv p.1, p.2])) w') :
    wpList Try.prog ops Q (o :: rest) a w := by
  have hne := h.ne
  obtain ⟨c0, h1, h2⟩ := h.r
  have hold : ∀ x ∈ (ensF 0 l).toArray.toList, x.born < l.length := fun x hx => by
    obtain ⟨i, p, h3, rfl⟩ := ensF_mem (by simpa using hx)
    exact (List.getElem?_eq_some_iff.1 h3).1
  refine wpList_plain hg fun K' hK' => ?_
  unfold Oper.wp
  rcases run_next_at (P := Try.prog) w o.type r b l.length c0 got.toArray (ensF 0 l).toArray l.length h1 h.m hold h2 with ⟨h0, hrun⟩ | ⟨e, he, w1, hal, hrun⟩
  · simp [execOp, hop, hit, hrun, Result.andThen]
    refine hK' _ _ (hDone ?_)
    refine nodup_perm h.nd List.nodup_range fun a => ⟨fun ha => List.mem_range.2 (h.lt a ha), fun ha => ?_⟩
    have ha := List.mem_range.1 ha
    have h3 := all_seen _ _ h0 _ (by simpa using mem_ensF (List.getElem?_eq_getElem ha))
    simpa using h3
  · obtain ⟨hem, hes⟩ := mem_left he
    obtain ⟨i, p, h3, rfl⟩ := ensF_mem (by simpa using hem)
    have hr1 : w1.heap[r]? = some (.mapIter (some b) l.length got.toArray c0) := by rcases hal with rfl | rfl <;> exact h1
    have hb1 : w1.heap[b]? = some (.map (ensF 0 l).toArray l.length) := by rcases hal with rfl | rfl <;> exact h.m
    have hpu : got.toArray.push i = (got ++ [i]).toArray := by simp
    obtain ⟨U, hU⟩ : ∃ U, setBlock w1 r (.mapIter (some b) l.length (got ++ [i]).toArray l.length) = U := ⟨_, rfl⟩
    have hset : U.heap[r]? = some (.mapIter (some b) l.length (got ++ [i]).toArray l.length) ∧ ∀ j, j ≠ r → U.heap[j]? = w1.heap[j]? := by
      rw [← hU]
      exact MapKept.heap_set (o' := .mapIter (some b) l.length (got ++ [i]).toArray l.length) hr1
    have hgr : w.grownBy U (some r) ∧ U.heap.size = w.heap.size := by
      rw [← hU]
      rcases hal with rfl | rfl
      · exact ⟨⟨rfl, rfl, rfl, by simp [setBlock], fun j _ hj => (MapKept.heap_set hr1).2 j (fun e1 => hj (by rw [e1]))⟩, by simp [setBlock]⟩
      · exact ⟨⟨rfl, rfl, rfl, by simp [setBlock], fun j _ hj => (MapKept.heap_set hr1).2 j (fun e1 => hj (by rw [e1]))⟩, by simp [setBlock]⟩
    have hb' := (hset.2 b (fun e1 => hne e1.symm)).trans hb1
    have hni : i ∉ got := by simpa using hes
    have hen := run_entry_at (P := Try.prog) U r b l.length got.toArray (ensF 0 l).toArray l.length { key := iv p.1, val := p.2, born := i } (by rw [hset.1, hpu]) hb' (mem_ensF h3) (by rw [show (ensF 0 l).toArray.toList = ensF 0 l from rfl, ensF_born]; exact List.nodup_range')
    simp [execOp, hop, hit, hrun, Result.andThen, hU]
    refine hK' _ _ (hMore i p _ h3 ⟨hb', ⟨l.length, hset.1, Nat.le_refl _⟩, ?_, fun j hj => ?_⟩ hgr.1 hgr.2 hen)
    · rw [List.nodup_append]
      exact ⟨h.nd, by simp, fun a ha b hb e => by simp at hb; subst hb; subst e; exact hni ha⟩
    · rcases List.mem_append.1 hj with hj | hj
      · exact h.lt j hj
      · simp at hj; subst hj; exact (List.getElem?_eq_some_iff.1 h3).1
end
end Go.Proofs.Ytjlmhfdigoogfaa
namespace Go.Proofs.Ytjlmhfdigoogfaa
open Go.RowKit Go.Shelf

open Classical in
/-- What Unify answers. -/
noncomputable def uans (a b : PT) : List PA × Int :=
  if ck a ≠ 0 then ([], ck a) else if ck b ≠ 0 then ([], ck b)
  else if h : ∃ m, Mgu a b m then uout (Classical.choose h) (ascd (sn (sn [] a) b)) else ([], 22)
theorem uans_bad1 {a b : PT} (h : ck a ≠ 0) : uans a b = ([], ck a) := by unfold uans; rw [if_pos h]
theorem uans_bad2 {a b : PT} (h : ck a = 0) (h2 : ck b ≠ 0) : uans a b = ([], ck b) := by unfold uans; rw [if_neg (by simpa using h), if_pos h2]
theorem uout_congr {m m' : Int → PT} (h : ∀ n, m n = m' n) (V : List Int) : uout m V = uout m' V := by rw [funext h]
theorem uans_ok {a b : PT} {m : Int → PT} (h1 : ck a = 0) (h2 : ck b = 0) (hm : Mgu a b m) : uans a b = uout m (ascd (sn (sn [] a) b)) := by
  have h : ∃ m, Mgu a b m := ⟨m, hm⟩
  unfold uans
  rw [if_neg (by simpa using h1), if_neg (by simpa using h2), dif_pos h]
  exact uout_congr (fun n => (Classical.choose_spec h).uniq hm n) _
theorem uans_no {a b : PT} (h1 : ck a = 0) (h2 : ck b = 0) (h : ∀ s, a.rep s ≠ b.rep s) : uans a b = ([], 22) := by
  unfold uans
  rw [if_neg (by simpa using h1), if_neg (by simpa using h2), dif_neg]
  rintro ⟨m, hm⟩
  exact h m hm.un
theorem ck_cke {t : PT} (h : ck t = 0) : cke t = 0 ∧ t.size ≤ 200 := by
  have h1 := ck_size h
  unfold ck at h
  rw [if_neg (by omega)] at h
  exact ⟨h, h1⟩
/-- An assignment as a result. -/
def ASR (S : Nat → Prop) (l : List PA) (w : World) (v : Value) : Prop := ∃ A L c, v = .slice A (List.length L) c ∧ ARd w A L ∧ L.map As.er = l ∧ L.length ≤ c ∧ c ≤ 9223372036854775807 ∧ (A = none → c = 0) ∧ (∀ a, A = some a → L ≠ [] → S a.block) ∧ ∀ x ∈ L, TIn S x.ty.A x.ty.sub
theorem ASR.nil (S : Nat → Prop) (w : World) : ASR S [] w (.slice none 0 0) := ⟨none, [], 0, rfl, ⟨RD.nil, by simp⟩, rfl, by simp, by omega, fun _ => rfl, by simp, by simp⟩
theorem ASR.gr {S : Nat → Prop} {l : List PA} {w V : World} {v : Value} (h : ASR S l w v) (g : Gr w V) : ASR S l V v := by
  obtain ⟨A, L, c, e, h1, h2⟩ := h
  exact ⟨A, L, c, e, h1.gr g, h2⟩
/-- What Unify leaves. -/
def UnP (w : World) (R : List PA × Int) (e : Ending) (w' : World) : Prop := (∃ v, e = .returned (.tuple #[v, iv R.2]) ∧ ASR (fun k => w.heap.size ≤ k) R.1 w' v) ∧ Gr w w'
theorem unp_nil {w V : World} {n : Int} (g : Gr w V) : UnP w ([], n) (.returned (.tuple #[.slice none 0 0, iv n])) V := ⟨⟨_, rfl, ASR.nil _ _⟩, g⟩
set_option maxRecDepth 100000 in
set_option maxHeartbeats 4000000 in
theorem unify_bad1 (x y : Ty) (w : World) (hx : x.Rd w) (hc : ck x.er ≠ 0) : Calls Try.prog 14 #[x.v, y.v] w (UnP w (uans x.er y.er)) := by
  rw [uans_bad1 hc]
  have CX := Lib.hid (fun V (g : Gr w V) => check_any x V (TRd.gr hx g))
  obtain ⟨n, hn⟩ : ∃ n, ck x.er = n := ⟨_, rfl⟩
  rw [hn] at CX hc
  simp only [hn] at CX ⊢
  clear hx hn
  unfold Ty.v at *
  have hb : (n == 0) = false := by simpa using hc
  have hb2 : (n != 0) = true := by simpa using hc
  go_enter Try.func14, Try.ntmps14
  go_wp2_with (go_at_call 17; (with_reducible refine (CX.out _ ((gr_al _ _).trans (gr_al _ _))).mono ?_); rintro e w1 ⟨rfl, g1⟩; have G1 := Lib.hid g1; clear g1)
  go_ret2
  exact unp_nil (((gr_al _ _).trans (gr_al _ _)).trans G1.out)
set_option maxRecDepth 100000 in
set_option maxHeartbeats 4000000 in
theorem unify_bad2 (x y : Ty) (w : World) (hx : x.Rd w) (hy : y.Rd w) (hcx : ck x.er = 0) (hc : ck y.er ≠ 0) : Calls Try.prog 14 #[x.v, y.v] w (UnP w (uans x.er y.er)) := by
  rw [uans_bad2 hcx hc]
  have CX := Lib.hid (fun V (g : Gr w V) => check_any x V (TRd.gr hx g))
  have CY := Lib.hid (fun V (g : Gr w V) => check_any y V (TRd.gr hy g))
  rw [hcx] at CX
  obtain ⟨n, hn⟩ : ∃ n, ck y.er = n := ⟨_, rfl⟩
  simp only [hn] at CY hc ⊢
  clear hx hy hn hcx
  unfold Ty.v at *
  have hb : (n == 0) = false := by simpa using hc
  have hb2 : (n != 0) = true := by simpa using hc
  go_enter Try.func14, Try.ntmps14
  go_upto_region 4 with (go_at_call 17; (with_reducible refine (CX.out _ ((gr_al _ _).trans (gr_al _ _))).mono ?_); rintro e w1 ⟨rfl, g1⟩; have G1 := Lib.hid g1; have h2 := gr_h g1 (al_at _ (.cells #[iv y.kind, iv y.var, .slice y.A y.sub.length y.c] 24) (A := w.heap.size + 1) (by simp)); obtain ⟨⟨b0, b1, b2⟩, -⟩ := cell3 h2; clear g1 h2)
  go_wp2_with (go_at_call 17; (with_reducible refine (CY.out _ (((gr_al _ _).trans (gr_al _ _)).trans G1.out)).mono ?_); rintro e w2 ⟨rfl, g2⟩; have G2 := Lib.hid g2; clear g2)
  go_ret2
  exact unp_nil ((((gr_al _ _).trans (gr_al _ _)).trans G1.out).trans G2.out)
end Go.Proofs.Ytjlmhfdigoogfaa
namespace Go.Proofs.Ytjlmhfdigoogfaa
open Go.RowKit Go.Shelf Go.ChangeMaps

theorem wpList_appG {α : Type} {e : TypeId} {n : Nat} {cs : α → List Value} (t : TypeId) {z : Value} {bytes : Nat} (hn : ∀ x, (cs x).length = n) (h1 : ∀ x, ∀ u ∈ cs x, u.oneCell' = true) (ht : Try.prog.underlying t = some (.slice e)) (hinfo : (Try.prog.info? e).map (fun i => (i.zero, i.size, i.bytes)) = some (some z, n, bytes)) (hz : z.cells.size = n) (hn0 : 0 < n) (hby : bytes ≤ 1000)
    {w : World} {ops : Array Oper} {rest : List Oper} {o : Oper} {a : Act} {Q : Exit → Act → World → Prop} (hgd : o.guard = none) (s x : Operand)
    (ho : o.op = .call { callee := .builtin .append, args := #[s, x], argTypes := #[t, t] }) (base : Nat) {v : Value} {L : List α} (hs : a.eval s = v) (hown : OR e n cs w base v L)
    {A : Option Addr} {M : List α} {m c : Nat} (hm : M.length = m) (hx : a.eval x = .slice A m c) (hr : RD n cs w A M) (hA : A ≠ none) (hsz : L.length + M.length ≤ 1000000) (hb : base ≤ w.heap.size)
    (h : ∀ v' w', OR e n cs w' base v' (L ++ M) → w.grownBy w' v.ownBlock → (v'.ownBlock = v.ownBlock ∨ v'.ownBlock = some w.heap.size) → wpList Try.prog ops Q rest (a.put o.dst v') w') : wpList Try.prog ops Q (o :: rest) a w := by
  subst hm
  refine wpList_plain hgd fun K hK => ?_
  obtain ⟨v', w', hrun, h2, h3, h4⟩ := run_appR (t := t) (ty := o.type) hn h1 ht hinfo hz hn0 hby hown c hr hA hsz hb
  unfold Oper.wp execOp
  simp only [ho, resolve, invoke, builtin, Sem.run_bind, Sem.run_pure, Result.andThen_ok, List.map_toArray, List.map_cons, List.map_nil, hs, hx, hrun]
  exact hK _ _ (h v' w' h2 h3 h4)
theorem wpList_len_m {w : World} {b : Nat} {l : ML} {ops : Array Oper} {rest : List Oper} {o : Oper} {a : Act} {Q : Exit → Act → World → Prop} (hg : o.guard = none) (m : Operand) (hop : o.op = Op.call { callee := Callee.builtin Builtin.len, args := #[m], argTypes := #[66] }) (hm : a.eval m = .map (some b)) (h : MP w b l)
    (hK : wpList Try.prog ops Q rest (a.put o.dst (.int .i64 l.length)) w) : wpList Try.prog ops Q (o :: rest) a w := by
  refine wpList_plain hg fun K' hK' => ?_
  have e : (Builtin.len_ #[66] o.type #[.map (some b)]).run Try.prog w = .ok (.int .i64 l.length) w := by
    have h2 : (ensF 0 l).length = l.length := ensF_len l 0
    unfold MP at h
    simp [Builtin.len_, run_underlying Try.underlying66, MapKept.run_getObj_map h, goInt, Result.andThen, h2]
  unfold Oper.wp
  simp [execOp, hop, resolve, invoke, builtin, hm, e, Result.andThen]
  exact hK' _ _ hK
theorem info43 : (Try.prog.info? 43).map (fun i => (i.zero, i.size, i.bytes)) = some (some (.agg #[iv 0, iv 0, iv 0, .slice none 0 0]), 4, 48) := by kernel_rfl
/-- The unifier behind its join. -/
structure UJ (base : Nat) (w : World) (S : US) (V : World) : Prop where
  ut : ∃ tm, UT base (base + 1) base S tm V
  gr : Gr w V
  sz : base + 2 ≤ V.heap.size
theorem gr_fu {base ub : Nat} {w W V : World} (g : Gr w W) (hb : w.heap.size ≤ base) (f : Fu base ub W V) : Gr w V :=
  ⟨f.os.trans g.os, f.tape.trans g.tape, f.output.trans g.output, Nat.le_trans g.size f.size, fun k hk _ => (f.lo k (by omega) (Nat.lt_of_lt_of_le hk g.size)).trans (g.block k hk (by simp))⟩
theorem uj_add {base : Nat} {W0 : World} {S : US} {V : World} (h : UJ base W0 S V) (hb : W0.heap.size ≤ base) (x : Ty) (hx : x.Rd W0) (h1 : S.cl.length + x.er.size ≤ 10000) (h2 : S.tm.length + x.er.size ≤ 10000) :
    Calls Try.prog 44 #[.pointer (some ⟨base + 1, 0, none⟩), x.v] V fun e w' => e = .returned (.int .i64 (addU x.er S).2) ∧ UJ base W0 (addU x.er S).1 w' := by
  obtain ⟨⟨tm, hu⟩, g, sz⟩ := h
  refine (add_any x S tm V hu (by omega) (TRd.gr hx g) ((TRd.tin hx).mono fun j hj => by omega) h1 h2).mono ?_
  rintro e w' ⟨rfl, tm', h3, h4, -⟩
  exact ⟨rfl, ⟨tm', h3⟩, gr_fu g hb h4, Nat.le_trans sz h4.size⟩
theorem uj_join {base n : Nat} {W0 : World} {S : US} {V : World} (h : UJ base W0 S V) (hb : W0.heap.size ≤ base) {a b : Nat} {r : Bool} {cl : List Cl} (hj : joinP n S.tm S.cl a b = some (r, cl)) :
    Calls Try.prog 43 #[.pointer (some ⟨base + 1, 0, none⟩), .int .i64 a, .int .i64 b] V fun e w' => e = .returned (.bool r) ∧ UJ base W0 { S with cl := cl } w' := by
  obtain ⟨⟨tm, hu⟩, g, sz⟩ := h
  refine (join_any base (base + 1) base n S tm V a b r cl hu (by omega) hj).mono ?_
  rintro e w' ⟨rfl, h3, h4⟩
  exact ⟨rfl, ⟨tm, h3⟩, gr_fu g hb h4, Nat.le_trans sz h4.size⟩
theorem uj_new {w W0 : World} (g : Gr W0 w) : UJ w.heap.size W0 US.nil ((w.alloc (.map #[] 0)).alloc (.cells #[.slice none 0 0, .slice none 0 0, .map (some w.heap.size)] 70)) := by
  refine ⟨⟨[], .slice none 0 0, .slice none 0 0, ⟨al_at _ _ (by simp), OR.nil, OR.nil, by simp, ?_⟩, by omega, by omega, rfl⟩, g.trans ((gr_al _ _).trans (gr_al _ _)), by simp⟩
  exact MP.gr (l := []) (MP.made w) (gr_al _ _)
/-- Between the rounds of the sizes. -/
structure L1 (base kb : Nat) (w : World) (S : US) (tm : List Tm) (res : Option (Bool × KN)) (j : Nat) (V : World) : Prop where
  ut : UT base (base + 1) base S tm V
  ex : ∃ kn, MP V kb (kml kn) ∧ KI S.tm S.cl kn ∧ allP (sizesP (S.cl.length + 1) S.tm S.cl) kn ((List.range S.cl.length).drop j) = res
  gr : Gr w V
theorem range_drop {n j : Nat} (h : j < n) : (List.range n).drop j = j :: (List.range n).drop (j + 1) := by
  rw [List.drop_eq_getElem_cons (by simpa using h)]
  simp
/-- Between the rounds over the variables: what has come lies in a row. -/
structure L2 (W : World) (vb r : Nat) (l : ML) (got : List Nat) (v : Value) (V : World) : Prop where
  rm : RM V vb r l got
  ro : OR 3 1 NC V W.heap.size v (got.map fun j => ((l[j]?.map (·.1)).getD 0))
  gr : Gr W V
  rb : W.heap.size ≤ r
theorem RM.nocell {V : World} {b r : Nat} {l : ML} {got : List Nat} (h : RM V b r l got) : ∃ o, V.heap[r]? = some o ∧ ∀ c t f, o ≠ .cells c t f := by
  obtain ⟨c0, h1, -⟩ := h.r
  exact ⟨_, h1, by simp⟩
theorem L2.own {W : World} {vb r : Nat} {l : ML} {got : List Nat} {v : Value} {V : World} (h : L2 W vb r l got v V) : v.ownBlock ≠ some r := by
  intro e
  obtain ⟨-, c, hc⟩ := h.ro.typ e
  obtain ⟨o, h1, h2⟩ := h.rm.nocell
  rw [hc] at h1
  exact h2 _ _ _ (Option.some.inj h1).symm
theorem keys_perm {l : ML} {got : List Nat} (h : got.Perm (List.range l.length)) : (got.map fun j => ((l[j]?.map (·.1)).getD 0)).Perm (l.map (·.1)) := by
  have h1 := h.map fun j => ((l[j]?.map (·.1)).getD 0)
  refine h1.trans ?_
  have : (List.range l.length).map (fun j => ((l[j]?.map (·.1)).getD 0)) = l.map (·.1) := by
    refine List.ext_getElem? fun i => ?_
    simp only [List.getElem?_map]
    by_cases hi : i < l.length
    · rw [List.getElem?_range hi, List.getElem?_eq_getElem hi]; simp [List.getElem?_eq_getElem hi]
    · rw [List.getElem?_eq_none (by simpa using hi), List.getElem?_eq_none (by omega)]; rfl
  rw [this]
theorem ascd_congr {L M : List Int} (h : L.Perm M) : ascd L = ascd M := asc_unique (((ascd_perm L).trans h).trans (ascd_perm M).symm) (ascd_sorted _) (ascd_sorted _)
/-- What the unifier gives for the first variables. -/
def uo1 (m : Int → PT) (n : Int) : Option PA := if (m n).kind = 5 ∧ (m n).var = n then none else some (n, m n)
theorem uout_small {m : Int → PT} {V : List Int} (h : ∀ n ∈ V, (m n).size ≤ 200) : uout m V = (V.filterMap (uo1 m), 0) := by
  unfold uout
  rw [if_neg]
  · rfl
  · simp only [List.any_eq_true, decide_eq_true_eq, not_exists, not_and]
    intro n hn
    have := h n hn
    omega
theorem uout_great {m : Int → PT} {V : List Int} {n : Int} (hn : n ∈ V) (h : 200 < (m n).size) : uout m V = ([], 4) := by
  unfold uout
  rw [if_pos]
  simp only [List.any_eq_true, decide_eq_true_eq]
  exact ⟨n, hn, h⟩
/-- Between the rounds over the variables in order. -/
structure L3 (W : World) (m : Int → PT) (Vs : List Int) (k : Nat) (v : Value) (V : World) : Prop where
  gr : Gr W V
  sm : ∀ n ∈ Vs.take k, (m n).size ≤ 200
  ex : ∃ L : List As, OR 43 4 As.cs V W.heap.size v L ∧ L.map As.er = (Vs.take k).filterMap (uo1 m) ∧ ∀ y ∈ L, y.ty.Rd V ∧ TIn (fun j => W.heap.size ≤ j) y.ty.A y.ty.sub ∧ TIn (fun j => v.ownBlock ≠ some j) y.ty.A y.ty.sub
theorem L3.skip {W : World} {m : Int → PT} {Vs : List Int} {k : Nat} {v : Value} {V : World} (h : L3 W m Vs k v V) {n : Int} (hn : Vs[k]? = some n) (hs : (m n).size ≤ 200) (ho : (m n).kind = 5 ∧ (m n).var = n) : L3 W m Vs (k + 1) v V := by
  refine ⟨h.gr, fun i hi => ?_, ?_⟩
  · rw [List.take_add_one, hn] at hi
    rcases List.mem_append.1 hi with hi | hi
    · exact h.sm i hi
    · simp at hi; rw [hi]; exact hs
  · obtain ⟨L, h1, h2, h3⟩ := h.ex
    refine ⟨L, h1, ?_, h3⟩
    rw [List.take_add_one, hn, h2]
    simp [List.filterMap_append, uo1, ho]
theorem L3.step {W : World} {m : Int → PT} {Vs : List Int} {k s : Nat} {v v7 : Value} {V w6 w7 : World} (h : L3 W m Vs k v V) {n : Int} (hn : Vs[k]? = some n) (hs : (m n).size ≤ 200) (ho : ¬ ((m n).kind = 5 ∧ (m n).var = n)) {L : List As} {q : Ty} {o : Obj}
    (hO : OR 43 4 As.cs V W.heap.size v L) (hE : L.map As.er = (Vs.take k).filterMap (uo1 m)) (hL : ∀ y ∈ L, y.ty.Rd V ∧ TIn (fun j => W.heap.size ≤ j) y.ty.A y.ty.sub ∧ TIn (fun j => v.ownBlock ≠ some j) y.ty.A y.ty.sub)
    (hm : V.heap.size ≤ s) (g : Gr V w6) (hq : q.Rd w6) (hqi : TIn (fun k => s ≤ k) q.A q.sub) (hqe : q.er = m n)
    (o7 : OR 43 4 As.cs w7 W.heap.size v7 (L ++ [⟨n, q⟩])) (g7 : (w6.alloc o).grownBy w7 v.ownBlock) (b7 : v7.ownBlock = v.ownBlock ∨ v7.ownBlock = some (w6.alloc o).heap.size) : L3 W m Vs (k + 1) v7 w7 := by
  have hlt := hO.lt
  have hs6 := g.size
  have hs7 := g7.size
  have ha : (w6.alloc o).heap.size = w6.heap.size + 1 := by simp
  have gV := h.gr.size
  have G7 : Gr W w7 := OR.grow (h.gr.trans (g.trans (gr_al _ _))) (hO.gr (g.trans (gr_al _ _))) (Nat.le_refl _) g7
  have st : ∀ j, j < w6.heap.size → v.ownBlock ≠ some j → w7.heap[j]? = w6.heap[j]? := fun j h2 h3 => (g7.block j (by omega) (fun e => h3 e.symm)).trans (Below.heap_alloc _ _ _ h2)
  refine ⟨G7, fun i hi => ?_, L ++ [⟨n, q⟩], o7, ?_, ?_⟩
  · rw [List.take_add_one, hn] at hi
    rcases List.mem_append.1 hi with hi | hi
    · exact h.sm i hi
    · simp at hi; rw [hi]; exact hs
  · rw [List.take_add_one, hn, List.map_append, hE]
    simp [List.filterMap_append, uo1, ho, As.er, hqe]
  · intro z hz
    rcases List.mem_append.1 hz with hz | hz
    · obtain ⟨z1, z2, z3⟩ := hL z hz
      have z4 := (z1.tin.and (z2.and z3))
      refine ⟨TRd.keepAt z1 z4 (by omega) fun j hj hl => ?_, z2, z4.mono fun j hj => ?_⟩
      · exact (st j (by omega) hj.2.2).trans (g.block j hl (by simp))
      · rcases b7 with h | h
        · rw [h]; exact hj.2.2
        · rw [h]; intro e; have := hj.1; cases e; omega
    · simp only [List.mem_singleton] at hz
      subst hz
      have z4 := (TRd.tin hq).and hqi
      have z5 : ∀ j, s ≤ j → v.ownBlock ≠ some j := fun j hj e => by have := hlt _ e; omega
      refine ⟨TRd.keepAt hq z4 (by omega) fun j hj hl => ?_, hqi.mono fun j hj => by omega, z4.mono fun j hj => ?_⟩
      · exact st j hl (z5 j hj.2)
      · rcases b7 with h | h
        · rw [h]; exact z5 j hj.2
        · rw [h]; intro e; have := hj.1; cases e; omega
theorem L3.done {w W : World} {m : Int → PT} {Vs : List Int} {k : Nat} {v : Value} {V U : World} (h : L3 W m Vs k v V) (hk : Vs.length ≤ k) (g : Gr w V) (hb : w.heap.size ≤ W.heap.size) (gU : Gr V U) : UnP w (uout m Vs) (.returned (.tuple #[v, iv 0])) U := by
  obtain ⟨L, h1, h2, h3⟩ := h.ex
  have h4 := h.sm
  rw [List.take_of_length_le hk] at h4 h2
  rw [uout_small h4]
  obtain ⟨A, c, e, hr, h5, h6, h7, h8⟩ := h1.form2 As.cs_len
  refine ⟨⟨v, rfl, A, L, c, e, ⟨hr.gr gU, fun x hx => TRd.gr (h3 x hx).1 gU⟩, h2, h5, h6, h7, fun a ha _ => by have := (h8 a ha).1; omega, fun x hx => (h3 x hx).2.1.mono fun j hj => by omega⟩, g.trans gU⟩
end Go.Proofs.Ytjlmhfdigoogfaa
namespace Go.Proofs.Ytjlmhfdigoogfaa
open Go.RowKit Go.Shelf Go.ChangeMaps

theorem L2.step {W : World} {vb r : Nat} {l : ML} {got : List Nat} {v : Value} {V : World} (h : L2 W vb r l got v V) (hvb : vb < W.heap.size) {w' w7 : World} {i : Nat} {p : Int × Value} {o : Obj} {v7 : Value} (hi : l[i]? = some p) (hrm : RM w' vb r l (got ++ [i])) (hg : V.grownBy w' (some r))
    (o7 : OR 3 1 NC w7 W.heap.size v7 ((got.map fun j => ((l[j]?.map (·.1)).getD 0)) ++ [p.1])) (g7 : (w'.alloc o).grownBy w7 v.ownBlock) : L2 W vb r l (got ++ [i]) v7 w7 := by
  have hlt := h.ro.lt
  have hs := hg.size
  have hr := hrm.rlt
  have hgr := h.gr.size
  refine ⟨hrm.keep ?_ ?_, ?_, ?_, h.rb⟩
  · exact (g7.block _ (by simp; omega) (fun e => by have := hlt _ e.symm; omega)).trans (Below.heap_alloc _ _ _ (by omega))
  · exact (g7.block _ (by simp; omega) (fun e => h.own e.symm)).trans (Below.heap_alloc _ _ _ hr)
  · rw [List.map_append]
    simpa [hi] using o7
  · have g1 : Gr W w' := gr_own h.gr h.rb hg
    have g2 : Gr W (w'.alloc o) := g1.trans (gr_al _ _)
    exact ⟨g7.os.trans g2.os, g7.tape.trans g2.tape, g7.output.trans g2.output, Nat.le_trans g2.size g7.size, fun j hj _ => (g7.block j (Nat.lt_of_lt_of_le hj g2.size) (fun e => by have := hlt _ e.symm; omega)).trans (g2.block j hj (by simp))⟩
theorem L2.turned {W : World} {vb r : Nat} {l : ML} {got : List Nat} {v : Value} {V w' : World} (h : L2 W vb r l got v V) (hg : V.grownBy w' (some r)) : OR 3 1 NC w' W.heap.size v (got.map fun j => ((l[j]?.map (·.1)).getD 0)) := by
  refine h.ro.kept hg ?_
  cases hv : v.ownBlock with
  | none => exact .inl rfl
  | some k => right; rw [← hv]; exact h.own
theorem L2.start {W w8 w9 : World} {vb : Nat} {l : ML} {n : Nat} (g : Gr W w8) (o : OR 3 1 NC w8 W.heap.size (.slice (some ⟨W.heap.size, 0, none⟩) 0 n) []) (rm : RM w9 vb w8.heap.size l []) (g9 : Gr w8 w9) : L2 W vb w8.heap.size l [] (.slice (some ⟨W.heap.size, 0, none⟩) 0 n) w9 := ⟨rm, o.gr g9, g.trans g9, g.size⟩
theorem vlook1 {w : World} {b : Nat} {l : List (Int × Nat)} {k : Int} {c : Nat} (h : MP w b ((l.map fun p => (p.1, (p.2 : Int))).map fun p => (p.1, iv p.2))) (hc : vget k l = some c) :
    (Instr.lookup 66 (.map (some b)) (iv k) false).run Try.prog w = .ok (iv c) w := by
  have hl := (lookup_m h Try.underlying66 (z := iv 0) (by kernel_rfl) k).1
  rcases fnd_vget k l 0 with ⟨h1, h2⟩ | ⟨c', j, h1, h2⟩
  · rw [hc] at h1; cases h1
  · rw [hc] at h1
    cases h1
    rw [hl]; unfold mget; rw [h2]; rfl
/-- What the unifier knows of a variable. -/
structure SG (S : US) (cl : List Cl) (kn : KN) (t : PT) (v : Int) (c q : Nat) (x : Cl) (f : Nat) : Prop where
  vg : vget v S.vs = some c
  fd : findP (cl.length + 1) cl c = some q
  at' : cl[q]? = some x
  kg : kget q kn = some (min (t.size : Int) 201)
  bu : buildP f S.tm cl q = some t
  is : x.term < 0 ∧ x.least = v ↔ t.kind = 5 ∧ t.var = v
  sm : x.term < 0 → t.size ≤ 200
theorem sol_get {S : US} {cl : List Cl} {kn : KN} {m : Int → PT} (h : Sol S cl kn m) {v : Int} (hv : v ∈ S.vs.map (·.1)) : ∃ c q x f, SG S cl kn (m v) v c q x f := by
  obtain ⟨c, hc⟩ : ∃ c, vget v S.vs = some c := by
    cases h1 : vget v S.vs with
    | none => exact absurd hv (vget_key.1 h1)
    | some c => exact ⟨c, rfl⟩
  obtain ⟨q, x, f, h1, h2, h3, h4, h5⟩ := h.get v c hc
  refine ⟨c, q, x, f, hc, h1, h2, h4, h5, h3, fun h6 => ?_⟩
  cases f with
  | zero => simp [buildP] at h5
  | succ f =>
    obtain ⟨x', h7, h8⟩ := findP_root h1
    rw [h2] at h7
    cases h7
    rw [buildP, findP_of_root h2 h8] at h5
    simp only [h2] at h5
    rw [if_pos h6] at h5
    rw [← Option.some.inj h5]
    simp [vr, PT.size]
theorem rd_num {w : World} {A : Option Addr} {L : List Int} (h : RD 1 NC w A L) {k : Nat} {v : Int} (hv : L[k]? = some v) : ∃ a, A = some a ∧ w.cell? (a.add k) = some (iv v) := by
  obtain ⟨hk, e⟩ := List.getElem?_eq_some_iff.1 hv
  obtain ⟨a, e1, -, hc⟩ := h.at hk
  rw [e] at hc
  refine ⟨a, e1, ?_⟩
  have := hc 0 (iv v) rfl
  simpa using this
theorem l3_len {m : Int → PT} {Vs : List Int} {k : Nat} {L : List As} (h : L.map As.er = (Vs.take k).filterMap (uo1 m)) : L.length ≤ Vs.length := by
  have h1 := congrArg List.length h
  have h2 := List.length_filterMap_le (uo1 m) (Vs.take k)
  simp at h1 h2
  omega
end Go.Proofs.Ytjlmhfdigoogfaa
namespace Go.Proofs.Ytjlmhfdigoogfaa
open Go.RowKit Go.Shelf Go.ChangeMaps

theorem UJ.grow {base : Nat} {W0 : World} {S : US} {V V' : World} (h : UJ base W0 S V) (g : Gr V V') : UJ base W0 S V' := by
  obtain ⟨⟨tm, hu⟩, g0, sz⟩ := h
  exact ⟨⟨tm, hu.gr g⟩, g0.trans g, Nat.le_trans sz g.size⟩
def slen : Value → Nat
  | .slice _ n _ => n
  | _ => 0
set_option maxRecDepth 100000 in
set_option maxHeartbeats 8000000 in
theorem unify_go (x y : Ty) (w : World) (hx : x.Rd w) (hy : y.Rd w) (hcx : ck x.er = 0) (hcy : ck y.er = 0) : Calls Try.prog 14 #[x.v, y.v] w (UnP w (uans x.er y.er)) := by
  have ox := ck_cke hcx
  have oy := ck_cke hcy
  obtain ⟨r, cl, ej, hci, hlen, hno, hyes⟩ := unify_ok ox.1 oy.1
  have CX := Lib.hid (fun V (g : Gr w V) => check_any x V (TRd.gr hx g))
  have CY := Lib.hid (fun V (g : Gr w V) => check_any y V (TRd.gr hy g))
  rw [hcx] at CX
  rw [hcy] at CY
  have l1 := addU_len x.er US.nil
  have l2 := addU_len y.er (addU x.er US.nil).1
  have l0 : US.nil.cl.length = 0 ∧ US.nil.tm.length = 0 := ⟨rfl, rfl⟩
  have hk := usA_ok ox.1 oy.1
  obtain ⟨T, hT, -, -, la, lb, hkey⟩ := hk
  have ENO := Lib.hid (fun h => uans_no hcx hcy (hno h))
  have HYES := Lib.hid (show r = true → ∃ r2 kn, allP (sizesP (cl.length + 1) (usA x.er y.er).tm cl) [] (List.range cl.length) = some (r2, kn) ∧ (r2 = false → uans x.er y.er = ([], 22)) ∧ (r2 = true → ∃ m, uans x.er y.er = uout m (ascd (sn (sn [] x.er) y.er)) ∧ Sol (usA x.er y.er) cl kn m) from fun h => by
    obtain ⟨r2, kn, h1, h2, h3⟩ := hyes h
    exact ⟨r2, kn, h1, fun h => uans_no hcx hcy (h2 h), fun h => by obtain ⟨m, a, b⟩ := h3 h; exact ⟨m, uans_ok hcx hcy a, b⟩⟩)
  have HCI := Lib.hid hci
  have HKEY := Lib.hid hkey
  have HLN := Lib.hid (show (usA x.er y.er).vs.length ≤ 1000 from by
    have h1 := congrArg List.length hkey
    have h2 := sn_len [] x.er
    have h3 := sn_len (sn [] x.er) y.er
    simp at h1 h2
    omega)
  have HCL := Lib.hid (show cl.length ≤ 1000 from by
    rw [hlen]
    show (addU y.er (addU x.er US.nil).1).1.cl.length ≤ 1000
    omega)
  have HU0 := Lib.hid (fun (V W0 : World) (h : UJ V.heap.size W0 US.nil V) => h)
  have CA := Lib.hid (fun (base : Nat) (W0 V : World) (g : Gr w W0) (h : UJ base W0 US.nil V) (hb : W0.heap.size ≤ base) => uj_add h hb x (TRd.gr hx g) (by omega) (by omega))
  have CB := Lib.hid (fun (base : Nat) (W0 V : World) (g : Gr w W0) (h : UJ base W0 (addU x.er US.nil).1 V) (hb : W0.heap.size ≤ base) => uj_add h hb y (TRd.gr hy g) (by omega) (by omega))
  have CJ := Lib.hid (fun (base : Nat) (W0 V : World) (h : UJ base W0 (usA x.er y.er) V) (hb : W0.heap.size ≤ base) => uj_join h hb ej)
  have HYR := Lib.hid hy
  change Hid (∀ (base : Nat) (W0 V : World), Gr w W0 → UJ base W0 US.nil V → W0.heap.size ≤ base → Calls Try.prog 44 #[.pointer (some ⟨base + 1, 0, none⟩), x.v] V fun e w' => e = .returned (.int .i64 (uca x.er)) ∧ UJ base W0 (addU x.er US.nil).1 w') at CA
  change Hid (∀ (base : Nat) (W0 V : World), Gr w W0 → UJ base W0 (addU x.er US.nil).1 V → W0.heap.size ≤ base → Calls Try.prog 44 #[.pointer (some ⟨base + 1, 0, none⟩), y.v] V fun e w' => e = .returned (.int .i64 (ucb x.er y.er)) ∧ UJ base W0 (usA x.er y.er) w') at CB
  generalize (addU x.er US.nil).1 = S1 at *
  generalize usA x.er y.er = S at *
  generalize uca x.er = ca at *
  generalize ucb x.er y.er = cb at *
  generalize uans x.er y.er = R at *
  generalize sn (sn [] x.er) y.er = KV at *
  clear hx hy hcx hcy ox oy ej hci hlen hno hyes l1 l2 l0 hT la lb hkey T HU0 HYR
  unfold Ty.v at *
  obtain ⟨bx, hbx⟩ : ∃ bx, bx = Obj.cells #[iv x.kind, iv x.var, .slice x.A x.sub.length x.c] 24 (0, 0) := ⟨_, rfl⟩
  have HB1 := Lib.hid (show ((w.alloc (.cells #[iv x.kind, iv x.var, .slice x.A x.sub.length x.c] 24)).alloc (.cells #[iv y.kind, iv y.var, .slice y.A y.sub.length y.c] 24)).heap[w.heap.size]? = some (.cells #[iv x.kind, iv x.var, .slice x.A x.sub.length x.c] 24 (0, 0)) from gr_h (gr_al _ _) (al_new _ _))
  have HB2 := Lib.hid (show ((w.alloc (.cells #[iv x.kind, iv x.var, .slice x.A x.sub.length x.c] 24)).alloc (.cells #[iv y.kind, iv y.var, .slice y.A y.sub.length y.c] 24)).heap[w.heap.size + 1]? = some (.cells #[iv y.kind, iv y.var, .slice y.A y.sub.length y.c] 24 (0, 0)) from al_at _ _ (by simp))
  have GB := Lib.hid (show Gr w ((w.alloc (.cells #[iv x.kind, iv x.var, .slice x.A x.sub.length x.c] 24)).alloc (.cells #[iv y.kind, iv y.var, .slice y.A y.sub.length y.c] 24)) from (gr_al _ _).trans (gr_al _ _))
  clear hbx bx
  go_enter Try.func14, Try.ntmps14
  go_upto_region 1 with (fail)
  generalize hW0 : World.alloc (World.alloc w _) _ = W0 at *
  clear hW0
  obtain ⟨⟨a0, a1, a2⟩, -⟩ := cell3 HB1.out
  go_upto_region 4 with (go_at_call 17; (with_reducible refine (CX.out _ GB.out).mono ?_); rintro e w1 ⟨rfl, g1⟩; have G1 := Lib.hid g1; have h2 := gr_h g1 HB2.out; obtain ⟨⟨b0, b1, b2⟩, -⟩ := cell3 h2; clear g1 h2)
  clear a0 a1 a2
  go_upto_region 7 with (go_at_call 17; (with_reducible refine (CY.out _ (GB.out.trans G1.out)).mono ?_); rintro e w2 ⟨rfl, g2⟩; have G2 := Lib.hid (G1.out.trans g2); clear g2)
  clear b0 b1 b2 G1 CX CY
  have U0 := Lib.hid (uj_new G2.out)
  have HB := Lib.hid (show W0.heap.size ≤ w2.heap.size from G2.out.size)
  have hmm := @run_makeMap Try.prog
  go_upto_region 8 with (fail)
  have hn1 : w.heap.size + 1 < W0.heap.size := heap_lt HB2.out
  generalize hW4 : World.alloc (World.alloc w2 _) _ = W4 at *
  clear hW4
  have KS := Lib.hid (fun V (g : Gr W0 V) => (⟨(cell3 (gr_h g HB1.out)).1, (cell3 (gr_h g HB2.out)).1⟩ : (V.cell? ⟨w.heap.size, 0, none⟩ = some (iv x.kind) ∧ V.cell? ⟨w.heap.size, 1, none⟩ = some (iv x.var) ∧ V.cell? ⟨w.heap.size, 2, none⟩ = some (.slice x.A x.sub.length x.c)) ∧ V.cell? ⟨w.heap.size + 1, 0, none⟩ = some (iv y.kind) ∧ V.cell? ⟨w.heap.size + 1, 1, none⟩ = some (iv y.var) ∧ V.cell? ⟨w.heap.size + 1, 2, none⟩ = some (.slice y.A y.sub.length y.c)))
  go_cut [38] (fun s V => s = .bool (!r) ∧ Hid (UJ w2.heap.size W0 { S with cl := cl } V))
  case first =>
    obtain ⟨⟨a0, a1, a2⟩, b0, b1, b2⟩ := KS.out _ U0.out.gr
    go_region_held3 (fun V => (V.cell? ⟨w.heap.size, 0, none⟩ = some (iv x.kind) ∧ V.cell? ⟨w.heap.size, 1, none⟩ = some (iv x.var) ∧ V.cell? ⟨w.heap.size, 2, none⟩ = some (.slice x.A x.sub.length x.c)) ∧ V.cell? ⟨w.heap.size + 1, 0, none⟩ = some (iv y.kind) ∧ V.cell? ⟨w.heap.size + 1, 1, none⟩ = some (iv y.var) ∧ V.cell? ⟨w.heap.size + 1, 2, none⟩ = some (.slice y.A y.sub.length y.c)) (first | exact KS.out _ U3.out.gr | exact KS.out _ U2.out.gr | exact KS.out _ U1.out.gr | exact KS.out _ (U0.out.gr.trans (gr_drew _)) | go_keep | exact KS.out _ U0.out.gr) (first | (go_at_call 43; (with_reducible refine (CJ.out _ _ _ U2.out HB.out).mono ?_); rintro e w5 ⟨rfl, h5⟩; have U3 := Lib.hid h5; clear h5) | (go_at_call 44; (with_reducible refine (CA.out _ _ _ GB.out (U0.out.grow (gr_drew _)) HB.out).mono ?_); rintro e w3 ⟨rfl, h3⟩; have U1 := Lib.hid h3; clear h3) | (go_at_call 44; (with_reducible refine (CB.out _ _ _ GB.out U1.out HB.out).mono ?_); rintro e w4 ⟨rfl, h4⟩; have U2 := Lib.hid h4; clear h4))
    all_goals go_wp2
    all_goals go_meet
    all_goals exact ⟨rfl, U3⟩
  case rest =>
    obtain ⟨rfl, HU⟩ := hcut
    generalize hwc : wc = W5 at *
    clear hwc U0 KS CA CB CJ HB1 HB2 hn1 hmm
    have GW := Lib.hid (GB.out.trans HU.out.gr)
    clear GB
    cases r with
    | false =>
      obtain rfl : R = ([], 22) := ENO.out rfl
      go_wp2
      go_ret2
      exact unp_nil GW.out
    | true =>
      simp only [Bool.not_true]
      obtain ⟨r2, kn, ea, hr0, hr1⟩ := HYES.out rfl
      have HR0 := Lib.hid hr0
      have HR1 := Lib.hid hr1
      clear hr0 hr1 HYES ENO
      have hmm := @run_makeMap Try.prog
      go_upto_region 11 with (fail)
      obtain ⟨tm, hut⟩ := HU.out.ut
      have S5 := Lib.hid HU.out.sz
      have UT5 := Lib.hid hut
      obtain ⟨kb, hkb⟩ : ∃ kb, W5.heap.size = kb := ⟨_, rfl⟩
      have I0 := Lib.hid (show L1 w2.heap.size kb w { S with cl := cl } tm (some (r2, kn)) 0 (W5.alloc (.map #[] 0)) from ⟨hut.gr (gr_al _ _), ⟨[], by rw [← hkb]; exact MP.made _, fun c v hc => by simp [kget] at hc, by simpa using ea⟩, GW.out.trans (gr_al _ _)⟩)
      obtain ⟨vc, vt, hm, -⟩ := hut.gr (gr_al W5 (.map #[] 0))
      obtain ⟨A, cc, rfl, -⟩ := hm.c.form Cl.cs_len
      obtain ⟨⟨c0, -, -⟩, -⟩ := cell3 hm.h
      have G6 := Lib.hid (gr_al W5 (.map #[] 0))
      obtain ⟨N, hN⟩ : ∃ N, cl.length = N := ⟨_, rfl⟩
      have HN := Lib.hid hN
      simp only [hN] at c0
      clear hm hut ea HU hN hmm
      generalize hW6 : World.alloc W5 _ = W6 at *
      clear hW6
      have HKB := Lib.hid (show w2.heap.size + 2 ≤ kb from by rw [← hkb]; exact S5.out)
      have HKW := Lib.hid (show w.heap.size ≤ kb from by rw [← hkb]; exact GW.out.size)
      have hNl : N ≤ 1000 := by rw [← HN.out]; exact HCL.out
      rw [hkb]
      clear hkb UT5 S5
      go_wp2
      go_loopw [45] (fun i V => ∃ j : Nat, j ≤ N ∧ i = .int .i64 j ∧ Hid (L1 w2.heap.size kb w { S with cl := cl } tm (some (r2, kn)) j V)) (fun i _ => N - (intOf i).toNat)
      case atStart => exact ⟨0, Nat.zero_le _, rfl, I0⟩
      case round =>
        clear I0 c0 G6
        obtain ⟨j, hj, rfl, HI⟩ := hrel
        by_cases hlt : j < N
        · obtain ⟨k0, hMj, hKj, hSj⟩ := HI.out.ex
          have hjl : j < cl.length := by rw [HN.out]; exact hlt
          rw [range_drop (show j < ({ S with cl := cl } : US).cl.length from hjl)] at hSj
          simp only [allP] at hSj
          cases hq : sizesP (cl.length + 1) S.tm cl k0 j with
          | none => rw [hq] at hSj; cases hSj
          | some p =>
            obtain ⟨b, k2⟩ := p
            rw [hq] at hSj
            have SRj := Lib.hid (sizesP_sr HCI.out hKj hjl hq)
            have CL := Lib.hid (sizes_any w2.heap.size (w2.heap.size + 1) w2.heap.size kb (cl.length + 1) { S with cl := cl } tm wr k0 j b k2 HI.out.ut hMj (by have := HKB.out; omega) HCI.out hKj hjl hq)
            have HMj := Lib.hid hMj
            have HSj := Lib.hid hSj
            clear hMj hKj hSj hq
            cases b with
            | false =>
              go_wp2_with (first | (go_at_call 45; refine CL.out.mono ?_; rintro e w7 ⟨rfl, hM2, hG2⟩; have M2 := Lib.hid hM2; have G2 := Lib.hid hG2; clear hM2 hG2))
              have h2 := HSj.out
              simp only [Option.some.injEq, Prod.mk.injEq] at h2
              obtain ⟨rfl, rfl⟩ := h2
              obtain rfl : R = ([], 22) := HR0.out rfl
              go_ret2
              exact unp_nil (gr_own HI.out.gr HKW.out G2.out)
            | true =>
              go_wp2_with (first | (go_at_call 45; refine CL.out.mono ?_; rintro e w7 ⟨rfl, hM2, hG2⟩; have M2 := Lib.hid hM2; have G2 := Lib.hid hG2; clear hM2 hG2))
              exact ⟨⟨j + 1, hlt, by simp, Lib.hid ⟨HI.out.ut.kmap HMj.out (by have := HKB.out; omega) G2.out, ⟨k2, M2.out, SRj.out.1, HSj.out⟩, gr_own HI.out.gr HKW.out G2.out⟩⟩, by simp [intOf]; omega⟩
        · obtain rfl : j = N := by omega
          obtain ⟨W7, rfl⟩ : ∃ W, W = wr := ⟨_, rfl⟩
          obtain ⟨k0, hMj, hKj, hSj⟩ := HI.out.ex
          rw [List.drop_of_length_le (by simp [HN.out])] at hSj
          simp only [allP] at hSj
          obtain ⟨rfl, rfl⟩ := Prod.mk.inj (Option.some.inj hSj)
          obtain ⟨m, rfl, hsol⟩ := HR1.out rfl
          obtain ⟨VS, hVS⟩ : ∃ VS, ascd KV = VS := ⟨_, rfl⟩
          obtain ⟨l, hl⟩ : ∃ l : ML, (S.vs.map fun p => (p.1, (p.2 : Int))).map (fun p => (p.1, iv p.2)) = l := ⟨_, rfl⟩
          obtain ⟨n, hn⟩ : ∃ n, l.length = n := ⟨_, rfl⟩
          have hkl : l.map (·.1) = KV := by rw [← hl, ← HKEY.out]; simp
          have hnb : n ≤ 1000 := by rw [← hn, ← hl]; simpa using HLN.out
          have HSOL := Lib.hid hsol
          have HVS := Lib.hid hVS
          have HL := Lib.hid hl
          have HNN := Lib.hid hn
          have HKL := Lib.hid hkl
          have HMK := Lib.hid hMj
          have GR := Lib.hid HI.out.gr
          have UTR := Lib.hid HI.out.ut
          obtain ⟨vc, vt, hm, -⟩ := HI.out.ut
          have hv := hm.v
          change MP W7 w2.heap.size ((S.vs.map fun p => (p.1, (p.2 : Int))).map (fun p => (p.1, iv p.2))) at hv
          rw [hl] at hv
          have HV := Lib.hid hv
          obtain ⟨⟨-, -, c2⟩, -⟩ := cell3 hm.h
          have HUB := Lib.hid (show w2.heap.size < W7.heap.size from hv.lt)
          obtain ⟨i3, hi3, hz3, hs3, hb3⟩ := info_parts info3
          have HI3 := Lib.hid hi3
          have HZ3 := Lib.hid hz3
          have HS3 := Lib.hid hs3
          have HB3 := Lib.hid hb3
          clear hMj hKj hSj HI hsol hVS hl hn hkl hm hv hi3 hz3 hs3 hb3 HR0 HR1 hj hlt HLN HKEY
          go_wp2_with (first | (at_len; refine wpList_len_m rfl (.tmp 57) rfl rfl HV.out ?_; rw [HNN.out]) | (refine wpList_make_own _ rfl (.const (.int .i64 0)) (.tmp 58) 35 rfl W7.heap.size 3 i3 (.int .i64 0) 1 Try.underlying35 HI3.out HZ3.out HS3.out .i64 .i64 _ n rfl rfl rfl (by rw [HB3.out]; omega) (by unfold maxLen; omega) (Nat.le_refl _) ?_; intro w8 r8 g8; have R8 := Lib.hid r8; have G8 := Lib.hid g8; have c3 := gr_c g8 c2; clear r8 g8) | (at_range; refine wpList_range_rm rfl (.tmp 63) rfl Try.underlying66 rfl (HV.out.gr G8.out) ?_; intro w9 r9 g9 s9; have I0 := Lib.hid (L2.start G8.out R8.out r9 g9); clear r9 g9 s9))
          go_frame
          clear c2 c3
          obtain ⟨r, hr⟩ : ∃ r, w8.heap.size = r := ⟨_, rfl⟩
          have I1 := Lib.hid (show L2 W7 w2.heap.size r l [] (.slice (some ⟨W7.heap.size, 0, none⟩) 0 n) w9 from by rw [← hr]; exact I0.out)
          rw [hr]
          clear I0 hr R8 G8
          have hnb2 : l.length = n := HNN.out
          go_loopw [11] (fun v V => ∃ got, Hid (L2 W7 w2.heap.size r l got v V) ∧ slen v = got.length) (fun v _ => n - slen v)
          case atStart => exact ⟨[], I1, rfl⟩
          case round =>
            clear I1 hnb2
            obtain ⟨got, HI, hsl⟩ := hrel
            obtain ⟨A1, c1, rfl, hrd⟩ := HI.out.ro.form NC_len
            rw [List.length_map] at *
            have hlg := HI.out.rm.len
            have HSL := Lib.hid hsl
            have HRD := Lib.hid hrd
            clear hsl hrd
            go_wp2_with (at_next; refine wpList_next_rm rfl (.tmp 64) rfl rfl HI.out.rm ?_ ?_)
            · intro hp
              have HSD := Lib.hid (show ascd (got.map fun j => ((l[j]?.map (·.1)).getD 0)) = VS from by rw [← HVS.out, ← HKL.out]; exact ascd_congr (keys_perm hp))
              have HO := Lib.hid (show OR 3 1 NC wr W7.heap.size (.slice A1 got.length c1) (got.map fun j => ((l[j]?.map (·.1)).getD 0)) from by have := HI.out.ro; exact this)
              have hgb : got.length ≤ 1000 := by have := HNN.out; omega
              have HGB := Lib.hid hgb
              have GG := Lib.hid HI.out.gr
              clear hp hlg hgb
              have HSZ := Lib.hid (show (got.map fun j => ((l[j]?.map (·.1)).getD 0)).length ≤ 100000 from by rw [List.length_map]; have := HGB.out; omega)
              have HVL := Lib.hid (show VS.length = got.length from by rw [← HSD.out, ascd_len, List.length_map])
              clear HI HRD HSL HNN
              go_upto_region 24 with (go_at_call 46; (with_reducible refine (sort46 HO.out HSZ.out).mono ?_); rintro e w5 ⟨rfl, o5, g5⟩; have O5 := Lib.hid o5; have G5 := Lib.hid g5; clear o5 g5)
              have GW8 := Lib.hid (OR.grow GG.out HO.out (Nat.le_refl _) G5.out)
              have o5 := O5.out
              rw [HSD.out] at o5
              obtain ⟨A', c', e, hrd⟩ := o5.form NC_len
              obtain ⟨rfl, -, rfl⟩ := Value.slice.inj e
              have HRD := Lib.hid hrd
              have U8 := Lib.hid (UTR.out.gr GW8.out)
              obtain ⟨vc, vt, hm, -⟩ := U8.out
              obtain ⟨Ac, cc2, rfl, -⟩ := hm.c.form Cl.cs_len
              have hm2 := hm
              simp only [HN.out] at hm2
              have HM := Lib.hid hm2
              have HV8 := Lib.hid (HV.out.gr GW8.out)
              have HK8 := Lib.hid (HMK.out.gr GW8.out)
              have GWW := Lib.hid (GR.out.trans GW8.out)
              obtain ⟨nn, hnn⟩ : ∃ nn, got.length = nn := ⟨_, rfl⟩
              have HL2 := Lib.hid (show VS.length = nn from by rw [← hnn]; exact HVL.out)
              have hn9 : nn ≤ 1000 := by rw [← hnn]; exact HGB.out
              rw [hnn]
              clear e o5 hrd hm hm2 O5 G5 HO GG HSZ HVL HSD hnn HV HMK UTR HUB
              generalize w5 = W8 at *
              have I2 := Lib.hid (show L3 W8 m VS 0 (.slice none 0 0) W8 from ⟨gr_refl _, by simp, [], OR.nil, rfl, by simp⟩)
              go_wp2
              go_loopw [13, 77] (fun v i V => ∃ k : Nat, k ≤ nn ∧ i = .int .i64 k ∧ Hid (L3 W8 m VS k v V)) (fun _ i _ => nn - (intOf i).toNat)
              case atStart => exact ⟨0, Nat.zero_le _, rfl, I2⟩
              case round =>
                clear I2
                obtain ⟨k, hk, rfl, HI⟩ := hrel
                by_cases hlt : k < nn
                · obtain ⟨nv, hnv⟩ : ∃ v, VS[k]? = some v := ⟨_, List.getElem?_eq_getElem (by rw [HL2.out]; exact hlt)⟩
                  obtain ⟨c, q, X, f, sg⟩ := sol_get HSOL.out (v := nv) (by
                    have h1 := List.mem_of_getElem? hnv
                    rw [← HVS.out] at h1
                    have h2 := (ascd_perm KV).mem_iff.1 h1
                    rw [← HKL.out, ← HL.out] at h2
                    simpa using h2)
                  have SGX := Lib.hid sg
                  have HNV := Lib.hid hnv
                  have HMV := Lib.hid (HM.out.gr HI.out.gr)
                  obtain ⟨aV, rfl, r0⟩ := rd_num (HRD.out.gr HI.out.gr) hnv
                  obtain ⟨⟨d0, -, d2⟩, -⟩ := cell3 HMV.out.h
                  have hv8 := HV8.out.gr HI.out.gr
                  rw [← HL.out] at hv8
                  have lk1 := vlook1 hv8 sg.vg
                  have lk2 := (klook (HK8.out.gr HI.out.gr) q).1
                  rw [sg.kg, Option.getD_some] at lk2
                  obtain ⟨eN, hqN, ac, -, rfl, -⟩ := HMV.out.c.cl sg.at'
                  have CA := HMV.out.cls sg.at'
                  obtain ⟨pc, hpc⟩ : ∃ pc, ac.add (q * 3) = pc := ⟨_, rfl⟩
                  rw [hpc] at CA
                  have k1 := CA.c1
                  have k2 := CA.c2
                  have hmn : q < j := hqN
                  have HSM := Lib.hid sg.sm
                  have HIS := Lib.hid sg.is
                  clear hnv hv8 CA eN sg hqN
                  obtain ⟨sz, hsz⟩ : ∃ s, min ((m nv).size : Int) 201 = s := ⟨_, rfl⟩
                  rw [hsz] at lk2
                  have HS := Lib.hid hsz
                  by_cases hb : X.term < 0 ∧ X.least = nv
                  · have HVR := Lib.hid (HIS.out.1 hb)
                    obtain ⟨hx0, rfl⟩ := hb
                    clear hsz
                    go_wp2_with (first | (go_at_call 47; (with_reducible refine (find_any HMV.out SGX.out.fd).mono ?_); rintro e w6 ⟨rfl, hw⟩; subst hw))
                    exact ⟨⟨k + 1, hlt, by simp, Lib.hid (HI.out.skip HNV.out (HSM.out hx0) HVR.out)⟩, by simp [intOf]; omega⟩
                  · by_cases hgr : 200 < sz
                    · have hx0 : ¬ X.term < 0 := fun h => by have := HSM.out h; omega
                      have HGR := Lib.hid (show 200 < (m nv).size from by omega)
                      clear hsz hb
                      go_wp2_with (first | (go_at_call 47; (with_reducible refine (find_any HMV.out SGX.out.fd).mono ?_); rintro e w6 ⟨rfl, hw⟩; subst hw))
                      go_ret2
                      have hmem : nv ∈ VS := List.mem_of_getElem? HNV.out
                      rw [HVS.out, uout_great hmem HGR.out]
                      exact unp_nil (GWW.out.trans HI.out.gr)
                    · have hs2 : (m nv).size ≤ 200 := by omega
                      have HS2 := Lib.hid hs2
                      have HNO := Lib.hid (show ¬ ((m nv).kind = 5 ∧ (m nv).var = nv) from fun h => hb (HIS.out.2 h))
                      have BL := Lib.hid (build_any w2.heap.size (w2.heap.size + 1) w2.heap.size f { S with cl := cl } tm wr q (m nv) (U8.out.gr HI.out.gr) HCI.out SGX.out.bu)
                      obtain ⟨L, ho, hE, hLL⟩ := HI.out.ex
                      obtain ⟨A3, c3, rfl, -⟩ := ho.form As.cs_len
                      have HO := Lib.hid (fun V (g : Gr wr V) => ho.gr g)
                      have HE := Lib.hid hE
                      have HLL := Lib.hid hLL
                      have HLN := Lib.hid (show L.length ≤ 1000 from by have := l3_len hE; have := HL2.out; omega)
                      have HWS := Lib.hid (show ∀ V : World, Gr wr V → W8.heap.size ≤ V.heap.size from fun V g => Nat.le_trans HI.out.gr.size g.size)
                      clear hsz ho hE hLL hs2
                      by_cases hx0 : X.term < 0
                      · have hxl : ¬ X.least = nv := fun h => hb ⟨hx0, h⟩
                        clear hb
                        go_wp2_with (first | (go_at_call 47; (with_reducible refine (find_any HMV.out SGX.out.fd).mono ?_); rintro e w6 ⟨rfl, hw⟩; subst hw) | (go_at_call 48; refine BL.out.mono ?_; rintro e w6 ⟨⟨rv, rfl, Y, rfl, tr⟩, g6⟩; unfold Ty.v; have T6 := Lib.hid tr; have G6 := Lib.hid g6; have OW := Lib.hid (fun o : Obj => HO.out (w6.alloc o) (G6.out.trans (gr_al _ _))); have SW := Lib.hid (fun o : Obj => HWS.out (w6.alloc o) (G6.out.trans (gr_al _ _))); clear tr g6) | (at_builtin; refine wpList_appG (α := As) (cs := As.cs) 27 As.cs_len As.cell1 Try.underlying27 info43 rfl (by decide) (by decide) rfl (.tmp 114) (.tmp 120) rfl W8.heap.size rfl (OW.out _) (M := [⟨nv, Y⟩]) rfl rfl (rd_cells (t := 43) As.cs_len (al_new _ _)) (by simp) (by have := HLN.out; simp; omega) (SW.out _) ?_; intro v7 w7 o7 g7 b7; have O7 := Lib.hid o7; have G7 := Lib.hid g7; have B7 := Lib.hid b7; clear o7 g7 b7))
                        exact ⟨⟨k + 1, hlt, by simp, Lib.hid (HI.out.step HNV.out HS2.out HNO.out (HO.out _ (gr_refl _)) HE.out HLL.out (Nat.le_refl _) G6.out T6.out.1 T6.out.2.1 T6.out.2.2 O7.out G7.out B7.out)⟩, by simp [intOf]; omega⟩
                      · clear hb
                        go_wp2_with (first | (go_at_call 47; (with_reducible refine (find_any HMV.out SGX.out.fd).mono ?_); rintro e w6 ⟨rfl, hw⟩; subst hw) | (go_at_call 48; refine BL.out.mono ?_; rintro e w6 ⟨⟨rv, rfl, Y, rfl, tr⟩, g6⟩; unfold Ty.v; have T6 := Lib.hid tr; have G6 := Lib.hid g6; have OW := Lib.hid (fun o : Obj => HO.out (w6.alloc o) (G6.out.trans (gr_al _ _))); have SW := Lib.hid (fun o : Obj => HWS.out (w6.alloc o) (G6.out.trans (gr_al _ _))); clear tr g6) | (at_builtin; refine wpList_appG (α := As) (cs := As.cs) 27 As.cs_len As.cell1 Try.underlying27 info43 rfl (by decide) (by decide) rfl (.tmp 114) (.tmp 120) rfl W8.heap.size rfl (OW.out _) (M := [⟨nv, Y⟩]) rfl rfl (rd_cells (t := 43) As.cs_len (al_new _ _)) (by simp) (by have := HLN.out; simp; omega) (SW.out _) ?_; intro v7 w7 o7 g7 b7; have O7 := Lib.hid o7; have G7 := Lib.hid g7; have B7 := Lib.hid b7; clear o7 g7 b7))
                        exact ⟨⟨k + 1, hlt, by simp, Lib.hid (HI.out.step HNV.out HS2.out HNO.out (HO.out _ (gr_refl _)) HE.out HLL.out (Nat.le_refl _) G6.out T6.out.1 T6.out.2.1 T6.out.2.2 O7.out G7.out B7.out)⟩, by simp [intOf]; omega⟩
                · have HLK := Lib.hid (show VS.length ≤ k from by rw [HL2.out]; omega)
                  go_wp2
                  go_ret2
                  rw [HVS.out]
                  exact HI.out.done HLK.out (GWW.out.trans HI.out.gr) GWW.out.size (gr_refl _)
            · intro i pk pv w' hi hrm hg hsz hen
              have HH := Lib.hid hi
              have HRM := Lib.hid hrm
              have HG := Lib.hid hg
              have hlg2 := hrm.len
              rw [List.length_append] at hlg2
              have GL := Lib.hid hlg2
              have HOW := Lib.hid (show ∀ o : Obj, OR 3 1 NC (w'.alloc o) W7.heap.size (.slice A1 got.length c1) (got.map fun j => ((l[j]?.map (·.1)).getD 0)) from fun o => by have := HI.out.turned HG.out; exact this.alloc o)
              have HZ := Lib.hid (show ∀ o : Obj, W7.heap.size ≤ (w'.alloc o).heap.size from fun o => by have := HI.out.gr.size; have := HG.out.size; simp; omega)
              have hgb : got.length ≤ 1000 := by have := HNN.out; omega
              have HGB := Lib.hid hgb
              clear hi hrm hg hsz hlg2 hlg hgb
              go_wp2_with (first | (at_builtin; refine wpList_appNP _ rfl (.tmp 69) (.tmp 71) rfl W7.heap.size rfl (HOW.out _) (M := [pk]) rfl rfl (rd_cells (t := 3) NC_len (al_new _ _)) (by simp) (by have := HGB.out; simp; omega) (HZ.out _) ?_; intro v7 w7 o7 g7 b7; have O7 := Lib.hid o7; have G7 := Lib.hid g7; clear o7 g7 b7))
              obtain ⟨A7, c7, rfl, -⟩ := O7.out.form NC_len
              exact ⟨⟨got ++ [i], Lib.hid (HI.out.step HUB.out HH.out HRM.out HG.out O7.out G7.out), by simp [slen]⟩, by have := HNN.out; have := GL.out; simp [slen] at this ⊢; omega⟩
end Go.Proofs.Ytjlmhfdigoogfaa
namespace Go.Proofs.Ytjlmhfdigoogfaa

abbrev tI : PT := .mk 1 0 []
abbrev tL (t : PT) : PT := .mk 3 0 [t]
abbrev tF (a b : PT) : PT := .mk 4 0 [a, b]
abbrev tV (n : Int) : PT := .mk 5 n []
theorem aw_more1 : moreP 1 (tF (tV 0) (tV 0)) 0 (tF tI tI) = true := by decide +kernel
theorem aw_more2 : moreP 1 (tF (tV 0) (tV 0)) 1 (tF (tL (tV 0)) (tL (tV 0))) = true := by decide +kernel
theorem aw_more3 : moreP 1 (tF (tV 0) (tV 0)) 2 (tF (tV 0) (tV 1)) = false := by decide +kernel
def awm (n : Int) : PT := if n = 0 then tI else if n = 1 then tL tI else tV n
theorem rep_v (f : Int → PT) (n : Int) : (tV n).rep f = f n := rep_vr f n
theorem rep_l (f : Int → PT) (t : PT) : (tL t).rep f = tL (t.rep f) := by rw [rep_eq]; rfl
theorem rep_f (f : Int → PT) (a b : PT) : (tF a b).rep f = tF (a.rep f) (b.rep f) := by rw [rep_eq]; rfl
theorem rep_i (f : Int → PT) : tI.rep f = tI := by rw [rep_eq]; rfl
theorem vin_f {u : Int} {a b : PT} : Vin u (tF a b) ↔ Vin u a ∨ Vin u b := by rw [vin_iff]; simp [PT.kind, PT.sub]
theorem vin_l {u : Int} {a : PT} : Vin u (tL a) ↔ Vin u a := by rw [vin_iff]; simp [PT.kind, PT.sub]
theorem vin_i {u : Int} : ¬ Vin u tI := by rw [vin_iff]; simp [PT.kind, PT.sub]
theorem awm_ok : Mgu (tF (tV 0) (tL (tV 0))) (tF tI (tV 1)) awm := by
  refine ⟨?_, fun s hs v => ?_, fun n k h => ?_, fun n h => ?_, fun n h => ?_⟩
  · simp only [rep_f, rep_l, rep_v, rep_i]; rfl
  · simp only [rep_f, rep_l, rep_v, rep_i, PT.mk.injEq, List.cons.injEq, true_and, and_true] at hs
    obtain ⟨h0, h1⟩ := hs
    unfold awm
    by_cases e0 : v = 0
    · subst e0; rw [if_pos rfl, rep_i]; exact h0
    · rw [if_neg e0]
      by_cases e1 : v = 1
      · subst e1; rw [if_pos rfl, rep_l, rep_i, ← h1, h0]
      · rw [if_neg e1, rep_v]
  · unfold awm at h
    by_cases e0 : n = 0
    · rw [if_pos e0] at h; cases h
    · rw [if_neg e0] at h
      by_cases e1 : n = 1
      · rw [if_pos e1] at h; cases h
      · rw [if_neg e1] at h; cases h; exact Int.le_refl _
  · unfold awm
    have : n = 0 ∨ n = 1 := by
      unfold Vab at h
      rw [vin_f, vin_l, vin_f] at h
      have h1 : ∀ u k : Int, Vin u (tV k) ↔ u = k := fun u k => vin_vr
      rw [h1, h1] at h
      rcases h with (h | h) | h | h
      · exact .inl h
      · exact .inl h
      · exact absurd h vin_i
      · exact .inr h
    rcases this with rfl | rfl
    · decide +kernel
    · decide +kernel
  · unfold awm
    unfold Vab at h
    rw [vin_f, vin_l, vin_f] at h
    have h1 : ∀ u k : Int, Vin u (tV k) ↔ u = k := fun u k => vin_vr
    rw [h1, h1] at h
    simp only [not_or] at h
    rw [if_neg h.1.1, if_neg h.2.2]
    rfl
theorem aw_uans : uans (tF (tV 0) (tL (tV 0))) (tF tI (tV 1)) = ([(0, tI), (1, tL tI)], 0) := by
  rw [uans_ok (by decide +kernel) (by decide +kernel) awm_ok]
  have e : sn (sn [] (tF (tV 0) (tL (tV 0)))) (tF tI (tV 1)) = [0, 1] := by decide +kernel
  have e2 : ascd [0, 1] = [0, 1] := asc_unique (ascd_perm _) (ascd_sorted _) (by simp)
  rw [e, e2, uout_small (by intro n hn; simp at hn; rcases hn with rfl | rfl <;> decide +kernel)]
  rfl
end Go.Proofs.Ytjlmhfdigoogfaa
namespace Go.Proofs.Ytjlmhfdigoogfaa
open Go.RowKit

/-- A type comes back. -/
def TyP (V : World) (t : PT) (e : Ending) (w' : World) : Prop := ∃ q : Ty, e = .returned (.agg #[iv q.kind, iv q.var, .slice q.A q.sub.length q.c]) ∧ q.Rd w' ∧ q.er = t ∧ Gr V w'
theorem typ_of {V : World} {t t' : PT} {e : Ending} {w' : World} (h : (∃ r, e = .returned r ∧ TyR (fun _ => True) t w' r) ∧ Gr V w') (ht : t = t') : TyP V t' e w' := by
  obtain ⟨⟨r, rfl, q, rfl, h1, -, h2⟩, g⟩ := h
  exact ⟨q, rfl, h1, h2.trans ht, g⟩
abbrev yk (k n : Int) : Ty := .mk k n none 0 []
theorem yk_er (k n : Int) : (yk k n).er = .mk k n [] := by simp [Ty.er]
/-- An assignment comes back. -/
def AsP (V : World) (l : List PA) (n : Int) (e : Ending) (w' : World) : Prop := ∃ A L c, e = .returned (.tuple #[.slice A (List.length L) c, iv n]) ∧ ARd w' A L ∧ L.map As.er = l ∧ Gr V w'
theorem unify_any (x y : Ty) (w : World) (hx : x.Rd w) (hy : y.Rd w) : Calls Try.prog 14 #[x.v, y.v] w (UnP w (uans x.er y.er)) := by
  by_cases h1 : ck x.er = 0
  · by_cases h2 : ck y.er = 0
    · exact unify_go x y w hx hy h1 h2
    · exact unify_bad2 x y w hx hy h1 h2
  · exact unify_bad1 x y w hx h1
theorem unify_asp (x y : Ty) (w : World) (hx : x.Rd w) (hy : y.Rd w) : Calls Try.prog 14 #[x.v, y.v] w (AsP w (uans x.er y.er).1 (uans x.er y.er).2) := by
  refine (unify_any x y w hx hy).mono ?_
  rintro e w' ⟨⟨v, rfl, A, L, c, rfl, h1, h2, -⟩, g⟩
  exact ⟨A, L, c, rfl, h1, h2, g⟩
/-- Two flat types in a new row. -/
theorem flat_two {S : Nat → Prop} {V : World} {k : Nat} (a b c d n : Int) (hk : S k) (h : V.heap[k]? = some (.cells #[iv a, iv b, .slice none 0 0, iv c, iv d, .slice none 0 0] 24 (0, 0))) : TyR S (.mk n 0 [.mk a b [], .mk c d []]) V (.agg #[iv n, iv 0, .slice (some ⟨k, 0, none⟩) 2 2]) := by
  refine ⟨.mk n 0 (some ⟨k, 0, none⟩) 2 [yk a b, yk c d], rfl, TRd.row (L := [yk a b, yk c d]) (t := 24) h (by simp [Ty.c]) (by simp [Ty.c]) (fun z hz => ?_), ?_, by simp [Ty.er]⟩
  · simp only [List.mem_cons, List.not_mem_nil, or_false] at hz
    rcases hz with rfl | rfl
    · exact TRd.nil _
    · exact TRd.nil _
  · refine .mk (fun a e _ => by cases e; exact hk) fun z hz => ?_
    simp only [Ty.sub, List.mem_cons, List.not_mem_nil, or_false] at hz
    rcases hz with rfl | rfl
    · exact TIn.nil
    · exact TIn.nil
set_option maxRecDepth 100000 in
theorem fun_flat (a b c d : Int) (w : World) : Calls Try.prog 41 #[.agg #[iv a, iv b, .slice none 0 0], .agg #[iv c, iv d, .slice none 0 0]] w fun e w' => (∃ r, e = .returned r ∧ TyR (fun k => w.heap.size ≤ k) (.mk 4 0 [.mk a b [], .mk c d []]) w' r) ∧ Gr w w' := by
  go_enter Try.func41, Try.ntmps41
  go_wp2
  have G4 : ∀ a b c d : Obj, Gr w ((((w.alloc a).alloc b).alloc c).alloc d) := fun a b c d => ((gr_al _ _).trans (gr_al _ _)).trans ((gr_al _ _).trans (gr_al _ _))
  exact bodyPost_ret (results_cell_row (P := Try.prog) rfl _ _ (w.heap.size + 2) _ _ _ _ rfl ((Below.heap_alloc _ _ _ (by simp)).trans (al_at _ _ (by simp))) rfl rfl rfl) rfl ⟨⟨_, rfl, flat_two a b c d 4 (by show w.heap.size ≤ w.heap.size + 1 + 1 + 1; omega) (al_at _ _ (by simp))⟩, G4 _ _ _ _⟩
theorem set4 {V : World} {k : Nat} {x0 x1 x2 x3 : Value} {t : TypeId} (h : V.heap[k]? = some (.cells #[x0, x1, x2, x3] t (0, 0))) (u0 u1 u2 u3 : Value) : ((((V.setCell ⟨k, 0, none⟩ u0).setCell ⟨k, 1, none⟩ u1).setCell ⟨k, 2, none⟩ u2).setCell ⟨k, 3, none⟩ u3).heap[k]? = some (.cells #[u0, u1, u2, u3] t (0, 0)) := by
  simp [World.setCell, Array.getElem?_modify, h]
theorem set4o {V : World} {b k : Nat} (hne : b ≠ k) (u0 u1 u2 u3 : Value) : ((((V.setCell ⟨k, 0, none⟩ u0).setCell ⟨k, 1, none⟩ u1).setCell ⟨k, 2, none⟩ u2).setCell ⟨k, 3, none⟩ u3).heap[b]? = V.heap[b]? := by
  rw [Below.heap_setCell _ _ _ _ (by exact hne), Below.heap_setCell _ _ _ _ (by exact hne), Below.heap_setCell _ _ _ _ (by exact hne), Below.heap_setCell _ _ _ _ (by exact hne)]
theorem set4g {w V : World} {k : Nat} (g : Gr w V) (hk : w.heap.size ≤ k) (u0 u1 u2 u3 : Value) : Gr w ((((V.setCell ⟨k, 0, none⟩ u0).setCell ⟨k, 1, none⟩ u1).setCell ⟨k, 2, none⟩ u2).setCell ⟨k, 3, none⟩ u3) := gr_cell (gr_cell (gr_cell (gr_cell g hk _) hk _) hk _) hk _
/-- What region 4 leaves. -/
theorem r4_end {W3 V U : World} {q : Ty} {k s : Nat} {x0 x1 x2 x3 : Value} (g : Gr W3 V) (hU : Gr V U) (hk : W3.heap.size ≤ k) (hs : k < s) (h : U.heap[k]? = some (.cells #[x0, x1, x2, x3] 47 (0, 0))) (hq : q.Rd U) (hi : TIn (fun j => s ≤ j) q.A q.sub) (he : q.er = tF (tV 0) (tV 1)) :
    let X := ((((U.setCell ⟨k, 0, none⟩ (iv 2)).setCell ⟨k, 1, none⟩ (iv q.kind)).setCell ⟨k, 2, none⟩ (iv q.var)).setCell ⟨k, 3, none⟩ (.slice q.A q.sub.length q.c))
    Gr W3 X ∧ X.heap[k]? = some (.cells #[iv 2, iv q.kind, iv q.var, .slice q.A q.sub.length q.c] 47 (0, 0)) ∧ q.Rd X ∧ q.er = tF (tV 0) (tV 1) :=
  ⟨set4g (g.trans hU) hk _ _ _ _, set4 h _ _ _ _, TRd.keepAt hq hi (by simp [World.setCell]) (fun j hj _ => set4o (by omega) _ _ _ _), he⟩
/-- A new type comes back. -/
def TyN (V : World) (t : PT) (e : Ending) (w' : World) : Prop := ∃ q : Ty, e = .returned (.agg #[iv q.kind, iv q.var, .slice q.A q.sub.length q.c]) ∧ q.Rd w' ∧ q.er = t ∧ Gr V w' ∧ TIn (fun j => V.heap.size ≤ j) q.A q.sub
theorem typ_new {V : World} {t : PT} {e : Ending} {w' : World} (h : (∃ r, e = .returned r ∧ TyR (fun k => V.heap.size ≤ k) t w' r) ∧ Gr V w') : TyN V t e w' := by
  obtain ⟨⟨r, rfl, q, rfl, h1, h3, h2⟩, g⟩ := h
  exact ⟨q, rfl, h1, h2, g, h3⟩
theorem set4k {V : World} {b k : Nat} {x0 x1 x2 : Value} (h : V.cell? ⟨b, 0, none⟩ = some x0 ∧ V.cell? ⟨b, 1, none⟩ = some x1 ∧ V.cell? ⟨b, 2, none⟩ = some x2) (hne : b ≠ k) (u0 u1 u2 u3 : Value) :
    ((((V.setCell ⟨k, 0, none⟩ u0).setCell ⟨k, 1, none⟩ u1).setCell ⟨k, 2, none⟩ u2).setCell ⟨k, 3, none⟩ u3).cell? ⟨b, 0, none⟩ = some x0 ∧ ((((V.setCell ⟨k, 0, none⟩ u0).setCell ⟨k, 1, none⟩ u1).setCell ⟨k, 2, none⟩ u2).setCell ⟨k, 3, none⟩ u3).cell? ⟨b, 1, none⟩ = some x1 ∧ ((((V.setCell ⟨k, 0, none⟩ u0).setCell ⟨k, 1, none⟩ u1).setCell ⟨k, 2, none⟩ u2).setCell ⟨k, 3, none⟩ u3).cell? ⟨b, 2, none⟩ = some x2 := by
  have e : ((((V.setCell ⟨k, 0, none⟩ u0).setCell ⟨k, 1, none⟩ u1).setCell ⟨k, 2, none⟩ u2).setCell ⟨k, 3, none⟩ u3).heap[b]? = V.heap[b]? := by
    rw [Below.heap_setCell _ _ _ _ (by exact hne), Below.heap_setCell _ _ _ _ (by exact hne), Below.heap_setCell _ _ _ _ (by exact hne), Below.heap_setCell _ _ _ _ (by exact hne)]
  unfold World.cell? at *
  rw [e]
  exact h
theorem frz {W : World} {k : Nat} {c : Array Value} {t : TypeId} (h : W.heap[k]? = some (.cells c t (0, 0))) (j : Nat) : W.frozen? ⟨k, j, none⟩ = false := by simp [World.frozen?, h]
set_option maxRecDepth 100000 in
set_option maxHeartbeats 8000000 in
theorem awake_any (w : World) : Calls Try.prog 13 #[] w fun e w' => e = .returned (.bool true) ∧ Gr w w' := by
  have C26a := Lib.hid (fun V => var_any 0 V)
  have C26b := Lib.hid (fun V => var_any 1 V)
  have C42a := Lib.hid (fun V => show Calls Try.prog 42 #[.agg #[iv 5, iv 0, .slice none 0 0]] V (TyP V (tL (tV 0))) from (list_any (yk 5 0) V (TRd.nil V)).mono fun e w' h => typ_of h (by rw [yk_er]))
  have C42b := Lib.hid (fun V => show Calls Try.prog 42 #[.agg #[iv 1, iv 0, .slice none 0 0]] V (TyP V (tL tI)) from (list_any (yk 1 0) V (TRd.nil V)).mono fun e w' h => typ_of h (by rw [yk_er]))
  have C41a := Lib.hid (fun V (q : Ty) (hq : q.Rd V) (e : q.er = tL (tV 0)) => show Calls Try.prog 41 #[.agg #[iv 5, iv 0, .slice none 0 0], .agg #[iv q.kind, iv q.var, .slice q.A q.sub.length q.c]] V (TyP V (tF (tV 0) (tL (tV 0)))) from (fun_any (yk 5 0) q V (TRd.nil V) hq).mono fun e w' h => typ_of h (by rw [yk_er, ‹q.er = _›]))
  have C41b := Lib.hid (fun V => show Calls Try.prog 41 #[.agg #[iv 1, iv 0, .slice none 0 0], .agg #[iv 5, iv 1, .slice none 0 0]] V (TyP V (tF tI (tV 1))) from (fun_any (yk 1 0) (yk 5 1) V (TRd.nil V) (TRd.nil V)).mono fun e w' h => typ_of h (by rw [yk_er, yk_er]))
  have C41c := Lib.hid (fun V => show Calls Try.prog 41 #[.agg #[iv 5, iv 0, .slice none 0 0], .agg #[iv 5, iv 0, .slice none 0 0]] V (TyP V (tF (tV 0) (tV 0))) from (fun_any (yk 5 0) (yk 5 0) V (TRd.nil V) (TRd.nil V)).mono fun e w' h => typ_of h (by rw [yk_er]))
  have C41d := Lib.hid (fun V => show Calls Try.prog 41 #[.agg #[iv 5, iv 0, .slice none 0 0], .agg #[iv 5, iv 1, .slice none 0 0]] V (TyN V (tF (tV 0) (tV 1))) from (fun_flat 5 0 5 1 V).mono fun e w' h => typ_new h)
  have C41e := Lib.hid (fun V => show Calls Try.prog 41 #[.agg #[iv 1, iv 0, .slice none 0 0], .agg #[iv 1, iv 0, .slice none 0 0]] V (TyP V (tF tI tI)) from (fun_any (yk 1 0) (yk 1 0) V (TRd.nil V) (TRd.nil V)).mono fun e w' h => typ_of h (by rw [yk_er]))
  have C41f := Lib.hid (fun V (p q : Ty) (hp : p.Rd V) (hq : q.Rd V) (e1 : p.er = tL (tV 0)) (e2 : q.er = tL (tV 0)) => show Calls Try.prog 41 #[.agg #[iv p.kind, iv p.var, .slice p.A p.sub.length p.c], .agg #[iv q.kind, iv q.var, .slice q.A q.sub.length q.c]] V (TyP V (tF (tL (tV 0)) (tL (tV 0)))) from (fun_any p q V hp hq).mono fun e w' h => typ_of h (by rw [e1, e2]))
  have C14 := Lib.hid (fun V (p q : Ty) (hp : p.Rd V) (hq : q.Rd V) (e1 : p.er = tF (tV 0) (tL (tV 0))) (e2 : q.er = tF tI (tV 1)) => show Calls Try.prog 14 #[.agg #[iv p.kind, iv p.var, .slice p.A p.sub.length p.c], .agg #[iv q.kind, iv q.var, .slice q.A q.sub.length q.c]] V (AsP V [(0, tI), (1, tL tI)] 0) from by have h := unify_asp p q V hp hq; rw [e1, e2, aw_uans] at h; exact h)
  go_enter Try.func13, Try.ntmps13
  go_upto_region 2 with (go_at_call 26; (with_reducible refine (C26a.out _).mono ?_); rintro e v1 ⟨rfl, g1⟩; have GA := Lib.hid g1; clear g1)
  have HA1 := Lib.hid (show ((v1.alloc (.cells #[iv 5, iv 0, .slice none 0 0] 24)).alloc (.cells #[iv 1, iv 0, .slice none 0 0] 24)).heap[v1.heap.size]? = some (.cells #[iv 5, iv 0, .slice none 0 0] 24 (0, 0)) from gr_h (gr_al _ _) (al_new _ _))
  have HA2 := Lib.hid (show ((v1.alloc (.cells #[iv 5, iv 0, .slice none 0 0] 24)).alloc (.cells #[iv 1, iv 0, .slice none 0 0] 24)).heap[v1.heap.size + 1]? = some (.cells #[iv 1, iv 0, .slice none 0 0] 24 (0, 0)) from al_at _ _ (by simp))
  have GW := Lib.hid (show Gr w ((v1.alloc (.cells #[iv 5, iv 0, .slice none 0 0] 24)).alloc (.cells #[iv 1, iv 0, .slice none 0 0] 24)) from GA.out.trans ((gr_al _ _).trans (gr_al _ _)))
  generalize hW1 : World.alloc (World.alloc v1 _) _ = W1 at *
  clear hW1 GA
  obtain ⟨b1, hb1⟩ : ∃ b, v1.heap.size = b := ⟨_, rfl⟩
  have HB1 := Lib.hid (show W1.heap[b1]? = some (.cells #[iv 5, iv 0, .slice none 0 0] 24 (0, 0)) from by rw [← hb1]; exact HA1.out)
  have HB2 := Lib.hid (show W1.heap[b1 + 1]? = some (.cells #[iv 1, iv 0, .slice none 0 0] 24 (0, 0)) from by rw [← hb1]; exact HA2.out)
  rw [hb1]
  clear hb1 HA1 HA2
  have KS := Lib.hid (fun V (g : Gr W1 V) => (⟨(cell3 (gr_h g HB1.out)).1, (cell3 (gr_h g HB2.out)).1⟩ : (V.cell? ⟨b1, 0, none⟩ = some (iv 5) ∧ V.cell? ⟨b1, 1, none⟩ = some (iv 0) ∧ V.cell? ⟨b1, 2, none⟩ = some (.slice none 0 0)) ∧ V.cell? ⟨b1 + 1, 0, none⟩ = some (iv 1) ∧ V.cell? ⟨b1 + 1, 1, none⟩ = some (iv 0) ∧ V.cell? ⟨b1 + 1, 2, none⟩ = some (.slice none 0 0)))
  go_cut [3, 4] (fun s e V => e = .int .i64 0 ∧ ∃ A c, s = .slice A 2 c ∧ Hid (Gr W1 V ∧ ∃ L : List As, L.length = 2 ∧ ARd V A L ∧ L.map As.er = [(0, tI), (1, tL tI)]))
  case first =>
    obtain ⟨⟨a0, a1, a2⟩, d0, d1, d2⟩ := KS.out _ (gr_refl _)
    go_region_held3 (fun V => (V.cell? ⟨b1, 0, none⟩ = some (iv 5) ∧ V.cell? ⟨b1, 1, none⟩ = some (iv 0) ∧ V.cell? ⟨b1, 2, none⟩ = some (.slice none 0 0)) ∧ V.cell? ⟨b1 + 1, 0, none⟩ = some (iv 1) ∧ V.cell? ⟨b1 + 1, 1, none⟩ = some (iv 0) ∧ V.cell? ⟨b1 + 1, 2, none⟩ = some (.slice none 0 0)) (first | exact KS.out _ G5.out | exact KS.out _ G4.out | exact KS.out _ G3.out | exact KS.out _ G2.out | exact KS.out _ G1.out | exact KS.out _ (gr_drew _) | go_keep | exact KS.out _ (gr_refl _)) (first | (go_at_call 42; (with_reducible refine (C42a.out _).mono ?_); rintro e v1 ⟨q1, rfl, r1, e1, g1⟩; have R1 := Lib.hid (fun U (g : Gr v1 U) => TRd.gr r1 g); have E1 := Lib.hid e1; have G1 := Lib.hid (show Gr W1 v1 from (gr_drew _).trans g1); clear r1 e1 g1) | (go_at_call 41; (with_reducible refine (C41a.out _ q1 (R1.out _ (gr_refl _)) E1.out).mono ?_); rintro e v2 ⟨q2, rfl, r2, e2, g2⟩; have R2 := Lib.hid (fun U (g : Gr v2 U) => TRd.gr r2 g); have E2 := Lib.hid e2; have G2 := Lib.hid (G1.out.trans g2); clear r2 e2 g2) | (go_at_call 26; (with_reducible refine (C26b.out _).mono ?_); rintro e v3 ⟨rfl, g3⟩; have G3 := Lib.hid (G2.out.trans g3); have P3 := Lib.hid g3; clear g3) | (go_at_call 41; (with_reducible refine (C41b.out _).mono ?_); rintro e v4 ⟨q4, rfl, r4, e4, g4⟩; have R4 := Lib.hid r4; have E4 := Lib.hid e4; have G4 := Lib.hid (G3.out.trans g4); have P4 := Lib.hid (P3.out.trans g4); clear r4 e4 g4) | (go_at_call 14; (with_reducible refine (C14.out _ q2 q4 (R2.out _ P4.out) R4.out E2.out E4.out).mono ?_); rintro e v5 ⟨A, L, c, rfl, hA, hE, g5⟩; have hL : L.length = 2 := (by have := congrArg List.length hE; simpa using this); rw [hL]; have H5 := Lib.hid (And.intro hL (And.intro hA hE)); have G5 := Lib.hid (G4.out.trans g5); clear hA hE hL g5))
    all_goals go_wp2
    all_goals go_meet
    all_goals exact ⟨rfl, A, c, rfl, Lib.hid ⟨G5.out, L, H5.out.1, H5.out.2.1, H5.out.2.2⟩⟩
  case rest =>
    obtain ⟨rfl, A, cA, rfl, HA⟩ := hcut
    generalize hwc : wc = W2 at *
    clear hwc
    obtain ⟨⟨a0, a1, a2⟩, d0, d1, d2⟩ := KS.out _ HA.out.1
    go_upto_region 4 with (go_at_call 41; (with_reducible refine (C41c.out _).mono ?_); rintro e v6 ⟨q5, rfl, r5, e5, g5⟩; have R5 := Lib.hid (TRd.gr r5 (gr_al v6 (.cells #[iv 1, iv q5.kind, iv q5.var, .slice q5.A q5.sub.length q5.c] 47))); have E5 := Lib.hid e5; have G6 := Lib.hid ((HA.out.1.trans g5).trans (gr_al v6 (.cells #[iv 1, iv q5.kind, iv q5.var, .slice q5.A q5.sub.length q5.c] 47))); have P6 := Lib.hid (g5.trans (gr_al v6 (.cells #[iv 1, iv q5.kind, iv q5.var, .slice q5.A q5.sub.length q5.c] 47))); have H5 := Lib.hid (al_new v6 (.cells #[iv 1, iv q5.kind, iv q5.var, .slice q5.A q5.sub.length q5.c] 47)); clear r5 e5 g5)
    clear a0 a1 a2 d0 d1 d2
    generalize hW3 : World.alloc v6 _ = W3 at *
    clear hW3
    obtain ⟨b5, hb5⟩ : ∃ b, v6.heap.size = b := ⟨_, rfl⟩
    have HB5 := Lib.hid (show W3.heap[b5]? = some (.cells #[iv 1, iv q5.kind, iv q5.var, .slice q5.A q5.sub.length q5.c] 47 (0, 0)) from by rw [← hb5]; exact H5.out)
    rw [hb5]
    clear hb5 H5
    go_cut [6] (fun s V => ∃ b6, ∃ q6 : Ty, s = .pointer (some ⟨b6, 0, none⟩) ∧ Hid (Gr W3 V ∧ V.heap[b6]? = some (.cells #[iv 2, iv q6.kind, iv q6.var, .slice q6.A q6.sub.length q6.c] 47 (0, 0)) ∧ q6.Rd V ∧ q6.er = tF (tV 0) (tV 1)))
    case first =>
      obtain ⟨⟨a0, a1, a2⟩, -⟩ := KS.out _ G6.out
      have hb1 : b1 < W3.heap.size := heap_lt (gr_h G6.out HB1.out)
      go_region_held3 (fun V => (V.cell? ⟨b1, 0, none⟩ = some (iv 5) ∧ V.cell? ⟨b1, 1, none⟩ = some (iv 0) ∧ V.cell? ⟨b1, 2, none⟩ = some (.slice none 0 0))) (first | with_reducible exact (KS.out _ G8.out).1 | with_reducible exact (KS.out _ (G8.out.trans (gr_al _ _))).1 | with_reducible exact (KS.out _ G7.out).1 | with_reducible exact (KS.out _ (G7.out.trans (gr_al _ _))).1 | with_reducible exact (KS.out _ (G6.out.trans (gr_drew _))).1 | with_reducible exact (KS.out _ (G6.out.trans ((gr_al _ _).trans (gr_drew _)))).1 | with_reducible exact (KS.out _ G6.out).1 | exact set4k (KS.out _ G8.out).1 (by omega) _ _ _ _ | go_keep) (first | (go_at_call 26; (with_reducible refine (C26b.out _).mono ?_); rintro e v7 ⟨rfl, g7⟩; have zz := Lib.hid (gr_h g7 (show ((W3.alloc (.cells #[iv 0, iv 0, iv 0, .slice none 0 0] 47)).drew).heap[W3.heap.size]? = some (.cells #[iv 0, iv 0, iv 0, .slice none 0 0] 47 (0, 0)) from al_new W3 _)); have P7 := Lib.hid g7; have G7 := Lib.hid (G6.out.trans (((gr_al _ _).trans (gr_drew _)).trans g7)); have s7 : b1 < v7.heap.size := Nat.lt_of_lt_of_le hb1 (Nat.le_trans (by simp) g7.size); clear g7) | (go_at_call 26; (with_reducible refine (C26b.out _).mono ?_); rintro e v7 ⟨rfl, g7⟩; have P7 := Lib.hid g7; have G7 := Lib.hid (G6.out.trans ((gr_drew _).trans g7)); have s7 : b1 < v7.heap.size := Nat.lt_of_lt_of_le hb1 (Nat.le_trans (by simp) g7.size); clear g7) | (go_at_call 41; (with_reducible refine (C41d.out _).mono ?_); rintro e v8 ⟨q6, rfl, r6, e6, g8, i6⟩; have y8 := gr_h g8 zz.out; obtain ⟨y0, y1, y2, y3⟩ := cell4 y8; have f0 := frz y8 0; have f1 := frz y8 1; have f2 := frz y8 2; have f3 := frz y8 3; have Y8 := Lib.hid y8; clear y8; have G8 := Lib.hid (G7.out.trans g8); have P8 := Lib.hid g8; have s8 : b1 < v8.heap.size := heap_lt (gr_h G8.out HB1.out); have R8 := Lib.hid r6; have E8 := Lib.hid e6; have I8 := Lib.hid i6; clear r6 e6 g8 i6) | (go_at_call 41; (with_reducible refine (C41d.out _).mono ?_); rintro e v8 ⟨q6, rfl, r6, e6, g8, i6⟩; have y8 := gr_h g8 (al_new v7 (.cells #[iv 0, iv 0, iv 0, .slice none 0 0] 47)); obtain ⟨y0, y1, y2, y3⟩ := cell4 y8; have f0 := frz y8 0; have f1 := frz y8 1; have f2 := frz y8 2; have f3 := frz y8 3; have Y8 := Lib.hid y8; clear y8; have G8 := Lib.hid ((G7.out.trans (gr_al _ _)).trans g8); have P8 := Lib.hid g8; have s8 : b1 < v8.heap.size := heap_lt (gr_h G8.out HB1.out); have R8 := Lib.hid r6; have E8 := Lib.hid e6; have I8 := Lib.hid i6; clear r6 e6 g8 i6) | (go_at_call 41; (with_reducible refine (C41d.out _).mono ?_); rintro e v8 ⟨q6, rfl, r6, e6, g8, i6⟩; have G8 := Lib.hid (G7.out.trans g8); have P8 := Lib.hid g8; have s8 : b1 < v8.heap.size := heap_lt (gr_h G8.out HB1.out); have R8 := Lib.hid r6; have E8 := Lib.hid e6; have I8 := Lib.hid i6; clear r6 e6 g8 i6))
      all_goals go_wp2
      all_goals go_meet
      · exact ⟨_, q6, rfl, Lib.hid ⟨((gr_drew _).trans P7.out).trans (P8.out.trans (gr_al _ _)), al_new _ _, TRd.gr R8.out (gr_al _ _), E8.out⟩⟩
      · exact ⟨_, q6, rfl, Lib.hid (r4_end (s := v7.heap.size + 1) ((gr_drew _).trans P7.out) ((gr_al _ _).trans P8.out) (by have := P7.out.size; simpa using this) (Nat.lt_succ_self _) Y8.out R8.out (by have := I8.out; simpa using this) E8.out)⟩
      · exact ⟨_, q6, rfl, Lib.hid (r4_end (s := W3.heap.size + 1) (gr_refl _) ((((gr_al _ _).trans (gr_drew _)).trans P7.out).trans P8.out) (Nat.le_refl _) (Nat.lt_succ_self _) Y8.out R8.out (I8.out.mono fun j hj => by have := P7.out.size; simp at this; omega) E8.out)⟩
    case rest =>
      obtain ⟨b6, q6, rfl, H6⟩ := hcut
      generalize hwc : wc = W4 at *
      clear hwc
      have KB := Lib.hid (fun V (g : Gr W4 V) => (⟨(cell3 (gr_h g (gr_h H6.out.1 (gr_h G6.out HB1.out)))).1, (cell3 (gr_h g (gr_h H6.out.1 (gr_h G6.out HB2.out)))).1, cell4 (gr_h g (gr_h H6.out.1 HB5.out)), cell4 (gr_h g H6.out.2.1)⟩ : (V.cell? ⟨b1, 0, none⟩ = some (iv 5) ∧ V.cell? ⟨b1, 1, none⟩ = some (iv 0) ∧ V.cell? ⟨b1, 2, none⟩ = some (.slice none 0 0)) ∧ (V.cell? ⟨b1 + 1, 0, none⟩ = some (iv 1) ∧ V.cell? ⟨b1 + 1, 1, none⟩ = some (iv 0) ∧ V.cell? ⟨b1 + 1, 2, none⟩ = some (.slice none 0 0)) ∧ (V.cell? ⟨b5, 0, none⟩ = some (iv 1) ∧ V.cell? ⟨b5, 1, none⟩ = some (iv q5.kind) ∧ V.cell? ⟨b5, 2, none⟩ = some (iv q5.var) ∧ V.cell? ⟨b5, 3, none⟩ = some (.slice q5.A q5.sub.length q5.c)) ∧ V.cell? ⟨b6, 0, none⟩ = some (iv 2) ∧ V.cell? ⟨b6, 1, none⟩ = some (iv q6.kind) ∧ V.cell? ⟨b6, 2, none⟩ = some (iv q6.var) ∧ V.cell? ⟨b6, 3, none⟩ = some (.slice q6.A q6.sub.length q6.c)))
      have GX := Lib.hid (((GW.out.trans G6.out)).trans H6.out.1)
      have C16 := Lib.hid (fun V (q : Ty) (g : Gr W4 V) (hq : q.Rd V) (e : q.er = tL tI) => show Calls Try.prog 16 #[.slice A 2 cA, .slice (some ⟨V.heap.size, 0, none⟩) 2 2] (V.alloc (.cells #[iv 0, iv 1, iv 0, .slice none 0 0, iv 1, iv q.kind, iv q.var, .slice q.A q.sub.length q.c] 43)) (fun e w' => e = .returned (.bool true) ∧ Gr (V.alloc (.cells #[iv 0, iv 1, iv 0, .slice none 0 0, iv 1, iv q.kind, iv q.var, .slice q.A q.sub.length q.c] 43)) w') from by
        obtain ⟨-, L, hL, hA, hE⟩ := HA.out
        have h := sameAssigns_any A (some ⟨V.heap.size, 0, none⟩) cA 2 L [⟨0, yk 1 0⟩, ⟨1, q⟩] (V.alloc (.cells #[iv 0, iv 1, iv 0, .slice none 0 0, iv 1, iv q.kind, iv q.var, .slice q.A q.sub.length q.c] 43)) (hA.gr ((P6.out.trans H6.out.1).trans (g.trans (gr_al _ _)))) ⟨rd_cells (t := 43) As.cs_len (al_new _ _), fun x hx => by
          simp only [List.mem_cons, List.not_mem_nil, or_false] at hx
          rcases hx with rfl | rfl
          · exact TRd.nil _
          · exact TRd.gr hq (gr_al _ _)⟩ (by omega) (by simp)
        rw [hL] at h
        refine h.mono ?_
        rintro e2 w' ⟨rfl, g2⟩
        refine ⟨?_, g2⟩
        rw [asq_true]
        rw [hE]
        simp [As.er, Ty.er, e])
      have C34a := Lib.hid (fun V (q : Ty) (g : Gr W4 V) (hq : q.Rd V) (e : q.er = tF tI tI) => show Calls Try.prog 34 #[.agg #[iv 1, iv q5.kind, iv q5.var, .slice q5.A q5.sub.length q5.c], .agg #[iv 0, iv q.kind, iv q.var, .slice q.A q.sub.length q.c]] V (fun e w' => e = .returned (.bool true) ∧ Gr V w') from by
        have h := more_any ⟨1, q5⟩ ⟨0, q⟩ V (TRd.gr R5.out (H6.out.1.trans g)) hq
        rw [show moreP (Sc.vars ⟨1, q5⟩) (Sc.ty ⟨1, q5⟩).er (Sc.vars ⟨0, q⟩) (Sc.ty ⟨0, q⟩).er = true from by rw [show (Sc.ty ⟨1, q5⟩).er = _ from E5.out, show (Sc.ty ⟨0, q⟩).er = _ from e]; exact aw_more1] at h
        exact h)
      have C34b := Lib.hid (fun V (q : Ty) (g : Gr W4 V) (hq : q.Rd V) (e : q.er = tF (tL (tV 0)) (tL (tV 0))) => show Calls Try.prog 34 #[.agg #[iv 1, iv q5.kind, iv q5.var, .slice q5.A q5.sub.length q5.c], .agg #[iv 1, iv q.kind, iv q.var, .slice q.A q.sub.length q.c]] V (fun e w' => e = .returned (.bool true) ∧ Gr V w') from by
        have h := more_any ⟨1, q5⟩ ⟨1, q⟩ V (TRd.gr R5.out (H6.out.1.trans g)) hq
        rw [show moreP (Sc.vars ⟨1, q5⟩) (Sc.ty ⟨1, q5⟩).er (Sc.vars ⟨1, q⟩) (Sc.ty ⟨1, q⟩).er = true from by rw [show (Sc.ty ⟨1, q5⟩).er = _ from E5.out, show (Sc.ty ⟨1, q⟩).er = _ from e]; exact aw_more2] at h
        exact h)
      have C34c := Lib.hid (fun V (g : Gr W4 V) => show Calls Try.prog 34 #[.agg #[iv 1, iv q5.kind, iv q5.var, .slice q5.A q5.sub.length q5.c], .agg #[iv 2, iv q6.kind, iv q6.var, .slice q6.A q6.sub.length q6.c]] V (fun e w' => e = .returned (.bool false) ∧ Gr V w') from by
        have h := more_any ⟨1, q5⟩ ⟨2, q6⟩ V (TRd.gr R5.out (H6.out.1.trans g)) (TRd.gr H6.out.2.2.1 g)
        rw [show moreP (Sc.vars ⟨1, q5⟩) (Sc.ty ⟨1, q5⟩).er (Sc.vars ⟨2, q6⟩) (Sc.ty ⟨2, q6⟩).er = false from by rw [show (Sc.ty ⟨1, q5⟩).er = _ from E5.out, show (Sc.ty ⟨2, q6⟩).er = _ from H6.out.2.2.2]; exact aw_more3] at h
        exact h)
      obtain ⟨⟨a0, a1, a2⟩, ⟨d0, d1, d2⟩, ⟨x0, x1, x2, x3⟩, y0, y1, y2, y3⟩ := KB.out _ (gr_refl _)
      go_upto_region 5 with (fail)
      go_region_held3 (fun V => (V.cell? ⟨b1, 0, none⟩ = some (iv 5) ∧ V.cell? ⟨b1, 1, none⟩ = some (iv 0) ∧ V.cell? ⟨b1, 2, none⟩ = some (.slice none 0 0)) ∧ (V.cell? ⟨b1 + 1, 0, none⟩ = some (iv 1) ∧ V.cell? ⟨b1 + 1, 1, none⟩ = some (iv 0) ∧ V.cell? ⟨b1 + 1, 2, none⟩ = some (.slice none 0 0)) ∧ (V.cell? ⟨b5, 0, none⟩ = some (iv 1) ∧ V.cell? ⟨b5, 1, none⟩ = some (iv q5.kind) ∧ V.cell? ⟨b5, 2, none⟩ = some (iv q5.var) ∧ V.cell? ⟨b5, 3, none⟩ = some (.slice q5.A q5.sub.length q5.c)) ∧ V.cell? ⟨b6, 0, none⟩ = some (iv 2) ∧ V.cell? ⟨b6, 1, none⟩ = some (iv q6.kind) ∧ V.cell? ⟨b6, 2, none⟩ = some (iv q6.var) ∧ V.cell? ⟨b6, 3, none⟩ = some (.slice q6.A q6.sub.length q6.c)) (first | with_reducible exact KB.out _ Z9.out | with_reducible exact KB.out _ Z8.out | with_reducible exact KB.out _ Z7.out | with_reducible exact KB.out _ Z6.out | with_reducible exact KB.out _ Z5.out | with_reducible exact KB.out _ Z4.out | with_reducible exact KB.out _ Z3.out | with_reducible exact KB.out _ Z2.out | with_reducible exact KB.out _ Z1.out | with_reducible exact KB.out _ (Z1.out.trans (gr_al _ _)) | with_reducible exact KB.out _ (gr_drew _) | with_reducible exact KB.out _ (gr_refl _) | go_keep) (first | (go_at_call 42; (with_reducible refine (C42b.out _).mono ?_); rintro e z1 ⟨p1, rfl, r, e1, g⟩; have Q1 := Lib.hid (fun U (g : Gr z1 U) => TRd.gr r g); have F1 := Lib.hid e1; have Z1 := Lib.hid ((gr_drew W4).trans g); have L1 := Lib.hid g; clear r e1 g) | (go_at_call 16; (with_reducible refine (C16.out _ p1 Z1.out (Q1.out _ (gr_refl _)) F1.out).mono ?_); rintro e z2 ⟨rfl, g⟩; have Z2 := Lib.hid ((Z1.out.trans (gr_al _ _)).trans g); clear g) | (go_at_call 41; (with_reducible refine (C41e.out _).mono ?_); rintro e z3 ⟨p3, rfl, r, e1, g⟩; have Q3 := Lib.hid (fun U (g : Gr z3 U) => TRd.gr r g); have F3 := Lib.hid e1; have Z3 := Lib.hid (Z2.out.trans g); have L3 := Lib.hid g; clear r e1 g) | (go_at_call 34; (with_reducible refine (C34a.out _ p3 Z3.out (Q3.out _ (gr_refl _)) F3.out).mono ?_); rintro e z4 ⟨rfl, g⟩; have Z4 := Lib.hid (Z3.out.trans g); clear g) | (go_at_call 42; (with_reducible refine (C42a.out _).mono ?_); rintro e z6 ⟨p6, rfl, r, e1, g⟩; have Q6 := Lib.hid (fun U (g : Gr z6 U) => TRd.gr r g); have F6 := Lib.hid e1; have Z6 := Lib.hid (Z5.out.trans g); have L6 := Lib.hid g; clear r e1 g) | (go_at_call 42; (with_reducible refine (C42a.out _).mono ?_); rintro e z5 ⟨p5, rfl, r, e1, g⟩; have Q5 := Lib.hid (fun U (g : Gr z5 U) => TRd.gr r g); have F5 := Lib.hid e1; have Z5 := Lib.hid (Z4.out.trans g); have L5 := Lib.hid g; clear r e1 g) | (go_at_call 41; (with_reducible refine (C41f.out _ p5 p6 (Q5.out _ L6.out) (Q6.out _ (gr_refl _)) F5.out F6.out).mono ?_); rintro e z7 ⟨p7, rfl, r, e1, g⟩; have Q7 := Lib.hid (fun U (g : Gr z7 U) => TRd.gr r g); have F7 := Lib.hid e1; have Z7 := Lib.hid (Z6.out.trans g); have L7 := Lib.hid g; clear r e1 g) | (go_at_call 34; (with_reducible refine (C34b.out _ p7 Z7.out (Q7.out _ (gr_refl _)) F7.out).mono ?_); rintro e z8 ⟨rfl, g⟩; have Z8 := Lib.hid (Z7.out.trans g); clear g) | (go_at_call 34; (with_reducible refine (C34c.out _ Z8.out).mono ?_); rintro e z9 ⟨rfl, g⟩; have Z9 := Lib.hid (Z8.out.trans g); clear g))
      all_goals go_wp2
      all_goals go_ret
      all_goals exact ⟨rfl, GX.out.trans Z9.out⟩
end Go.Proofs.Ytjlmhfdigoogfaa

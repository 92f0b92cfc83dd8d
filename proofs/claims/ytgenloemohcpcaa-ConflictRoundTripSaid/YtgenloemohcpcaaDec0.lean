/- Decoding, in plain words: numbers, texts, lists of texts, sums. -/
import Derived.Test.YtgenloemohcpcaaEnc
namespace Go.Proofs.Ytgenloemohcpcaa

/-- A number at the beginning of bytes: f digits may still come, i have come, with the value n; u is the next digit's weight. -/
def giF : Nat → Nat → Nat → Nat → T → Nat × Nat × Int
  | 0, _, _, _, _ => (0, 0, 13)
  | _ + 1, _, _, _, [] => (0, 0, 12)
  | f + 1, i, n, u, d :: r => if 128 ≤ d.toNat then giF f (i + 1) (n + (d.toNat - 128) * u) (u * 128) r
    else if (d.toNat = 0 ∧ 0 < i) ∨ 1099511627776 < n + d.toNat * u then (0, 0, 13) else (n + d.toNat * u, i + 1, 0)
def gi (l : T) : Nat × Nat × Int := giF 6 0 0 1 l

theorem byte_lo' {m : Nat} (h : m < 128) : (UInt8.ofNat m).toNat = m := by simp; omega
theorem byte_hi' (m : Nat) : (UInt8.ofNat (m % 128 + 128)).toNat = m % 128 + 128 := by simp; omega

theorem giF_put : ∀ (f i n u m : Nat) (r : T), 0 < f → m < 128 ^ f → (0 < i → 0 < m) → n + m * u ≤ 1099511627776 → giF f i n u (dig m ++ r) = (n + m * u, i + (dig m).length, 0)
  | 0, _, _, _, _, _, h0, _, _, _ => absurd h0 (by omega)
  | f + 1, i, n, u, m, r, _, h, hi, hm => by
    by_cases hs : m < 128
    · rw [dig_small hs]
      simp only [List.singleton_append, giF, byte_lo' hs, List.length_singleton]
      rw [if_neg (by omega), if_neg]
      rintro (⟨h1, h2⟩ | h1)
      · have := hi h2; omega
      · omega
    · have e : n + m % 128 * u + m / 128 * (u * 128) = n + m * u := by
        have : m * u = (m % 128 + 128 * (m / 128)) * u := by rw [Nat.mod_add_div]
        rw [this, Nat.add_mul]
        have : m / 128 * (u * 128) = 128 * (m / 128) * u := by rw [Nat.mul_comm u 128, ← Nat.mul_assoc, Nat.mul_comm (m / 128) 128]
        omega
      have ih := giF_put f (i + 1) (n + m % 128 * u) (u * 128) (m / 128) r (by rcases Nat.eq_zero_or_pos f with rfl | h0; (simp at h; omega); exact h0) (by rw [Nat.pow_succ] at h; omega) (fun _ => by omega) (by omega)
      rw [dig_large hs]
      simp only [List.cons_append, giF, byte_hi', List.length_cons]
      rw [if_pos (by omega), Nat.add_sub_cancel, ih, e]
      simp only [Prod.mk.injEq, true_and, and_true]
      omega

theorem gi_put {n : Nat} (h : n ≤ 1099511627776) (r : T) : gi (dig n ++ r) = (n, (dig n).length, 0) := by
  unfold gi
  have h6 : (128 : Nat) ^ 6 = 4398046511104 := by decide
  rw [giF_put 6 0 0 1 n r (by omega) (by omega) (by omega) (by omega)]
  simp

theorem giF_inv : ∀ (f i n u : Nat) (l : T) (v k : Nat), giF f i n u l = (v, k, 0) → ∃ (m : Nat) (r : T), l = dig m ++ r ∧ v = n + m * u ∧ k = i + (dig m).length ∧ (0 < i → 0 < m) ∧ v ≤ 1099511627776
  | 0, _, _, _, _, _, _, h => by simp [giF] at h
  | _ + 1, _, _, _, [], _, _, h => by simp [giF] at h
  | f + 1, i, n, u, d :: r, v, k, h => by
    simp only [giF] at h
    have hd : d.toNat < 256 := UInt8.toNat_lt d
    by_cases h1 : 128 ≤ d.toNat
    · rw [if_pos h1] at h
      obtain ⟨m, r', e1, e2, e3, e4, e5⟩ := giF_inv f (i + 1) _ _ r v k h
      have hm := e4 (by omega)
      refine ⟨d.toNat - 128 + 128 * m, r', ?_, ?_, ?_, fun _ => by omega, e5⟩
      · rw [dig_large (by omega), e1]
        have a1 : (d.toNat - 128 + 128 * m) % 128 + 128 = d.toNat := by omega
        have a2 : (d.toNat - 128 + 128 * m) / 128 = m := by omega
        rw [a1, a2]
        simp
      · rw [e2, Nat.add_mul]
        have : m * (u * 128) = 128 * m * u := by rw [Nat.mul_comm u 128, ← Nat.mul_assoc, Nat.mul_comm m 128]
        omega
      · have a2 : (d.toNat - 128 + 128 * m) / 128 = m := by omega
        rw [e3, dig_large (n := d.toNat - 128 + 128 * m) (by omega), a2, List.length_cons]
        omega
    · rw [if_neg h1] at h
      by_cases h2 : (d.toNat = 0 ∧ 0 < i) ∨ 1099511627776 < n + d.toNat * u
      · rw [if_pos h2] at h; simp at h
      · rw [if_neg h2] at h
        simp only [Prod.mk.injEq, and_true] at h
        refine ⟨d.toNat, r, ?_, h.1.symm, ?_, ?_, ?_⟩
        · rw [dig_small (by omega)]; simp
        · rw [dig_small (by omega)]; simp; omega
        · intro hi
          have := not_or.1 h2
          have h3 := this.1
          omega
        · have := not_or.1 h2
          omega
theorem gi_inv {l : T} {v k : Nat} (h : gi l = (v, k, 0)) : ∃ r : T, l = dig v ++ r ∧ k = (dig v).length ∧ v ≤ 1099511627776 := by
  obtain ⟨m, r, e1, e2, e3, -, e5⟩ := giF_inv 6 0 0 1 l v k h
  have : m = v := by omega
  subst this
  exact ⟨r, e1, by omega, e5⟩
theorem giF_err : ∀ (f i n u : Nat) (l : T), (giF f i n u l).2.2 ≠ 0 → (giF f i n u l).1 = 0 ∧ (giF f i n u l).2.1 = 0
  | 0, _, _, _, _ => by simp [giF]
  | _ + 1, _, _, _, [] => by simp [giF]
  | f + 1, i, n, u, d :: r => by
    simp only [giF]
    split
    · exact giF_err f _ _ _ r
    · split <;> simp

/-- A text at the beginning of bytes. -/
def gt (l : T) : T × Nat × Int :=
  if (gi l).2.2 ≠ 0 then ([], 0, (gi l).2.2) else if 65536 < (gi l).1 then ([], 0, 13) else if l.length - (gi l).2.1 < (gi l).1 then ([], 0, 12) else ((l.drop (gi l).2.1).take (gi l).1, (gi l).2.1 + (gi l).1, 0)
theorem gt_put {x : T} (h : x.length ≤ 65536) (r : T) : gt (onePut x ++ r) = (x, (onePut x).length, 0) := by
  have e : gi (onePut x ++ r) = (x.length, (dig x.length).length, 0) := by
    unfold onePut
    rw [List.append_assoc]
    exact gi_put (by omega) _
  unfold gt
  rw [e]
  simp only [ne_eq, not_true_eq_false, if_false]
  rw [if_neg (by omega), if_neg (by simp [onePut])]
  simp [onePut]
theorem gt_inv {l x : T} {k : Nat} (h : gt l = (x, k, 0)) : ∃ r : T, l = onePut x ++ r ∧ k = (onePut x).length ∧ x.length ≤ 65536 := by
  unfold gt at h
  by_cases h0 : (gi l).2.2 ≠ 0
  · rw [if_pos h0] at h; simp only [Prod.mk.injEq] at h; exact absurd h.2.2 h0
  rw [if_neg h0] at h
  by_cases h1 : 65536 < (gi l).1
  · rw [if_pos h1] at h; simp at h
  rw [if_neg h1] at h
  by_cases h2 : l.length - (gi l).2.1 < (gi l).1
  · rw [if_pos h2] at h; simp at h
  rw [if_neg h2] at h
  obtain ⟨r, e1, e2, e3⟩ := gi_inv (l := l) (v := (gi l).1) (k := (gi l).2.1) (by
    have : (gi l).2.2 = 0 := by simpa using h0
    rw [← this])
  simp only [Prod.mk.injEq, and_true] at h
  generalize (gi l).1 = n at *
  generalize (gi l).2.1 = m at *
  have hr : l.drop m = r := by rw [e1, e2]; simp
  have hl : l.length = m + r.length := by rw [e1, e2]; simp
  rw [hr] at h
  have hx : x.length = n := by rw [← h.1]; simp; omega
  refine ⟨r.drop n, ?_, ?_, by omega⟩
  · unfold onePut
    rw [hx, ← h.1, List.append_assoc, List.take_append_drop, e1]
  · unfold onePut
    rw [hx, List.length_append, hx, ← h.2, e2]

/-- Texts, one after the other: n are still to come. -/
def gtsF : Nat → Nat → List T → T → List T × Nat × Int
  | 0, k, acc, _ => (acc, k, 0)
  | n + 1, k, acc, s => if (gt (s.drop k)).2.2 ≠ 0 then ([], 0, (gt (s.drop k)).2.2) else gtsF n (k + (gt (s.drop k)).2.1) (acc ++ [(gt (s.drop k)).1]) s
def gts (s : T) : List T × Nat × Int :=
  if (gi s).2.2 ≠ 0 then ([], 0, (gi s).2.2) else if 1000 < (gi s).1 then ([], 0, 13) else gtsF (gi s).1 (gi s).2.1 [] s

theorem gtsF_put : ∀ (L : List T) (p : T) (acc : List T) (r : T), (∀ x ∈ L, x.length ≤ 65536) → gtsF L.length p.length acc (p ++ putAll L ++ r) = (acc ++ L, p.length + (putAll L).length, 0)
  | [], p, acc, r, _ => by simp [gtsF, putAll]
  | x :: L, p, acc, r, h => by
    have e : putAll (x :: L) = onePut x ++ putAll L := by simp [putAll]
    have e2 : (p ++ putAll (x :: L) ++ r).drop p.length = onePut x ++ (putAll L ++ r) := by rw [e]; simp
    have ih := gtsF_put L (p ++ onePut x) (acc ++ [x]) r fun y hy => h y (by simp [hy])
    simp only [List.length_cons, gtsF]
    rw [e2, gt_put (h x (by simp))]
    simp only [ne_eq, not_true_eq_false, if_false]
    rw [show p.length + (onePut x).length = (p ++ onePut x).length by simp, show p ++ putAll (x :: L) ++ r = p ++ onePut x ++ putAll L ++ r by rw [e]; simp, ih, e]
    simp [Nat.add_assoc]
theorem gts_put {L : List T} (hl : L.length ≤ 1000) (h : ∀ x ∈ L, x.length ≤ 65536) (r : T) : gts (putTexts L ++ r) = (L, (putTexts L).length, 0) := by
  have e : gi (putTexts L ++ r) = (L.length, (dig L.length).length, 0) := by
    unfold putTexts
    rw [List.append_assoc]
    exact gi_put (by omega) _
  unfold gts
  rw [e]
  simp only [ne_eq, not_true_eq_false, if_false]
  rw [if_neg (by omega)]
  unfold putTexts
  rw [gtsF_put L (dig L.length) [] r h]
  simp
theorem gtsF_inv : ∀ (n k : Nat) (acc : List T) (s : T) (L : List T) (m : Nat), gtsF n k acc s = (L, m, 0) → k ≤ s.length → ∃ (M : List T), L = acc ++ M ∧ M.length = n ∧ (∀ x ∈ M, x.length ≤ 65536) ∧ ∃ r, s.drop k = putAll M ++ r ∧ m = k + (putAll M).length ∧ m ≤ s.length
  | 0, k, acc, s, L, m, h, hk => by
    simp only [gtsF, Prod.mk.injEq, and_true] at h
    exact ⟨[], by simp [h.1], rfl, by simp, s.drop k, by simp [putAll], by simp [putAll, h.2], by omega⟩
  | n + 1, k, acc, s, L, m, h, hk => by
    simp only [gtsF] at h
    by_cases h0 : (gt (s.drop k)).2.2 ≠ 0
    · rw [if_pos h0] at h; simp only [Prod.mk.injEq] at h; exact absurd h.2.2 h0
    rw [if_neg h0] at h
    obtain ⟨r, e1, e2, e3⟩ := gt_inv (l := s.drop k) (x := (gt (s.drop k)).1) (k := (gt (s.drop k)).2.1) (by
      have : (gt (s.drop k)).2.2 = 0 := by simpa using h0
      rw [← this])
    generalize (gt (s.drop k)).1 = x at *
    generalize (gt (s.drop k)).2.1 = j at *
    have hlen : s.length = k + (j + r.length) := by
      have := congrArg List.length e1
      rw [List.length_drop, List.length_append] at this
      omega
    obtain ⟨M, a1, a2, a3, r', a4, a5, a6⟩ := gtsF_inv n (k + j) (acc ++ [x]) s L m h (by omega)
    refine ⟨x :: M, by rw [a1]; simp, by simp [a2], ?_, r', ?_, ?_, a6⟩
    · intro y hy
      rcases List.mem_cons.1 hy with rfl | hy
      · exact e3
      · exact a3 y hy
    · have e : putAll (x :: M) = onePut x ++ putAll M := by simp [putAll]
      have : r = putAll M ++ r' := by
        rw [← a4, ← List.drop_drop, e1, e2]
        simp
      rw [e, e1, List.append_assoc, ← this]
    · have e : putAll (x :: M) = onePut x ++ putAll M := by simp [putAll]
      rw [e, List.length_append, a5, e2]
      omega
theorem gi_len {l : T} {v k : Nat} (h : gi l = (v, k, 0)) : k ≤ l.length := by
  obtain ⟨r, e1, e2, -⟩ := gi_inv h
  rw [e1, e2]; simp
theorem gts_inv {s : T} {L : List T} {m : Nat} (h : gts s = (L, m, 0)) : L.length ≤ 1000 ∧ (∀ x ∈ L, x.length ≤ 65536) ∧ m ≤ s.length ∧ ∃ r, s = putTexts L ++ r ∧ m = (putTexts L).length := by
  unfold gts at h
  by_cases h0 : (gi s).2.2 ≠ 0
  · rw [if_pos h0] at h; simp only [Prod.mk.injEq] at h; exact absurd h.2.2 h0
  rw [if_neg h0] at h
  by_cases h1 : 1000 < (gi s).1
  · rw [if_pos h1] at h; simp at h
  rw [if_neg h1] at h
  have hg : gi s = ((gi s).1, (gi s).2.1, 0) := by
    have : (gi s).2.2 = 0 := by simpa using h0
    rw [← this]
  obtain ⟨r, e1, e2, -⟩ := gi_inv hg
  have hk := gi_len hg
  obtain ⟨M, a1, a2, a3, r', a4, a5, a6⟩ := gtsF_inv _ _ _ _ _ _ h hk
  simp only [List.nil_append] at a1
  subst a1
  clear h hg h0 hk
  generalize (gi s).1 = n at *
  generalize (gi s).2.1 = k at *
  refine ⟨by omega, a3, a6, r', ?_, ?_⟩
  · have hd : s.drop k = r := by rw [e1, e2]; simp
    unfold putTexts
    rw [a2, List.append_assoc, ← a4, hd]
    exact e1
  · unfold putTexts
    rw [a2, List.length_append, a5, e2]

/-- A sum out of bytes. -/
def dec (t : T) : (List T × List T) × Int :=
  if (gts t).2.2 ≠ 0 then (([], []), 13) else if (gts (t.drop (gts t).2.1)).2.2 ≠ 0 ∨ (gts t).2.1 + (gts (t.drop (gts t).2.1)).2.1 ≠ t.length then (([], []), 13)
  else if chk (gts t).1 (gts (t.drop (gts t).2.1)).1 ≠ 0 then (([], []), 13) else (((gts t).1, (gts (t.drop (gts t).2.1)).1), 0)

theorem dec_enc {L M : List T} (h : chk L M = 0) : dec (enc L M) = ((L, M), 0) := by
  have ok := chk_zero.1 h
  have e : enc L M = putTexts L ++ putTexts M := by simp [enc, h]
  have g1 : gts (enc L M) = (L, (putTexts L).length, 0) := by rw [e]; exact gts_put ok.most ok.la _
  have g2 : gts ((enc L M).drop (putTexts L).length) = (M, (putTexts M).length, 0) := by
    have := gts_put (L := M) (by have := ok.len; have := ok.most; omega) ok.lr []
    rw [e]
    simpa using this
  unfold dec
  rw [g1]
  simp only [g2, ne_eq, not_true_eq_false, if_false, false_or]
  rw [if_neg (by rw [e]; simp), if_neg (by simpa using h)]
theorem enc_dec {t : T} (h : (dec t).2 = 0) : chk (dec t).1.1 (dec t).1.2 = 0 ∧ enc (dec t).1.1 (dec t).1.2 = t := by
  unfold dec at h ⊢
  by_cases h0 : (gts t).2.2 ≠ 0
  · rw [if_pos h0] at h; simp at h
  rw [if_neg h0] at h ⊢
  by_cases h1 : (gts (t.drop (gts t).2.1)).2.2 ≠ 0 ∨ (gts t).2.1 + (gts (t.drop (gts t).2.1)).2.1 ≠ t.length
  · rw [if_pos h1] at h; simp at h
  rw [if_neg h1] at h ⊢
  by_cases h2 : chk (gts t).1 (gts (t.drop (gts t).2.1)).1 ≠ 0
  · rw [if_pos h2] at h; simp at h
  rw [if_neg h2] at h ⊢
  have h2' : chk (gts t).1 (gts (t.drop (gts t).2.1)).1 = 0 := by simpa using h2
  have h1' := not_or.1 h1
  obtain ⟨-, -, -, r, a1, a2⟩ := gts_inv (s := t) (L := (gts t).1) (m := (gts t).2.1) (by
    have : (gts t).2.2 = 0 := by simpa using h0
    rw [← this])
  obtain ⟨-, -, -, r', b1, b2⟩ := gts_inv (s := t.drop (gts t).2.1) (L := (gts (t.drop (gts t).2.1)).1) (m := (gts (t.drop (gts t).2.1)).2.1) (by
    have : (gts (t.drop (gts t).2.1)).2.2 = 0 := by simpa using h1'.1
    rw [← this])
  refine ⟨h2', ?_⟩
  simp only
  rw [enc, if_pos h2']
  have hlen : (gts t).2.1 + (gts (t.drop (gts t).2.1)).2.1 = t.length := by simpa using h1'.2
  generalize (gts t).1 = L at *
  generalize (gts t).2.1 = n at *
  generalize (gts (t.drop n)).1 = M at *
  generalize (gts (t.drop n)).2.1 = m at *
  have hr : t.drop n = r := by rw [a1, a2]; simp
  rw [hr] at b1
  have : r' = [] := by
    have l1 := congrArg List.length a1
    have l2 := congrArg List.length b1
    rw [List.length_append] at l1 l2
    have : r'.length = 0 := by omega
    exact List.eq_nil_of_length_eq_zero this
  rw [a1, b1, this]
  simp
theorem dec_err {t : T} (h : (dec t).2 ≠ 0) : (dec t).1 = ([], []) ∧ (dec t).2 = 13 := by
  unfold dec at *
  repeat' split
  all_goals simp_all
end Go.Proofs.Ytgenloemohcpcaa

/- Plain: the text of a type, and reading it. -/
import Derived.Test.YtjlmhfdigoogfaaM5
namespace Go.Proofs.Ytjlmhfdigoogfaa
open Go.RowKit

abbrev sInt : T := [105, 110, 116]
abbrev sBool : T := [98, 111, 111, 108]
abbrev sList : T := [40, 108, 105, 115, 116, 32]
abbrev sTo : T := [32, 45, 62, 32]
mutual
/-- The text of a type. -/
def txt : PT → T
  | .mk k v s =>
    if k = 1 then sInt else if k = 2 then sBool
    else if k = 3 then sList ++ ((txts s)[0]?).getD [] ++ [41]
    else if k = 4 then [40] ++ ((txts s)[0]?).getD [] ++ sTo ++ ((txts s)[1]?).getD [] ++ [41]
    else [UInt8.ofNat (97 + v.toNat)]
def txts : List PT → List T
  | [] => []
  | x :: l => txt x :: txts l
end
theorem txts_map (l : List PT) : txts l = l.map txt := by induction l <;> simp [txts, *]
theorem txt_1 (v : Int) (s : List PT) : txt (.mk 1 v s) = sInt := by rw [txt]; rfl
theorem txt_2 (v : Int) (s : List PT) : txt (.mk 2 v s) = sBool := by rw [txt]; rfl
theorem txt_3 (v : Int) (x : PT) : txt (.mk 3 v [x]) = sList ++ txt x ++ [41] := by rw [txt, txts_map]; rfl
theorem txt_4 (v : Int) (x y : PT) : txt (.mk 4 v [x, y]) = [40] ++ txt x ++ sTo ++ txt y ++ [41] := by rw [txt, txts_map]; rfl
theorem txt_5 (v : Int) (s : List PT) : txt (.mk 5 v s) = [UInt8.ofNat (97 + v.toNat)] := by rw [txt]; rfl
/-- What is left of a text behind its beginning. -/
def cut (p s : T) : Option T := if p.isPrefixOf s then some (s.drop p.length) else none
theorem cut_some {p s r : T} (h : cut p s = some r) : s = p ++ r := by
  unfold cut at h
  split at h
  · rename_i hp
    cases h
    obtain ⟨q, rfl⟩ := List.isPrefixOf_iff_prefix.1 hp
    simp
  · cases h
theorem cut_app (p r : T) : cut p (p ++ r) = some r := by
  unfold cut
  rw [if_pos (List.isPrefixOf_iff_prefix.2 ⟨r, rfl⟩)]
  simp
theorem cut_len {p s r : T} (h : cut p s = some r) : s.length = p.length + r.length := by rw [cut_some h]; simp
/-- The type at the beginning of a text, and what is left. -/
def rd : Nat → T → Option (PT × T)
  | 0, _ => none
  | f + 1, s =>
    match cut sInt s with
    | some r => some (.mk 1 0 [], r)
    | none => match cut sBool s with
      | some r => some (.mk 2 0 [], r)
      | none => match cut sList s with
        | some r => match rd f r with
          | some (t, r1) => match cut [41] r1 with
            | some r2 => some (.mk 3 0 [t], r2)
            | none => none
          | none => none
        | none => match cut [40] s with
          | some r => match rd f r with
            | some (t, r1) => match cut sTo r1 with
              | some r2 => match rd f r2 with
                | some (u, r3) => match cut [41] r3 with
                  | some r4 => some (.mk 4 0 [t, u], r4)
                  | none => none
                | none => none
              | none => none
            | none => none
          | none => match s with
            | [] => none
            | c :: r => if 97 ≤ c ∧ c ≤ 122 then some (vr ((c.toNat : Int) - 97), r) else none
/-- A type all of whose variables have letters. -/
structure Lt (t : PT) : Prop where
  c : cke t = 0
  v : ∀ u, Vin u t → u ≤ 25
theorem len2 {α : Type} {l : List α} (h : l.length = 2) : ∃ x y, l = [x, y] := by
  match l, h with
  | [x, y], _ => exact ⟨x, y, rfl⟩
theorem cke_mkA {k v : Int} {s : List PT} (h1 : ck1 (.mk k v s) = 0) (h2 : ∀ x ∈ s, cke x = 0) : cke (.mk k v s) = 0 := by
  rw [cke_eq, if_pos h1]
  simp only [PT.sub]
  clear h1
  induction s with
  | nil => exact ckes_nil
  | cons x l ih =>
    rw [ckes_cons, if_pos (h2 x (by simp))]
    exact ih fun y hy => h2 y (by simp [hy])
theorem lt_flat {k : Int} (hk : k = 1 ∨ k = 2) : Lt (.mk k 0 []) := by
  refine ⟨cke_mkA ?_ (by simp), fun u hu => ?_⟩
  · rcases hk with rfl | rfl <;> rfl
  · rw [vin_iff] at hu
    rcases hu with ⟨h, -⟩ | ⟨x, h, -⟩
    · simp only [PT.kind] at h; omega
    · cases h
theorem lt_vr {n : Int} (hn : 0 ≤ n ∧ n ≤ 25) : Lt (vr n) := ⟨good_vr (by omega), fun u hu => by rw [vin_vr] at hu; omega⟩
theorem lt_list {x : PT} (h : Lt x) : Lt (.mk 3 0 [x]) := by
  refine ⟨cke_mkA rfl (by simpa using h.c), fun u hu => ?_⟩
  rw [vin_iff] at hu
  rcases hu with ⟨h1, -⟩ | ⟨y, hy, h1⟩
  · simp only [PT.kind] at h1; omega
  · simp only [PT.sub, List.mem_singleton] at hy; subst hy; exact h.v u h1
theorem lt_fun {x y : PT} (h : Lt x) (h' : Lt y) : Lt (.mk 4 0 [x, y]) := by
  refine ⟨cke_mkA rfl (by simpa using ⟨h.c, h'.c⟩), fun u hu => ?_⟩
  rw [vin_iff] at hu
  rcases hu with ⟨h1, -⟩ | ⟨z, hz, h1⟩
  · simp only [PT.kind] at h1; omega
  · simp only [PT.sub, List.mem_cons, List.not_mem_nil, or_false] at hz
    rcases hz with rfl | rfl
    · exact h.v u h1
    · exact h'.v u h1
/-- What is read is printed so. -/
theorem rd_sound : ∀ (f : Nat) (s : T) {t : PT} {r : T}, rd f s = some (t, r) → s = txt t ++ r ∧ Lt t
  | 0, _, _, _, h => by cases h
  | f + 1, s, t, r, h => by
    unfold rd at h
    split at h
    · rename_i q e
      cases h
      exact ⟨by rw [txt_1]; exact cut_some e, lt_flat (.inl rfl)⟩
    · split at h
      · rename_i q e
        cases h
        exact ⟨by rw [txt_2]; exact cut_some e, lt_flat (.inr rfl)⟩
      · split at h
        · rename_i q e
          split at h
          · rename_i x r1 e1
            split at h
            · rename_i r2 e2
              cases h
              obtain ⟨h1, h2⟩ := rd_sound f q e1
              exact ⟨by rw [txt_3, cut_some e, h1, cut_some e2]; simp, lt_list h2⟩
            · cases h
          · cases h
        · split at h
          · rename_i q e
            split at h
            · rename_i x r1 e1
              split at h
              · rename_i r2 e2
                split at h
                · rename_i y r3 e3
                  split at h
                  · rename_i r4 e4
                    cases h
                    obtain ⟨h1, h2⟩ := rd_sound f q e1
                    obtain ⟨h3, h4⟩ := rd_sound f r2 e3
                    exact ⟨by rw [txt_4, cut_some e, h1, cut_some e2, h3, cut_some e4]; simp, lt_fun h2 h4⟩
                  · cases h
                · cases h
              · cases h
            · cases h
          · cases s with
            | nil => cases h
            | cons c q =>
              simp only at h
              split at h
              · rename_i hc
                cases h
                have h1 := UInt8.le_iff_toNat_le.1 hc.1
                have h2 := UInt8.le_iff_toNat_le.1 hc.2
                simp at h1 h2
                refine ⟨?_, lt_vr (by omega)⟩
                have e : 97 + ((c.toNat : Int) - 97).toNat = c.toNat := by omega
                show c :: r = txt (.mk 5 _ []) ++ r
                rw [txt_5, e]
                simp
              · cases h
/-- What may follow a type. -/
def Fol (r : T) : Prop := r = [] ∨ ∃ q, r = 41 :: q ∨ r = 32 :: q
theorem fol_1 (q : T) : Fol ([41] ++ q) := .inr ⟨q, .inl rfl⟩
theorem fol_2 (q : T) : Fol (sTo ++ q) := .inr ⟨_, .inr rfl⟩
theorem cut_head {p : UInt8} {ps : T} {c : UInt8} {q : T} (h : p ≠ c) : cut (p :: ps) (c :: q) = none := by
  unfold cut
  rw [if_neg]
  simp [List.isPrefixOf, h]
theorem txt_pos (t : PT) (h : Lt t) : t.size ≤ (txt t).length := by
  induction t using PT.ind with
  | h k v s ih =>
    obtain ⟨h1, h2⟩ := cke_ok h.c
    have hk := h1.k
    have hn := h1.n
    simp only [PT.kind, PT.sub] at hk hn h2
    have hs : ∀ x ∈ s, Lt x := fun x hx => ⟨h2 x hx, fun u hu => h.v u (vin_iff.2 (.inr ⟨x, hx, hu⟩))⟩
    obtain rfl | rfl | rfl | rfl | rfl : k = 1 ∨ k = 2 ∨ k = 3 ∨ k = 4 ∨ k = 5 := by omega
    · obtain rfl := List.eq_nil_of_length_eq_zero hn
      rw [txt_1, size_eq]; simp [PT.sub]
    · obtain rfl := List.eq_nil_of_length_eq_zero hn
      rw [txt_2, size_eq]; simp [PT.sub]
    · obtain ⟨x, rfl⟩ := List.length_eq_one_iff.1 hn
      have := ih x (by simp) (hs x (by simp))
      rw [txt_3, size_eq]; simp [PT.sub]; omega
    · obtain ⟨x, y, rfl⟩ := len2 hn
      have := ih x (by simp) (hs x (by simp))
      have := ih y (by simp) (hs y (by simp))
      rw [txt_4, size_eq]; simp [PT.sub]; omega
    · obtain rfl := List.eq_nil_of_length_eq_zero hn
      rw [txt_5, size_eq]; simp [PT.sub]
theorem letter {v : Int} (h : 0 ≤ v ∧ v ≤ 25) : (UInt8.ofNat (97 + v.toNat)).toNat = 97 + v.toNat := by
  rw [UInt8.toNat_ofNat_of_lt' ]
  have : UInt8.size = 256 := rfl
  omega
/-- What is printed is read. -/
theorem rd_txt (t : PT) : ∀ (f : Nat) (r : T), Lt t → t.size ≤ f → Fol r → rd f (txt t ++ r) = some (t, r) := by
  induction t using PT.ind with
  | h k v s ih =>
    intro f r h hf hr
    obtain ⟨h1, h2⟩ := cke_ok h.c
    have hk := h1.k
    have hn := h1.n
    have hv := h1.v
    have hrg := h1.r
    simp only [PT.kind, PT.sub, PT.var] at hk hn h2 hv hrg
    have hs : ∀ x ∈ s, Lt x := fun x hx => ⟨h2 x hx, fun u hu => h.v u (vin_iff.2 (.inr ⟨x, hx, hu⟩))⟩
    cases f with
    | zero => rw [size_eq] at hf; omega
    | succ f =>
    obtain rfl | rfl | rfl | rfl | rfl : k = 1 ∨ k = 2 ∨ k = 3 ∨ k = 4 ∨ k = 5 := by omega
    · obtain rfl := List.eq_nil_of_length_eq_zero hn
      obtain rfl := hv (by decide)
      rw [txt_1]
      unfold rd
      rw [cut_app]
    · obtain rfl := List.eq_nil_of_length_eq_zero hn
      obtain rfl := hv (by decide)
      rw [txt_2]
      unfold rd
      rw [show cut sInt (sBool ++ r) = none from cut_head (by decide), cut_app]
    · obtain ⟨x, rfl⟩ := List.length_eq_one_iff.1 hn
      obtain rfl := hv (by decide)
      rw [size_eq] at hf
      simp only [PT.sub, psz_cons, psz_nil] at hf
      have e := ih x (by simp) f ([41] ++ r) (hs x (by simp)) (by omega) (fol_1 r)
      rw [txt_3, List.append_assoc, List.append_assoc]
      unfold rd
      rw [show cut sInt (sList ++ (txt x ++ ([41] ++ r))) = none from cut_head (by decide), show cut sBool (sList ++ (txt x ++ ([41] ++ r))) = none from cut_head (by decide), cut_app]
      simp only [e, cut_app]
    · obtain ⟨x, y, rfl⟩ := len2 hn
      obtain rfl := hv (by decide)
      rw [size_eq] at hf
      simp only [PT.sub, psz_cons, psz_nil] at hf
      have e1 := ih x (by simp) f (sTo ++ (txt y ++ ([41] ++ r))) (hs x (by simp)) (by omega) (fol_2 _)
      have e2 := ih y (by simp) f ([41] ++ r) (hs y (by simp)) (by omega) (fol_1 r)
      rw [txt_4, List.append_assoc, List.append_assoc, List.append_assoc, List.append_assoc]
      unfold rd
      have e3 : cut sList ([40] ++ (txt x ++ (sTo ++ (txt y ++ ([41] ++ r))))) = none := by
        have hx := hs x (by simp)
        cases x with
        | mk k' v' s' =>
          obtain ⟨g1, g2⟩ := cke_ok hx.c
          have gk := g1.k
          have gn := g1.n
          have gr := g1.r
          simp only [PT.kind, PT.sub, PT.var] at gk gn gr
          have key : ∀ (c : UInt8) (q : T), c ≠ 108 → cut sList ([40] ++ (c :: q)) = none := by
            intro c q hc
            unfold cut
            rw [if_neg]
            simp [List.isPrefixOf, Ne.symm hc]
          obtain rfl | rfl | rfl | rfl | rfl : k' = 1 ∨ k' = 2 ∨ k' = 3 ∨ k' = 4 ∨ k' = 5 := by omega
          · rw [txt_1]; exact key _ _ (by decide)
          · rw [txt_2]; exact key _ _ (by decide)
          · obtain ⟨x, rfl⟩ := List.length_eq_one_iff.1 gn
            rw [txt_3]; exact key _ _ (by decide)
          · obtain ⟨x, y, rfl⟩ := len2 gn
            rw [txt_4]; exact key _ _ (by decide)
          · rw [txt_5]
            generalize UInt8.ofNat (97 + v'.toNat) = c
            unfold cut
            rw [if_neg]
            simp [List.isPrefixOf]
      rw [show cut sInt ([40] ++ (txt x ++ (sTo ++ (txt y ++ ([41] ++ r))))) = none from cut_head (by decide), show cut sBool ([40] ++ (txt x ++ (sTo ++ (txt y ++ ([41] ++ r))))) = none from cut_head (by decide), e3, cut_app]
      simp only [e1, cut_app, e2]
    · obtain rfl := List.eq_nil_of_length_eq_zero hn
      have h25 := h.v v (vin_iff.2 (.inl ⟨rfl, rfl⟩))
      have hl := letter ⟨hrg.1, h25⟩
      rw [txt_5]
      obtain ⟨c, hc⟩ : ∃ c, UInt8.ofNat (97 + v.toNat) = c := ⟨_, rfl⟩
      rw [hc] at hl ⊢
      have n1 : ∀ (a b d : UInt8) (q : T), d ≠ 41 → d ≠ 32 → cut (a :: d :: q) ([c] ++ r) = none := by
        intro a b d q h1 h2
        unfold cut
        rw [if_neg]
        rcases hr with rfl | ⟨q', rfl | rfl⟩
        · simp [List.isPrefixOf]
        · simp [List.isPrefixOf, h1]
        · simp [List.isPrefixOf, h2]
      have hc40 : (40 : UInt8) ≠ c := by
        intro e; rw [← e] at hl; simp at hl; omega
      unfold rd
      rw [n1 105 0 110 _ (by decide) (by decide), n1 98 0 111 _ (by decide) (by decide), show cut sList ([c] ++ r) = none from cut_head hc40, show cut [40] ([c] ++ r) = none from cut_head hc40]
      simp only [List.singleton_append]
      rw [if_pos]
      · have : (c.toNat : Int) - 97 = v := by omega
        rw [this]
        rfl
      · constructor
        · rw [UInt8.le_iff_toNat_le]; simp; omega
        · rw [UInt8.le_iff_toNat_le]; simp; omega
end Go.Proofs.Ytjlmhfdigoogfaa

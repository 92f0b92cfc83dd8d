/- Plain: the reference's Decode. -/
import Derived.Test.YtgboboljgcfggaaGreatDoorDeW
namespace Go.Proofs.YtgboboljgcfggaaGreatDoor

theorem rdL_allK {α : Type} {rd : RS → α × RS} {P : α → Prop} {K : Nat} (hc : ∀ s, Con (rd s) s) (h : ∀ s, s.rest.length ≤ K → P (rd s).1) : ∀ (n : Nat) (s : RS) (acc : List α), s.rest.length ≤ K → (∀ x ∈ acc, P x) → ∀ x ∈ (rdL rd n s acc).1, P x
  | 0, s, acc, _, ha => by simpa [rdL] using ha
  | n + 1, s, acc, hs, ha => by
    rw [rdL]
    split
    · exact ha
    · refine rdL_allK hc h n _ _ (Nat.le_trans (hc s).1 hs) fun x hx => ?_
      rcases List.mem_append.1 hx with h1 | h1
      · exact ha x h1
      · simp only [List.mem_cons, List.not_mem_nil, or_false] at h1
        rw [h1]
        exact h s hs
theorem msr_le (s : RS) : msr s ≤ s.rest.length + 1 := by unfold msr; split <;> omega
theorem rdP_len (st : Bool) (t : T) : (∀ b ∈ (rdP st ⟨t, false⟩).1.bs, b.ins.length ≤ t.length + 1) ∧ (rdP st ⟨t, false⟩).1.ss.length ≤ t.length + 1 := by
  have h1 := (rdN_con ⟨t, false⟩).1
  have h2 := (rdL_con (rdB_con st) (rdN ⟨t, false⟩).1.toNat (rdN ⟨t, false⟩).2 []).1
  have h3 := (rdN_con (rdL (rdB st) (rdN ⟨t, false⟩).1.toNat (rdN ⟨t, false⟩).2 []).2).1
  have h4 := rdL_len rdS_con (rdN (rdL (rdB st) (rdN ⟨t, false⟩).1.toNat (rdN ⟨t, false⟩).2 []).2).1.toNat (rdN (rdL (rdB st) (rdN ⟨t, false⟩).1.toNat (rdN ⟨t, false⟩).2 []).2).2 []
  have h5 := msr_le (rdN (rdL (rdB st) (rdN ⟨t, false⟩).1.toNat (rdN ⟨t, false⟩).2 []).2).2
  simp only at h1
  constructor
  · exact rdL_allK (K := t.length) (P := fun b : PB => b.ins.length ≤ t.length + 1) (rdB_con st) (fun s hs => by have := (rdB_len st s).1; omega) _ _ [] h1 (by simp)
  · simp only [List.length_nil, Nat.zero_add] at h4
    show (rdL rdS (rdN (rdL (rdB st) (rdN ⟨t, false⟩).1.toNat (rdN ⟨t, false⟩).2 []).2).1.toNat (rdN (rdL (rdB st) (rdN ⟨t, false⟩).1.toNat (rdN ⟨t, false⟩).2 []).2).2 []).1.length ≤ _
    omega
def okV (p : PP) : Prop := errQ p.bs p.ss = 0 ∧ (∀ b ∈ p.bs, b.ins.length ≤ 1000000) ∧ p.ss.length ≤ 1000000
theorem okV_pok (p : PP) (h : okV p) : POk p := by
  obtain ⟨bs, ss⟩ := p
  obtain ⟨h1, h2, h3⟩ := h
  have e : (bs.map fun b => (⟨b.cap, b.param, none, 0, b.ins⟩ : Blk)).map Blk.pb = bs := by
    rw [List.map_map]
    refine (List.map_congr_left (g := id) fun x _ => ?_).trans (List.map_id _)
    rfl
  have h4 := (prg_ok (p := ⟨none, 0, bs.map fun b => (⟨b.cap, b.param, none, 0, b.ins⟩ : Blk), none, 0, ss⟩) (by rw [errP_pl]; simp only [e]; exact h1) (fun b hb => by
    obtain ⟨c, hc, rfl⟩ := List.mem_map.1 hb
    exact h2 c hc) h3).1
  unfold Prg.pp at h4
  simp only [e] at h4
  exact h4
/-- The reference's way to the same answer. -/
theorem decR (t : T) (hl : t.length ≤ 90000) : decV t = if (rdP false ⟨t, false⟩).2.bad = false ∧ errQ (rdP false ⟨t, false⟩).1.bs (rdP false ⟨t, false⟩).1.ss = 0 ∧ eP (rdP false ⟨t, false⟩).1 = t then ((rdP false ⟨t, false⟩).1, 0) else (⟨[], []⟩, 13) := by
  have b1 := rdP_len true t
  have b2 := rdP_len false t
  have hb := fun p => rd_both (s := t) (V := okV) okV_pok (p := p)
  unfold decV
  generalize rdP true ⟨t, false⟩ = x at *
  generalize rdP false ⟨t, false⟩ = y at *
  obtain ⟨p, r, bad⟩ := x
  obtain ⟨q, u, bu⟩ := y
  simp only at b1 b2 hb ⊢
  have v1 : errQ p.bs p.ss = 0 → okV p := fun h => ⟨h, fun b h9 => by have := b1.1 b h9; omega, by have := b1.2; omega⟩
  have v2 : errQ q.bs q.ss = 0 → okV q := fun h => ⟨h, fun b h9 => by have := b2.1 b h9; omega, by have := b2.2; omega⟩
  by_cases c1 : bad = false ∧ r = [] ∧ errQ p.bs p.ss = 0
  · obtain ⟨rfl, rfl, c1⟩ := c1
    obtain ⟨r2, e1, e2, e3⟩ := (hb p).1 ⟨rfl, v1 c1⟩
    obtain ⟨e4, e5⟩ := Prod.mk.inj e1
    obtain ⟨rfl, rfl⟩ := RS.mk.inj e5
    subst e4
    rw [if_pos ⟨rfl, rfl, c1⟩, if_pos ⟨rfl, c1, e3⟩]
  · rw [if_neg c1, if_neg]
    rintro ⟨rfl, d1, d2⟩
    obtain ⟨e1, e2⟩ := (hb q).2 ⟨u, rfl, v2 d1, d2⟩
    obtain ⟨e4, e5⟩ := Prod.mk.inj e1
    obtain ⟨rfl, rfl⟩ := RS.mk.inj e5
    subst e4
    exact c1 ⟨rfl, rfl, d1⟩
end Go.Proofs.YtgboboljgcfggaaGreatDoor

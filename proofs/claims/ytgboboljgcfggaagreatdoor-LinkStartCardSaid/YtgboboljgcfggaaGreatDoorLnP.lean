/- Plain: small programs; what encoding and decoding give together. -/
import Derived.Test.YtgboboljgcfggaaGreatDoorDeC
import Derived.Test.YtgboboljgcfggaaGreatDoorEnC
import Derived.Test.YtgboboljgcfggaaGreatDoorGrp
namespace Go.Proofs.YtgboboljgcfggaaGreatDoor
open Go.RowKit

/-- How many instructions. -/
def cntN (bs : List Blk) : Nat := (bs.map fun b => b.ins.length).sum
theorem cnt_sum : ∀ (bs : List Blk) (c : Nat), c + cntN bs ≤ 9223372036854775807 → bs.foldl (fun c b => Go.RowKit.wrap64 (c + b.ins.length)) (c : Int) = ((c + cntN bs : Nat) : Int)
  | [], c, _ => by simp [cntN]
  | b :: bs, c, h => by
    have e : cntN (b :: bs) = b.ins.length + cntN bs := by simp [cntN]
    rw [e] at h ⊢
    rw [List.foldl_cons]
    have e2 : Go.RowKit.wrap64 ((c : Int) + b.ins.length) = ((c + b.ins.length : Nat) : Int) := by
      unfold Go.RowKit.wrap64
      omega
    rw [e2, cnt_sum bs (c + b.ins.length) (by omega)]
    congr 1
    omega
theorem ins_le {bs : List Blk} {b : Blk} (h : b ∈ bs) : b.ins.length ≤ cntN bs := by
  unfold cntN
  induction bs with
  | nil => cases h
  | cons c bs ih =>
    rw [List.map_cons, List.sum_cons]
    rcases List.mem_cons.1 h with rfl | h1
    · omega
    · have := ih h1; omega
theorem cnt_le {m : Nat} : ∀ {bs : List Blk}, (∀ b ∈ bs, b.ins.length ≤ m) → cntN bs ≤ bs.length * m
  | [], _ => by simp [cntN]
  | b :: bs, h => by
    have e : cntN (b :: bs) = b.ins.length + cntN bs := by simp [cntN]
    have h1 := cnt_le (bs := bs) fun c hc => h c (by simp [hc])
    have h2 := h b (by simp)
    rw [e, List.length_cons, Nat.succ_mul]
    omega
theorem small_cnt {p : Prg} (h : SmP p) (hs : cntN p.bs ≤ 9223372036854775807) : cntN p.bs ≤ 150 := by
  have h1 := h.c
  unfold cntW at h1
  have h2 := cnt_sum p.bs 0 (by omega)
  simp only [Nat.zero_add] at h2
  rw [show ((0 : Nat) : Int) = 0 from rfl] at h2
  rw [h2] at h1
  omega
theorem eBs_len : ∀ (bs : List Blk), (∀ b ∈ bs, BOk b.pb ∧ ∀ x ∈ b.ins, x.name.length ≤ 100) → (eL eB (bs.map Blk.pb)).length ≤ bs.length * 18 + cntN bs * 124
  | [], _ => by simp [eL]
  | b :: bs, h => by
    have ih := eBs_len bs fun c hc => h c (by simp [hc])
    obtain ⟨h1, h2⟩ := h b (by simp)
    have e : cntN (b :: bs) = b.ins.length + cntN bs := by simp [cntN]
    have q1 := eN_len h1.cap
    have q2 : (eN (if b.pb.param then 1 else 0)).length ≤ 6 := eN_len ⟨by split <;> omega, by split <;> omega⟩
    have q3 : (eN b.pb.ins.length).length ≤ 6 := eN_len ⟨by omega, by have := h1.l; omega⟩
    have q4 := eL_len (e := eI) (m := 124) (l := b.ins) fun x hx => eI_len (h1.i x hx) (h2 x hx)
    have q5 : (eB b.pb).length ≤ 18 + b.ins.length * 124 := by
      unfold eB
      simp only [List.length_append]
      have : (eL eI b.pb.ins).length ≤ b.ins.length * 124 := q4
      omega
    rw [e]
    unfold eL at ih ⊢
    simp only [List.map_cons, List.flatten_cons, List.length_append, List.length_cons] at ih ⊢
    omega
theorem eP_len {p : Prg} (h : errP p = 0) (hb : p.bs.length ≤ 30) (hs : p.ss.length ≤ 10) (hc : cntN p.bs ≤ 150) : (eP p.pp).length ≤ 90000 := by
  have hi : ∀ b ∈ p.bs, b.ins.length ≤ 1000000 := fun b hb => by have := ins_le hb; omega
  obtain ⟨h1, h2, h3⟩ := prg_ok h hi (by omega)
  have q1 := eBs_len p.bs fun b hb => ⟨h1.b _ (List.mem_map.2 ⟨b, hb, rfl⟩), h2 b hb⟩
  have q2 := eL_len (e := eS) (m := 118) (l := p.ss) fun x hx => eS_len (h1.s x hx) (h3 x hx)
  have q3 : (eN (p.bs.map Blk.pb).length).length ≤ 6 := eN_len ⟨by omega, by rw [List.length_map]; omega⟩
  have q4 : (eN p.ss.length).length ≤ 6 := eN_len ⟨by omega, by omega⟩
  unfold Prg.pp eP
  simp only [List.length_append]
  omega
theorem decV_enc {p : Prg} (h : errP p = 0) (hi : ∀ b ∈ p.bs, b.ins.length ≤ 1000000) (hs : p.ss.length ≤ 1000000) : decV (eP p.pp) = (p.pp, 0) := by
  have h1 := (prg_ok h hi hs).1
  have h2 := rdP_enc true h1 []
  rw [List.append_nil] at h2
  unfold decV
  rw [h2]
  have h3 : errQ p.pp.bs p.pp.ss = 0 := by rw [← h, errP_pl]; rfl
  simp [h3]
theorem decV_two (t : T) : decV t = (⟨[], []⟩, 13) ∨ ((decV t).2 = 0 ∧ errQ (decV t).1.bs (decV t).1.ss = 0 ∧ eP (decV t).1 = t) := by
  unfold decV
  split
  · rename_i h
    obtain ⟨h1, h2, h3⟩ := h
    right
    refine ⟨rfl, h3, ?_⟩
    have h4 := (rdP_inv ⟨t, false⟩ h1).2
    rw [h2, List.append_nil] at h4
    exact h4.symm
  · left; rfl
end Go.Proofs.YtgboboljgcfggaaGreatDoor

/- Plain: a checked program can be encoded. -/
import Derived.Test.YtgboboljgcfggaaGreatDoorM7
import Derived.Test.YtgboboljgcfggaaGreatDoorDig
namespace Go.Proofs.YtgboboljgcfggaaGreatDoor
open Go.RowKit Go.Maps

theorem fe_zero : ∀ {L : List Int}, fe L = 0 ↔ ∀ x ∈ L, x = 0
  | [] => by simp [fe]
  | x :: l => by
    rw [fe]
    by_cases h : x = 0
    · rw [if_pos h, fe_zero]; simp [h]
    · rw [if_neg h]; simp [h]
theorem nmOk_short {t : T} (h : nmOk t = true) : t.length ≤ 1 := by
  by_cases h1 : t.length = 1
  · omega
  · rw [nmOk_len h1] at h; cases h
/-- The numbers of an instruction without an error. -/
theorem ckI_ok {bs : List Blk} {nb : Nat} {x : Ins} (hb : bs.length ≤ 100000) (hn : nb ≤ 1000000) (h : ckI bs nb x.op x.a x.b x.name = 0) : IOk x ∧ x.name.length ≤ 1 := by
  unfold ckI ckB at h
  split at h
  · cases h
  · rename_i h1
    split at h
    · cases h
    · rename_i h2
      split at h
      · cases h
      · rename_i h3
        split at h
        · cases h
        · rename_i h4
          have hK : fK x.op = true := by simpa using h1
          have hR : inR bs nb x.op x.a x.b = true := by simpa using h4
          have hA : fA x.op = false → x.a = 0 := fun e => by rw [e] at h2; simp at h2; exact h2.1.1
          have hB : fB x.op = false → x.b = 0 := fun e => by rw [e] at h2; simp at h2; exact h2.1.2
          have hN : x.name.length ≤ 1 := by
            cases e : fN x.op with
            | false => rw [e] at h2; simp at h2; rw [h2.2]; simp
            | true => rw [e] at h3; simp at h3; exact nmOk_short h3
          clear h1 h2 h3 h4
          have pl : ∀ n, plainB bs n = true → 0 ≤ n ∧ n < 100000 := fun n h => by have := plainB_lt h; omega
          have cl : ∀ n, closB bs n = true → 0 ≤ n ∧ n < 100000 := fun n h => by have := closB_lt h; omega
          refine ⟨⟨?_, ?_, ?_, by omega⟩, hN⟩
          · rcases op_split x.op with e | e | e | e | e | e | e | e | e | e | e | e | e | e | e | e | ⟨g1, g2, g3, g4, g5, g6, g7, g8, g9, g10, g11, g12, g13, g14, g15, g16⟩
            rotate_right
            · simp [fK, fA, *] at hK
            all_goals (rw [e]; exact ⟨by omega, by omega⟩)
          · rcases op_split x.op with e | e | e | e | e | e | e | e | e | e | e | e | e | e | e | e | ⟨g1, g2, g3, g4, g5, g6, g7, g8, g9, g10, g11, g12, g13, g14, g15, g16⟩
            rotate_right
            · simp [fK, fA, *] at hK
            all_goals
              rw [e] at hR hA
              first
                | (have h0 := hA (by decide); rw [h0]; exact ⟨by omega, by omega⟩)
                | (have h0 := pl x.a (by simpa [inR] using hR); exact ⟨by omega, by omega⟩)
                | (have h0 := cl x.a (by simpa [inR] using hR); exact ⟨by omega, by omega⟩)
                | (simp [inR] at hR; exact ⟨by omega, by omega⟩)
          · rcases op_split x.op with e | e | e | e | e | e | e | e | e | e | e | e | e | e | e | e | ⟨g1, g2, g3, g4, g5, g6, g7, g8, g9, g10, g11, g12, g13, g14, g15, g16⟩
            rotate_right
            · simp [fK, fA, *] at hK
            all_goals
              rw [e] at hR hB
              first
                | (have h0 := hB (by decide); rw [h0]; exact ⟨by omega, by omega⟩)
                | (simp [inR] at hR; exact ⟨by omega, by omega⟩)
theorem errP_zero {p : Prg} (h : errP p = 0) : p.bs.length ≤ 2000 ∧ (∀ b ∈ p.bs, 0 ≤ b.cap ∧ b.cap ≤ 1000 ∧ ∀ x ∈ b.ins, ckI p.bs b.ins.length x.op x.a x.b x.name = 0) ∧ ∀ s ∈ p.ss, lab s.pack = true ∧ 1 ≤ s.id ∧ s.id ≤ 999999 ∧ plainB p.bs s.block = true := by
  unfold errP at h
  split at h
  · cases h
  · rename_i h1
    split at h
    · rename_i h2; exact absurd h h2
    · rename_i h2
      have h2 : fe (p.bs.map (errB p.bs)) = 0 := Decidable.of_not_not h2
      refine ⟨by omega, fun b hb => ?_, fun s hs => ?_⟩
      · have h3 := fe_zero.1 h2 _ (List.mem_map.2 ⟨b, hb, rfl⟩)
        unfold errB at h3
        split at h3
        · cases h3
        · rename_i h4
          exact ⟨by omega, by omega, fun x hx => fe_zero.1 h3 _ (List.mem_map.2 ⟨x, hx, rfl⟩)⟩
      · obtain ⟨i, hi⟩ := List.getElem?_of_mem hs
        have h3 := fe_zero.1 h _ (List.mem_map.2 ⟨i, List.mem_range.2 (List.getElem?_eq_some_iff.1 hi).1, rfl⟩)
        unfold errS at h3
        rw [hi] at h3
        simp only at h3
        split at h3
        · cases h3
        · rename_i h4
          split at h3
          · cases h3
          · rename_i h5
            exact ⟨by simpa using h4, by omega, by omega, by simpa using fun e => h5 (.inr (.inr e))⟩
def Prg.pp (p : Prg) : PP := ⟨p.bs.map Blk.pb, p.ss⟩
theorem prg_ok {p : Prg} (h : errP p = 0) (hi : ∀ b ∈ p.bs, b.ins.length ≤ 1000000) (hs : p.ss.length ≤ 1000000) : POk p.pp ∧ (∀ b ∈ p.bs, ∀ x ∈ b.ins, x.name.length ≤ 100) ∧ ∀ s ∈ p.ss, s.pack.length ≤ 100 := by
  obtain ⟨h1, h2, h3⟩ := errP_zero h
  have hx : ∀ b ∈ p.bs, ∀ x ∈ b.ins, IOk x ∧ x.name.length ≤ 1 := fun b hb x hx => ckI_ok (by omega) (hi b hb) ((h2 b hb).2.2 x hx)
  refine ⟨⟨by unfold Prg.pp; simp; omega, hs, fun b hb => ?_, fun s hs => ?_⟩, fun b hb x hx' => by have := (hx b hb x hx').2; omega, fun s hs => by have := lab_len (h3 s hs).1; omega⟩
  · obtain ⟨b, hb', rfl⟩ := List.mem_map.1 hb
    obtain ⟨a1, a2, -⟩ := h2 b hb'
    exact ⟨⟨a1, by show b.cap ≤ _; omega⟩, hi b hb', fun x hx' => (hx b hb' x hx').1⟩
  · obtain ⟨a1, a2, a3, a4⟩ := h3 s hs
    have := plainB_lt a4
    exact ⟨by have := lab_len a1; omega, ⟨by omega, by omega⟩, ⟨by omega, by omega⟩⟩
/-- What Encode answers. -/
def encV (p : Prg) : T × Int := if errP p = 0 then (eP p.pp, 0) else ([], errP p)
theorem eL_take {α : Type} {e : α → T} {l : List α} {k : Nat} {x : α} (h : l[k]? = some x) : eL e (l.take (k + 1)) = eL e (l.take k) ++ e x := by
  unfold eL
  rw [List.take_add_one, h]
  simp
theorem eN_len {n : Int} (h : nOk n) : (eN n).length ≤ 6 := dig_six (by have := h.2; omega)
theorem eA_len {n : Int} (h : aOk n) : (eA n).length ≤ 6 := by
  obtain ⟨h1, h2⟩ := h
  unfold eA
  split
  · exact dig_six (by omega)
  · exact dig_six (by omega)
theorem put_len {x : T} (h : x.length ≤ 100) : (onePut x).length ≤ 106 := by
  have := dig_six (n := x.length) (by omega)
  unfold onePut
  rw [List.length_append]
  omega
theorem eI_len {x : Ins} (h : IOk x) (hn : x.name.length ≤ 100) : (eI x).length ≤ 124 := by
  have h1 := eN_len h.op
  have h2 := eA_len h.a
  have h3 := eN_len h.b
  have h4 := put_len hn
  unfold eI
  simp only [List.length_append]
  omega
theorem eS_len {x : Stt} (h : SOk x) (hn : x.pack.length ≤ 100) : (eS x).length ≤ 118 := by
  have h1 := put_len hn
  have h2 := eN_len h.i
  have h3 := eN_len h.b
  unfold eS
  simp only [List.length_append]
  omega
theorem eL_len {α : Type} {e : α → T} {m : Nat} : ∀ {l : List α}, (∀ x ∈ l, (e x).length ≤ m) → (eL e l).length ≤ l.length * m
  | [], _ => by simp [eL]
  | x :: l, h => by
    have h1 := eL_len (l := l) fun y hy => h y (by simp [hy])
    have h2 := h x (by simp)
    unfold eL at h1 ⊢
    rw [List.map_cons, List.flatten_cons, List.length_append, List.length_cons, Nat.succ_mul]
    omega
theorem eB_len {b : PB} (h : BOk b) (hn : ∀ x ∈ b.ins, x.name.length ≤ 100) : (eB b).length ≤ 125000000 := by
  have h1 := eN_len h.cap
  have h2 : (eN (if b.param then 1 else 0)).length ≤ 6 := eN_len ⟨by split <;> omega, by split <;> omega⟩
  have h3 : (eN b.ins.length).length ≤ 6 := eN_len ⟨by omega, by have := h.l; omega⟩
  have h4 := eL_len (e := eI) (m := 124) (l := b.ins) fun x hx => eI_len (h.i x hx) (hn x hx)
  have h5 := Nat.mul_le_mul_right 124 h.l
  unfold eB
  simp only [List.length_append]
  omega
end Go.Proofs.YtgboboljgcfggaaGreatDoor

/- Walks and words: RunPl, RunBa, RunBb, RunBc, RunBd, RunBe, RunBf, RunBg, RunBh, RunBi, RunBj. -/
import Derived.Test.YtgboboljgcfggaaGreatDoorMb3
import Derived.Defers
import Derived.Recover
import Derived.Shelf.SlIter.Nil
namespace Go.Proofs.YtgboboljgcfggaaGreatDoor
def vIns (bs : List Blk) (nb : Nat) (x : Ins) : Prop := fK x.op = true ∧ inR bs nb x.op x.a x.b = true
def vBs (bs : List Blk) : Prop := ∀ b ∈ bs, ∀ x ∈ b.ins, vIns bs b.ins.length x
def FrOk (bs : List Blk) (n : Nat) (f : MF) : Prop := 0 ≤ f.block ∧ (∃ b, bs[f.block.toNat]? = some b ∧ 0 ≤ f.at_ ∧ f.at_ ≤ b.ins.length) ∧ f.L.length ≤ n ∧ ∀ v ∈ f.L, MV.Ok bs.length n v
def MOk (bs : List Blk) (n : Nat) (S : List MV) (F : List MF) : Prop := S.length ≤ n ∧ F.length ≤ n ∧ (∀ v ∈ S, MV.Ok bs.length n v) ∧ ∀ f ∈ F, FrOk bs n f
theorem MV.Ok.mono {nb n m : Nat} (h : n ≤ m) {v : MV} (hv : MV.Ok nb n v) : MV.Ok nb m v := by
  induction hv with
  | mk h0 h1 hl h2 ih => exact .mk h0 h1 (Nat.le_trans hl h) ih
theorem FrOk.mono {bs : List Blk} {n m : Nat} (h : n ≤ m) {f : MF} (hf : FrOk bs n f) : FrOk bs m f :=
  ⟨hf.1, hf.2.1, Nat.le_trans hf.2.2.1 h, fun v hv => (hf.2.2.2 v hv).mono h⟩
theorem MV.Ok.num {nb n : Nat} (hb : 0 < nb) (k i : Int) : MV.Ok nb n (.mk k i 0 []) := .mk (by omega) (by omega) (by simp) (by simp)
theorem MV.Ok.b0 {nb n : Nat} {v : MV} (h : MV.Ok nb n v) : 0 ≤ v.block := by cases h; assumption
theorem MV.Ok.b1 {nb n : Nat} {v : MV} (h : MV.Ok nb n v) : v.block < nb := by cases h; assumption
theorem MV.Ok.l {nb n : Nat} {v : MV} (h : MV.Ok nb n v) : v.list.length ≤ n := by cases h; assumption
theorem MV.Ok.m {nb n : Nat} {v : MV} (h : MV.Ok nb n v) : ∀ x ∈ v.list, MV.Ok nb n x := by cases h; assumption
theorem unsn_some {α : Type} {l l' : List α} {x : α} (h : unsn l = some (l', x)) : l = l' ++ [x] := by
  rcases snoc_cases l with rfl | ⟨l2, y, rfl⟩
  · simp at h
  · simp at h; obtain ⟨rfl, rfl⟩ := h; rfl
theorem popK_some {k : Int} {S S' : List MV} {x : MV} (h : popK k S = some (S', x)) : S = S' ++ [x] ∧ x.kind = k := by
  rcases snoc_cases S with rfl | ⟨l2, y, rfl⟩
  · simp at h
  · rw [popK_snoc] at h
    split at h
    · cases h; exact ⟨rfl, by assumption⟩
    · cases h
section
variable {bs : List Blk} {n : Nat} {S : List MV} {G : List MF} {f : MF}
theorem MOk.push (h : MOk bs n S (G ++ [f])) {S' : List MV} {v : MV} {f' : MF} (hS : ∀ x ∈ S', x ∈ S) (hl : S'.length ≤ S.length) (hv : MV.Ok bs.length (n + 2) v) (hf : FrOk bs (n + 2) f') : MOk bs (n + 2) (S' ++ [v]) (G ++ [f']) := by
  obtain ⟨h1, h2, h3, h4⟩ := h
  refine ⟨by simp; omega, by simp at h2 ⊢; omega, fun x hx => ?_, fun x hx => ?_⟩
  · rcases List.mem_append.1 hx with hx | hx
    · exact (h3 x (hS x hx)).mono (by omega)
    · rw [List.mem_singleton] at hx; subst hx; exact hv
  · rcases List.mem_append.1 hx with hx | hx
    · exact (h4 x (by simp [hx])).mono (by omega)
    · rw [List.mem_singleton] at hx; subst hx; exact hf
theorem MOk.less (h : MOk bs n S (G ++ [f])) {S' : List MV} {f' : MF} (hS : ∀ x ∈ S', x ∈ S) (hl : S'.length ≤ S.length) (hf : FrOk bs (n + 2) f') : MOk bs (n + 2) S' (G ++ [f']) := by
  obtain ⟨h1, h2, h3, h4⟩ := h
  refine ⟨by omega, by simp at h2 ⊢; omega, fun x hx => (h3 x (hS x hx)).mono (by omega), fun x hx => ?_⟩
  rcases List.mem_append.1 hx with hx | hx
  · exact (h4 x (by simp [hx])).mono (by omega)
  · rw [List.mem_singleton] at hx; subst hx; exact hf
theorem MOk.callF (h : MOk bs n S (G ++ [f])) {S' : List MV} {f' f2 : MF} (hS : ∀ x ∈ S', x ∈ S) (hl : S'.length ≤ S.length) (hf : FrOk bs (n + 2) f') (hf2 : FrOk bs (n + 2) f2) : MOk bs (n + 2) S' (G ++ [f'] ++ [f2]) := by
  obtain ⟨h1, h2, h3, h4⟩ := h
  refine ⟨by omega, by simp at h2 ⊢; omega, fun x hx => (h3 x (hS x hx)).mono (by omega), fun x hx => ?_⟩
  rcases List.mem_append.1 hx with hx | hx
  · rcases List.mem_append.1 hx with hx | hx
    · exact (h4 x (by simp [hx])).mono (by omega)
    · rw [List.mem_singleton] at hx; subst hx; exact hf
  · rw [List.mem_singleton] at hx; subst hx; exact hf2
end
theorem exec_ok {bs : List Blk} {n : Nat} {S : List MV} {G : List MF} {f : MF} {x : Ins} {b : Blk} {seed : Int} {s : MS} (h : MOk bs n S (G ++ [f])) (hb : bs[f.block.toNat]? = some b) (hx : b.ins[f.at_.toNat]? = some x) (hv : vIns bs b.ins.length x)
    (he : exec bs x S G { f with at_ := f.at_ + 1 } seed = .ok s) : MOk bs (n + 2) s.S s.F ∧ (s.done = s.F.isEmpty) ∧ (s.F = [] → s.S ≠ []) := by
  obtain ⟨f1, ⟨b', hb', f2, f3⟩, f4, f5⟩ := h.2.2.2 f (by simp)
  rw [hb] at hb'
  cases hb'
  have hlt : f.at_.toNat < b.ins.length := by
    rcases Nat.lt_or_ge f.at_.toNat b.ins.length with h' | h'
    · exact h'
    · rw [List.getElem?_eq_none h'] at hx; cases hx
  have hnb : 0 < bs.length := by
    rcases Nat.lt_or_ge f.block.toNat bs.length with h' | h'
    · omega
    · rw [List.getElem?_eq_none h'] at hb; cases hb
  have fo : FrOk bs (n + 2) { f with at_ := f.at_ + 1 } := ⟨f1, ⟨b, hb, by show 0 ≤ f.at_ + 1; omega, by show f.at_ + 1 ≤ _; omega⟩, by show f.L.length ≤ _; omega, fun v hv => (f5 v hv).mono (by omega)⟩
  have fj : ∀ a, 0 ≤ a → a ≤ (b.ins.length : Int) → FrOk bs (n + 2) { f with at_ := a } := fun a a0 a1 => ⟨f1, ⟨b, hb, a0, a1⟩, by show f.L.length ≤ _; omega, fun v hv => (f5 v hv).mono (by omega)⟩
  have fl : ∀ L, L.length ≤ n + 2 → (∀ v ∈ L, MV.Ok bs.length (n + 2) v) → FrOk bs (n + 2) { f with at_ := f.at_ + 1, L := L } := fun L h1 h2 => ⟨f1, ⟨b, hb, by show 0 ≤ f.at_ + 1; omega, by show f.at_ + 1 ≤ _; omega⟩, h1, h2⟩
  have new : ∀ k L, plainB bs k = true ∨ (0 ≤ k ∧ k < bs.length) → L.length ≤ n + 2 → (∀ v ∈ L, MV.Ok bs.length (n + 2) v) → FrOk bs (n + 2) ⟨k, 0, L⟩ := fun k L hk h1 h2 => by
    have h3 : 0 ≤ k ∧ ∃ b, bs[k.toNat]? = some b := by
      rcases hk with hk | hk
      · unfold plainB at hk
        simp only [Bool.and_eq_true, decide_eq_true_eq] at hk
        refine ⟨hk.1, ?_⟩
        cases hq : bs[k.toNat]? with
        | none => rw [hq] at hk; simp at hk
        | some b => exact ⟨b, rfl⟩
      · exact ⟨hk.1, bs[k.toNat]'(by omega), by simp⟩
    obtain ⟨h3, b2, h4⟩ := h3
    exact ⟨h3, ⟨b2, h4, Int.le_refl _, by show (0 : Int) ≤ _; omega⟩, h1, h2⟩
  obtain ⟨v1, v2⟩ := hv
  obtain ⟨op, a, bb, name⟩ := x
  simp only at v1 v2
  rcases op_split op with rfl | rfl | rfl | rfl | rfl | rfl | rfl | rfl | rfl | rfl | rfl | rfl | rfl | rfl | rfl | rfl | ⟨h1, h2, h3, h4, h5, h6, h7, h8, h9, h10, h11, h12, h13, h14, h15, h16⟩
  · simp [exec] at he
    subst he
    exact ⟨h.push (fun _ h => h) (Nat.le_refl _) (.num hnb _ _) fo, by simp, by simp⟩
  · simp [exec] at he
    subst he
    exact ⟨h.push (fun _ h => h) (Nat.le_refl _) (.num hnb _ _) fo, by simp, by simp⟩
  · simp [exec] at he
    cases hq : f.L[a.toNat]? with
    | none => rw [hq] at he; cases he
    | some v =>
      rw [hq] at he
      simp at he
      subst he
      exact ⟨h.push (fun _ h => h) (Nat.le_refl _) ((f5 v (List.mem_of_getElem? hq)).mono (by omega)) fo, by simp, by simp⟩
  · simp [exec] at he
    subst he
    have := h.callF (S' := S) (f2 := ⟨a, 0, []⟩) (fun _ h => h) (Nat.le_refl _) fo (new a [] (.inl (by simpa [inR] using v2)) (by simp) (by simp))
    simp only [List.append_assoc, List.cons_append, List.nil_append] at this
    exact ⟨this, by simp, by simp⟩
  · simp [exec] at he
    split at he
    · cases he
      simp [inR, closB] at v2
      have v3 : a < (bs.length : Int) := by
        rcases Nat.lt_or_ge a.toNat bs.length with h' | h'
        · omega
        · rw [List.getElem?_eq_none h'] at v2; simp at v2
      refine ⟨h.push (fun _ h => h) (Nat.le_refl _) (.mk v2.1 v3 (by omega) fun v hv => (f5 v hv).mono (by omega)) fo, by simp, by simp⟩
    · cases he
  · simp [exec] at he
    cases hq : unsn S with
    | none => rw [hq] at he; cases he
    | some q =>
      obtain ⟨S1, v⟩ := q
      rw [hq] at he
      simp only at he
      cases hq2 : popK 4 S1 with
      | none => rw [hq2] at he; cases he
      | some q2 =>
        obtain ⟨S2, g⟩ := q2
        rw [hq2] at he
        simp at he
        subst he
        have e1 := unsn_some hq
        obtain ⟨e2, _⟩ := popK_some hq2
        subst e2
        subst e1
        have og := h.2.2.1 g (by simp)
        have ov := h.2.2.1 v (by simp)
        have := h.callF (S' := S2) (f2 := ⟨g.block, 0, g.list ++ [v]⟩) (fun _ h => by simp [h]) (by simp) fo (new _ _ (.inr ⟨og.b0, og.b1⟩) (by have := og.l; simp; omega) (fun y hy => by
          rcases List.mem_append.1 hy with hy | hy
          · exact (og.m y hy).mono (by omega)
          · rw [List.mem_singleton] at hy; subst hy; exact ov.mono (by omega)))
        simp only [List.append_assoc, List.cons_append, List.nil_append] at this
        exact ⟨this, by simp, by simp⟩
  · simp [exec] at he
    split at he
    · cases he
    · rename_i hS
      cases he
      refine ⟨⟨by show S.length ≤ _; have := h.1; omega, by show G.length ≤ _; have := h.2.1; simp at this; omega, fun y hy => (h.2.2.1 y hy).mono (by omega), fun y hy => (h.2.2.2 y (by simp [show y ∈ G from hy])).mono (by omega)⟩, rfl, fun _ => hS⟩
  · simp [exec] at he
    subst he
    simp [inR] at v2
    exact ⟨h.less (fun _ h => h) (Nat.le_refl _) (fj a v2.1 v2.2), by simp, by simp⟩
  · simp [exec] at he
    cases hq : popK 2 S with
    | none => rw [hq] at he; cases he
    | some q =>
      obtain ⟨S1, v⟩ := q
      rw [hq] at he
      simp at he
      subst he
      obtain ⟨e1, _⟩ := popK_some hq
      subst e1
      simp [inR] at v2
      refine ⟨h.less (fun _ h => by simp [h]) (by simp) ?_, by simp, by simp⟩
      split
      · exact fj a v2.1 v2.2
      · exact fo
  · simp [exec] at he
    cases hq : popK 1 S with
    | none => rw [hq] at he; cases he
    | some q =>
      obtain ⟨S1, v⟩ := q
      rw [hq] at he
      simp only at he
      cases hq2 : popK 1 S1 with
      | none => rw [hq2] at he; cases he
      | some q2 =>
        obtain ⟨S2, u⟩ := q2
        rw [hq2] at he
        simp only at he
        obtain ⟨e1, _⟩ := popK_some hq
        obtain ⟨e2, _⟩ := popK_some hq2
        subst e2
        subst e1
        have P := fun (v : MV) (hv : MV.Ok bs.length (n + 2) v) => h.push (S' := S2) (v := v) (fun _ h => by simp [h]) (by simp) hv fo
        split at he
        · cases he; exact ⟨P _ (.num hnb _ _), by simp, by simp⟩
        · split at he
          · cases he; exact ⟨P _ (.num hnb _ _), by simp, by simp⟩
          · split at he
            · cases he
            · cases he; exact ⟨P _ (.num hnb _ _), by simp, by simp⟩
  · simp [exec] at he
    subst he
    exact ⟨h.push (fun _ h => h) (Nat.le_refl _) (.num hnb _ _) fo, by simp, by simp⟩
  · simp [exec] at he
    cases hq : popK 3 S with
    | none => rw [hq] at he; cases he
    | some q =>
      obtain ⟨S1, l⟩ := q
      rw [hq] at he
      simp only at he
      cases hq2 : unsn S1 with
      | none => rw [hq2] at he; cases he
      | some q2 =>
        obtain ⟨S2, v⟩ := q2
        rw [hq2] at he
        simp at he
        subst he
        obtain ⟨e1, _⟩ := popK_some hq
        have e2 := unsn_some hq2
        subst e2
        subst e1
        have ol := h.2.2.1 l (by simp)
        have ov := h.2.2.1 v (by simp)
        refine ⟨h.push (S' := S2) (fun _ h => by simp [h]) (by simp) (.mk (by omega) (by omega) (by have := ol.l; simp; omega) fun y hy => ?_) fo, by simp, by simp⟩
        rcases List.mem_cons.1 hy with rfl | hy
        · exact ov.mono (by omega)
        · exact (ol.m y hy).mono (by omega)
  · simp [exec] at he
    cases hq : popK 3 S with
    | none => rw [hq] at he; cases he
    | some q =>
      obtain ⟨S1, l⟩ := q
      rw [hq] at he
      simp only at he
      obtain ⟨e1, _⟩ := popK_some hq
      subst e1
      have ol := h.2.2.1 l (by simp)
      simp [inR] at v2
      cases hl : l.list with
      | nil =>
        rw [hl] at he
        simp at he
        subst he
        exact ⟨h.less (fun _ h => by simp [h]) (by simp) (fj a v2.1 v2.2), by simp, by simp⟩
      | cons y t =>
        rw [hl] at he
        simp at he
        subst he
        have hll := ol.l
        rw [hl] at hll
        simp at hll
        have hmm := ol.m
        rw [hl] at hmm
        refine ⟨h.less (fun _ h => by simp [h]) (by simp) (fl _ (by simp; omega) fun z hz => ?_), by simp, by simp⟩
        rcases List.mem_append.1 hz with hz | hz
        · exact (f5 z hz).mono (by omega)
        · simp at hz
          rcases hz with rfl | rfl
          · exact (hmm _ (by simp)).mono (by omega)
          · exact .mk (by omega) (by omega) (by omega) fun u hu => (hmm u (by simp [hu])).mono (by omega)
  · simp [exec] at he
    cases hq : unsn S with
    | none => rw [hq] at he; cases he
    | some q =>
      obtain ⟨S1, v⟩ := q
      rw [hq] at he
      simp at he
      subst he
      have e1 := unsn_some hq
      subst e1
      have ov := h.2.2.1 v (by simp)
      refine ⟨h.less (fun _ h => by simp [h]) (by simp) (fl _ (by simp; omega) fun z hz => ?_), by simp, by simp⟩
      rcases List.mem_append.1 hz with hz | hz
      · exact (f5 z hz).mono (by omega)
      · rw [List.mem_singleton] at hz; subst hz; exact ov.mono (by omega)
  · simp [exec] at he
    split at he
    · cases he
    · cases he
      exact ⟨h.less (fun _ h => h) (Nat.le_refl _) (fl _ (by simp; omega) fun z hz => (f5 z (List.mem_of_mem_take hz)).mono (by omega)), by simp, by simp⟩
  · simp [exec] at he
    subst he
    exact ⟨h.push (fun _ h => h) (Nat.le_refl _) (by unfold vBool; exact .num hnb _ _) fo, by simp, by simp⟩
  · simp [fK, fA, *] at v1
end Go.Proofs.YtgboboljgcfggaaGreatDoor
namespace Go.Proofs.YtgboboljgcfggaaGreatDoor
open Go.RowKit
set_option maxRecDepth 100000 in
set_option maxHeartbeats 1000000 in
theorem operate_flt2 (b : Bl) (p : Prg) (op xa xb : Int) (name : T) (w : World) (g : Gh) (S : List AV) (v : AV) (steps seed err : Int) (hm : Mem b w g) (hR : RB b p w g.sv g.fv steps seed false err) (hn : g.S.length ≤ 1000000) (h : g.S = S ++ [v]) (hv : v.kind = 1) (hk : popK 1 (ers S) = none) :
    Calls Tryz.prog 139 #[.pointer (some ⟨b.rb, 0, none⟩), .agg #[iv op, iv xa, iv xb, tv name]] w (EffP b p w g (.error 26) steps err) := by
  have H1 := Lib.hid (one_any b p w g S v 1 steps seed err hm hR hn h hv)
  have hl : g.S.length = S.length + 1 := by rw [h]; simp
  have C2 : ∀ o w1, One b p w g o S steps seed err w1 → Calls Tryz.prog 138 #[.pointer (some ⟨b.rb, 0, none⟩), .int .i64 1] w1 (EffP b p w g (.error 26) steps err) := fun o w1 ⟨_, h1, g2, e1, e2, e3, e4, h2, h3, h4⟩ => by
    refine (popK_any b p w1 g2 1 steps seed false err h2 h4 (by rw [e1]; omega)).mono fun e w' hp => ?_
    unfold PopKP at hp
    rw [e1, hk] at hp
    exact EffP.flt h1 hp
  have H2 := Lib.hid C2
  clear C2 hm hR hn h hk hl hv
  have hf := fld1
  unfold AV.v at H1
  generalize v.int = V at *
  go_enter Tryz.func139, Tryz.ntmps139
  go_wp2_with (first | (go_at_call 138; refine (H1.out _).mono ?_; rintro e w1 ⟨rfl, k1⟩; have K1 := Lib.hid k1; clear k1) | (go_at_call 138; refine (H2.out _ _ K1.out).mono ?_; intro e w2 k2; obtain ⟨rfl, k3⟩ := id k2; have K2 := Lib.hid k2; clear k2 k3))
  exact ⟨rfl, K2.out⟩
def effF (op : Int) : Nat := if op = 1 then 127 else if op = 2 then 129 else if op = 3 then 130 else if op = 4 then 131 else if op = 5 then 133 else if op = 6 then 134 else if op = 7 then 135 else if op = 8 then 136 else if op = 9 then 137 else if op = 10 then 139 else if op = 11 then 140 else if op = 12 then 141 else if op = 13 then 142 else if op = 14 then 143 else if op = 15 then 146 else 147
def effC (op : Int) : Bool := op == 1 || op == 2 || op == 4 || op == 8 || op == 9 || op == 11 || op == 14
def effV (b : Bl) (op : Int) : Value := .func (.func (effF op)) (if effC op then #[] else #[.pointer (some ⟨b.rb, 0, none⟩)]) (if effC op then #[.pointer (some ⟨b.tb, 0, none⟩)] else #[])
def effArgs (b : Bl) (x : Ins) : Array Value := (if effC x.op then #[] else #[.pointer (some ⟨b.rb, 0, none⟩)]) ++ #[x.val] ++ (if effC x.op then #[.pointer (some ⟨b.tb, 0, none⟩)] else #[])
theorem eff_any (b : Bl) (p : Prg) (nb : Nat) (x : Ins) (w : World) (g : Gh) (G : List Fr) (f : Fr) (steps seed err : Int) (hm : Mem b w g) (hR : RB b p w g.sv g.fv steps seed false err) (hF : g.F = G ++ [f]) (hn : g.S.length ≤ 1000000) (hn2 : g.F.length ≤ 1000000) (hl : f.L.length ≤ 1000000) (hx : ∀ x ∈ g.S, x.list.length ≤ 1000000)
    (hp : p.Rd b.w0) (hv : vIns p.bs nb x) : Calls Tryz.prog (effF x.op) (effArgs b x) w (EffP b p w g (exec p.bs x (ers g.S) (G.map Fr.er) f.er seed) steps err) := by
  have hFm : g.F.map Fr.er = G.map Fr.er ++ [f.er] := by rw [hF]; simp
  obtain ⟨v1, v2⟩ := hv
  obtain ⟨op, xa, xb, name⟩ := x
  simp only at v1 v2
  have fL : f.er.L = ers f.L := rfl
  rcases op_split op with rfl | rfl | rfl | rfl | rfl | rfl | rfl | rfl | rfl | rfl | rfl | rfl | rfl | rfl | rfl | rfl | ⟨h1, h2, h3, h4, h5, h6, h7, h8, h9, h10, h11, h12, h13, h14, h15, h16⟩
  · have := eff_int b p ⟨1, xa, xb, name⟩ w g steps seed err hm hR hn
    rw [hFm] at this
    exact this
  · have := eff_bool b p ⟨2, xa, xb, name⟩ w g steps seed err hm hR hn
    rw [hFm] at this
    exact this
  · simp [inR] at v2
    show Calls Tryz.prog 130 #[_, _] w (EffP b p w g (match f.er.L[xa.toNat]? with | some v => .ok ⟨ers g.S ++ [v], G.map Fr.er ++ [f.er], seed, false⟩ | none => .error 26) steps err)
    cases hq : f.L[xa.toNat]? with
    | none =>
      have e : f.er.L[xa.toNat]? = none := by rw [fL, ers_map, List.getElem?_map, hq]; rfl
      rw [e]
      have hle : f.L.length ≤ xa.toNat := List.getElem?_eq_none_iff.1 hq
      exact local_flt b p 3 xa xb name w g G f steps seed err hm hR hF hn2 (by omega)
    | some v =>
      have e : f.er.L[xa.toNat]? = some v.er := by rw [fL, ers_map, List.getElem?_map, hq]; rfl
      rw [e]
      have := local_ok b p 3 xa xb name w g G f v xa.toNat steps seed err hm hR hF hn2 hn hq (by omega)
      rw [hFm] at this
      exact this
  · have := eff_global b p 4 xa xb name w g steps seed err hm hR hn2
    rw [hFm] at this
    exact this
  · simp [inR, closB] at v2
    show Calls Tryz.prog 133 #[_, _] w (EffP b p w g (if (p.bs[xa.toNat]?.map Blk.cap) = some (f.er.L.length : Int) then .ok ⟨ers g.S ++ [vFun xa f.er.L], G.map Fr.er ++ [f.er], seed, false⟩ else .error 26) steps err)
    have hlt : xa.toNat < p.bs.length := by
      rcases Nat.lt_or_ge xa.toNat p.bs.length with h' | h'
      · exact h'
      · rw [List.getElem?_eq_none h'] at v2; simp at v2
    have ej : ((xa.toNat : Nat) : Int) = xa := by omega
    have hl2 : f.er.L.length = f.L.length := by rw [fL]; simp
    by_cases hc : p.bs[xa.toNat].cap = (f.L.length : Int)
    · rw [if_pos (by rw [List.getElem?_eq_getElem hlt, hl2]; simp [hc])]
      have := clos_ok b p 5 xb xa.toNat name w g G f steps seed err hm hR hF hn2 hn hp hlt (by simpa using hc)
      rw [hFm, ej] at this
      exact this
    · rw [if_neg (by rw [List.getElem?_eq_getElem hlt, hl2]; simpa using hc)]
      have := clos_flt b p 5 xb xa.toNat name w g G f steps seed err hm hR hF hn2 hp hlt (by simpa using Ne.symm hc)
      rw [ej] at this
      exact this
  · show Calls Tryz.prog 134 #[_, _] w (EffP b p w g (match unsn (ers g.S) with
      | none => .error 26
      | some (S1, v) => match popK 4 S1 with
        | none => .error 26
        | some (S2, h) => .ok ⟨S2, G.map Fr.er ++ [f.er] ++ [⟨h.block, 0, h.list ++ [v]⟩], seed, false⟩) steps err)
    rcases snoc_cases g.S with h | ⟨S', v, h⟩
    · rw [h]
      exact apply_flt0 b p 6 xa xb name w g steps seed err hm hR h
    · have e1 : unsn (ers g.S) = some (ers S', v.er) := by rw [h]; simp
      rw [e1]
      simp only
      rcases snoc_cases S' with h2 | ⟨S2, u, h2⟩
      · subst h2
        exact apply_flt1 b p 6 xa xb name w g [] v steps seed err hm hR hn h rfl
      · subst h2
        have e2 : popK 4 (ers (S2 ++ [u])) = if u.kind = 4 then some (ers S2, u.er) else none := by
          rw [ers_append]
          show popK 4 (ers S2 ++ [u.er]) = _
          rw [popK_snoc, AV.er_kind]
        rw [e2]
        by_cases hk : u.kind = 4
        · rw [if_pos hk]
          have := apply_ok b p 6 xa xb name w g S2 u v steps seed err hm hR hn h hk hn2 (hx u (by rw [h]; simp))
          rw [hFm] at this
          simp only [AV.er_list, er_block]
          exact this
        · rw [if_neg hk] at e2 ⊢
          exact apply_flt1 b p 6 xa xb name w g _ v steps seed err hm hR hn h e2
  · show Calls Tryz.prog 135 #[_, _] w (EffP b p w g (if ers g.S = [] then .error 26 else .ok ⟨ers g.S, G.map Fr.er, seed, (G.map Fr.er).isEmpty⟩) steps err)
    by_cases hS : g.S = []
    · rw [if_pos (by rw [hS]; simp)]
      exact ret_flt b p 7 xa xb name w g steps seed err hm hR hS
    · rw [if_neg (fun e => hS (by have := congrArg List.length e; simp at this; exact this))]
      by_cases hG : G = []
      · have := ret_nil b p 7 xa xb name w g G f steps seed err hm hR hF hn2 hS hG
        rw [hG] at this ⊢
        exact this
      · have := ret_cons b p 7 xa xb name w g G f steps seed err hm hR hF hn2 hS hG
        have e : (G.map Fr.er).isEmpty = false := by cases G with | nil => exact absurd rfl hG | cons a l => rfl
        rw [e]
        exact this
  · exact eff_jump b p 8 xa xb name w g G f steps seed err hm hR hF hn2
  · show Calls Tryz.prog 137 #[_, _] w (EffP b p w g (match popK 2 (ers g.S) with | none => .error 26 | some (S1, v) => .ok ⟨S1, G.map Fr.er ++ [if v.int = 0 then { f.er with at_ := xa } else f.er], seed, false⟩) steps err)
    rcases snoc_cases g.S with h | ⟨S', v, h⟩
    · have e : popK 2 (ers g.S) = none := by rw [h]; rfl
      rw [e]
      exact false_flt b p 9 xa xb name w g steps seed err hm hR hn e
    · have e : popK 2 (ers g.S) = if v.kind = 2 then some (ers S', v.er) else none := by
        rw [h, ers_append]
        show popK 2 (ers S' ++ [v.er]) = _
        rw [popK_snoc, AV.er_kind]
      by_cases hk : v.kind = 2
      · rw [if_pos hk] at e
        rw [e]
        simp only [er_int]
        by_cases hz : v.int = 0
        · rw [if_pos hz]
          exact false_yes b p 9 xa xb name w g S' v G f steps seed err hm hR hn h hk hz hF hn2
        · rw [if_neg hz]
          have := false_no b p 9 xa xb name w g S' v steps seed err hm hR hn h hk (by simpa using hz)
          rw [hFm] at this
          exact this
      · rw [if_neg hk] at e
        rw [e]
        exact false_flt b p 9 xa xb name w g steps seed err hm hR hn e
  · show Calls Tryz.prog 139 #[_, _] w (EffP b p w g (match popK 1 (ers g.S) with
      | none => .error 26
      | some (S1, v) => match popK 1 S1 with
        | none => .error 26
        | some (S2, a) =>
          if name = [61] then .ok ⟨S2 ++ [vBool (a.int == v.int)], G.map Fr.er ++ [f.er], seed, false⟩
          else if name = [60] then .ok ⟨S2 ++ [vBool (decide (a.int < v.int))], G.map Fr.er ++ [f.er], seed, false⟩
          else if opInt name a.int v.int < -999999999 ∨ 999999999 < opInt name a.int v.int then .error 5
          else .ok ⟨S2 ++ [vInt (opInt name a.int v.int)], G.map Fr.er ++ [f.er], seed, false⟩) steps err)
    have pk : ∀ (S : List AV) (v : AV), popK 1 (ers (S ++ [v])) = if v.kind = 1 then some (ers S, v.er) else none := fun S v => by
      rw [ers_append]
      show popK 1 (ers S ++ [v.er]) = _
      rw [popK_snoc, AV.er_kind]
    rcases snoc_cases g.S with h | ⟨S', v, h⟩
    · have e : popK 1 (ers g.S) = none := by rw [h]; rfl
      rw [e]
      exact operate_flt1 b p ⟨10, xa, xb, name⟩ w g steps seed err hm hR hn e
    · have e := pk S' v
      rw [← h] at e
      by_cases hk : v.kind = 1
      · rw [if_pos hk] at e
        rw [e]
        simp only
        rcases snoc_cases S' with h2 | ⟨S2, u, h2⟩
        · subst h2
          exact operate_flt2 b p 10 xa xb name w g [] v steps seed err hm hR hn h hk rfl
        · subst h2
          have e2 := pk S2 u
          by_cases hk2 : u.kind = 1
          · rw [if_pos hk2] at e2
            rw [e2]
            simp only [er_int]
            by_cases n1 : name = [61]
            · subst n1
              have := operate_eq b p 10 xa xb w g S2 u v steps seed err hm hR hn h hk2 hk
              rw [hFm] at this
              rw [if_pos rfl]
              exact this
            · rw [if_neg n1]
              by_cases n2 : name = [60]
              · subst n2
                have := operate_lt b p 10 xa xb w g S2 u v steps seed err hm hR hn h hk2 hk
                rw [hFm] at this
                rw [if_pos rfl]
                exact this
              · rw [if_neg n2]
                unfold opInt
                by_cases n3 : name = [43]
                · subst n3
                  simp only [if_true]
                  by_cases hr : w64 (u.int + v.int) < -999999999 ∨ 999999999 < w64 (u.int + v.int)
                  · rw [if_pos hr]
                    exact operate_add_flt b p 10 xa xb w g S2 u v steps seed err hm hR hn h hk2 hk hr
                  · rw [if_neg hr]
                    have := operate_add_ok b p 10 xa xb w g S2 u v steps seed err hm hR hn h hk2 hk (by unfold w64 at hr; omega)
                    rw [hFm] at this
                    exact this
                · rw [if_neg n3]
                  by_cases n4 : name = [45]
                  · subst n4
                    simp only [if_true]
                    by_cases hr : w64 (u.int - v.int) < -999999999 ∨ 999999999 < w64 (u.int - v.int)
                    · rw [if_pos hr]
                      exact operate_sub_flt b p 10 xa xb w g S2 u v steps seed err hm hR hn h hk2 hk hr
                    · rw [if_neg hr]
                      have := operate_sub_ok b p 10 xa xb w g S2 u v steps seed err hm hR hn h hk2 hk (by unfold w64 at hr; omega)
                      rw [hFm] at this
                      exact this
                  · rw [if_neg n4]
                    have m1 : (name == [61]) = false := by simpa using n1
                    have m2 : (name == [60]) = false := by simpa using n2
                    have m3 : (name == [43]) = false := by simpa using n3
                    have m4 : (name == [45]) = false := by simpa using n4
                    by_cases hr : w64 (u.int * v.int) < -999999999 ∨ 999999999 < w64 (u.int * v.int)
                    · rw [if_pos hr]
                      exact operate_mul_flt b p 10 xa xb name w g S2 u v steps seed err hm hR hn h hk2 hk hr m1 m2 m3 m4
                    · rw [if_neg hr]
                      have := operate_mul_ok b p 10 xa xb name w g S2 u v steps seed err hm hR hn h hk2 hk (by unfold w64 at hr; omega) m1 m2 m3 m4
                      rw [hFm] at this
                      exact this
          · rw [if_neg hk2] at e2
            rw [e2]
            exact operate_flt2 b p 10 xa xb name w g _ v steps seed err hm hR hn h hk e2
      · rw [if_neg hk] at e
        rw [e]
        exact operate_flt1 b p ⟨10, xa, xb, name⟩ w g steps seed err hm hR hn e
  · have := eff_nil b p ⟨11, xa, xb, name⟩ w g steps seed err hm hR hn
    rw [hFm] at this
    exact this
  · have := cons_any b p 12 xa xb name w g steps seed err hm hR hn hx
    rw [hFm] at this
    exact this
  · exact divide_any b p 13 xa xb name w g G f steps seed err hm hR hn hF hn2 hl hx
  · show Calls Tryz.prog 143 #[_, _] w (EffP b p w g (match unsn (ers g.S) with | none => .error 26 | some (S1, v) => .ok ⟨S1, G.map Fr.er ++ [{ f.er with L := f.er.L ++ [v] }], seed, false⟩) steps err)
    rcases snoc_cases g.S with h | ⟨S', v, h⟩
    · rw [h]
      exact eff_bind_flt b p ⟨14, xa, xb, name⟩ w g steps seed err hm hR h
    · have e1 : unsn (ers g.S) = some (ers S', v.er) := by rw [h]; simp
      rw [e1]
      exact eff_bind_ok b p ⟨14, xa, xb, name⟩ w g S' v G f steps seed err hm hR hn h hF hn2 hl
  · simp [inR] at v2
    show Calls Tryz.prog 146 #[_, _] w (EffP b p w g (if (f.er.L.length : Int) < xa then .error 26 else .ok ⟨ers g.S, G.map Fr.er ++ [{ f.er with L := f.er.L.take (f.er.L.length - xa.toNat) }], seed, false⟩) steps err)
    have hl2 : f.er.L.length = f.L.length := by rw [fL]; simp
    have ej : ((xa.toNat : Nat) : Int) = xa := by omega
    by_cases h : (f.L.length : Int) < xa
    · rw [if_pos (by rw [hl2]; exact h)]
      exact drop_flt b p 15 xa xb name w g G f steps seed err hm hR hF hn2 h
    · rw [if_neg (by rw [hl2]; exact h)]
      have := drop_ok b p 15 xb xa.toNat name w g G f steps seed err hm hR hF hn2 (by omega)
      rw [ej] at this
      exact this
  · simp [inR] at v2
    have := eff_chance b p 16 xa xb name w g steps seed err hm hR hn (by omega) (by omega)
    rw [hFm] at this
    exact this
  · simp [fK, fA, *] at v1
end Go.Proofs.YtgboboljgcfggaaGreatDoor
namespace Go.Proofs.YtgboboljgcfggaaGreatDoor
open Go.RowKit
theorem back_idle (B0 B1 B2 B3 B4 : Addr) (w : World) :
    CallsD Tryz.prog 104 #[.pointer (some B0), .pointer (some B1), .pointer (some B2), .pointer (some B3), .pointer (some B4)] .returning w fun e u' w' => e = .returned (.tuple #[]) ∧ u' = .returning ∧ w' = w := by
  refine callsD_of_wpS Tryz.func104 rfl fun c₀ cs hu => ?_
  apply wpS_seq
  apply wpS_region
  simp [wpOpsS, go_sem, recoverD, hu, Tryz.ntmps104, Exit.thenS]
  apply wpS_seq
  apply wpS_region
  simp [wpOpsS, go_sem, Exit.thenS]
  refine wpS_cond (t := false) (by simp [Act.eval, Array.replicate]) ?_
  simp only [Bool.false_eq_true, if_false]
  refine wpS_of_wp (wp_skip ?_)
  cases c₀
  simp_all [bodyPostS, results, Tryz.results104]
theorem cell_lt {w : World} {p : Addr} {v : Value} (h : w.cell? p = some v) : p.block < w.heap.size := by
  unfold World.cell? at h
  split at h
  · rename_i hh; exact heap_ltM hh
  · cases h
theorem wp_frame {P : Program} {c : Code} {Q : Exit → Act → World → Prop} {a a' : Act} {w : World} (e : a' = a) (h : c.wp P Q a w) : c.wp P Q a' w := e ▸ h
set_option maxRecDepth 100000 in
set_option maxHeartbeats 1000000 in
theorem back_fault (b0 b1 b2 b3 b4 rb fb n c sn sc kn kc : Nat) (sA kA : Option Addr) (code bl at_ : Int) (u2 u3 u5 u7 v0 v1 v2 : Value) (seed : Int) (w : World)
    (c0 : w.cell? ⟨b0, 0, none⟩ = some (.slice sA sn sc)) (c1 : w.cell? ⟨b1, 0, none⟩ = some (.slice (some ⟨fb, 0, none⟩) n c)) (c2 : w.cell? ⟨b2, 0, none⟩ = some (.int .u64 seed)) (c3 : w.cell? ⟨b3, 0, none⟩ = some (.pointer (some ⟨rb, 0, none⟩))) (hn : 0 < n) (hn2 : n ≤ 1000000)
    (d0 : w.cell? ⟨b4, 0, none⟩ = some (iv bl)) (d1 : w.cell? ⟨b4, 1, none⟩ = some (iv at_)) (d2 : w.cell? ⟨b4, 2, none⟩ = some (.slice kA kn kc))
    (r2 : w.cell? ⟨rb, 2, none⟩ = some u2) (r3 : w.cell? ⟨rb, 3, none⟩ = some u3) (r5 : w.cell? ⟨rb, 5, none⟩ = some u5) (r7 : w.cell? ⟨rb, 7, none⟩ = some u7) (rf : ∀ j, w.frozen? ⟨rb, j, none⟩ = false)
    (f0 : w.cell? ⟨fb, (n - 1) * 3, none⟩ = some v0) (f1 : w.cell? ⟨fb, (n - 1) * 3 + 1, none⟩ = some v1) (f2 : w.cell? ⟨fb, (n - 1) * 3 + 2, none⟩ = some v2) (ff : ∀ j, w.frozen? ⟨fb, j, none⟩ = false)
    (m0 : rb ≠ b0) (m1 : rb ≠ b1) (m2 : rb ≠ b2) (m3 : rb ≠ b3) (m4 : rb ≠ b4) (k0 : fb ≠ b0) (k1 : fb ≠ b1) (k2 : fb ≠ b2) (k3 : fb ≠ b3) (k4 : fb ≠ b4) (kr : fb ≠ rb) :
    CallsD Tryz.prog 104 #[.pointer (some ⟨b0, 0, none⟩), .pointer (some ⟨b1, 0, none⟩), .pointer (some ⟨b2, 0, none⟩), .pointer (some ⟨b3, 0, none⟩), .pointer (some ⟨b4, 0, none⟩)] (.panicking (stopC code)) w fun e u' w' => e = .returned (.tuple #[]) ∧ u' = .panicking [{ v := .iface 187 (.agg #[iv code]), recovered := true }] ∧
      w' = ((((((((w.setCell ⟨rb, 2, none⟩ (.slice sA sn sc)).setCell ⟨rb, 3, none⟩ (.slice (some ⟨fb, 0, none⟩) n c)).setCell ⟨rb, 5, none⟩ (.int .u64 seed)).setCell ⟨fb, (n - 1) * 3, none⟩ (iv bl)).setCell ⟨fb, (n - 1) * 3 + 1, none⟩ (iv at_)).setCell ⟨fb, (n - 1) * 3 + 2, none⟩ (.slice kA kn kc)).setCell ⟨rb, 7, none⟩ (iv 26)).setCell ⟨rb, 7, none⟩ (iv code)).alloc (.cells #[iv code] 187) := by
  have e1 : IntKind.i64.wrap ((n : Int) - 1) = (n : Int) - 1 := IntWalk.i64_in _ (by omega)
  have e2 : ((n : Int) - 1).toNat = n - 1 := by omega
  have e3 : 0 ≤ (n : Int) - 1 := by omega
  have e4 : n - 1 < n := by omega
  have e5 : (n : Int) - 1 < (n : Int) := by omega
  have e6 : (0 : Int) < (n : Int) := by omega
  have ta0 : ∀ W, (Instr.typeAssert (.iface 187 (.agg #[iv code])) 20 187 true).run Tryz.prog W = .ok (.tuple #[.agg #[iv code], .bool true]) W := fun W => by kernel_rfl
  have x0 : b0 ≠ rb := Ne.symm m0
  have x1 : b1 ≠ rb := Ne.symm m1
  have x2 : b2 ≠ rb := Ne.symm m2
  have x3 : b3 ≠ rb := Ne.symm m3
  have x4 : b4 ≠ rb := Ne.symm m4
  have y0 : b0 ≠ fb := Ne.symm k0
  have y1 : b1 ≠ fb := Ne.symm k1
  have y2 : b2 ≠ fb := Ne.symm k2
  have y3 : b3 ≠ fb := Ne.symm k3
  have y4 : b4 ≠ fb := Ne.symm k4
  have z0 : rb ≠ fb := Ne.symm kr
  have TA := Lib.hid ta0
  clear ta0
  refine callsD_of_wpS Tryz.func104 rfl fun c₀ cs hu => ?_
  apply wpS_seq
  apply wpS_region
  unfold stopC at hu
  simp [wpOpsS, go_sem, recoverD, hu, Tryz.ntmps104, Exit.thenS]
  refine wpS_of_wp ?_
  refine Code.wp_mono (Q := fun e a' w' => e = .normal ∧ a'.defers = [] ∧ w' = ((((((((w.setCell ⟨rb, 2, none⟩ (.slice sA sn sc)).setCell ⟨rb, 3, none⟩ (.slice (some ⟨fb, 0, none⟩) n c)).setCell ⟨rb, 5, none⟩ (.int .u64 seed)).setCell ⟨fb, (n - 1) * 3, none⟩ (iv bl)).setCell ⟨fb, (n - 1) * 3 + 1, none⟩ (iv at_)).setCell ⟨fb, (n - 1) * 3 + 2, none⟩ (.slice kA kn kc)).setCell ⟨rb, 7, none⟩ (iv 26)).setCell ⟨rb, 7, none⟩ (iv code)).alloc (.cells #[iv code] 187)) (fun e a' w' hh => ?_) ?_
  · obtain ⟨rfl, h1, rfl⟩ := hh
    refine ⟨h1, _, rfl, _, ?_, rfl, rfl, rfl⟩
    simp [results, Tryz.results104]
  generalize hK : (fun (e : Exit) (a' : Act) (w' : World) => e = .normal ∧ a'.defers = [] ∧ w' = ((((((((w.setCell ⟨rb, 2, none⟩ (.slice sA sn sc)).setCell ⟨rb, 3, none⟩ (.slice (some ⟨fb, 0, none⟩) n c)).setCell ⟨rb, 5, none⟩ (.int .u64 seed)).setCell ⟨fb, (n - 1) * 3, none⟩ (iv bl)).setCell ⟨fb, (n - 1) * 3 + 1, none⟩ (iv at_)).setCell ⟨fb, (n - 1) * 3 + 2, none⟩ (.slice kA kn kc)).setCell ⟨rb, 7, none⟩ (iv 26)).setCell ⟨rb, 7, none⟩ (iv code)).alloc (.cells #[iv code] 187)) = K
  have hk : ∀ a', a'.defers = [] → K .normal a' (((((((((w.setCell ⟨rb, 2, none⟩ (.slice sA sn sc)).setCell ⟨rb, 3, none⟩ (.slice (some ⟨fb, 0, none⟩) n c)).setCell ⟨rb, 5, none⟩ (.int .u64 seed)).setCell ⟨fb, (n - 1) * 3, none⟩ (iv bl)).setCell ⟨fb, (n - 1) * 3 + 1, none⟩ (iv at_)).setCell ⟨fb, (n - 1) * 3 + 2, none⟩ (.slice kA kn kc)).setCell ⟨rb, 7, none⟩ (iv 26)).setCell ⟨rb, 7, none⟩ (iv code)).alloc (.cells #[iv code] 187)) := fun a' ha => by rw [← hK]; exact ⟨rfl, ha, rfl⟩
  have HK := Lib.hid hk
  clear hk hK hu
  refine wp_frame (a := { tmps := #[.pointer (some ⟨b0, 0, none⟩), .pointer (some ⟨b1, 0, none⟩), .pointer (some ⟨b2, 0, none⟩), .pointer (some ⟨b3, 0, none⟩), .pointer (some ⟨b4, 0, none⟩), .iface 187 (.agg #[iv code]), undef, undef, .iface 187 (.agg #[iv code]), undef, undef, undef, undef, undef, undef, undef, undef, undef, undef, undef, undef, undef, undef, undef, undef, undef, undef, undef, undef, undef, undef, undef, undef, undef, undef, undef, undef, undef, undef, undef, undef, undef, undef, undef, undef, undef, undef, undef, undef, undef, undef], defers := [] }) (by kernel_rfl) ?_
  go_wp2
  have g3 : (((((((w.setCell ⟨rb, 2, none⟩ (.slice sA sn sc)).setCell ⟨rb, 3, none⟩ (.slice (some ⟨fb, 0, none⟩) n c)).setCell ⟨rb, 5, none⟩ (.int .u64 seed)).setCell ⟨fb, (n - 1) * 3, none⟩ (iv bl)).setCell ⟨fb, (n - 1) * 3 + 1, none⟩ (iv at_)).setCell ⟨fb, (n - 1) * 3 + 2, none⟩ (.slice kA kn kc)).setCell ⟨rb, 7, none⟩ (iv 26)).cell? ⟨b3, 0, none⟩ = some (.pointer (some ⟨rb, 0, none⟩)) := by go_simp
  have g7 : (((((((w.setCell ⟨rb, 2, none⟩ (.slice sA sn sc)).setCell ⟨rb, 3, none⟩ (.slice (some ⟨fb, 0, none⟩) n c)).setCell ⟨rb, 5, none⟩ (.int .u64 seed)).setCell ⟨fb, (n - 1) * 3, none⟩ (iv bl)).setCell ⟨fb, (n - 1) * 3 + 1, none⟩ (iv at_)).setCell ⟨fb, (n - 1) * 3 + 2, none⟩ (.slice kA kn kc)).setCell ⟨rb, 7, none⟩ (iv 26)).cell? ⟨rb, 7, none⟩ = some (iv 26) := by go_simp
  have gf : (((((((w.setCell ⟨rb, 2, none⟩ (.slice sA sn sc)).setCell ⟨rb, 3, none⟩ (.slice (some ⟨fb, 0, none⟩) n c)).setCell ⟨rb, 5, none⟩ (.int .u64 seed)).setCell ⟨fb, (n - 1) * 3, none⟩ (iv bl)).setCell ⟨fb, (n - 1) * 3 + 1, none⟩ (iv at_)).setCell ⟨fb, (n - 1) * 3 + 2, none⟩ (.slice kA kn kc)).setCell ⟨rb, 7, none⟩ (iv 26)).frozen? ⟨rb, 7, none⟩ = false := by go_simp
  generalize hW6 : (((((((w.setCell ⟨rb, 2, none⟩ (.slice sA sn sc)).setCell ⟨rb, 3, none⟩ (.slice (some ⟨fb, 0, none⟩) n c)).setCell ⟨rb, 5, none⟩ (.int .u64 seed)).setCell ⟨fb, (n - 1) * 3, none⟩ (iv bl)).setCell ⟨fb, (n - 1) * 3 + 1, none⟩ (iv at_)).setCell ⟨fb, (n - 1) * 3 + 2, none⟩ (.slice kA kn kc)).setCell ⟨rb, 7, none⟩ (iv 26)) = W6 at g3 g7 gf HK ⊢
  clear hW6 c0 c1 c2 c3 d0 d1 d2 r2 r3 r5 r7 rf f0 f1 f2 ff e1 e2 e3 e4 e5 e6 m0 m1 m2 m4 k0 k1 k2 k3 k4 kr x0 x1 x2 x4 y0 y1 y2 y3 y4 z0
  have l3 := cell_lt g3
  have l7 := cell_lt g7
  simp only at l3 l7
  have ta := TA.out W6
  have g3a : ∀ o, (W6.alloc o).cell? ⟨b3, 0, none⟩ = some (.pointer (some ⟨rb, 0, none⟩)) := fun o => cell_al g3 l3 o
  have g7a : ∀ o, (W6.alloc o).cell? ⟨rb, 7, none⟩ = some (iv 26) := fun o => cell_al g7 l7 o
  have gfa : ∀ o, (W6.alloc o).frozen? ⟨rb, 7, none⟩ = false := fun o => (World.frozen?_of_block (w := W6) (Below.heap_alloc _ _ _ l7)).trans gf
  clear m3 x3
  rw [ta]
  go_wp2
  exact HK.out _ rfl
end Go.Proofs.YtgboboljgcfggaaGreatDoor
namespace Go.Proofs.YtgboboljgcfggaaGreatDoor
open Go.RowKit
structure Bx (w w' : World) (u2 u3 u4 : Value) (M2 M3 M4 : Nat) : Prop where
  gr : w.grownBy w' none
  h2 : w'.heap[M2]? = some (.cells #[u2] 47 (0, 0))
  h3 : w'.heap[M3]? = some (.cells #[u3] 48 (0, 0))
  h4 : w'.heap[M4]? = some (.cells #[u4] 42 (0, 0))
  l2 : w.heap.size ≤ M2
  l3 : w.heap.size ≤ M3
  l4 : w.heap.size ≤ M4
theorem Bx.mk3 (w : World) (o o' o'' : Obj) : w.grownBy ((((w.alloc o).alloc o').alloc o'').drew) none ∧ ((((w.alloc o).alloc o').alloc o'').drew).heap[w.heap.size]? = some o ∧ ((((w.alloc o).alloc o').alloc o'').drew).heap[w.heap.size + 1]? = some o' ∧ ((((w.alloc o).alloc o').alloc o'').drew).heap[w.heap.size + 1 + 1]? = some o'' := by
  refine ⟨((World.grownBy_alloc w o none).trans ((World.grownBy_alloc _ o' none).trans (World.grownBy_alloc _ o'' none))).trans (grown_drewN _ 1 none), ?_, ?_, ?_⟩
  · show ((((w.alloc o).alloc o').alloc o'')).heap[w.heap.size]? = some o
    rw [Below.heap_alloc _ _ _ (by simp; omega), Below.heap_alloc _ _ _ (by simp)]
    exact al_newM w o
  · show ((((w.alloc o).alloc o').alloc o'')).heap[w.heap.size + 1]? = some o'
    rw [Below.heap_alloc _ _ _ (by simp)]
    have := al_newM (w.alloc o) o'
    simpa using this
  · show ((((w.alloc o).alloc o').alloc o'')).heap[w.heap.size + 1 + 1]? = some o''
    have := al_newM ((w.alloc o).alloc o') o''
    simpa using this
set_option maxRecDepth 100000 in
set_option maxHeartbeats 4000000 in
theorem r38_any (rb B3 : Nat) (st0 st1 : Int) (sA fA : Option Addr) (sn sc fn fc : Nat) (seed : Int) (W1 : World) (s0 : W1.cell? ⟨B3, 0, none⟩ = some (.pointer (some ⟨rb, 0, none⟩))) (s2 : W1.cell? ⟨rb, 2, none⟩ = some (.slice sA sn sc)) (s3 : W1.cell? ⟨rb, 3, none⟩ = some (.slice fA fn fc)) (s5 : W1.cell? ⟨rb, 5, none⟩ = some (.int .u64 seed)) (Q : Exit → Act → World → Prop) {xc yc r zc : Code} (hb : Tryz.f80.body = some (.seq xc (.seq yc (.seq r zc))))
    (HQ : ∀ M2 M3 M4 w', Bx W1 w' (.slice sA sn sc) (.slice fA fn fc) (.int .u64 seed) M2 M3 M4 → Q .normal { tmps := #[.pointer (some ⟨rb, 0, none⟩), .pointer (some ⟨B3, 0, none⟩), .pointer (some ⟨M2, 0, none⟩), .pointer (some ⟨M3, 0, none⟩), .pointer (some ⟨M4, 0, none⟩), undef, undef, undef, undef, .pointer (some ⟨rb, 0, none⟩), .pointer (some ⟨rb, 0, none⟩), .pointer (some ⟨rb, 0, none⟩), .pointer (some ⟨rb, 4, none⟩), iv st0, iv st1, .pointer (some ⟨rb, 0, none⟩), .pointer (some ⟨rb, 0, none⟩), .pointer (some ⟨rb, 4, none⟩), .pointer (some ⟨rb, 0, none⟩), .pointer (some ⟨rb, 0, none⟩), .pointer (some ⟨rb, 0, none⟩), .pointer (some ⟨rb, 2, none⟩), .slice sA sn sc, .pointer (some ⟨rb, 0, none⟩), .pointer (some ⟨rb, 0, none⟩), .pointer (some ⟨rb, 0, none⟩), .pointer (some ⟨rb, 3, none⟩), .slice fA fn fc, .pointer (some ⟨rb, 0, none⟩), .pointer (some ⟨rb, 0, none⟩), .pointer (some ⟨rb, 0, none⟩), .pointer (some ⟨rb, 5, none⟩), .int .u64 seed, undef, undef, undef, undef, undef, undef, undef, undef, undef, undef, undef, undef, undef, undef, undef, undef, undef, undef, undef, undef, undef, undef, undef, undef, undef, undef, undef, undef, undef, undef, undef, undef, undef, undef, undef, undef, undef, undef, undef, undef, undef, undef, undef, undef, undef, undef, undef, undef, undef, undef, undef, undef, undef, undef, undef, undef, undef, undef, undef, undef, undef], defers := [] } w') :
    r.wp Tryz.prog Q { tmps := #[.pointer (some ⟨rb, 0, none⟩), .pointer (some ⟨B3, 0, none⟩), undef, undef, undef, undef, undef, undef, undef, .pointer (some ⟨rb, 0, none⟩), .pointer (some ⟨rb, 0, none⟩), .pointer (some ⟨rb, 0, none⟩), .pointer (some ⟨rb, 4, none⟩), iv st0, iv st1, .pointer (some ⟨rb, 0, none⟩), .pointer (some ⟨rb, 0, none⟩), .pointer (some ⟨rb, 4, none⟩), undef, undef, undef, undef, undef, undef, undef, undef, undef, undef, undef, undef, undef, undef, undef, undef, undef, undef, undef, undef, undef, undef, undef, undef, undef, undef, undef, undef, undef, undef, undef, undef, undef, undef, undef, undef, undef, undef, undef, undef, undef, undef, undef, undef, undef, undef, undef, undef, undef, undef, undef, undef, undef, undef, undef, undef, undef, undef, undef, undef, undef, undef, undef, undef, undef, undef, undef, undef, undef, undef, undef, undef, undef, undef, undef, undef], defers := [] } W1 := by
  have k0 := cell_lt s2
  have k1 := cell_lt s0
  simp only at k0 k1
  have S1 : ∀ o, (W1.alloc o).drew.cell? ⟨B3, 0, none⟩ = some (.pointer (some ⟨rb, 0, none⟩)) ∧ (W1.alloc o).drew.cell? ⟨rb, 2, none⟩ = some (.slice sA sn sc) ∧ (W1.alloc o).drew.cell? ⟨rb, 3, none⟩ = some (.slice fA fn fc) ∧ (W1.alloc o).drew.cell? ⟨rb, 5, none⟩ = some (.int .u64 seed) := fun o => ⟨cell_al s0 k1 o, cell_al s2 k0 o, cell_al s3 k0 o, cell_al s5 k0 o⟩
  have S2 : ∀ o o', ((W1.alloc o).alloc o').drew.cell? ⟨B3, 0, none⟩ = some (.pointer (some ⟨rb, 0, none⟩)) ∧ ((W1.alloc o).alloc o').drew.cell? ⟨rb, 2, none⟩ = some (.slice sA sn sc) ∧ ((W1.alloc o).alloc o').drew.cell? ⟨rb, 3, none⟩ = some (.slice fA fn fc) ∧ ((W1.alloc o).alloc o').drew.cell? ⟨rb, 5, none⟩ = some (.int .u64 seed) := fun o o' => ⟨cell_al (cell_al s0 k1 o) (by simp; omega) o', cell_al (cell_al s2 k0 o) (by simp; omega) o', cell_al (cell_al s3 k0 o) (by simp; omega) o', cell_al (cell_al s5 k0 o) (by simp; omega) o'⟩
  have S3 : ∀ o o' o'', (((W1.alloc o).alloc o').alloc o'').drew.cell? ⟨B3, 0, none⟩ = some (.pointer (some ⟨rb, 0, none⟩)) ∧ (((W1.alloc o).alloc o').alloc o'').drew.cell? ⟨rb, 2, none⟩ = some (.slice sA sn sc) ∧ (((W1.alloc o).alloc o').alloc o'').drew.cell? ⟨rb, 3, none⟩ = some (.slice fA fn fc) ∧ (((W1.alloc o).alloc o').alloc o'').drew.cell? ⟨rb, 5, none⟩ = some (.int .u64 seed) := fun o o' o'' => ⟨cell_al3 s0 k1 o o' o'', cell_al3 s2 k0 o o' o'', cell_al3 s3 k0 o o' o'', cell_al3 s5 k0 o o' o''⟩
  have S1 := Lib.hid S1
  have S2 := Lib.hid S2
  have S3 := Lib.hid S3
  have HQ := Lib.hid HQ
  have MK := Lib.hid (Bx.mk3 W1)
  simp only [Tryz.f80, Option.some.injEq, Code.seq.injEq] at hb
  obtain ⟨-, -, rfl, -⟩ := hb
  dsimp only at HQ ⊢
  go_region_held3 (fun W' => W'.cell? ⟨B3, 0, none⟩ = some (.pointer (some ⟨rb, 0, none⟩)) ∧ W'.cell? ⟨rb, 2, none⟩ = some (.slice sA sn sc) ∧ W'.cell? ⟨rb, 3, none⟩ = some (.slice fA fn fc) ∧ W'.cell? ⟨rb, 5, none⟩ = some (.int .u64 seed)) (first | exact S3.out _ _ _ | exact S2.out _ _ | exact S1.out _ | go_keep | exact ⟨s0, s2, s3, s5⟩) (fail)
  all_goals refine HQ.out _ _ _ _ ⟨(MK.out _ _ _).1, ?_, ?_, ?_, ?_, ?_, ?_⟩
  all_goals first | exact (MK.out _ _ _).2.1 | exact (MK.out _ _ _).2.2.1 | exact (MK.out _ _ _).2.2.2 | omega
end Go.Proofs.YtgboboljgcfggaaGreatDoor
namespace Go.Proofs.YtgboboljgcfggaaGreatDoor
open Go.RowKit
structure Bxs (b : Bl) (w : World) (sv fv : Value) (seed : Int) (f : Fr) (b0 b1 b2 b3 b4 : Nat) : Prop where
  k0 : w.heap[b0]? = some (.cells #[sv] 47 (0, 0))
  k1 : w.heap[b1]? = some (.cells #[fv] 48 (0, 0))
  k2 : w.heap[b2]? = some (.cells #[.int .u64 seed] 42 (0, 0))
  k3 : w.heap[b3]? = some (.cells #[.pointer (some ⟨b.rb, 0, none⟩)] 160 (0, 0))
  k4 : w.heap[b4]? = some (.cells #[iv f.block, iv f.at_, .slice f.A f.L.length f.c] 158 (0, 0))
theorem Bxs.keep {b : Bl} {w w' : World} {sv fv : Value} {seed : Int} {f : Fr} {b0 b1 b2 b3 b4 : Nat} (h : Bxs b w sv fv seed f b0 b1 b2 b3 b4) (hk : ∀ k, k = b0 ∨ k = b1 ∨ k = b2 ∨ k = b3 ∨ k = b4 → w'.heap[k]? = w.heap[k]?) : Bxs b w' sv fv seed f b0 b1 b2 b3 b4 :=
  ⟨(hk _ (by simp)).trans h.k0, (hk _ (by simp)).trans h.k1, (hk _ (by simp)).trans h.k2, (hk _ (by simp)).trans h.k3, (hk _ (by simp)).trans h.k4⟩
theorem door_fault {b : Bl} {p : Prg} {g1 : Gh} {G : List Fr} {f : Fr} {at1 code st seed seed' err : Int} {sv' fv' : Value} {b0 b1 b2 b3 b4 : Nat} {wd : World} (hm : Mem b wd g1) (hF : g1.F = G ++ [{ f with at_ := at1 }]) (hn2 : g1.F.length ≤ 1000000) (hR : RB b p wd sv' fv' st seed' false err) (hb : Bxs b wd g1.sv g1.fv seed f b0 b1 b2 b3 b4) (h4 : ∀ fb c, g1.fv = .slice (some ⟨fb, 0, none⟩) g1.F.length c → b4 ≠ fb) :
    CallsD Tryz.prog 104 #[.pointer (some ⟨b0, 0, none⟩), .pointer (some ⟨b1, 0, none⟩), .pointer (some ⟨b2, 0, none⟩), .pointer (some ⟨b3, 0, none⟩), .pointer (some ⟨b4, 0, none⟩)] (.panicking (stopC code)) wd fun e u' w' => e = .returned (.tuple #[]) ∧ u' = .panicking [{ v := .iface 187 (.agg #[iv code]), recovered := true }] ∧
      Mem b w' { g1 with F := G ++ [f] } ∧ Ch wd g1 w' { g1 with F := G ++ [f] } ∧ RB b p w' g1.sv g1.fv st seed false code := by
  obtain ⟨fb, c, ft, ht⟩ := hm.isTop hF
  obtain ⟨cur, hcur⟩ := ht.hcur
  have hv := ht.hv
  have hne4 := h4 fb c hv
  have hl : g1.F.length = G.length + 1 := by rw [hF]; simp
  obtain ⟨sA, sn, sc, hsv⟩ : ∃ sA sn sc, g1.sv = .slice sA sn sc := by
    rcases hm.sform with ⟨h, _⟩ | ⟨gg, c, e, _⟩
    · exact ⟨_, _, _, h⟩
    · exact ⟨_, _, _, e⟩
  have hRb : wd.heap[b.rb]? = _ := hR
  have ne : ∀ {i j : Nat} {c c' : Array Value} {t t' : TypeId}, wd.heap[i]? = some (.cells c t (0, 0)) → wd.heap[j]? = some (.cells c' t' (0, 0)) → t ≠ t' → i ≠ j := fun {i j c c' t t'} h1 h2 h3 e => by subst e; rw [h1] at h2; cases h2; exact h3 rfl
  have q0 := ht.hc 0 (by omega)
  have q1 := ht.hc 1 (by omega)
  have q2 := ht.hc 2 (by omega)
  rw [ht.hft] at q0 q1 q2
  have hBF := back_fault b0 b1 b2 b3 b4 b.rb fb g1.F.length c sn sc f.L.length f.c sA f.A code f.block f.at_ sv' fv' (.int .u64 seed') (iv err) _ _ _ seed wd (by rw [Lib.cell_of_heap hb.k0, hsv]; rfl) (by rw [Lib.cell_of_heap hb.k1, hv]; rfl) (by rw [Lib.cell_of_heap hb.k2]; rfl) (by rw [Lib.cell_of_heap hb.k3]; rfl) (by omega) hn2
    (by rw [Lib.cell_of_heap hb.k4]; rfl) (by rw [Lib.cell_of_heap hb.k4]; rfl) (by rw [Lib.cell_of_heap hb.k4]; rfl) (rb_cell hR).1 (rb_cell hR).2.1 (rb_cell hR).2.2.2.1 (rb_cell hR).2.2.2.2.2.1 hR.f (q0.trans rfl) (q1.trans rfl) (q2.trans rfl) ht.fz
    (ne hRb hb.k0 (by decide)) (ne hRb hb.k1 (by decide)) (ne hRb hb.k2 (by decide)) (ne hRb hb.k3 (by decide)) (ne hRb hb.k4 (by decide)) (ne hcur hb.k0 (by decide)) (ne hcur hb.k1 (by decide)) (ne hcur hb.k2 (by decide)) (ne hcur hb.k3 (by decide)) (Ne.symm hne4) (ne hcur hRb (by decide))
  refine hBF.mono ?_
  rintro e u' w' ⟨rfl, rfl, rfl⟩
  refine ⟨rfl, rfl, ?_⟩
  have nrf : b.rb ≠ fb := Ne.symm (ne hcur hRb (by decide))
  have g3 : wd.grownBy (((wd.setCell ⟨b.rb, 2, none⟩ (.slice sA sn sc)).setCell ⟨b.rb, 3, none⟩ (.slice (some ⟨fb, 0, none⟩) g1.F.length c)).setCell ⟨b.rb, 5, none⟩ (.int .u64 seed)) (some b.rb) := ((grown_setR _ _ _).trans (grown_setR _ _ _)).trans (grown_setR _ _ _)
  have R3 : RB b p (((wd.setCell ⟨b.rb, 2, none⟩ (.slice sA sn sc)).setCell ⟨b.rb, 3, none⟩ (.slice (some ⟨fb, 0, none⟩) g1.F.length c)).setCell ⟨b.rb, 5, none⟩ (.int .u64 seed)) (.slice sA sn sc) (.slice (some ⟨fb, 0, none⟩) g1.F.length c) st seed false err := ((hR.s_sv _).s_fv _).s_seed _
  have m3 := hm.only g3 hRb
  have c3 := Ch.only hm g3
  generalize ((wd.setCell ⟨b.rb, 2, none⟩ (.slice sA sn sc)).setCell ⟨b.rb, 3, none⟩ (.slice (some ⟨fb, 0, none⟩) g1.F.length c)).setCell ⟨b.rb, 5, none⟩ (.int .u64 seed) = W3 at *
  have hok := m3.top hF
  obtain ⟨m4, c4⟩ := m3.setTop (f' := { f with at_ := at1 }) (i := 0) (u := iv f.block) hF hv (by simp [Fr.cs]) hok
  obtain ⟨m5, c5⟩ := m4.setTop (G := G) (f := { f with at_ := at1 }) (f' := f) (i := 1) (u := iv f.at_) rfl (by simp only [List.length_append, List.length_singleton]; rw [← hl]; exact hv) (by simp [Fr.cs]) (by have := (m4.top (G := G) (f := { f with at_ := at1 }) rfl).at_ f.at_; exact this)
  obtain ⟨m6, c6⟩ := m5.setTop (G := G) (f := f) (f' := f) (i := 2) (u := .slice f.A f.L.length f.c) rfl (by simp only [List.length_append, List.length_singleton]; rw [← hl]; exact hv) (by simp [Fr.cs]) (m5.top rfl)
  simp only [List.length_append, List.length_singleton, Nat.add_zero, ← hl] at m4 m5 m6 c4 c5 c6
  have R6 : RB b p (((W3.setCell ⟨fb, (g1.F.length - 1) * 3, none⟩ (iv f.block)).setCell ⟨fb, (g1.F.length - 1) * 3 + 1, none⟩ (iv f.at_)).setCell ⟨fb, (g1.F.length - 1) * 3 + 2, none⟩ (.slice f.A f.L.length f.c)) (.slice sA sn sc) (.slice (some ⟨fb, 0, none⟩) g1.F.length c) st seed false err :=
    ((R3.keep (Below.heap_setCell _ _ _ _ nrf)).keep (Below.heap_setCell _ _ _ _ nrf)).keep (Below.heap_setCell _ _ _ _ nrf)
  have c7 := (c3.trans c4).trans (c5.trans c6)
  generalize ((W3.setCell ⟨fb, (g1.F.length - 1) * 3, none⟩ (iv f.block)).setCell ⟨fb, (g1.F.length - 1) * 3 + 1, none⟩ (iv f.at_)).setCell ⟨fb, (g1.F.length - 1) * 3 + 2, none⟩ (.slice f.A f.L.length f.c) = W6 at *
  have g7 : W6.grownBy ((W6.setCell ⟨b.rb, 7, none⟩ (iv 26)).setCell ⟨b.rb, 7, none⟩ (iv code)) (some b.rb) := (grown_setR _ _ _).trans (grown_setR _ _ _)
  have R7 := ((R6.s_err 26).s_err code)
  have m7 := m6.only g7 R6
  have c8 := Ch.only m6 g7
  refine ⟨m7.alloc _, (c7.trans c8).trans (Ch.grown (grown_alloc _ _ _)), ?_⟩
  rw [hsv, hv]
  exact R7.alloc _
end Go.Proofs.YtgboboljgcfggaaGreatDoor
namespace Go.Proofs.YtgboboljgcfggaaGreatDoor
open Go.RowKit
section
variable {o : Oper} {a : Act} {w : World}
theorem op_load43 {x : Tmp} {q : Addr} {cap : Int} {pr : Bool} {A : Option Addr} {n c : Nat} (hd : o.dst.isSome = true) (ho : o.op = .load 69 (.tmp x)) (h : a.eval (.tmp x) = .pointer (some q)) (h0 : w.cell? q = some (iv cap)) (h1 : w.cell? ⟨q.block, q.off + 1, none⟩ = some (.bool pr)) (h2 : w.cell? ⟨q.block, q.off + 2, none⟩ = some (.slice A n c)) :
    (execOp a.eval o).run Tryz.prog w = .ok (nx o (.agg #[iv cap, .bool pr, .slice A n c])) w := by
  rw [nx_some hd]
  clear hd
  unfold Act.eval at h
  obtain ⟨d, op, t, p, af, g⟩ := o
  simp only at ho
  subst ho
  go_simp
theorem op_load45 {x : Tmp} {q : Addr} {y : Ins} (hd : o.dst.isSome = true) (ho : o.op = .load 71 (.tmp x)) (h : a.eval (.tmp x) = .pointer (some q)) (h0 : w.cell? q = some (iv y.op)) (h1 : w.cell? ⟨q.block, q.off + 1, none⟩ = some (iv y.a)) (h2 : w.cell? ⟨q.block, q.off + 2, none⟩ = some (iv y.b)) (h3 : w.cell? ⟨q.block, q.off + 3, none⟩ = some (tv y.name)) :
    (execOp a.eval o).run Tryz.prog w = .ok (nx o y.val) w := by
  rw [nx_some hd]
  unfold Ins.val
  clear hd
  unfold Act.eval at h
  obtain ⟨d, op, t, p, af, g⟩ := o
  simp only at ho
  subst ho
  go_simp
theorem op_alloc43 {m : Nat} (hs : w.heap.size = m) (hd : o.dst.isSome = true) (ho : o.op = .alloc 69) : (execOp a.eval o).run Tryz.prog w = .ok (nx o (.pointer (some ⟨m, 0, none⟩))) (w.alloc (.cells #[iv 0, .bool false, nilS] 69)) := by
  subst hs
  rw [nx_some hd]
  obtain ⟨d, op, t, p, af, g⟩ := o
  simp only at ho
  subst ho
  go_simp
theorem op_alloc45 {m : Nat} (hs : w.heap.size = m) (hd : o.dst.isSome = true) (ho : o.op = .alloc 71) : (execOp a.eval o).run Tryz.prog w = .ok (nx o (.pointer (some ⟨m, 0, none⟩))) (w.alloc (.cells #[iv 0, iv 0, iv 0, eSm] 71)) := by
  subst hs
  rw [nx_some hd]
  obtain ⟨d, op, t, p, af, g⟩ := o
  simp only at ho
  subst ho
  go_simp
theorem op_store43 {x y : Tmp} {m : Nat} {cap : Int} {pr : Bool} {A : Option Addr} {n c : Nat} (hs : w.heap.size = m) (hd : o.dst.isSome = false) (ho : o.op = .store 69 (.tmp x) (.tmp y)) (h : a.eval (.tmp x) = .pointer (some ⟨m, 0, none⟩)) (h' : a.eval (.tmp y) = .agg #[iv cap, .bool pr, .slice A n c]) :
    (execOp a.eval o).run Tryz.prog (w.alloc (.cells #[iv 0, .bool false, nilS] 69)) = .ok (nx o undef) (w.alloc (.cells #[iv cap, .bool pr, .slice A n c] 69)) := by
  subst hs
  rw [nx_none hd]
  clear hd
  unfold Act.eval at h h'
  obtain ⟨d, op, t, p, af, g⟩ := o
  simp only at ho
  subst ho
  go_simp
theorem op_store45 {x y : Tmp} {m : Nat} {z : Ins} (hs : w.heap.size = m) (hd : o.dst.isSome = false) (ho : o.op = .store 71 (.tmp x) (.tmp y)) (h : a.eval (.tmp x) = .pointer (some ⟨m, 0, none⟩)) (h' : a.eval (.tmp y) = z.val) :
    (execOp a.eval o).run Tryz.prog (w.alloc (.cells #[iv 0, iv 0, iv 0, eSm] 71)) = .ok (nx o undef) (w.alloc (.cells #[iv z.op, iv z.a, iv z.b, tv z.name] 71)) := by
  subst hs
  rw [nx_none hd]
  unfold Ins.val at h'
  clear hd
  unfold Act.eval at h h'
  obtain ⟨d, op, t, p, af, g⟩ := o
  simp only at ho
  subst ho
  go_simp
theorem op_geq {x y : Tmp} {u v : Int} {r : Bool} (hr : decide (v ≤ u) = r) (hd : o.dst.isSome = true) (ho : o.op = .binOp .geq 3 (.tmp x) (.tmp y) 3) (h : a.eval (.tmp x) = iv u) (h' : a.eval (.tmp y) = iv v) : (execOp a.eval o).run Tryz.prog w = .ok (nx o (.bool r)) w := by
  subst hr
  rw [nx_some hd]
  clear hd
  unfold Act.eval at h h'
  obtain ⟨d, op, t, p, af, g⟩ := o
  simp only at ho
  subst ho
  go_simp
theorem op_lookup84 {x y : Tmp} {r : Nat} {k : Int} {v : Value} (hd : o.dst.isSome = true) (ho : o.op = .lookup 162 (.tmp x) (.tmp y) false) (h : a.eval (.tmp x) = .map (some r)) (h' : a.eval (.tmp y) = iv k) (hl : (Instr.lookup 162 (.map (some r)) (iv k) false).run Tryz.prog w = .ok v w) : (execOp a.eval o).run Tryz.prog w = .ok (nx o v) w := by
  rw [nx_some hd]
  clear hd
  unfold Act.eval at h h'
  obtain ⟨d, op, t, ps, af, gu⟩ := o
  simp only at ho
  subst ho
  go_simp
theorem op_invoke {x y : Tmp} {f : FuncId} {fs cs : Array Value} {v : Value} (ho : o.op = .call { callee := .value (.tmp x), args := #[.tmp y], argTypes := #[71] }) (h : a.eval (.tmp x) = .func (.func f) fs cs) (h' : a.eval (.tmp y) = v) (hf : ∀ args, (callFunc f args).run Tryz.prog w = .ok (.enter f args) w) : (execOp a.eval o).run Tryz.prog w = .ok (.enter f (fs ++ #[v] ++ cs)) w := by
  unfold Act.eval at h h'
  obtain ⟨d, op, t, ps, af, gu⟩ := o
  simp only at ho
  subst ho
  go_simp
theorem wl_enter {P : Program} {ops : Array Oper} {rest : List Oper} {Q : Exit → Act → World → Prop} {f : FuncId} {args : Array Value} {R : Ending → World → Prop} (hgd : o.guard = none) (hr : (execOp a.eval o).run P w = .ok (.enter f args) w) (hc : Calls P f args w R)
    (h : ∀ e w', R e w' → match e with | .returned v => wpList P ops Q rest (a.put o.dst v) w' | .panicked c => Q (.panic c) a w' | .outgrown => LetsOut Q) : wpList P ops Q (o :: rest) a w := by
  refine wpList_plain hgd fun K hK => ?_
  unfold Oper.wp
  rw [hr, Oper.upon_enter]
  refine hc.mono ?_
  intro e w' hR
  have := h e w' hR
  cases e with
  | returned v => exact hK _ _ this
  | panicked c => exact this
  | outgrown => exact this
end
theorem eff_lookup {b : Bl} {w : World} (h : w.heap[b.eb]? = some (.map (effs b.tb b.rb) 16)) (op : Int) (hop : fK op = true) : (Instr.lookup 162 (.map (some b.eb)) (iv op) false).run Tryz.prog w = .ok (effV b op) w := by
  have hm : Tryz.prog.underlying 162 = some (.map 3 192) := by kernel_rfl
  have hg : (getObj b.eb).run Tryz.prog w = .ok (.map (effs b.tb b.rb) 16) w := by simp [getObj, Sem.run, h]
  have hk : (Instr.checkKey (effs b.tb b.rb).isEmpty 10000 3 (iv op)).run Tryz.prog w = .ok () w := by kernel_rfl
  have hf : ∀ tb rb, ∃ j, (Instr.findKey 3 (iv op) (effs tb rb).toList).run Tryz.prog w = .ok (some (j, match effV { b with tb := tb, rb := rb } op with | v => v)) w := fun tb rb => by
    rcases op_split op with rfl | rfl | rfl | rfl | rfl | rfl | rfl | rfl | rfl | rfl | rfl | rfl | rfl | rfl | rfl | rfl | ⟨h1, h2, h3, h4, h5, h6, h7, h8, h9, h10, h11, h12, h13, h14, h15, h16⟩
    · exact ⟨0, by kernel_rfl⟩
    · exact ⟨1, by kernel_rfl⟩
    · exact ⟨2, by kernel_rfl⟩
    · exact ⟨3, by kernel_rfl⟩
    · exact ⟨4, by kernel_rfl⟩
    · exact ⟨5, by kernel_rfl⟩
    · exact ⟨6, by kernel_rfl⟩
    · exact ⟨7, by kernel_rfl⟩
    · exact ⟨8, by kernel_rfl⟩
    · exact ⟨9, by kernel_rfl⟩
    · exact ⟨10, by kernel_rfl⟩
    · exact ⟨11, by kernel_rfl⟩
    · exact ⟨12, by kernel_rfl⟩
    · exact ⟨13, by kernel_rfl⟩
    · exact ⟨14, by kernel_rfl⟩
    · exact ⟨15, by kernel_rfl⟩
    · simp [fK, fA, *] at hop
  obtain ⟨j, hj⟩ := hf b.tb b.rb
  unfold Instr.lookup
  simp only [Sem.run_bind, run_underlying hm, Result.andThen_ok, hg, Sem.run_pure, hk, hj]
  rfl
theorem eff_callFunc (op : Int) (hop : fK op = true) (args : Array Value) (w : World) : (callFunc (effF op) args).run Tryz.prog w = .ok (.enter (effF op) args) w := by
  rcases op_split op with rfl | rfl | rfl | rfl | rfl | rfl | rfl | rfl | rfl | rfl | rfl | rfl | rfl | rfl | rfl | rfl | ⟨h1, h2, h3, h4, h5, h6, h7, h8, h9, h10, h11, h12, h13, h14, h15, h16⟩
  rotate_right
  · simp [fK, fA, *] at hop
  all_goals kernel_rfl
end Go.Proofs.YtgboboljgcfggaaGreatDoor
namespace Go.Proofs.YtgboboljgcfggaaGreatDoor
open Go.RowKit
def StepP (b : Bl) (p : Prg) (w : World) (g : Gh) (steps seed : Int) (R : Except Int MS) (e : Ending) (w' : World) : Prop :=
  e = .returned (.tuple #[]) ∧ ∃ g', Mem b w' g' ∧ Ch w g w' g' ∧ match R with
    | .error c => RB b p w' g'.sv g'.fv (steps + 1) seed false c ∧ ers g'.S = ers g.S ∧ g'.F.map Fr.er = g.F.map Fr.er
    | .ok s => RB b p w' g'.sv g'.fv (steps + 1) s.seed s.done 0 ∧ ers g'.S = s.S ∧ g'.F.map Fr.er = s.F
structure Pk (b : Bl) (p : Prg) (w : World) (g : Gh) (f : Fr) (steps seed : Int) (fb c ft M2 M3 M4 B3 : Nat) (w2 : World) : Prop where
  m : Mem b w2 g
  R : RB b p w2 g.sv g.fv (steps + 1) seed false 0
  ch : Ch w g w2 g
  t : Top b w2 g f fb c ft
  k0 : w2.heap[M2]? = some (.cells #[g.sv] 47 (0, 0))
  k1 : w2.heap[M3]? = some (.cells #[g.fv] 48 (0, 0))
  k2 : w2.heap[M4]? = some (.cells #[.int .u64 seed] 42 (0, 0))
  k3 : w2.heap[B3]? = some (.cells #[.pointer (some ⟨b.rb, 0, none⟩)] 160 (0, 0))
  n0 : g.tag M2 = .no
  n1 : g.tag M3 = .no
  n2 : g.tag M4 = .no
  n3 : g.tag B3 = .no
theorem Pk.mk' {b : Bl} {p : Prg} {w w2 : World} {g : Gh} {f : Fr} {steps seed : Int} {fb c ft M2 M3 M4 : Nat} {sv fv : Value} (hm : Mem b w g) (hR : RB b p w g.sv g.fv steps seed false 0) (ht : Top b w g f fb c ft) (e1 : g.sv = sv) (e2 : g.fv = fv)
    (hB : Bx ((w.setCell ⟨b.rb, 4, none⟩ (.int .i64 (steps + 1))).alloc (.cells #[.pointer (some ⟨b.rb, 0, none⟩)] 160)) w2 sv fv (.int .u64 seed) M2 M3 M4) : Pk b p w g f steps seed fb c ft M2 M3 M4 w.heap.size w2 := by
  subst e1
  subst e2
  obtain ⟨cur, hcur⟩ := ht.hcur
  have hne := fb_ne hR hcur
  have g1 : w.grownBy ((w.setCell ⟨b.rb, 4, none⟩ (.int .i64 (steps + 1))).alloc (.cells #[.pointer (some ⟨b.rb, 0, none⟩)] 160)) (some b.rb) := (grown_setR _ _ _).trans (grown_alloc _ _ _)
  have g2 := g1.trans (grown_weak hB.gr (some b.rb))
  have hs : ((w.setCell ⟨b.rb, 4, none⟩ (.int .i64 (steps + 1))).alloc (.cells #[.pointer (some ⟨b.rb, 0, none⟩)] 160)).heap.size = w.heap.size + 1 := by simp
  have R1 : RB b p ((w.setCell ⟨b.rb, 4, none⟩ (.int .i64 (steps + 1))).alloc (.cells #[.pointer (some ⟨b.rb, 0, none⟩)] 160)) g.sv g.fv (steps + 1) seed false 0 := (hR.s_steps _).alloc _
  have l2 := hB.l2
  have l3 := hB.l3
  have l4 := hB.l4
  have hnew := al_newM (w.setCell ⟨b.rb, 4, none⟩ (.int .i64 (steps + 1))) (.cells #[.pointer (some ⟨b.rb, 0, none⟩)] 160)
  rw [show (w.setCell ⟨b.rb, 4, none⟩ (.int .i64 (steps + 1))).heap.size = w.heap.size by simp] at hnew
  exact ⟨hm.only g2 hR, R1.keep (hB.gr.block _ R1.lt (by simp)), Ch.only hm g2, ht.at (g2.block _ ht.hlt (by simpa using Ne.symm hne)) rfl rfl rfl, hB.h2, hB.h3, hB.h4, (hB.gr.block _ (by omega) (by simp)).trans hnew, hm.new _ (by omega), hm.new _ (by omega), hm.new _ (by omega), hm.new _ (Nat.le_refl _)⟩
theorem Pk.mem {b : Bl} {p : Prg} {w w2 : World} {g : Gh} {f : Fr} {steps seed : Int} {fb c ft M2 M3 M4 B3 : Nat} (h : Pk b p w g f steps seed fb c ft M2 M3 M4 B3 w2) {W : World} (hg : w2.grownBy W none) : Pk b p w g f steps seed fb c ft M2 M3 M4 B3 W :=
  ⟨h.m.only (grown_weak hg _) h.R, h.R.keep (hg.block _ h.R.lt (by simp)), h.ch.trans (Ch.grown hg), h.t.at (hg.block _ h.t.hlt (by simp)) rfl rfl rfl, (hg.block _ (heap_ltM h.k0) (by simp)).trans h.k0, (hg.block _ (heap_ltM h.k1) (by simp)).trans h.k1, (hg.block _ (heap_ltM h.k2) (by simp)).trans h.k2, (hg.block _ (heap_ltM h.k3) (by simp)).trans h.k3, h.n0, h.n1, h.n2, h.n3⟩
theorem Pk.f {b : Bl} {p : Prg} {w w2 : World} {g : Gh} {f : Fr} {steps seed : Int} {fb c ft M2 M3 M4 B3 : Nat} (h : Pk b p w g f steps seed fb c ft M2 M3 M4 B3 w2) : w2.cell? ⟨fb, ft, none⟩ = some (iv f.block) ∧ w2.cell? ⟨fb, ft + 1, none⟩ = some (iv f.at_) ∧ w2.cell? ⟨fb, ft + 2, none⟩ = some (.slice f.A f.L.length f.c) :=
  ⟨(h.t.hc 0 (by omega)).trans rfl, (h.t.hc 1 (by omega)).trans rfl, (h.t.hc 2 (by omega)).trans rfl⟩
theorem Pk.c3 {b : Bl} {p : Prg} {w w2 : World} {g : Gh} {f : Fr} {steps seed : Int} {fb c ft M2 M3 M4 B3 : Nat} (h : Pk b p w g f steps seed fb c ft M2 M3 M4 B3 w2) : w2.cell? ⟨B3, 0, none⟩ = some (.pointer (some ⟨b.rb, 0, none⟩)) := by rw [Lib.cell_of_heap h.k3]; rfl
theorem RD.blkAt {w : World} {A : Option Addr} {L : List Blk} (h : RD 3 Blk.cs w A L) {k : Nat} {x : Blk} (hk : L[k]? = some x) {a : Addr} (ha : A = some a) : w.cell? (a.add (k * 3)) = some (iv x.cap) ∧ w.cell? ⟨(a.add (k * 3)).block, (a.add (k * 3)).off + 1, none⟩ = some (.bool x.param) ∧ w.cell? ⟨(a.add (k * 3)).block, (a.add (k * 3)).off + 2, none⟩ = some (.slice x.A x.ins.length x.c) := by
  obtain ⟨hl, rfl⟩ := List.getElem?_eq_some_iff.1 hk
  obtain ⟨a', a1, h1, h2, _, h3, h4, h5⟩ := h.blk hl
  rw [ha] at h1
  cases h1
  subst h2
  exact ⟨h3, h4, h5⟩
theorem RD.insAt {w : World} {A : Option Addr} {L : List Ins} (h : RD 4 Ins.cs w A L) {k : Nat} {x : Ins} (hk : L[k]? = some x) {a : Addr} (ha : A = some a) : w.cell? (a.add (k * 4)) = some (iv x.op) ∧ w.cell? ⟨(a.add (k * 4)).block, (a.add (k * 4)).off + 1, none⟩ = some (iv x.a) ∧ w.cell? ⟨(a.add (k * 4)).block, (a.add (k * 4)).off + 2, none⟩ = some (iv x.b) ∧ w.cell? ⟨(a.add (k * 4)).block, (a.add (k * 4)).off + 3, none⟩ = some (tv x.name) := by
  obtain ⟨hl, rfl⟩ := List.getElem?_eq_some_iff.1 hk
  obtain ⟨a', a1, h1, h2, _, h3, h4, h5, h6⟩ := h.ins hl
  rw [ha] at h1
  cases h1
  subst h2
  exact ⟨h3, h4, h5, h6⟩
theorem RD.some {α : Type} {n : Nat} {cs : α → List Value} {w : World} {A : Option Addr} {L : List α} (h : RD n cs w A L) {k : Nat} {x : α} (hk : L[k]? = some x) : ∃ a, A = some a := by
  obtain ⟨hl, _⟩ := List.getElem?_eq_some_iff.1 hk
  obtain ⟨a, h1, _⟩ := h.at hl
  exact ⟨a, h1⟩
theorem Pk.all {b : Bl} {p : Prg} {w w2 : World} {g : Gh} {f : Fr} {steps seed : Int} {fb c ft M2 M3 M4 B3 : Nat} (h : Pk b p w g f steps seed fb c ft M2 M3 M4 B3 w2) (hp : p.Rd b.w0) :
    w2.cell? ⟨B3, 0, none⟩ = some (.pointer (some ⟨b.rb, 0, none⟩)) ∧ w2.cell? ⟨b.rb, 0, none⟩ = some (.slice p.bA p.bs.length p.bc) ∧ w2.cell? ⟨b.rb, 8, none⟩ = some (.map (some b.eb)) ∧ w2.cell? ⟨fb, ft, none⟩ = some (iv f.block) ∧ w2.cell? ⟨fb, ft + 1, none⟩ = some (iv f.at_) ∧ p.Rd w2 :=
  ⟨h.c3, (h.R.c 0).trans (by simp [rcs]), (h.R.c 8).trans (by simp [rcs]), h.f.1, h.f.2.1, hp.below h.m.belowW⟩
structure Ps (b : Bl) (p : Prg) (w : World) (g : Gh) (G : List Fr) (f : Fr) (at1 steps seed : Int) (M2 M3 M4 B3 B5 : Nat) (W : World) : Prop where
  m : Mem b W { g with F := G ++ [{ f with at_ := at1 }] }
  ch : Ch w g W { g with F := G ++ [{ f with at_ := at1 }] }
  R : RB b p W g.sv g.fv (steps + 1) seed false 0
  bx : Bxs b W g.sv g.fv seed f M2 M3 M4 B3 B5
  nb : ∀ fb c, g.fv = .slice (some ⟨fb, 0, none⟩) g.F.length c → B5 ≠ fb
theorem Ps.grow {b : Bl} {p : Prg} {w : World} {g : Gh} {G : List Fr} {f : Fr} {at1 steps seed : Int} {M2 M3 M4 B3 B5 : Nat} {W W' : World} (h : Ps b p w g G f at1 steps seed M2 M3 M4 B3 B5 W) (hg : W.grownBy W' none) : Ps b p w g G f at1 steps seed M2 M3 M4 B3 B5 W' := by
  refine ⟨h.m.only (grown_weak hg _) h.R, h.ch.trans (Ch.grown hg), h.R.keep (hg.block _ h.R.lt (by simp)), h.bx.keep fun k hk => hg.block k ?_ (by simp), h.nb⟩
  rcases hk with rfl | rfl | rfl | rfl | rfl
  · exact heap_ltM h.bx.k0
  · exact heap_ltM h.bx.k1
  · exact heap_ltM h.bx.k2
  · exact heap_ltM h.bx.k3
  · exact heap_ltM h.bx.k4
theorem Pk.ps {b : Bl} {p : Prg} {w W : World} {g : Gh} {G : List Fr} {f : Fr} {steps seed : Int} {fb c ft M2 M3 M4 B3 B5 : Nat} (h : Pk b p w g f steps seed fb c ft M2 M3 M4 B3 W) (hF : g.F = G ++ [f]) (k5 : W.heap[B5]? = some (.cells #[iv f.block, iv f.at_, .slice f.A f.L.length f.c] 158 (0, 0))) (hne : B5 ≠ fb) : Ps b p w g G f f.at_ steps seed M2 M3 M4 B3 B5 W := by
  have e : ({ g with F := G ++ [{ f with at_ := f.at_ }] } : Gh) = g := by
    have : G ++ [{ f with at_ := f.at_ }] = g.F := hF.symm
    rw [this]
  refine ⟨by rw [e]; exact h.m, by rw [e]; exact h.ch, h.R, ⟨h.k0, h.k1, h.k2, h.k3, k5⟩, fun fb' c' e' => ?_⟩
  have := h.t.hv
  rw [this] at e'
  cases e'
  exact hne
theorem Pk.pst {b : Bl} {p : Prg} {w W : World} {g : Gh} {G : List Fr} {f : Fr} {steps seed at1 : Int} {fb c ft M2 M3 M4 B3 B5 n : Nat} (h : Pk b p w g f steps seed fb c ft M2 M3 M4 B3 W) (hF : g.F = G ++ [f]) (k5 : W.heap[B5]? = some (.cells #[iv f.block, iv f.at_, .slice f.A f.L.length f.c] 158 (0, 0))) (hne : B5 ≠ fb) (hn : n = g.F.length) : Ps b p w g G f at1 steps seed M2 M3 M4 B3 B5 (W.setCell ⟨fb, (n - 1) * 3 + 1, none⟩ (iv at1)) := by
  subst hn
  obtain ⟨m1, c1⟩ := h.m.setTop (f' := { f with at_ := at1 }) (i := 1) (u := iv at1) hF h.t.hv (by simp [Fr.cs]) ((h.m.top hF).at_ at1)
  obtain ⟨cur, hcur⟩ := h.t.hcur
  have ne : ∀ {i : Nat} {c : Array Value} {t : TypeId}, W.heap[i]? = some (.cells c t (0, 0)) → t ≠ 158 → i ≠ fb := fun {i c t} h1 h2 e => by subst e; rw [hcur] at h1; cases h1; exact h2 rfl
  refine ⟨m1, h.ch.trans c1, h.R.keep (Below.heap_setCell _ _ _ _ (fb_ne h.R hcur)), (Bxs.keep (w := W) ⟨h.k0, h.k1, h.k2, h.k3, k5⟩ fun k hk => Below.heap_setCell _ _ _ _ ?_), fun fb' c' e' => ?_⟩
  · rcases hk with rfl | rfl | rfl | rfl | rfl
    · exact ne h.k0 (by decide)
    · exact ne h.k1 (by decide)
    · exact ne h.k2 (by decide)
    · exact ne h.k3 (by decide)
    · exact hne
  · have := h.t.hv
    rw [this] at e'
    cases e'
    exact hne
theorem Ps.flt {b : Bl} {p : Prg} {w W : World} {g : Gh} {G : List Fr} {f : Fr} {at1 steps seed : Int} {M2 M3 M4 B3 B5 : Nat} (h : Ps b p w g G f at1 steps seed M2 M3 M4 B3 B5 W) (hF : g.F = G ++ [f]) (hn2 : g.F.length ≤ 1000000) {c : Int} {e : Ending} {w' : World} (hf : Flt b p W (steps + 1) false 0 c e w') :
    CallsD Tryz.prog 104 #[.pointer (some ⟨M2, 0, none⟩), .pointer (some ⟨M3, 0, none⟩), .pointer (some ⟨M4, 0, none⟩), .pointer (some ⟨B3, 0, none⟩), .pointer (some ⟨B5, 0, none⟩)] (.panicking (stopC c)) w' fun e' u' w'' => e' = .returned (.tuple #[]) ∧ u' = .panicking [{ v := .iface 187 (.agg #[iv c]), recovered := true }] ∧ StepP b p w g steps seed (.error c) (.returned (.tuple #[])) w'' := by
  obtain ⟨_, hg, sv', fv', seed', hR'⟩ := hf
  have hl : g.F.length = (G ++ [{ f with at_ := at1 }]).length := by rw [hF]; simp
  have m' := h.m.only hg h.R
  have nr : ∀ {i : Nat} {c : Array Value} {t : TypeId}, W.heap[i]? = some (.cells c t (0, 0)) → t ≠ 165 → i ≠ b.rb := fun {i c t} h1 h2 e => by
    subst e
    have h3 : W.heap[b.rb]? = _ := h.R
    rw [h3] at h1
    cases h1
    exact h2 rfl
  have bx' : Bxs b w' g.sv g.fv seed f M2 M3 M4 B3 B5 := h.bx.keep fun k hk => by
    have h1 : k < W.heap.size ∧ k ≠ b.rb := by
      rcases hk with rfl | rfl | rfl | rfl | rfl
      · exact ⟨heap_ltM h.bx.k0, nr h.bx.k0 (by decide)⟩
      · exact ⟨heap_ltM h.bx.k1, nr h.bx.k1 (by decide)⟩
      · exact ⟨heap_ltM h.bx.k2, nr h.bx.k2 (by decide)⟩
      · exact ⟨heap_ltM h.bx.k3, nr h.bx.k3 (by decide)⟩
      · exact ⟨heap_ltM h.bx.k4, nr h.bx.k4 (by decide)⟩
    exact hg.block k h1.1 (by simpa using h1.2)
  refine (door_fault (code := c) m' rfl (by show (G ++ [{ f with at_ := at1 }]).length ≤ _; omega) hR' bx' (fun fb c e => h.nb fb c (by rw [hl]; exact e))).mono ?_
  rintro e' u' w'' ⟨rfl, rfl, h1, h2, h3⟩
  exact ⟨rfl, rfl, rfl, _, h1, (h.ch.trans (Ch.only h.m hg)).trans h2, h3, rfl, by rw [hF]⟩
theorem Ps.ok {b : Bl} {p : Prg} {w W : World} {g : Gh} {G : List Fr} {f : Fr} {at1 steps seed : Int} {M2 M3 M4 B3 B5 : Nat} (h : Ps b p w g G f at1 steps seed M2 M3 M4 B3 B5 W) {s : MS} {e : Ending} {w' : World} (hf : EffP b p W { g with F := G ++ [{ f with at_ := at1 }] } (.ok s) (steps + 1) 0 e w') : e = .returned (.tuple #[]) ∧ StepP b p w g steps seed (.ok s) (.returned (.tuple #[])) w' := by
  obtain ⟨rfl, g', h1, h2, h3, h4, h5⟩ := hf
  exact ⟨rfl, rfl, g', h1, h.ch.trans h2, h3, h4, h5⟩
set_option maxRecDepth 100000 in
set_option maxHeartbeats 4000000 in
theorem step_ok (b : Bl) (p : Prg) (w : World) (g : Gh) (G : List Fr) (f : Fr) (blk : Blk) (x : Ins) (steps seed : Int) (hm : Mem b w g) (hR : RB b p w g.sv g.fv steps seed false 0) (hF : g.F = G ++ [f]) (hn : g.S.length ≤ 999999) (hn2 : g.F.length ≤ 1000000) (hl : f.L.length ≤ 1000000) (hx : ∀ x ∈ g.S, x.list.length ≤ 1000000) (hp : p.Rd b.w0)
    (hf0 : 0 ≤ f.block) (hblk : p.bs[f.block.toNat]? = some blk) (ha0 : 0 ≤ f.at_) (hins : blk.ins[f.at_.toNat]? = some x) (hv : vIns p.bs blk.ins.length x) (hbl : blk.ins.length ≤ 9223372036854775807) (hs0 : 0 ≤ steps) (hs1 : steps ≤ 1000000000) :
    Calls Tryz.prog 80 #[.pointer (some ⟨b.rb, 0, none⟩)] w (StepP b p w g steps seed (exec p.bs x (ers g.S) (G.map Fr.er) { f.er with at_ := f.at_ + 1 } seed)) := by
  obtain ⟨fb, c, ft, ht⟩ := hm.isTop hF
  obtain ⟨sA, sn, sc, hsv⟩ : ∃ sA sn sc, g.sv = .slice sA sn sc := by
    rcases hm.sform with ⟨h, _⟩ | ⟨gg, c, e, _⟩
    · exact ⟨_, _, _, h⟩
    · exact ⟨_, _, _, e⟩
  obtain ⟨n, hnn⟩ : ∃ n, n = g.F.length := ⟨_, rfl⟩
  have hfv := ht.hv
  have hft := ht.hft
  rw [← hnn] at hfv hft hn2
  have hn0 : 0 < n := by rw [hnn, hF]; simp
  have e1 : IntKind.i64.wrap ((n : Int) - 1) = (n : Int) - 1 := IntWalk.i64_in _ (by omega)
  have e2 : ((n : Int) - 1).toNat = n - 1 := by omega
  have e3 : 0 ≤ (n : Int) - 1 := by omega
  have e4 : n - 1 < n := by omega
  have e5 : (n : Int) - 1 < (n : Int) := by omega
  have e6 : (0 : Int) < (n : Int) := by omega
  have e7 : IntKind.i64.wrap (steps + 1) = steps + 1 := IntWalk.i64_in _ (by omega)
  have e8 : ((n : Int) == 0) = false := by simp; omega
  have hl0 := hR.lt
  have r4 := (rb_cell hR).2.2.1
  have rf := hR.f
  have R1 : RB b p ((w.setCell ⟨b.rb, 4, none⟩ (.int .i64 (steps + 1))).alloc (.cells #[.pointer (some ⟨b.rb, 0, none⟩)] 160)) g.sv g.fv (steps + 1) seed false 0 := (hR.s_steps _).alloc _
  have s0 : ((w.setCell ⟨b.rb, 4, none⟩ (.int .i64 (steps + 1))).alloc (.cells #[.pointer (some ⟨b.rb, 0, none⟩)] 160)).cell? ⟨w.heap.size, 0, none⟩ = some (.pointer (some ⟨b.rb, 0, none⟩)) := by
    have := al_newM (w.setCell ⟨b.rb, 4, none⟩ (.int .i64 (steps + 1))) (.cells #[.pointer (some ⟨b.rb, 0, none⟩)] 160)
    rw [show (w.setCell ⟨b.rb, 4, none⟩ (.int .i64 (steps + 1))).heap.size = w.heap.size by simp] at this
    rw [Lib.cell_of_heap this]
    rfl
  have s2 := (rb_cell R1).1
  have s3 := (rb_cell R1).2.1
  have s5 := (rb_cell R1).2.2.2.1
  rw [hsv] at s2
  rw [hfv] at s3
  have PK := Lib.hid (fun M2 M3 M4 w2 hB => Pk.mk' (M2 := M2) (M3 := M3) (M4 := M4) (w2 := w2) hm hR ht hsv hfv hB)
  have S0 := Lib.hid s0
  have S2 := Lib.hid s2
  have S3 := Lib.hid s3
  have S5 := Lib.hid s5
  have HF := Lib.hid hF
  have HFV := Lib.hid hfv
  have HN := Lib.hid hnn
  have HFT := Lib.hid hft
  have HP := Lib.hid hp
  have HM := Lib.hid hm
  have a4 : ∀ o, (w.alloc o).cell? ⟨b.rb, 4, none⟩ = some (iv steps) := fun o => cell_al r4 hl0 o
  have af : ∀ o j, (w.alloc o).frozen? ⟨b.rb, j, none⟩ = false := fun o j => (World.frozen?_of_block (w := w) (Below.heap_alloc _ _ _ hl0)).trans (rf j)
  have hmf : ∀ (fn : Fn) (first cap : Array Value) (w : World), (Instr.makeFunc fn first cap).run Tryz.prog w = .ok (.func fn first cap) w := fun _ _ _ _ => rfl
  clear R1 s0 s2 s3 s5 hsv hfv ht hR hm hF hp hft
  clear hnn
  obtain ⟨ai, hai⟩ : ∃ ai, ai = f.at_.toNat := ⟨_, rfl⟩
  have aib : f.at_ = (ai : Int) := by omega
  have ail : ai < blk.ins.length := by
    rcases Nat.lt_or_ge ai blk.ins.length with h | h
    · exact h
    · rw [← hai, List.getElem?_eq_none h] at hins; cases hins
  have HAI := Lib.hid hai
  have AIB := Lib.hid aib
  clear hai aib
  go_enter_defers Tryz.func80, Tryz.ntmps80
  go_wp2
  refine r38_any b.rb w.heap.size steps (steps + 1) sA (some ⟨fb, 0, none⟩) sn sc n c seed _ S0.out S2.out S3.out S5.out _ rfl ?_
  intro M2 M3 M4 w2 hB
  have P2 := Lib.hid (PK.out M2 M3 M4 w2 hB)
  clear hB r4 rf a4 af S0 S2 S3 S5
  have d3 : ∀ o, (w2.alloc o).cell? ⟨M3, 0, none⟩ = some (.slice (some ⟨fb, 0, none⟩) n c) := fun o => by
    have h := (P2.out.mem (grown_alloc w2 o none)).k1
    rw [Lib.cell_of_heap h, HFV.out]
    rfl
  have d4 : ∀ o, (w2.alloc o).cell? ⟨fb, (n - 1) * 3, none⟩ = some (iv f.block) ∧ (w2.alloc o).cell? ⟨fb, (n - 1) * 3 + 1, none⟩ = some (iv f.at_) ∧ (w2.alloc o).cell? ⟨fb, (n - 1) * 3 + 2, none⟩ = some (.slice f.A f.L.length f.c) := fun o => by
    have h := (P2.out.mem (grown_alloc w2 o none)).f
    rw [HFT.out] at h
    exact h
  have d40 := fun o => (d4 o).1
  have d41 := fun o => (d4 o).2.1
  have d42 := fun o => (d4 o).2.2
  have d5 : ∀ o, (w2.alloc o).cell? ⟨w.heap.size, 0, none⟩ = some (.pointer (some ⟨b.rb, 0, none⟩)) := fun o => (P2.out.mem (grown_alloc w2 o none)).c3
  have TP : ∀ o, Calls Tryz.prog 106 #[.pointer (some ⟨b.rb, 0, none⟩)] (w2.alloc o) fun e w' => e = .returned (.pointer (some ⟨fb, (n - 1) * 3, none⟩)) ∧ ∃ k, w' = (w2.alloc o).drewN k := fun o =>
    top_any b.rb fb n c (w2.alloc o) hn0 hn2 (by have h := (rb_cell (P2.out.mem (grown_alloc w2 o none)).R).2.1; rw [HFV.out] at h; exact h)
  have HT := Lib.hid TP
  clear TP d4
  generalize w.heap.size = B3 at P2 d5 ⊢
  simp only [Exit.then]
  go_wp2_with (go_at_call 106; refine (HT.out _).mono ?_; rintro e w3 ⟨rfl, k, rfl⟩)
  have P4 := Lib.hid ((P2.out.mem (grown_alloc w2 (.cells #[.int .i64 f.block, .int .i64 f.at_, .slice f.A f.L.length f.c] 158) none)).mem (grown_drewN _ k none))
  have K5 : ((w2.alloc (.cells #[.int .i64 f.block, .int .i64 f.at_, .slice f.A f.L.length f.c] 158)).drewN k).heap[w2.heap.size]? = some (.cells #[iv f.block, iv f.at_, .slice f.A f.L.length f.c] 158 (0, 0)) := al_newM w2 _
  have n5 : g.tag w2.heap.size = .no := P2.out.m.new _ (Nat.le_refl _)
  have nb : w2.heap.size ≠ fb := by have := P2.out.t.hlt; omega
  generalize hW4 : (w2.alloc (.cells #[.int .i64 f.block, .int .i64 f.at_, .slice f.A f.L.length f.c] 158)).drewN k = W4 at P4 K5 ⊢
  generalize w2.heap.size = B5 at K5 n5 nb ⊢
  have K5 := Lib.hid K5
  have N5 := Lib.hid n5
  have NB := Lib.hid nb
  clear d3 d40 d41 d42 d5 HT n5 nb hW4
  obtain ⟨qa, hqa⟩ := (HP.out.b).some hblk
  have HQA := Lib.hid hqa
  have F4 := fun W hg => (P4.out.mem (W := W) hg).all HP.out
  have B4 := fun W hg => ((P4.out.mem (W := W) hg).all HP.out).2.2.2.2.2.b.blkAt hblk hqa
  rw [HFT.out] at F4
  have FA := F4 W4.drew (grown_drewN W4 1 none)
  have FB := fun o => F4 (W4.drew.alloc o) ((grown_drewN W4 1 none).trans (grown_alloc _ o none))
  have BA := B4 W4.drew (grown_drewN W4 1 none)
  have BB := fun o => B4 (W4.drew.alloc o) ((grown_drewN W4 1 none).trans (grown_alloc _ o none))
  rw [hqa] at FA FB
  obtain ⟨ki, hki⟩ : ∃ ki, ki = f.block.toNat := ⟨_, rfl⟩
  have kib : f.block = (ki : Int) := by omega
  have kil : ki < p.bs.length := by
    rcases Nat.lt_or_ge ki p.bs.length with h | h
    · exact h
    · rw [← hki, List.getElem?_eq_none h] at hblk; cases hblk
  rw [← hki] at BA BB
  have KIB := Lib.hid kib
  clear kib hki
  refine wp_phaseT [false, false, false, false, false, false, false, false, false, false, false, false, true, true] [[], [12], [12, 13]] [Value.pointer (some ⟨b.rb, 0, none⟩), Value.pointer (some ⟨b.rb, 0, none⟩), Value.pointer (some ⟨b.rb, 0, none⟩), Value.pointer (some ⟨b.rb, 0, none⟩), Value.pointer (some ⟨b.rb, 0, none⟩), .slice (some qa) p.bs.length p.bc, Value.pointer (some ⟨fb, (n - 1) * 3, none⟩), Value.pointer (some ⟨fb, (n - 1) * 3, none⟩), Value.pointer (some ⟨fb, (n - 1) * 3, none⟩), iv f.block, .pointer (some (qa.add (ki * 3))), .agg #[iv blk.cap, .bool blk.param, .slice blk.A blk.ins.length blk.c], Value.pointer (some ⟨W4.heap.size, 0, none⟩), undef] [_, (W4.drew.alloc (.cells #[iv 0, .bool false, nilS] 69)), (W4.drew.alloc (.cells #[iv blk.cap, .bool blk.param, .slice blk.A blk.ins.length blk.c] 69))] 2 14 (by decide) (by kernel_rfl) (by kernel_rfl) (by kernel_rfl) (by kernel_rfl) rfl (by kernel_rfl) (fun h => absurd h (by decide)) (fun h => absurd h (by decide)) rfl rfl ⟨?_, ?_, ?_, ?_, ?_, ?_, ?_, ?_, ?_, ?_, ?_, ?_, ?_, ?_, trivial⟩ rfl (by kernel_rfl) ?_
  · intro kk aa hk E
    have h1 : aa.eval (.tmp 1) = Value.pointer (some ⟨B3, 0, none⟩) := (E 1 (by kernel_rfl)).trans (by kernel_rfl)
    refine obl_read (ks := [0, 1]) (by kernel_rfl) (by kernel_rfl) rfl hk ⟨?_, ?_, trivial⟩
    · intro w' hw; cases hw; exact op_load1M rfl (by decide) rfl h1 FA.1
    · intro w' hw; cases hw; exact op_load1M rfl (by decide) rfl h1 (FB _).1
  · intro kk aa hk E
    have h49 : aa.eval (.tmp 49) = Value.pointer (some ⟨b.rb, 0, none⟩) := (E 49 (by kernel_rfl)).trans (by kernel_rfl)
    exact obl_pure (by kernel_rfl) rfl hk fun w => op_nil rfl rfl h49
  · intro kk aa hk E
    have h50 : aa.eval (.tmp 50) = Value.pointer (some ⟨b.rb, 0, none⟩) := (E 50 (by kernel_rfl)).trans (by kernel_rfl)
    exact obl_pure (by kernel_rfl) rfl hk fun w => op_fa (k := 0) rfl rfl rfl h50
  · intro kk aa hk E
    have h51 : aa.eval (.tmp 51) = Value.pointer (some ⟨b.rb, 0, none⟩) := (E 51 (by kernel_rfl)).trans (by kernel_rfl)
    exact obl_pure (by kernel_rfl) rfl hk fun w => op_fa (k := 0) rfl rfl rfl h51
  · intro kk aa hk E
    have h52 : aa.eval (.tmp 52) = Value.pointer (some ⟨b.rb, 0, none⟩) := (E 52 (by kernel_rfl)).trans (by kernel_rfl)
    exact obl_pure (by kernel_rfl) rfl hk fun w => op_fa (k := 0) rfl rfl rfl h52
  · intro kk aa hk E
    have h53 : aa.eval (.tmp 53) = Value.pointer (some ⟨b.rb, 0, none⟩) := (E 53 (by kernel_rfl)).trans (by kernel_rfl)
    refine obl_read (ks := [0, 1]) (by kernel_rfl) (by kernel_rfl) rfl hk ⟨?_, ?_, trivial⟩
    · intro w' hw; cases hw; exact op_load1M rfl (by decide) rfl h53 FA.2.1
    · intro w' hw; cases hw; exact op_load1M rfl (by decide) rfl h53 (FB _).2.1
  · intro kk aa hk E
    have h6 : aa.eval (.tmp 6) = Value.pointer (some ⟨fb, (n - 1) * 3, none⟩) := (E 6 (by kernel_rfl)).trans (by kernel_rfl)
    exact obl_pure (by kernel_rfl) rfl hk fun w => op_move rfl rfl h6
  · intro kk aa hk E
    have h55 : aa.eval (.tmp 55) = Value.pointer (some ⟨fb, (n - 1) * 3, none⟩) := (E 55 (by kernel_rfl)).trans (by kernel_rfl)
    exact obl_pure (by kernel_rfl) rfl hk fun w => op_nil rfl rfl h55
  · intro kk aa hk E
    have h56 : aa.eval (.tmp 56) = Value.pointer (some ⟨fb, (n - 1) * 3, none⟩) := (E 56 (by kernel_rfl)).trans (by kernel_rfl)
    exact obl_pure (by kernel_rfl) rfl hk fun w => op_fa (k := 0) rfl rfl rfl h56
  · intro kk aa hk E
    have h57 : aa.eval (.tmp 57) = Value.pointer (some ⟨fb, (n - 1) * 3, none⟩) := (E 57 (by kernel_rfl)).trans (by kernel_rfl)
    refine obl_read (ks := [0, 1]) (by kernel_rfl) (by kernel_rfl) rfl hk ⟨?_, ?_, trivial⟩
    · intro w' hw; cases hw; exact op_load1M rfl (by decide) rfl h57 FA.2.2.2.1
    · intro w' hw; cases hw; exact op_load1M rfl (by decide) rfl h57 (FB _).2.2.2.1
  · intro kk aa hk E
    have h54 : aa.eval (.tmp 54) = .slice (some qa) p.bs.length p.bc := (E 54 (by kernel_rfl)).trans (by kernel_rfl)
    have h58 : aa.eval (.tmp 58) = iv f.block := (E 58 (by kernel_rfl)).trans (by kernel_rfl)
    exact obl_pure (by kernel_rfl) rfl hk fun w => op_indexA (sz := 3) (k := ki) rfl rfl (.inr (.inr (.inl ⟨rfl, rfl⟩))) rfl h54 h58 KIB.out kil
  · intro kk aa hk E
    have h59 : aa.eval (.tmp 59) = .pointer (some (qa.add (ki * 3))) := (E 59 (by kernel_rfl)).trans (by kernel_rfl)
    refine obl_read (ks := [0, 1]) (by kernel_rfl) (by kernel_rfl) rfl hk ⟨?_, ?_, trivial⟩
    · intro w' hw; cases hw; exact op_load43 rfl rfl h59 BA.1 BA.2.1 BA.2.2
    · intro w' hw; cases hw; exact op_load43 rfl rfl h59 (BB _).1 (BB _).2.1 (BB _).2.2
  · intro kk aa hk E
    exact obl_write (ks := [0]) (by kernel_rfl) (by kernel_rfl) hk ⟨⟨1, _, _, by kernel_rfl, rfl, rfl, op_alloc43 rfl rfl rfl⟩, trivial⟩
  · intro kk aa hk E
    have h7 : aa.eval (.tmp 7) = Value.pointer (some ⟨W4.heap.size, 0, none⟩) := (E 7 (by kernel_rfl)).trans (by kernel_rfl)
    have h60 : aa.eval (.tmp 60) = .agg #[iv blk.cap, .bool blk.param, .slice blk.A blk.ins.length blk.c] := (E 60 (by kernel_rfl)).trans (by kernel_rfl)
    exact obl_write (ks := [1]) (by kernel_rfl) (by kernel_rfl) hk ⟨⟨2, _, _, by kernel_rfl, rfl, rfl, op_store43 (w := W4.drew) rfl rfl rfl h7 h60⟩, trivial⟩
  intro af haf
  simp only [List.take_succ_cons, List.take_zero, finA, Act.put, List.setIfInBounds_toArray, List.set_cons_succ, List.set_cons_zero] at haf
  subst haf
  simp only [List.drop_succ_cons, List.drop_zero]
  have p5 : Pk b p w g f steps seed fb c ft M2 M3 M4 B3 (W4.drew.alloc (.cells #[iv blk.cap, .bool blk.param, .slice blk.A blk.ins.length blk.c] 69)) := P4.out.mem ((grown_drewN W4 1 none).trans (grown_alloc _ _ none))
  have k5 : (W4.drew.alloc (.cells #[iv blk.cap, .bool blk.param, .slice blk.A blk.ins.length blk.c] 69)).heap[B5]? = some (.cells #[iv f.block, iv f.at_, .slice f.A f.L.length f.c] 158 (0, 0)) := (((grown_drewN W4 1 none).trans (grown_alloc W4.drew (.cells #[iv blk.cap, .bool blk.param, .slice blk.A blk.ins.length blk.c] 69) none)).block _ (heap_ltM K5.out) (by simp)).trans K5.out
  have k7 : (W4.drew.alloc (.cells #[iv blk.cap, .bool blk.param, .slice blk.A blk.ins.length blk.c] 69)).heap[W4.heap.size]? = some (.cells #[iv blk.cap, .bool blk.param, .slice blk.A blk.ins.length blk.c] 69 (0, 0)) := al_newM W4.drew _
  generalize W4.drew.alloc (.cells #[iv blk.cap, .bool blk.param, .slice blk.A blk.ins.length blk.c] 69) = W5 at p5 k5 k7 ⊢
  generalize W4.heap.size = B7 at k7 ⊢
  have K7 := Lib.hid k7
  have P5 := Lib.hid p5
  have K5' := Lib.hid k5
  clear k7 p5 k5 FA FB BA BB F4 B4 P4 K5
  go_wp2
  have F5 := fun W hg => (P5.out.mem (W := W) hg).all HP.out
  rw [HFT.out] at F5
  have FA := F5 W5.drew (grown_drewN W5 1 none)
  have BA : W5.drew.cell? ⟨B7, 2, none⟩ = some (.slice blk.A blk.ins.length blk.c) := by rw [show W5.drew.cell? ⟨B7, 2, none⟩ = W5.cell? ⟨B7, 2, none⟩ from rfl, Lib.cell_of_heap K7.out]; rfl
  refine wp_phaseT [false, false, false, false, false, false, false, false] [[]] [Value.pointer (some ⟨fb, (n - 1) * 3, none⟩), Value.pointer (some ⟨fb, (n - 1) * 3, none⟩), Value.pointer (some ⟨fb, (n - 1) * 3 + 1, none⟩), iv f.at_, Value.pointer (some ⟨B7, 2, none⟩), .slice blk.A blk.ins.length blk.c, iv (blk.ins.length : Int), .bool false] [_] 0 8 (by decide) (by kernel_rfl) (by kernel_rfl) (by kernel_rfl) (by kernel_rfl) rfl (by kernel_rfl) (fun h => absurd h (by decide)) (fun h => absurd h (by decide)) rfl rfl ⟨?_, ?_, ?_, ?_, ?_, ?_, ?_, ?_, trivial⟩ rfl (by kernel_rfl) ?_
  · intro kk aa hk E
    have h6 : aa.eval (.tmp 6) = Value.pointer (some ⟨fb, (n - 1) * 3, none⟩) := (E 6 (by kernel_rfl)).trans (by kernel_rfl)
    exact obl_pure (by kernel_rfl) rfl hk fun w => op_move rfl rfl h6
  · intro kk aa hk E
    have h61 : aa.eval (.tmp 61) = Value.pointer (some ⟨fb, (n - 1) * 3, none⟩) := (E 61 (by kernel_rfl)).trans (by kernel_rfl)
    exact obl_pure (by kernel_rfl) rfl hk fun w => op_nil rfl rfl h61
  · intro kk aa hk E
    have h62 : aa.eval (.tmp 62) = Value.pointer (some ⟨fb, (n - 1) * 3, none⟩) := (E 62 (by kernel_rfl)).trans (by kernel_rfl)
    exact obl_pure (by kernel_rfl) rfl hk fun w => op_fa (k := 1) rfl rfl rfl h62
  · intro kk aa hk E
    have h63 : aa.eval (.tmp 63) = Value.pointer (some ⟨fb, (n - 1) * 3 + 1, none⟩) := (E 63 (by kernel_rfl)).trans (by kernel_rfl)
    refine obl_read (ks := [0]) (by kernel_rfl) (by kernel_rfl) rfl hk ⟨?_, trivial⟩
    · intro w' hw; cases hw; exact op_load1M rfl (by decide) rfl h63 FA.2.2.2.2.1
  · intro kk aa hk E
    have h7 : aa.eval (.tmp 7) = Value.pointer (some ⟨B7, 0, none⟩) := (E 7 (by kernel_rfl)).trans (by kernel_rfl)
    exact obl_pure (by kernel_rfl) rfl hk fun w => op_fa (k := 2) rfl rfl rfl h7
  · intro kk aa hk E
    have h65 : aa.eval (.tmp 65) = Value.pointer (some ⟨B7, 2, none⟩) := (E 65 (by kernel_rfl)).trans (by kernel_rfl)
    refine obl_read (ks := [0]) (by kernel_rfl) (by kernel_rfl) rfl hk ⟨?_, trivial⟩
    · intro w' hw; cases hw; exact op_load1M rfl (by decide) rfl h65 BA
  · intro kk aa hk E
    have h66 : aa.eval (.tmp 66) = .slice blk.A blk.ins.length blk.c := (E 66 (by kernel_rfl)).trans (by kernel_rfl)
    exact obl_pure (by kernel_rfl) rfl hk fun w => op_len rfl (by decide) rfl h66
  · intro kk aa hk E
    have h64 : aa.eval (.tmp 64) = iv f.at_ := (E 64 (by kernel_rfl)).trans (by kernel_rfl)
    have h67 : aa.eval (.tmp 67) = iv (blk.ins.length : Int) := (E 67 (by kernel_rfl)).trans (by kernel_rfl)
    exact obl_pure (by kernel_rfl) rfl hk fun w => op_geq (by have := AIB.out; simp; omega) rfl rfl h64 h67
  intro af haf
  simp only [List.take_succ_cons, List.take_zero, finA, Act.put, List.setIfInBounds_toArray, List.set_cons_succ, List.set_cons_zero] at haf
  subst haf
  simp only [List.drop_succ_cons, List.drop_zero]
  go_wp2
  obtain ⟨qi, hqi⟩ := ((F5 W5.drew.drew (grown_drewN W5 2 none)).2.2.2.2.2.i _ (List.mem_of_getElem? hblk)).some hins
  have HQI := Lib.hid hqi
  have F6 := F5 W5.drew.drew (grown_drewN W5 2 none)
  have F6B := fun o => F5 (W5.drew.drew.alloc o) ((grown_drewN W5 2 none).trans (grown_alloc _ o none))
  have I6 := F6.2.2.2.2.2.i _ (List.mem_of_getElem? hblk) |>.insAt hins hqi
  have I6B := fun o => (F6B o).2.2.2.2.2.i _ (List.mem_of_getElem? hblk) |>.insAt hins hqi
  rw [← HAI.out] at I6 I6B
  have B6 : W5.drew.drew.cell? ⟨B7, 2, none⟩ = some (.slice (some qi) blk.ins.length blk.c) := by rw [show W5.drew.drew.cell? ⟨B7, 2, none⟩ = W5.cell? ⟨B7, 2, none⟩ from rfl, Lib.cell_of_heap K7.out, hqi]; rfl
  have B6B : ∀ o, (W5.drew.drew.alloc o).cell? ⟨B7, 2, none⟩ = some (.slice (some qi) blk.ins.length blk.c) := fun o => cell_al B6 (heap_ltM K7.out) o
  refine wp_phaseT [false, false, false, false, false, false, false, false, true, true] [[], [8], [8, 9]] [Value.pointer (some ⟨B7, 2, none⟩), .slice (some qi) blk.ins.length blk.c, Value.pointer (some ⟨fb, (n - 1) * 3, none⟩), Value.pointer (some ⟨fb, (n - 1) * 3, none⟩), Value.pointer (some ⟨fb, (n - 1) * 3 + 1, none⟩), iv f.at_, .pointer (some (qi.add (ai * 4))), x.val, Value.pointer (some ⟨W5.heap.size, 0, none⟩), undef] [_, (W5.drew.drew.alloc (.cells #[iv 0, iv 0, iv 0, eSm] 71)), (W5.drew.drew.alloc (.cells #[iv x.op, iv x.a, iv x.b, tv x.name] 71))] 2 10 (by decide) (by kernel_rfl) (by kernel_rfl) (by kernel_rfl) (by kernel_rfl) rfl (by kernel_rfl) (fun h => absurd h (by decide)) (fun h => absurd h (by decide)) rfl rfl ⟨?_, ?_, ?_, ?_, ?_, ?_, ?_, ?_, ?_, ?_, trivial⟩ rfl (by kernel_rfl) ?_
  · intro kk aa hk E
    have h7 : aa.eval (.tmp 7) = Value.pointer (some ⟨B7, 0, none⟩) := (E 7 (by kernel_rfl)).trans (by kernel_rfl)
    exact obl_pure (by kernel_rfl) rfl hk fun w => op_fa (k := 2) rfl rfl rfl h7
  · intro kk aa hk E
    have h70 : aa.eval (.tmp 70) = Value.pointer (some ⟨B7, 2, none⟩) := (E 70 (by kernel_rfl)).trans (by kernel_rfl)
    refine obl_read (ks := [0, 1]) (by kernel_rfl) (by kernel_rfl) rfl hk ⟨?_, ?_, trivial⟩
    · intro w' hw; cases hw; exact op_load1M rfl (by decide) rfl h70 B6
    · intro w' hw; cases hw; exact op_load1M rfl (by decide) rfl h70 (B6B _)
  · intro kk aa hk E
    have h6 : aa.eval (.tmp 6) = Value.pointer (some ⟨fb, (n - 1) * 3, none⟩) := (E 6 (by kernel_rfl)).trans (by kernel_rfl)
    exact obl_pure (by kernel_rfl) rfl hk fun w => op_move rfl rfl h6
  · intro kk aa hk E
    have h72 : aa.eval (.tmp 72) = Value.pointer (some ⟨fb, (n - 1) * 3, none⟩) := (E 72 (by kernel_rfl)).trans (by kernel_rfl)
    exact obl_pure (by kernel_rfl) rfl hk fun w => op_nil rfl rfl h72
  · intro kk aa hk E
    have h73 : aa.eval (.tmp 73) = Value.pointer (some ⟨fb, (n - 1) * 3, none⟩) := (E 73 (by kernel_rfl)).trans (by kernel_rfl)
    exact obl_pure (by kernel_rfl) rfl hk fun w => op_fa (k := 1) rfl rfl rfl h73
  · intro kk aa hk E
    have h74 : aa.eval (.tmp 74) = Value.pointer (some ⟨fb, (n - 1) * 3 + 1, none⟩) := (E 74 (by kernel_rfl)).trans (by kernel_rfl)
    refine obl_read (ks := [0, 1]) (by kernel_rfl) (by kernel_rfl) rfl hk ⟨?_, ?_, trivial⟩
    · intro w' hw; cases hw; exact op_load1M rfl (by decide) rfl h74 F6.2.2.2.2.1
    · intro w' hw; cases hw; exact op_load1M rfl (by decide) rfl h74 (F6B _).2.2.2.2.1
  · intro kk aa hk E
    have h71 : aa.eval (.tmp 71) = .slice (some qi) blk.ins.length blk.c := (E 71 (by kernel_rfl)).trans (by kernel_rfl)
    have h75 : aa.eval (.tmp 75) = iv f.at_ := (E 75 (by kernel_rfl)).trans (by kernel_rfl)
    exact obl_pure (by kernel_rfl) rfl hk fun w => op_indexA (sz := 4) (k := ai) rfl rfl (.inr (.inr (.inr ⟨rfl, rfl⟩))) rfl h71 h75 AIB.out ail
  · intro kk aa hk E
    have h76 : aa.eval (.tmp 76) = .pointer (some (qi.add (ai * 4))) := (E 76 (by kernel_rfl)).trans (by kernel_rfl)
    refine obl_read (ks := [0, 1]) (by kernel_rfl) (by kernel_rfl) rfl hk ⟨?_, ?_, trivial⟩
    · intro w' hw; cases hw; exact op_load45 rfl rfl h76 I6.1 I6.2.1 I6.2.2.1 I6.2.2.2
    · intro w' hw; cases hw; exact op_load45 rfl rfl h76 (I6B _).1 (I6B _).2.1 (I6B _).2.2.1 (I6B _).2.2.2
  · intro kk aa hk E
    exact obl_write (ks := [0]) (by kernel_rfl) (by kernel_rfl) hk ⟨⟨1, _, _, by kernel_rfl, rfl, rfl, op_alloc45 rfl rfl rfl⟩, trivial⟩
  · intro kk aa hk E
    have h8 : aa.eval (.tmp 8) = Value.pointer (some ⟨W5.heap.size, 0, none⟩) := (E 8 (by kernel_rfl)).trans (by kernel_rfl)
    have h77 : aa.eval (.tmp 77) = x.val := (E 77 (by kernel_rfl)).trans (by kernel_rfl)
    exact obl_write (ks := [1]) (by kernel_rfl) (by kernel_rfl) hk ⟨⟨2, _, _, by kernel_rfl, rfl, rfl, op_store45 (w := W5.drew.drew) rfl rfl rfl h8 h77⟩, trivial⟩
  intro af haf
  simp only [List.take_succ_cons, List.take_zero, finA, Act.put, List.setIfInBounds_toArray, List.set_cons_succ, List.set_cons_zero] at haf
  subst haf
  simp only [List.drop_succ_cons, List.drop_zero]
  have p6 : Pk b p w g f steps seed fb c ft M2 M3 M4 B3 (W5.drew.drew.alloc (.cells #[iv x.op, iv x.a, iv x.b, tv x.name] 71)) := P5.out.mem ((grown_drewN W5 2 none).trans (grown_alloc _ _ none))
  have k6 : (W5.drew.drew.alloc (.cells #[iv x.op, iv x.a, iv x.b, tv x.name] 71)).heap[B5]? = some (.cells #[iv f.block, iv f.at_, .slice f.A f.L.length f.c] 158 (0, 0)) := (((grown_drewN W5 2 none).trans (grown_alloc W5.drew.drew (.cells #[iv x.op, iv x.a, iv x.b, tv x.name] 71) none)).block _ (heap_ltM K5'.out) (by simp)).trans K5'.out
  have k8 : (W5.drew.drew.alloc (.cells #[iv x.op, iv x.a, iv x.b, tv x.name] 71)).heap[W5.heap.size]? = some (.cells #[iv x.op, iv x.a, iv x.b, tv x.name] 71 (0, 0)) := al_newM W5.drew.drew _
  generalize W5.drew.drew.alloc (.cells #[iv x.op, iv x.a, iv x.b, tv x.name] 71) = W6 at p6 k6 k8 ⊢
  generalize W5.heap.size = B8 at k8 ⊢
  have K8 := Lib.hid k8
  have P6 := Lib.hid p6
  have K6 := Lib.hid k6
  have g1 := p6.f.2.1
  have g2 := p6.t.fz
  rw [HFT.out] at g1
  clear k8 p6 k6 F6 F6B I6 I6B B6 B6B FA BA F5 P5 K5' K7
  have g3 : IntKind.i64.wrap (f.at_ + 1) = f.at_ + 1 := by have := AIB.out; rw [IntWalk.i64_in _ (by omega)]
  go_wp2
  have ps0 : Ps b p w g G f (f.at_ + 1) steps seed M2 M3 M4 B3 B5 (W6.setCell ⟨fb, (n - 1) * 3 + 1, none⟩ (iv (f.at_ + 1))) := P6.out.pst HF.out K6.out NB.out HN.out
  have k8 : (W6.setCell ⟨fb, (n - 1) * 3 + 1, none⟩ (iv (f.at_ + 1))).heap[B8]? = some (.cells #[iv x.op, iv x.a, iv x.b, tv x.name] 71 (0, 0)) := by
    refine (Below.heap_setCell _ _ _ _ fun e => ?_).trans K8.out
    obtain ⟨cur, hcur⟩ := P6.out.t.hcur
    have := K8.out
    rw [e, hcur] at this
    cases this
  clear g1 g2 g3
  generalize W6.setCell ⟨fb, (n - 1) * 3 + 1, none⟩ (iv (f.at_ + 1)) = W7 at ps0 k8 ⊢
  have ps := ps0.grow (grown_drewN W7 1 none)
  have c1 : W7.drew.cell? ⟨B3, 0, none⟩ = some (.pointer (some ⟨b.rb, 0, none⟩)) := by rw [Lib.cell_of_heap (w := W7.drew) ps.bx.k3]; rfl
  have c2 : W7.drew.cell? ⟨b.rb, 8, none⟩ = some (.map (some b.eb)) := (ps.R.c 8).trans (by simp [rcs])
  have k9 : W7.drew.heap[B8]? = some (.cells #[iv x.op, iv x.a, iv x.b, tv x.name] 71 (0, 0)) := k8
  have x0 : W7.drew.cell? ⟨B8, 0, none⟩ = some (iv x.op) := by rw [Lib.cell_of_heap k9]; rfl
  have x1 : W7.drew.cell? ⟨B8, 1, none⟩ = some (iv x.a) := by rw [Lib.cell_of_heap k9]; rfl
  have x2 : W7.drew.cell? ⟨B8, 2, none⟩ = some (iv x.b) := by rw [Lib.cell_of_heap k9]; rfl
  have x3 : W7.drew.cell? ⟨B8, 3, none⟩ = some (tv x.name) := by rw [Lib.cell_of_heap k9]; rfl
  have LK := eff_lookup (w := W7.drew) ps.m.eo x.op hv.1
  have hR9 := ps.R
  have hF9 : ({ g with F := G ++ [{ f with at_ := f.at_ + 1 }] } : Gh).F = G ++ [{ f with at_ := f.at_ + 1 }] := rfl
  have hl9 : (G ++ [{ f with at_ := f.at_ + 1 }]).length ≤ 1000000 := by
    have h := HN.out
    rw [HF.out] at h
    simp at h ⊢
    omega
  have EFF := Lib.hid (eff_any b p blk.ins.length x W7.drew { g with F := G ++ [{ f with at_ := f.at_ + 1 }] } G { f with at_ := f.at_ + 1 } (steps + 1) seed 0 ps.m hR9 hF9 (by show g.S.length ≤ _; omega) hl9 hl hx HP.out hv)
  have PS := Lib.hid ps
  clear ps ps0 k8 hR9 hF9 hl9
  refine wp_phaseT [false, false, false, false, false, false, false, false] [[]] [Value.pointer (some ⟨b.rb, 0, none⟩), Value.pointer (some ⟨b.rb, 0, none⟩), Value.pointer (some ⟨b.rb, 8, none⟩), .map (some b.eb), Value.pointer (some ⟨B8, 0, none⟩), iv x.op, (effV b x.op), x.val] [_] 0 8 (by decide) (by kernel_rfl) (by kernel_rfl) (by kernel_rfl) (by kernel_rfl) rfl (by kernel_rfl) (fun _ => by kernel_rfl) (fun _ => by kernel_rfl) rfl rfl ⟨?_, ?_, ?_, ?_, ?_, ?_, ?_, ?_, trivial⟩ rfl (by kernel_rfl) ?_
  · intro kk aa hk E
    have h1 : aa.eval (.tmp 1) = Value.pointer (some ⟨B3, 0, none⟩) := (E 1 (by kernel_rfl)).trans (by kernel_rfl)
    refine obl_read (ks := [0]) (by kernel_rfl) (by kernel_rfl) rfl hk ⟨?_, trivial⟩
    · intro w' hw; cases hw; exact op_load1M rfl (by decide) rfl h1 c1
  · intro kk aa hk E
    have h85 : aa.eval (.tmp 85) = Value.pointer (some ⟨b.rb, 0, none⟩) := (E 85 (by kernel_rfl)).trans (by kernel_rfl)
    exact obl_pure (by kernel_rfl) rfl hk fun w => op_nil rfl rfl h85
  · intro kk aa hk E
    have h86 : aa.eval (.tmp 86) = Value.pointer (some ⟨b.rb, 0, none⟩) := (E 86 (by kernel_rfl)).trans (by kernel_rfl)
    exact obl_pure (by kernel_rfl) rfl hk fun w => op_fa (k := 8) rfl rfl rfl h86
  · intro kk aa hk E
    have h87 : aa.eval (.tmp 87) = Value.pointer (some ⟨b.rb, 8, none⟩) := (E 87 (by kernel_rfl)).trans (by kernel_rfl)
    refine obl_read (ks := [0]) (by kernel_rfl) (by kernel_rfl) rfl hk ⟨?_, trivial⟩
    · intro w' hw; cases hw; exact op_load1M rfl (by decide) rfl h87 c2
  · intro kk aa hk E
    have h8 : aa.eval (.tmp 8) = Value.pointer (some ⟨B8, 0, none⟩) := (E 8 (by kernel_rfl)).trans (by kernel_rfl)
    exact obl_pure (by kernel_rfl) rfl hk fun w => op_fa (k := 0) rfl rfl rfl h8
  · intro kk aa hk E
    have h89 : aa.eval (.tmp 89) = Value.pointer (some ⟨B8, 0, none⟩) := (E 89 (by kernel_rfl)).trans (by kernel_rfl)
    refine obl_read (ks := [0]) (by kernel_rfl) (by kernel_rfl) rfl hk ⟨?_, trivial⟩
    · intro w' hw; cases hw; exact op_load1M rfl (by decide) rfl h89 x0
  · intro kk aa hk E
    have h88 : aa.eval (.tmp 88) = .map (some b.eb) := (E 88 (by kernel_rfl)).trans (by kernel_rfl)
    have h90 : aa.eval (.tmp 90) = iv x.op := (E 90 (by kernel_rfl)).trans (by kernel_rfl)
    refine obl_read (ks := [0]) (by kernel_rfl) (by kernel_rfl) rfl hk ⟨?_, trivial⟩
    · intro w' hw; cases hw; exact op_lookup84 rfl rfl h88 h90 LK
  · intro kk aa hk E
    have h8 : aa.eval (.tmp 8) = Value.pointer (some ⟨B8, 0, none⟩) := (E 8 (by kernel_rfl)).trans (by kernel_rfl)
    refine obl_read (ks := [0]) (by kernel_rfl) (by kernel_rfl) rfl hk ⟨?_, trivial⟩
    · intro w' hw; cases hw; exact op_load45 rfl rfl h8 x0 x1 x2 x3
  intro af haf
  simp only [List.take_succ_cons, List.take_zero, finA, Act.put, List.setIfInBounds_toArray, List.set_cons_succ, List.set_cons_zero] at haf
  subst haf
  simp only [List.drop_succ_cons, List.drop_zero]
  refine wl_enter (f := effF x.op) (args := effArgs b x) rfl (op_invoke (x := 91) (y := 92) rfl rfl rfl (fun args => eff_callFunc x.op hv.1 args W7.drew)) EFF.out fun e w' hE => ?_
  have hn9 : g.F.length ≤ 1000000 := by rw [← HN.out]; exact hn2
  have eE : ({ f with at_ := f.at_ + 1 } : Fr).er = { f.er with at_ := f.at_ + 1 } := rfl
  change EffP b p W7.drew _ (exec p.bs x (ers g.S) (G.map Fr.er) { f.er with at_ := f.at_ + 1 } seed) (steps + 1) 0 e w' at hE
  generalize exec p.bs x (ers g.S) (G.map Fr.er) { f.er with at_ := f.at_ + 1 } seed = RR at hE ⊢
  cases RR with
  | error cc =>
    have hf : Flt b p W7.drew (steps + 1) false 0 cc e w' := hE
    obtain ⟨rfl, -⟩ := id hf
    have DF := PS.out.flt HF.out hn9 hf
    simp only [bodyPostD]
    refine leaves_cons (f := 104) (args := #[.pointer (some ⟨M2, 0, none⟩), .pointer (some ⟨M3, 0, none⟩), .pointer (some ⟨M4, 0, none⟩), .pointer (some ⟨B3, 0, none⟩), .pointer (some ⟨B5, 0, none⟩)]) (by simp) (by simp [go_sem]) ?_
    refine DF.mono ?_
    rintro e' u' w'' ⟨rfl, rfl, hS⟩
    exact ⟨_, results_none rfl _ _ _, hS⟩
  | ok s =>
    obtain ⟨rfl, hS⟩ := PS.out.ok hE
    have HS := Lib.hid hS
    clear hE hS
    simp only [bodyPostD, wpList]
    refine leaves_cons (f := 104) (args := #[.pointer (some ⟨M2, 0, none⟩), .pointer (some ⟨M3, 0, none⟩), .pointer (some ⟨M4, 0, none⟩), .pointer (some ⟨B3, 0, none⟩), .pointer (some ⟨B5, 0, none⟩)]) (by simp) (by simp [go_sem]) ?_
    refine (back_idle _ _ _ _ _ w').mono ?_
    rintro e' u' w'' ⟨rfl, rfl, rfl⟩
    exact ⟨_, results_none rfl _ _ _, HS.out⟩
set_option maxRecDepth 100000 in
set_option maxHeartbeats 4000000 in
theorem step_end (b : Bl) (p : Prg) (w : World) (g : Gh) (G : List Fr) (f : Fr) (blk : Blk) (steps seed : Int) (hm : Mem b w g) (hR : RB b p w g.sv g.fv steps seed false 0) (hF : g.F = G ++ [f]) (hn2 : g.F.length ≤ 1000000) (hp : p.Rd b.w0)
    (hf0 : 0 ≤ f.block) (hblk : p.bs[f.block.toNat]? = some blk) (hins : (blk.ins.length : Int) ≤ f.at_) (hs0 : 0 ≤ steps) (hs1 : steps ≤ 1000000000) :
    Calls Tryz.prog 80 #[.pointer (some ⟨b.rb, 0, none⟩)] w (StepP b p w g steps seed (.error 26)) := by
  obtain ⟨fb, c, ft, ht⟩ := hm.isTop hF
  obtain ⟨sA, sn, sc, hsv⟩ : ∃ sA sn sc, g.sv = .slice sA sn sc := by
    rcases hm.sform with ⟨h, _⟩ | ⟨gg, c, e, _⟩
    · exact ⟨_, _, _, h⟩
    · exact ⟨_, _, _, e⟩
  obtain ⟨n, hnn⟩ : ∃ n, n = g.F.length := ⟨_, rfl⟩
  have hfv := ht.hv
  have hft := ht.hft
  rw [← hnn] at hfv hft hn2
  have hn0 : 0 < n := by rw [hnn, hF]; simp
  have e1 : IntKind.i64.wrap ((n : Int) - 1) = (n : Int) - 1 := IntWalk.i64_in _ (by omega)
  have e2 : ((n : Int) - 1).toNat = n - 1 := by omega
  have e3 : 0 ≤ (n : Int) - 1 := by omega
  have e4 : n - 1 < n := by omega
  have e5 : (n : Int) - 1 < (n : Int) := by omega
  have e6 : (0 : Int) < (n : Int) := by omega
  have e7 : IntKind.i64.wrap (steps + 1) = steps + 1 := IntWalk.i64_in _ (by omega)
  have e8 : ((n : Int) == 0) = false := by simp; omega
  have hl0 := hR.lt
  have r4 := (rb_cell hR).2.2.1
  have rf := hR.f
  have R1 : RB b p ((w.setCell ⟨b.rb, 4, none⟩ (.int .i64 (steps + 1))).alloc (.cells #[.pointer (some ⟨b.rb, 0, none⟩)] 160)) g.sv g.fv (steps + 1) seed false 0 := (hR.s_steps _).alloc _
  have s0 : ((w.setCell ⟨b.rb, 4, none⟩ (.int .i64 (steps + 1))).alloc (.cells #[.pointer (some ⟨b.rb, 0, none⟩)] 160)).cell? ⟨w.heap.size, 0, none⟩ = some (.pointer (some ⟨b.rb, 0, none⟩)) := by
    have := al_newM (w.setCell ⟨b.rb, 4, none⟩ (.int .i64 (steps + 1))) (.cells #[.pointer (some ⟨b.rb, 0, none⟩)] 160)
    rw [show (w.setCell ⟨b.rb, 4, none⟩ (.int .i64 (steps + 1))).heap.size = w.heap.size by simp] at this
    rw [Lib.cell_of_heap this]
    rfl
  have s2 := (rb_cell R1).1
  have s3 := (rb_cell R1).2.1
  have s5 := (rb_cell R1).2.2.2.1
  rw [hsv] at s2
  rw [hfv] at s3
  have PK := Lib.hid (fun M2 M3 M4 w2 hB => Pk.mk' (M2 := M2) (M3 := M3) (M4 := M4) (w2 := w2) hm hR ht hsv hfv hB)
  have S0 := Lib.hid s0
  have S2 := Lib.hid s2
  have S3 := Lib.hid s3
  have S5 := Lib.hid s5
  have HF := Lib.hid hF
  have HFV := Lib.hid hfv
  have HN := Lib.hid hnn
  have HFT := Lib.hid hft
  have HP := Lib.hid hp
  have HM := Lib.hid hm
  have a4 : ∀ o, (w.alloc o).cell? ⟨b.rb, 4, none⟩ = some (iv steps) := fun o => cell_al r4 hl0 o
  have af : ∀ o j, (w.alloc o).frozen? ⟨b.rb, j, none⟩ = false := fun o j => (World.frozen?_of_block (w := w) (Below.heap_alloc _ _ _ hl0)).trans (rf j)
  have hmf : ∀ (fn : Fn) (first cap : Array Value) (w : World), (Instr.makeFunc fn first cap).run Tryz.prog w = .ok (.func fn first cap) w := fun _ _ _ _ => rfl
  clear R1 s0 s2 s3 s5 hsv hfv ht hR hm hF hp hft
  clear hnn
  go_enter_defers Tryz.func80, Tryz.ntmps80
  go_wp2
  refine r38_any b.rb w.heap.size steps (steps + 1) sA (some ⟨fb, 0, none⟩) sn sc n c seed _ S0.out S2.out S3.out S5.out _ rfl ?_
  intro M2 M3 M4 w2 hB
  have P2 := Lib.hid (PK.out M2 M3 M4 w2 hB)
  clear hB r4 rf a4 af S0 S2 S3 S5
  have d3 : ∀ o, (w2.alloc o).cell? ⟨M3, 0, none⟩ = some (.slice (some ⟨fb, 0, none⟩) n c) := fun o => by
    have h := (P2.out.mem (grown_alloc w2 o none)).k1
    rw [Lib.cell_of_heap h, HFV.out]
    rfl
  have d4 : ∀ o, (w2.alloc o).cell? ⟨fb, (n - 1) * 3, none⟩ = some (iv f.block) ∧ (w2.alloc o).cell? ⟨fb, (n - 1) * 3 + 1, none⟩ = some (iv f.at_) ∧ (w2.alloc o).cell? ⟨fb, (n - 1) * 3 + 2, none⟩ = some (.slice f.A f.L.length f.c) := fun o => by
    have h := (P2.out.mem (grown_alloc w2 o none)).f
    rw [HFT.out] at h
    exact h
  have d40 := fun o => (d4 o).1
  have d41 := fun o => (d4 o).2.1
  have d42 := fun o => (d4 o).2.2
  have d5 : ∀ o, (w2.alloc o).cell? ⟨w.heap.size, 0, none⟩ = some (.pointer (some ⟨b.rb, 0, none⟩)) := fun o => (P2.out.mem (grown_alloc w2 o none)).c3
  have TP : ∀ o, Calls Tryz.prog 106 #[.pointer (some ⟨b.rb, 0, none⟩)] (w2.alloc o) fun e w' => e = .returned (.pointer (some ⟨fb, (n - 1) * 3, none⟩)) ∧ ∃ k, w' = (w2.alloc o).drewN k := fun o =>
    top_any b.rb fb n c (w2.alloc o) hn0 hn2 (by have h := (rb_cell (P2.out.mem (grown_alloc w2 o none)).R).2.1; rw [HFV.out] at h; exact h)
  have HT := Lib.hid TP
  clear TP d4
  generalize w.heap.size = B3 at P2 d5 ⊢
  simp only [Exit.then]
  go_wp2_with (go_at_call 106; refine (HT.out _).mono ?_; rintro e w3 ⟨rfl, k, rfl⟩)
  have P4 := Lib.hid ((P2.out.mem (grown_alloc w2 (.cells #[.int .i64 f.block, .int .i64 f.at_, .slice f.A f.L.length f.c] 158) none)).mem (grown_drewN _ k none))
  have K5 : ((w2.alloc (.cells #[.int .i64 f.block, .int .i64 f.at_, .slice f.A f.L.length f.c] 158)).drewN k).heap[w2.heap.size]? = some (.cells #[iv f.block, iv f.at_, .slice f.A f.L.length f.c] 158 (0, 0)) := al_newM w2 _
  have n5 : g.tag w2.heap.size = .no := P2.out.m.new _ (Nat.le_refl _)
  have nb : w2.heap.size ≠ fb := by have := P2.out.t.hlt; omega
  generalize hW4 : (w2.alloc (.cells #[.int .i64 f.block, .int .i64 f.at_, .slice f.A f.L.length f.c] 158)).drewN k = W4 at P4 K5 ⊢
  generalize w2.heap.size = B5 at K5 n5 nb ⊢
  have K5 := Lib.hid K5
  have N5 := Lib.hid n5
  have NB := Lib.hid nb
  clear d3 d40 d41 d42 d5 HT n5 nb hW4
  obtain ⟨qa, hqa⟩ := (HP.out.b).some hblk
  have HQA := Lib.hid hqa
  have F4 := fun W hg => (P4.out.mem (W := W) hg).all HP.out
  have B4 := fun W hg => ((P4.out.mem (W := W) hg).all HP.out).2.2.2.2.2.b.blkAt hblk hqa
  rw [HFT.out] at F4
  have FA := F4 W4.drew (grown_drewN W4 1 none)
  have FB := fun o => F4 (W4.drew.alloc o) ((grown_drewN W4 1 none).trans (grown_alloc _ o none))
  have BA := B4 W4.drew (grown_drewN W4 1 none)
  have BB := fun o => B4 (W4.drew.alloc o) ((grown_drewN W4 1 none).trans (grown_alloc _ o none))
  rw [hqa] at FA FB
  obtain ⟨ki, hki⟩ : ∃ ki, ki = f.block.toNat := ⟨_, rfl⟩
  have kib : f.block = (ki : Int) := by omega
  have kil : ki < p.bs.length := by
    rcases Nat.lt_or_ge ki p.bs.length with h | h
    · exact h
    · rw [← hki, List.getElem?_eq_none h] at hblk; cases hblk
  rw [← hki] at BA BB
  have KIB := Lib.hid kib
  clear kib hki
  refine wp_phaseT [false, false, false, false, false, false, false, false, false, false, false, false, true, true] [[], [12], [12, 13]] [Value.pointer (some ⟨b.rb, 0, none⟩), Value.pointer (some ⟨b.rb, 0, none⟩), Value.pointer (some ⟨b.rb, 0, none⟩), Value.pointer (some ⟨b.rb, 0, none⟩), Value.pointer (some ⟨b.rb, 0, none⟩), .slice (some qa) p.bs.length p.bc, Value.pointer (some ⟨fb, (n - 1) * 3, none⟩), Value.pointer (some ⟨fb, (n - 1) * 3, none⟩), Value.pointer (some ⟨fb, (n - 1) * 3, none⟩), iv f.block, .pointer (some (qa.add (ki * 3))), .agg #[iv blk.cap, .bool blk.param, .slice blk.A blk.ins.length blk.c], Value.pointer (some ⟨W4.heap.size, 0, none⟩), undef] [_, (W4.drew.alloc (.cells #[iv 0, .bool false, nilS] 69)), (W4.drew.alloc (.cells #[iv blk.cap, .bool blk.param, .slice blk.A blk.ins.length blk.c] 69))] 2 14 (by decide) (by kernel_rfl) (by kernel_rfl) (by kernel_rfl) (by kernel_rfl) rfl (by kernel_rfl) (fun h => absurd h (by decide)) (fun h => absurd h (by decide)) rfl rfl ⟨?_, ?_, ?_, ?_, ?_, ?_, ?_, ?_, ?_, ?_, ?_, ?_, ?_, ?_, trivial⟩ rfl (by kernel_rfl) ?_
  · intro kk aa hk E
    have h1 : aa.eval (.tmp 1) = Value.pointer (some ⟨B3, 0, none⟩) := (E 1 (by kernel_rfl)).trans (by kernel_rfl)
    refine obl_read (ks := [0, 1]) (by kernel_rfl) (by kernel_rfl) rfl hk ⟨?_, ?_, trivial⟩
    · intro w' hw; cases hw; exact op_load1M rfl (by decide) rfl h1 FA.1
    · intro w' hw; cases hw; exact op_load1M rfl (by decide) rfl h1 (FB _).1
  · intro kk aa hk E
    have h49 : aa.eval (.tmp 49) = Value.pointer (some ⟨b.rb, 0, none⟩) := (E 49 (by kernel_rfl)).trans (by kernel_rfl)
    exact obl_pure (by kernel_rfl) rfl hk fun w => op_nil rfl rfl h49
  · intro kk aa hk E
    have h50 : aa.eval (.tmp 50) = Value.pointer (some ⟨b.rb, 0, none⟩) := (E 50 (by kernel_rfl)).trans (by kernel_rfl)
    exact obl_pure (by kernel_rfl) rfl hk fun w => op_fa (k := 0) rfl rfl rfl h50
  · intro kk aa hk E
    have h51 : aa.eval (.tmp 51) = Value.pointer (some ⟨b.rb, 0, none⟩) := (E 51 (by kernel_rfl)).trans (by kernel_rfl)
    exact obl_pure (by kernel_rfl) rfl hk fun w => op_fa (k := 0) rfl rfl rfl h51
  · intro kk aa hk E
    have h52 : aa.eval (.tmp 52) = Value.pointer (some ⟨b.rb, 0, none⟩) := (E 52 (by kernel_rfl)).trans (by kernel_rfl)
    exact obl_pure (by kernel_rfl) rfl hk fun w => op_fa (k := 0) rfl rfl rfl h52
  · intro kk aa hk E
    have h53 : aa.eval (.tmp 53) = Value.pointer (some ⟨b.rb, 0, none⟩) := (E 53 (by kernel_rfl)).trans (by kernel_rfl)
    refine obl_read (ks := [0, 1]) (by kernel_rfl) (by kernel_rfl) rfl hk ⟨?_, ?_, trivial⟩
    · intro w' hw; cases hw; exact op_load1M rfl (by decide) rfl h53 FA.2.1
    · intro w' hw; cases hw; exact op_load1M rfl (by decide) rfl h53 (FB _).2.1
  · intro kk aa hk E
    have h6 : aa.eval (.tmp 6) = Value.pointer (some ⟨fb, (n - 1) * 3, none⟩) := (E 6 (by kernel_rfl)).trans (by kernel_rfl)
    exact obl_pure (by kernel_rfl) rfl hk fun w => op_move rfl rfl h6
  · intro kk aa hk E
    have h55 : aa.eval (.tmp 55) = Value.pointer (some ⟨fb, (n - 1) * 3, none⟩) := (E 55 (by kernel_rfl)).trans (by kernel_rfl)
    exact obl_pure (by kernel_rfl) rfl hk fun w => op_nil rfl rfl h55
  · intro kk aa hk E
    have h56 : aa.eval (.tmp 56) = Value.pointer (some ⟨fb, (n - 1) * 3, none⟩) := (E 56 (by kernel_rfl)).trans (by kernel_rfl)
    exact obl_pure (by kernel_rfl) rfl hk fun w => op_fa (k := 0) rfl rfl rfl h56
  · intro kk aa hk E
    have h57 : aa.eval (.tmp 57) = Value.pointer (some ⟨fb, (n - 1) * 3, none⟩) := (E 57 (by kernel_rfl)).trans (by kernel_rfl)
    refine obl_read (ks := [0, 1]) (by kernel_rfl) (by kernel_rfl) rfl hk ⟨?_, ?_, trivial⟩
    · intro w' hw; cases hw; exact op_load1M rfl (by decide) rfl h57 FA.2.2.2.1
    · intro w' hw; cases hw; exact op_load1M rfl (by decide) rfl h57 (FB _).2.2.2.1
  · intro kk aa hk E
    have h54 : aa.eval (.tmp 54) = .slice (some qa) p.bs.length p.bc := (E 54 (by kernel_rfl)).trans (by kernel_rfl)
    have h58 : aa.eval (.tmp 58) = iv f.block := (E 58 (by kernel_rfl)).trans (by kernel_rfl)
    exact obl_pure (by kernel_rfl) rfl hk fun w => op_indexA (sz := 3) (k := ki) rfl rfl (.inr (.inr (.inl ⟨rfl, rfl⟩))) rfl h54 h58 KIB.out kil
  · intro kk aa hk E
    have h59 : aa.eval (.tmp 59) = .pointer (some (qa.add (ki * 3))) := (E 59 (by kernel_rfl)).trans (by kernel_rfl)
    refine obl_read (ks := [0, 1]) (by kernel_rfl) (by kernel_rfl) rfl hk ⟨?_, ?_, trivial⟩
    · intro w' hw; cases hw; exact op_load43 rfl rfl h59 BA.1 BA.2.1 BA.2.2
    · intro w' hw; cases hw; exact op_load43 rfl rfl h59 (BB _).1 (BB _).2.1 (BB _).2.2
  · intro kk aa hk E
    exact obl_write (ks := [0]) (by kernel_rfl) (by kernel_rfl) hk ⟨⟨1, _, _, by kernel_rfl, rfl, rfl, op_alloc43 rfl rfl rfl⟩, trivial⟩
  · intro kk aa hk E
    have h7 : aa.eval (.tmp 7) = Value.pointer (some ⟨W4.heap.size, 0, none⟩) := (E 7 (by kernel_rfl)).trans (by kernel_rfl)
    have h60 : aa.eval (.tmp 60) = .agg #[iv blk.cap, .bool blk.param, .slice blk.A blk.ins.length blk.c] := (E 60 (by kernel_rfl)).trans (by kernel_rfl)
    exact obl_write (ks := [1]) (by kernel_rfl) (by kernel_rfl) hk ⟨⟨2, _, _, by kernel_rfl, rfl, rfl, op_store43 (w := W4.drew) rfl rfl rfl h7 h60⟩, trivial⟩
  intro af haf
  simp only [List.take_succ_cons, List.take_zero, finA, Act.put, List.setIfInBounds_toArray, List.set_cons_succ, List.set_cons_zero] at haf
  subst haf
  simp only [List.drop_succ_cons, List.drop_zero]
  have p5 : Pk b p w g f steps seed fb c ft M2 M3 M4 B3 (W4.drew.alloc (.cells #[iv blk.cap, .bool blk.param, .slice blk.A blk.ins.length blk.c] 69)) := P4.out.mem ((grown_drewN W4 1 none).trans (grown_alloc _ _ none))
  have k5 : (W4.drew.alloc (.cells #[iv blk.cap, .bool blk.param, .slice blk.A blk.ins.length blk.c] 69)).heap[B5]? = some (.cells #[iv f.block, iv f.at_, .slice f.A f.L.length f.c] 158 (0, 0)) := (((grown_drewN W4 1 none).trans (grown_alloc W4.drew (.cells #[iv blk.cap, .bool blk.param, .slice blk.A blk.ins.length blk.c] 69) none)).block _ (heap_ltM K5.out) (by simp)).trans K5.out
  have k7 : (W4.drew.alloc (.cells #[iv blk.cap, .bool blk.param, .slice blk.A blk.ins.length blk.c] 69)).heap[W4.heap.size]? = some (.cells #[iv blk.cap, .bool blk.param, .slice blk.A blk.ins.length blk.c] 69 (0, 0)) := al_newM W4.drew _
  generalize W4.drew.alloc (.cells #[iv blk.cap, .bool blk.param, .slice blk.A blk.ins.length blk.c] 69) = W5 at p5 k5 k7 ⊢
  generalize W4.heap.size = B7 at k7 ⊢
  have K7 := Lib.hid k7
  have P5 := Lib.hid p5
  have K5' := Lib.hid k5
  clear k7 p5 k5 FA FB BA BB F4 B4 P4 K5
  go_wp2
  have F5 := fun W hg => (P5.out.mem (W := W) hg).all HP.out
  rw [HFT.out] at F5
  have FA := F5 W5.drew (grown_drewN W5 1 none)
  have BA : W5.drew.cell? ⟨B7, 2, none⟩ = some (.slice blk.A blk.ins.length blk.c) := by rw [show W5.drew.cell? ⟨B7, 2, none⟩ = W5.cell? ⟨B7, 2, none⟩ from rfl, Lib.cell_of_heap K7.out]; rfl
  refine wp_phaseT [false, false, false, false, false, false, false, false] [[]] [Value.pointer (some ⟨fb, (n - 1) * 3, none⟩), Value.pointer (some ⟨fb, (n - 1) * 3, none⟩), Value.pointer (some ⟨fb, (n - 1) * 3 + 1, none⟩), iv f.at_, Value.pointer (some ⟨B7, 2, none⟩), .slice blk.A blk.ins.length blk.c, iv (blk.ins.length : Int), .bool true] [_] 0 8 (by decide) (by kernel_rfl) (by kernel_rfl) (by kernel_rfl) (by kernel_rfl) rfl (by kernel_rfl) (fun h => absurd h (by decide)) (fun h => absurd h (by decide)) rfl rfl ⟨?_, ?_, ?_, ?_, ?_, ?_, ?_, ?_, trivial⟩ rfl (by kernel_rfl) ?_
  · intro kk aa hk E
    have h6 : aa.eval (.tmp 6) = Value.pointer (some ⟨fb, (n - 1) * 3, none⟩) := (E 6 (by kernel_rfl)).trans (by kernel_rfl)
    exact obl_pure (by kernel_rfl) rfl hk fun w => op_move rfl rfl h6
  · intro kk aa hk E
    have h61 : aa.eval (.tmp 61) = Value.pointer (some ⟨fb, (n - 1) * 3, none⟩) := (E 61 (by kernel_rfl)).trans (by kernel_rfl)
    exact obl_pure (by kernel_rfl) rfl hk fun w => op_nil rfl rfl h61
  · intro kk aa hk E
    have h62 : aa.eval (.tmp 62) = Value.pointer (some ⟨fb, (n - 1) * 3, none⟩) := (E 62 (by kernel_rfl)).trans (by kernel_rfl)
    exact obl_pure (by kernel_rfl) rfl hk fun w => op_fa (k := 1) rfl rfl rfl h62
  · intro kk aa hk E
    have h63 : aa.eval (.tmp 63) = Value.pointer (some ⟨fb, (n - 1) * 3 + 1, none⟩) := (E 63 (by kernel_rfl)).trans (by kernel_rfl)
    refine obl_read (ks := [0]) (by kernel_rfl) (by kernel_rfl) rfl hk ⟨?_, trivial⟩
    · intro w' hw; cases hw; exact op_load1M rfl (by decide) rfl h63 FA.2.2.2.2.1
  · intro kk aa hk E
    have h7 : aa.eval (.tmp 7) = Value.pointer (some ⟨B7, 0, none⟩) := (E 7 (by kernel_rfl)).trans (by kernel_rfl)
    exact obl_pure (by kernel_rfl) rfl hk fun w => op_fa (k := 2) rfl rfl rfl h7
  · intro kk aa hk E
    have h65 : aa.eval (.tmp 65) = Value.pointer (some ⟨B7, 2, none⟩) := (E 65 (by kernel_rfl)).trans (by kernel_rfl)
    refine obl_read (ks := [0]) (by kernel_rfl) (by kernel_rfl) rfl hk ⟨?_, trivial⟩
    · intro w' hw; cases hw; exact op_load1M rfl (by decide) rfl h65 BA
  · intro kk aa hk E
    have h66 : aa.eval (.tmp 66) = .slice blk.A blk.ins.length blk.c := (E 66 (by kernel_rfl)).trans (by kernel_rfl)
    exact obl_pure (by kernel_rfl) rfl hk fun w => op_len rfl (by decide) rfl h66
  · intro kk aa hk E
    have h64 : aa.eval (.tmp 64) = iv f.at_ := (E 64 (by kernel_rfl)).trans (by kernel_rfl)
    have h67 : aa.eval (.tmp 67) = iv (blk.ins.length : Int) := (E 67 (by kernel_rfl)).trans (by kernel_rfl)
    exact obl_pure (by kernel_rfl) rfl hk fun w => op_geq (by simp; omega) rfl rfl h64 h67
  intro af haf
  simp only [List.take_succ_cons, List.take_zero, finA, Act.put, List.setIfInBounds_toArray, List.set_cons_succ, List.set_cons_zero] at haf
  subst haf
  simp only [List.drop_succ_cons, List.drop_zero]
  have ps := Lib.hid ((P5.out.ps HF.out K5'.out NB.out).grow (grown_drewN W5 1 none))
  have FA5 := Lib.hid (fun W => fault_any 26 W)
  clear FA BA F5
  go_wp2_with (go_at_call 105; refine (FA5.out _).mono ?_; rintro e w9 ⟨rfl, rfl⟩)
  have hn9 : g.F.length ≤ 1000000 := by rw [← HN.out]; exact hn2
  have hf : Flt b p W5.drew (steps + 1) false 0 26 (.panicked (stopC 26)) W5.drew := ⟨rfl, World.grownBy.refl _ _, _, _, _, ps.out.R⟩
  have DF := ps.out.flt HF.out hn9 hf
  simp only [bodyPostD]
  refine leaves_cons (f := 104) (args := #[.pointer (some ⟨M2, 0, none⟩), .pointer (some ⟨M3, 0, none⟩), .pointer (some ⟨M4, 0, none⟩), .pointer (some ⟨B3, 0, none⟩), .pointer (some ⟨B5, 0, none⟩)]) (by simp) (by simp [go_sem]) ?_
  refine DF.mono ?_
  rintro e' u' w'' ⟨rfl, rfl, hS⟩
  exact ⟨_, results_none rfl _ _ _, hS⟩
end Go.Proofs.YtgboboljgcfggaaGreatDoor
namespace Go.Proofs.YtgboboljgcfggaaGreatDoor
open Go.RowKit
structure MR (b : Bl) (p : Prg) (w : World) (g : Gh) (m : MM) : Prop where
  mem : Mem b w g
  R : RB b p w g.sv g.fv m.steps m.seed m.done m.err
  S : ers g.S = m.S
  F : g.F.map Fr.er = m.F
  bs : p.bs = m.bs
structure MI (n : Nat) (m : MM) : Prop where
  ok : MOk m.bs n m.S m.F
  vb : vBs m.bs
  lb : ∀ b ∈ m.bs, b.ins.length ≤ 9223372036854775807
  st : 0 ≤ m.steps
  fd : m.done = m.F.isEmpty
  ds : m.F = [] → m.S ≠ []
theorem ended_no {m : MM} (h : ended m = false) : m.done = false ∧ m.err = 0 := by
  unfold ended at h
  simpa using h
theorem MI.top {n : Nat} {m : MM} (h : MI n m) (he : ended m = false) : ∃ G f b, m.F = G ++ [f] ∧ 0 ≤ f.block ∧ m.bs[f.block.toNat]? = some b ∧ 0 ≤ f.at_ ∧ f.at_ ≤ b.ins.length ∧ f.L.length ≤ n := by
  obtain ⟨h1, _⟩ := ended_no he
  rcases snoc_cases m.F with h2 | ⟨G, f, h2⟩
  · have := h.fd
    rw [h1, h2] at this
    simp at this
  · obtain ⟨f1, ⟨b, f2, f3, f4⟩, f5, _⟩ := h.ok.2.2.2 f (by rw [h2]; simp)
    exact ⟨G, f, b, h2, f1, f2, f3, f4, f5⟩
theorem stepM_keep {n : Nat} {m : MM} (h : MI n m) (he : ended m = false) : MI (n + 2) (stepM m) ∧ (stepM m).bs = m.bs ∧ (stepM m).steps = m.steps + 1 := by
  obtain ⟨G, f, b, hF, f1, f2, f3, f4, f5⟩ := h.top he
  obtain ⟨hd, he0⟩ := ended_no he
  have up : MOk m.bs (n + 2) m.S m.F := ⟨by have := h.ok.1; omega, by have := h.ok.2.1; omega, fun v hv => (h.ok.2.2.1 v hv).mono (by omega), fun f hf => (h.ok.2.2.2 f hf).mono (by omega)⟩
  have base : ∀ e, MI (n + 2) { m with steps := m.steps + 1, err := e } := fun e => ⟨up, h.vb, h.lb, by have := h.st; show 0 ≤ m.steps + 1; omega, h.fd, h.ds⟩
  unfold stepM
  rw [hF, unsn_snoc]
  simp only [f2]
  cases hx : b.ins[f.at_.toNat]? with
  | none => simp only; exact ⟨by have := base 26; rwa [hF] at this, trivial, trivial⟩
  | some x =>
    simp only
    cases hr : exec m.bs x m.S G { f with at_ := f.at_ + 1 } m.seed with
    | error e => simp only; exact ⟨by have := base e; rwa [hF] at this, trivial, trivial⟩
    | ok s =>
      simp only
      have hv : vIns m.bs b.ins.length x := h.vb b (List.mem_of_getElem? f2) x (List.mem_of_getElem? hx)
      obtain ⟨k1, k2, k3⟩ := exec_ok (n := n) (by rw [← hF]; exact h.ok) f2 hx hv hr
      exact ⟨⟨k1, h.vb, h.lb, by have := h.st; show 0 ≤ m.steps + 1; omega, k2, k3⟩, trivial, trivial⟩
theorem step_any (b : Bl) (p : Prg) (w : World) (g : Gh) (m : MM) (n : Nat) (h : MR b p w g m) (hi : MI n m) (hn : n ≤ 900000) (hs : m.steps ≤ 1000000000) (he : ended m = false) (hp : p.Rd b.w0) :
    Calls Tryz.prog 80 #[.pointer (some ⟨b.rb, 0, none⟩)] w fun e w' => e = .returned (.tuple #[]) ∧ ∃ g', MR b p w' g' (stepM m) ∧ Ch w g w' g' := by
  obtain ⟨G', f', blk, hF, f1, f2, f3, f4, f5⟩ := hi.top he
  obtain ⟨hd, he0⟩ := ended_no he
  have hgF := h.F
  rw [hF] at hgF
  rcases snoc_cases g.F with h2 | ⟨G, f, h2⟩
  · rw [h2] at hgF; simp at hgF
  rw [h2] at hgF
  simp only [List.map_append, List.map_cons, List.map_nil] at hgF
  have e1 : G.map Fr.er = G' ∧ [f.er] = [f'] := List.append_inj' hgF rfl
  have e2 : f.er = f' := by simpa using e1.2
  have e3 := e1.1
  subst e3
  subst e2
  have R0 := h.R
  rw [hd, he0] at R0
  have hSl : g.S.length ≤ 999999 := by
    have := congrArg List.length h.S
    rw [ers_length] at this
    have := hi.ok.1
    omega
  have hFl : g.F.length ≤ 1000000 := by
    have := congrArg List.length h.F
    rw [List.length_map] at this
    have := hi.ok.2.1
    omega
  have hLl : f.L.length ≤ 1000000 := by
    have : f.er.L.length = f.L.length := by simp [Fr.er]
    omega
  have hx : ∀ x ∈ g.S, x.list.length ≤ 1000000 := fun x hx => by
    have h1 : x.er ∈ m.S := by rw [← h.S, ers_map]; exact List.mem_map.2 ⟨x, hx, rfl⟩
    have h3 := (hi.ok.2.2.1 _ h1).l
    rw [er_list, ers_length] at h3
    omega
  have hblk : p.bs[f.block.toNat]? = some blk := by rw [h.bs]; exact f2
  have hbl : blk.ins.length ≤ 9223372036854775807 := hi.lb blk (List.mem_of_getElem? f2)
  unfold stepM
  rw [hF, unsn_snoc]
  simp only [f2]
  cases hq : blk.ins[f.er.at_.toNat]? with
  | none =>
    have hle : blk.ins.length ≤ f.er.at_.toNat := List.getElem?_eq_none_iff.1 hq
    refine (step_end b p w g G f blk m.steps m.seed h.mem R0 h2 hFl hp f1 hblk (by show (blk.ins.length : Int) ≤ f.er.at_; omega) hi.st hs).mono ?_
    rintro e w' ⟨rfl, g', k1, k2, k3, k4, k5⟩
    refine ⟨rfl, g', ⟨k1, ?_, k4.trans h.S, k5.trans (h.F.trans hF), h.bs⟩, k2⟩
    simp only [hd]
    exact k3
  | some x =>
    simp only
    have hv : vIns p.bs blk.ins.length x := by rw [h.bs]; exact hi.vb blk (List.mem_of_getElem? f2) x (List.mem_of_getElem? hq)
    refine (step_ok b p w g G f blk x m.steps m.seed h.mem R0 h2 hSl hFl hLl hx hp f1 hblk f3 hq hv hbl hi.st hs).mono ?_
    have er : exec p.bs x (ers g.S) (G.map Fr.er) { f.er with at_ := f.at_ + 1 } m.seed = exec m.bs x m.S (G.map Fr.er) { f.er with at_ := f.er.at_ + 1 } m.seed := by rw [h.bs, h.S]; rfl
    rintro e w' ⟨rfl, g', k1, k2, k3⟩
    refine ⟨rfl, g', ?_, k2⟩
    rw [er] at k3
    cases hr : exec m.bs x m.S (G.map Fr.er) { f.er with at_ := f.er.at_ + 1 } m.seed with
    | error c =>
      rw [hr] at k3
      obtain ⟨k3, k4, k5⟩ := k3
      refine ⟨k1, ?_, k4.trans h.S, k5.trans (h.F.trans hF), h.bs⟩
      simp only [hd]
      exact k3
    | ok s =>
      rw [hr] at k3
      obtain ⟨k3, k4, k5⟩ := k3
      refine ⟨k1, ?_, k4, k5, h.bs⟩
      simp only [he0]
      exact k3
end Go.Proofs.YtgboboljgcfggaaGreatDoor
namespace Go.Proofs.YtgboboljgcfggaaGreatDoor
open Go.RowKit
theorem mapw_mapw (w : World) (r : Nat) (a c : Array MapEntry) (b d : Nat) : mapw (mapw w r a b) r c d = mapw w r c d := by simp [mapw]
theorem update_int {w : World} {r : Nat} {es : Array MapEntry} {clk : Nat} {k : Int} (v : Value) (hb : w.heap[r]? = some (.map es clk)) (hf : (Instr.findKey 3 (iv k) es.toList).run Tryz.prog w = .ok none w) (hc : ∀ em, (Instr.checkKey em 10000 3 (iv k)).run Tryz.prog w = .ok () w) :
    (Instr.mapUpdate 162 (.map (some r)) (iv k) v).run Tryz.prog w = .ok () (mapw w r (es.push { key := iv k, val := v, born := clk }) (clk + 1)) := by
  have hm : Tryz.prog.underlying 162 = some (.map 3 192) := by kernel_rfl
  have hg : (getObj r).run Tryz.prog w = .ok (.map es clk) w := by simp [getObj, Sem.run, hb]
  have hs : ∀ o, (setObj r o).run Tryz.prog w = .ok () { w with heap := w.heap.setIfInBounds r o } := fun o => by simp [setObj, Sem.run, hb]
  simp [Instr.mapUpdate, run_underlying hm, hg, hc, hf, hs, Result.andThen, mapw]
def eE (tb rb : Nat) (k : Nat) : Array MapEntry := ((effs tb rb).toList.take k).toArray
theorem tab1 (X : World) (r tb rb : Nat) (hr : r < X.heap.size) : (Instr.mapUpdate 162 (.map (some r)) (.int .i64 1) (.func (.func 127) #[] #[.pointer (some ⟨tb, 0, none⟩)])).run Tryz.prog (mapw X r (eE tb rb 0) 0) = .ok () (mapw X r (eE tb rb 1) 1) := by
  have := update_int (w := mapw X r (eE tb rb 0) 0) (r := r) (es := eE tb rb 0) (clk := 0) (k := 1) (.func (.func 127) #[] #[.pointer (some ⟨tb, 0, none⟩)]) (mapw_at hr) (by kernel_rfl) (fun em => by kernel_rfl)
  rw [mapw_mapw] at this
  exact this
theorem tab2 (X : World) (r tb rb : Nat) (hr : r < X.heap.size) : (Instr.mapUpdate 162 (.map (some r)) (.int .i64 2) (.func (.func 129) #[] #[.pointer (some ⟨tb, 0, none⟩)])).run Tryz.prog (mapw X r (eE tb rb 1) 1) = .ok () (mapw X r (eE tb rb 2) 2) := by
  have := update_int (w := mapw X r (eE tb rb 1) 1) (r := r) (es := eE tb rb 1) (clk := 1) (k := 2) (.func (.func 129) #[] #[.pointer (some ⟨tb, 0, none⟩)]) (mapw_at hr) (by kernel_rfl) (fun em => by kernel_rfl)
  rw [mapw_mapw] at this
  exact this
theorem tab3 (X : World) (r tb rb : Nat) (hr : r < X.heap.size) : (Instr.mapUpdate 162 (.map (some r)) (.int .i64 3) (.func (.func 130) #[.pointer (some ⟨rb, 0, none⟩)] #[])).run Tryz.prog (mapw X r (eE tb rb 2) 2) = .ok () (mapw X r (eE tb rb 3) 3) := by
  have := update_int (w := mapw X r (eE tb rb 2) 2) (r := r) (es := eE tb rb 2) (clk := 2) (k := 3) (.func (.func 130) #[.pointer (some ⟨rb, 0, none⟩)] #[]) (mapw_at hr) (by kernel_rfl) (fun em => by kernel_rfl)
  rw [mapw_mapw] at this
  exact this
theorem tab4 (X : World) (r tb rb : Nat) (hr : r < X.heap.size) : (Instr.mapUpdate 162 (.map (some r)) (.int .i64 4) (.func (.func 131) #[] #[.pointer (some ⟨tb, 0, none⟩)])).run Tryz.prog (mapw X r (eE tb rb 3) 3) = .ok () (mapw X r (eE tb rb 4) 4) := by
  have := update_int (w := mapw X r (eE tb rb 3) 3) (r := r) (es := eE tb rb 3) (clk := 3) (k := 4) (.func (.func 131) #[] #[.pointer (some ⟨tb, 0, none⟩)]) (mapw_at hr) (by kernel_rfl) (fun em => by kernel_rfl)
  rw [mapw_mapw] at this
  exact this
theorem tab5 (X : World) (r tb rb : Nat) (hr : r < X.heap.size) : (Instr.mapUpdate 162 (.map (some r)) (.int .i64 5) (.func (.func 133) #[.pointer (some ⟨rb, 0, none⟩)] #[])).run Tryz.prog (mapw X r (eE tb rb 4) 4) = .ok () (mapw X r (eE tb rb 5) 5) := by
  have := update_int (w := mapw X r (eE tb rb 4) 4) (r := r) (es := eE tb rb 4) (clk := 4) (k := 5) (.func (.func 133) #[.pointer (some ⟨rb, 0, none⟩)] #[]) (mapw_at hr) (by kernel_rfl) (fun em => by kernel_rfl)
  rw [mapw_mapw] at this
  exact this
theorem tab6 (X : World) (r tb rb : Nat) (hr : r < X.heap.size) : (Instr.mapUpdate 162 (.map (some r)) (.int .i64 6) (.func (.func 134) #[.pointer (some ⟨rb, 0, none⟩)] #[])).run Tryz.prog (mapw X r (eE tb rb 5) 5) = .ok () (mapw X r (eE tb rb 6) 6) := by
  have := update_int (w := mapw X r (eE tb rb 5) 5) (r := r) (es := eE tb rb 5) (clk := 5) (k := 6) (.func (.func 134) #[.pointer (some ⟨rb, 0, none⟩)] #[]) (mapw_at hr) (by kernel_rfl) (fun em => by kernel_rfl)
  rw [mapw_mapw] at this
  exact this
theorem tab7 (X : World) (r tb rb : Nat) (hr : r < X.heap.size) : (Instr.mapUpdate 162 (.map (some r)) (.int .i64 7) (.func (.func 135) #[.pointer (some ⟨rb, 0, none⟩)] #[])).run Tryz.prog (mapw X r (eE tb rb 6) 6) = .ok () (mapw X r (eE tb rb 7) 7) := by
  have := update_int (w := mapw X r (eE tb rb 6) 6) (r := r) (es := eE tb rb 6) (clk := 6) (k := 7) (.func (.func 135) #[.pointer (some ⟨rb, 0, none⟩)] #[]) (mapw_at hr) (by kernel_rfl) (fun em => by kernel_rfl)
  rw [mapw_mapw] at this
  exact this
theorem tab8 (X : World) (r tb rb : Nat) (hr : r < X.heap.size) : (Instr.mapUpdate 162 (.map (some r)) (.int .i64 8) (.func (.func 136) #[] #[.pointer (some ⟨tb, 0, none⟩)])).run Tryz.prog (mapw X r (eE tb rb 7) 7) = .ok () (mapw X r (eE tb rb 8) 8) := by
  have := update_int (w := mapw X r (eE tb rb 7) 7) (r := r) (es := eE tb rb 7) (clk := 7) (k := 8) (.func (.func 136) #[] #[.pointer (some ⟨tb, 0, none⟩)]) (mapw_at hr) (by kernel_rfl) (fun em => by kernel_rfl)
  rw [mapw_mapw] at this
  exact this
theorem tab9 (X : World) (r tb rb : Nat) (hr : r < X.heap.size) : (Instr.mapUpdate 162 (.map (some r)) (.int .i64 9) (.func (.func 137) #[] #[.pointer (some ⟨tb, 0, none⟩)])).run Tryz.prog (mapw X r (eE tb rb 8) 8) = .ok () (mapw X r (eE tb rb 9) 9) := by
  have := update_int (w := mapw X r (eE tb rb 8) 8) (r := r) (es := eE tb rb 8) (clk := 8) (k := 9) (.func (.func 137) #[] #[.pointer (some ⟨tb, 0, none⟩)]) (mapw_at hr) (by kernel_rfl) (fun em => by kernel_rfl)
  rw [mapw_mapw] at this
  exact this
theorem tab10 (X : World) (r tb rb : Nat) (hr : r < X.heap.size) : (Instr.mapUpdate 162 (.map (some r)) (.int .i64 10) (.func (.func 139) #[.pointer (some ⟨rb, 0, none⟩)] #[])).run Tryz.prog (mapw X r (eE tb rb 9) 9) = .ok () (mapw X r (eE tb rb 10) 10) := by
  have := update_int (w := mapw X r (eE tb rb 9) 9) (r := r) (es := eE tb rb 9) (clk := 9) (k := 10) (.func (.func 139) #[.pointer (some ⟨rb, 0, none⟩)] #[]) (mapw_at hr) (by kernel_rfl) (fun em => by kernel_rfl)
  rw [mapw_mapw] at this
  exact this
theorem tab11 (X : World) (r tb rb : Nat) (hr : r < X.heap.size) : (Instr.mapUpdate 162 (.map (some r)) (.int .i64 11) (.func (.func 140) #[] #[.pointer (some ⟨tb, 0, none⟩)])).run Tryz.prog (mapw X r (eE tb rb 10) 10) = .ok () (mapw X r (eE tb rb 11) 11) := by
  have := update_int (w := mapw X r (eE tb rb 10) 10) (r := r) (es := eE tb rb 10) (clk := 10) (k := 11) (.func (.func 140) #[] #[.pointer (some ⟨tb, 0, none⟩)]) (mapw_at hr) (by kernel_rfl) (fun em => by kernel_rfl)
  rw [mapw_mapw] at this
  exact this
theorem tab12 (X : World) (r tb rb : Nat) (hr : r < X.heap.size) : (Instr.mapUpdate 162 (.map (some r)) (.int .i64 12) (.func (.func 141) #[.pointer (some ⟨rb, 0, none⟩)] #[])).run Tryz.prog (mapw X r (eE tb rb 11) 11) = .ok () (mapw X r (eE tb rb 12) 12) := by
  have := update_int (w := mapw X r (eE tb rb 11) 11) (r := r) (es := eE tb rb 11) (clk := 11) (k := 12) (.func (.func 141) #[.pointer (some ⟨rb, 0, none⟩)] #[]) (mapw_at hr) (by kernel_rfl) (fun em => by kernel_rfl)
  rw [mapw_mapw] at this
  exact this
theorem tab13 (X : World) (r tb rb : Nat) (hr : r < X.heap.size) : (Instr.mapUpdate 162 (.map (some r)) (.int .i64 13) (.func (.func 142) #[.pointer (some ⟨rb, 0, none⟩)] #[])).run Tryz.prog (mapw X r (eE tb rb 12) 12) = .ok () (mapw X r (eE tb rb 13) 13) := by
  have := update_int (w := mapw X r (eE tb rb 12) 12) (r := r) (es := eE tb rb 12) (clk := 12) (k := 13) (.func (.func 142) #[.pointer (some ⟨rb, 0, none⟩)] #[]) (mapw_at hr) (by kernel_rfl) (fun em => by kernel_rfl)
  rw [mapw_mapw] at this
  exact this
theorem tab14 (X : World) (r tb rb : Nat) (hr : r < X.heap.size) : (Instr.mapUpdate 162 (.map (some r)) (.int .i64 14) (.func (.func 143) #[] #[.pointer (some ⟨tb, 0, none⟩)])).run Tryz.prog (mapw X r (eE tb rb 13) 13) = .ok () (mapw X r (eE tb rb 14) 14) := by
  have := update_int (w := mapw X r (eE tb rb 13) 13) (r := r) (es := eE tb rb 13) (clk := 13) (k := 14) (.func (.func 143) #[] #[.pointer (some ⟨tb, 0, none⟩)]) (mapw_at hr) (by kernel_rfl) (fun em => by kernel_rfl)
  rw [mapw_mapw] at this
  exact this
theorem tab15 (X : World) (r tb rb : Nat) (hr : r < X.heap.size) : (Instr.mapUpdate 162 (.map (some r)) (.int .i64 15) (.func (.func 146) #[.pointer (some ⟨rb, 0, none⟩)] #[])).run Tryz.prog (mapw X r (eE tb rb 14) 14) = .ok () (mapw X r (eE tb rb 15) 15) := by
  have := update_int (w := mapw X r (eE tb rb 14) 14) (r := r) (es := eE tb rb 14) (clk := 14) (k := 15) (.func (.func 146) #[.pointer (some ⟨rb, 0, none⟩)] #[]) (mapw_at hr) (by kernel_rfl) (fun em => by kernel_rfl)
  rw [mapw_mapw] at this
  exact this
theorem tab16 (X : World) (r tb rb : Nat) (hr : r < X.heap.size) : (Instr.mapUpdate 162 (.map (some r)) (.int .i64 16) (.func (.func 147) #[.pointer (some ⟨rb, 0, none⟩)] #[])).run Tryz.prog (mapw X r (eE tb rb 15) 15) = .ok () (mapw X r (eE tb rb 16) 16) := by
  have := update_int (w := mapw X r (eE tb rb 15) 15) (r := r) (es := eE tb rb 15) (clk := 15) (k := 16) (.func (.func 147) #[.pointer (some ⟨rb, 0, none⟩)] #[]) (mapw_at hr) (by kernel_rfl) (fun em => by kernel_rfl)
  rw [mapw_mapw] at this
  exact this
set_option maxRecDepth 100000 in
set_option maxHeartbeats 4000000 in
theorem table_any (rb : Nat) (w : World) : Calls Tryz.prog 103 #[.pointer (some ⟨rb, 0, none⟩)] w fun e w' => e = .returned (.map (some (w.heap.size + 1))) ∧ w.grownBy w' none ∧ w'.heap[w.heap.size]? = some (.cells #[.pointer (some ⟨rb, 0, none⟩)] 160 (0, 0)) ∧ w'.heap[w.heap.size + 1]? = some (.map (effs w.heap.size rb) 16) := by
  obtain ⟨X, hX⟩ : ∃ X, X = (w.alloc (.cells #[.pointer (some ⟨rb, 0, none⟩)] 160)).alloc (.map #[] 0) := ⟨_, rfl⟩
  have hs : w.heap.size + 1 < X.heap.size := by rw [hX]; simp
  have hr0 : X.heap[w.heap.size + 1]? = some (.map #[] 0) := by
    have := al_newM (w.alloc (.cells #[.pointer (some ⟨rb, 0, none⟩)] 160)) (.map #[] 0)
    rw [hX]
    simpa using this
  have hb0 : X.heap[w.heap.size]? = some (.cells #[.pointer (some ⟨rb, 0, none⟩)] 160 (0, 0)) := by
    rw [hX, Below.heap_alloc _ _ _ (by simp)]
    exact al_newM w _
  have e0 : X = mapw X (w.heap.size + 1) (eE w.heap.size rb 0) 0 := by
    unfold mapw
    have h1 : X.heap.setIfInBounds (w.heap.size + 1) (.map (eE w.heap.size rb 0) 0) = X.heap := by
      apply Array.ext
      · simp
      · intro i h1 h2
        rw [Array.getElem_setIfInBounds]
        split
        · rename_i e
          subst e
          have := (Array.getElem?_eq_some_iff.1 hr0).2
          rw [this]
          rfl
        · rfl
    rw [h1]
  have bx : ∀ es k, (mapw X (w.heap.size + 1) es k).cell? ⟨w.heap.size, 0, none⟩ = some (.pointer (some ⟨rb, 0, none⟩)) := fun es k => by
    rw [World.cell?_of_block (w := X) (mapw_ne _ _ _ _ (by show w.heap.size ≠ w.heap.size + 1; omega)), Lib.cell_of_heap hb0]
    rfl
  have t1 := tab1 X (w.heap.size + 1) w.heap.size rb hs
  have t2 := tab2 X (w.heap.size + 1) w.heap.size rb hs
  have t3 := tab3 X (w.heap.size + 1) w.heap.size rb hs
  have t4 := tab4 X (w.heap.size + 1) w.heap.size rb hs
  have t5 := tab5 X (w.heap.size + 1) w.heap.size rb hs
  have t6 := tab6 X (w.heap.size + 1) w.heap.size rb hs
  have t7 := tab7 X (w.heap.size + 1) w.heap.size rb hs
  have t8 := tab8 X (w.heap.size + 1) w.heap.size rb hs
  have t9 := tab9 X (w.heap.size + 1) w.heap.size rb hs
  have t10 := tab10 X (w.heap.size + 1) w.heap.size rb hs
  have t11 := tab11 X (w.heap.size + 1) w.heap.size rb hs
  have t12 := tab12 X (w.heap.size + 1) w.heap.size rb hs
  have t13 := tab13 X (w.heap.size + 1) w.heap.size rb hs
  have t14 := tab14 X (w.heap.size + 1) w.heap.size rb hs
  have t15 := tab15 X (w.heap.size + 1) w.heap.size rb hs
  have t16 := tab16 X (w.heap.size + 1) w.heap.size rb hs
  have gX : w.grownBy X none := by rw [hX]; exact (grown_alloc w _ none).trans (grown_alloc _ _ none)
  have GX := Lib.hid gX
  have HB0 := Lib.hid hb0
  have HS := Lib.hid hs
  have E0 := Lib.hid e0
  have HX := Lib.hid hX
  clear gX hb0 hs e0 hX hr0
  have hmf : ∀ (fn : Fn) (first cap : Array Value) (w : World), (Instr.makeFunc fn first cap).run Tryz.prog w = .ok (.func fn first cap) w := fun _ _ _ _ => rfl
  have mm : (Instr.makeMap 162 none).run Tryz.prog (w.alloc (.cells #[.pointer (some ⟨rb, 0, none⟩)] 160)) = .ok (.map (some (w.heap.size + 1))) (mapw X (w.heap.size + 1) (eE w.heap.size rb 0) 0) := by
    rw [← E0.out, HX.out]
    have : (Instr.makeMap 162 none).run Tryz.prog (w.alloc (.cells #[.pointer (some ⟨rb, 0, none⟩)] 160)) = .ok (.map (some (w.alloc (.cells #[.pointer (some ⟨rb, 0, none⟩)] 160)).heap.size)) ((w.alloc (.cells #[.pointer (some ⟨rb, 0, none⟩)] 160)).alloc (.map #[] 0)) := rfl
    simpa using this
  go_enter Tryz.func103, Tryz.ntmps103
  go_wp2
  go_ret
  have e16 : eE w.heap.size rb 16 = effs w.heap.size rb := rfl
  rw [e16]
  refine ⟨rfl, ⟨GX.out.os, GX.out.tape, GX.out.output, by rw [mapw_size]; exact GX.out.size, fun k hk _ => ?_⟩, ?_, mapw_at HS.out⟩
  · rw [mapw_ne _ _ _ _ (by omega)]
    exact GX.out.block k hk (by simp)
  · rw [mapw_ne _ _ _ _ (by omega)]
    exact HB0.out
end Go.Proofs.YtgboboljgcfggaaGreatDoor
namespace Go.Proofs.YtgboboljgcfggaaGreatDoor
open Go.RowKit
def ClP (T sz : Nat) (w : World) (n : Nat) (cs : List Value) (e : Ending) (w' : World) : Prop := ∃ v, e = .returned v ∧ w.grownBy w' none ∧ w'.ownsRow w.heap.size T sz v n cs
theorem owns_empty (w : World) (T sz : Nat) : (w.alloc (.cells #[] T)).ownsRow w.heap.size T sz (.slice (some ⟨w.heap.size, 0, none⟩) 0 0) 0 [] :=
  ⟨by simp, .inr ⟨w.heap.size, 0, #[], rfl, Nat.le_refl _, al_newM w _, Nat.le_refl _, by unfold maxLen; omega, by simp, by simp⟩⟩
set_option maxRecDepth 100000 in
set_option maxHeartbeats 1000000 in
theorem clone53_any (A : Option Addr) (n c : Nat) (cs : List Value) (w : World) (hl : cs.length = n * 8) (hr : ∀ a, A = some a → a.block < w.heap.size ∧ ∀ (j : Nat) v, cs[j]? = some v → w.cell? (a.add j) = some v) (h1 : ∀ v ∈ cs, v.oneCell' = true) (h0 : A = none → n = 0 ∧ c = 0) (hn : n ≤ 1000000) :
    Calls Tryz.prog 100 #[.slice A n c] w (ClP 56 8 w n cs) := by
  cases A with
  | none =>
    obtain ⟨rfl, rfl⟩ := h0 rfl
    have hc : cs = [] := by simpa using hl
    subst hc
    have hq := fun w => Lib.run_eql_slice_nil (P := Tryz.prog) w 47 56 none 0 0 0 0 Tryz.underlying47
    simp only [Option.isNone_none] at hq
    go_enter Tryz.func100, Tryz.ntmps100
    go_wp2
    go_ret
    exact ⟨_, rfl, World.grownBy.refl _ _, World.ownsRow_nil _ _ _ _⟩
  | some a =>
    have hq := fun w => Lib.run_eql_slice_nil (P := Tryz.prog) w 47 56 (some a) n c 0 0 Tryz.underlying47
    simp only [Option.isNone_some] at hq
    obtain ⟨i0, hi, hz0, hz1, hz2⟩ := info_parts info54
    obtain ⟨ha, hx⟩ := hr a rfl
    obtain ⟨v', w', hrun, h2, h3, _⟩ := run_append_own_at (P := Tryz.prog) (w := w.alloc (.cells #[] 56)) w.heap.size 47 47 56 i0 _ 8 128 Tryz.underlying47 hi hz0 hz1 hz2 rfl (by decide) _ 0 [] (owns_empty w 56 8) a n c cs hl (fun j v hj => cell_al (hx j v hj) (by rw [add_block]; exact ha) _) h1 (by unfold maxLen; omega) (by omega) (by simp)
    have HRUN := Lib.hid hrun
    have FIN : Hid (ClP 56 8 w n cs (.returned v') w') := Lib.hid (by
      refine ⟨v', rfl, ⟨h3.os, h3.tape, h3.output, ?_, fun k hk _ => ?_⟩, by simpa using h2⟩
      · have := h3.size; simp at this; omega
      · rw [h3.block k (by simp; omega) (by simp [Value.ownBlock]; omega)]
        exact Below.heap_alloc _ _ _ hk)
    clear hrun h2 h3 hl hr h1 h0 hx ha hi hz0 hz1 hz2
    go_enter Tryz.func100, Tryz.ntmps100
    go_wp2_with (at_builtin; refine wl_value rfl (op_append rfl (.tmp 5) (.tmp 6) 47 rfl _ _ rfl rfl HRUN.out) ?_)
    go_ret
    exact FIN.out
set_option maxRecDepth 100000 in
set_option maxHeartbeats 1000000 in
theorem clone54_any (A : Option Addr) (n c : Nat) (cs : List Value) (w : World) (hl : cs.length = n * 3) (hr : ∀ a, A = some a → a.block < w.heap.size ∧ ∀ (j : Nat) v, cs[j]? = some v → w.cell? (a.add j) = some v) (h1 : ∀ v ∈ cs, v.oneCell' = true) (h0 : A = none → n = 0 ∧ c = 0) (hn : n ≤ 1000000) :
    Calls Tryz.prog 101 #[.slice A n c] w (ClP 158 3 w n cs) := by
  cases A with
  | none =>
    obtain ⟨rfl, rfl⟩ := h0 rfl
    have hc : cs = [] := by simpa using hl
    subst hc
    have hq := fun w => Lib.run_eql_slice_nil (P := Tryz.prog) w 48 158 none 0 0 0 0 Tryz.underlying48
    simp only [Option.isNone_none] at hq
    go_enter Tryz.func101, Tryz.ntmps101
    go_wp2
    go_ret
    exact ⟨_, rfl, World.grownBy.refl _ _, World.ownsRow_nil _ _ _ _⟩
  | some a =>
    have hq := fun w => Lib.run_eql_slice_nil (P := Tryz.prog) w 48 158 (some a) n c 0 0 Tryz.underlying48
    simp only [Option.isNone_some] at hq
    obtain ⟨i0, hi, hz0, hz1, hz2⟩ := info_parts info78
    obtain ⟨ha, hx⟩ := hr a rfl
    obtain ⟨v', w', hrun, h2, h3, _⟩ := run_append_own_at (P := Tryz.prog) (w := w.alloc (.cells #[] 158)) w.heap.size 48 48 158 i0 _ 3 40 Tryz.underlying48 hi hz0 hz1 hz2 rfl (by decide) _ 0 [] (owns_empty w 158 3) a n c cs hl (fun j v hj => cell_al (hx j v hj) (by rw [add_block]; exact ha) _) h1 (by unfold maxLen; omega) (by omega) (by simp)
    have HRUN := Lib.hid hrun
    have FIN : Hid (ClP 158 3 w n cs (.returned v') w') := Lib.hid (by
      refine ⟨v', rfl, ⟨h3.os, h3.tape, h3.output, ?_, fun k hk _ => ?_⟩, by simpa using h2⟩
      · have := h3.size; simp at this; omega
      · rw [h3.block k (by simp; omega) (by simp [Value.ownBlock]; omega)]
        exact Below.heap_alloc _ _ _ hk)
    clear hrun h2 h3 hl hr h1 h0 hx ha hi hz0 hz1 hz2
    go_enter Tryz.func101, Tryz.ntmps101
    go_wp2_with (at_builtin; refine wl_value rfl (op_append rfl (.tmp 5) (.tmp 6) 48 rfl _ _ rfl rfl HRUN.out) ?_)
    go_ret
    exact FIN.out
end Go.Proofs.YtgboboljgcfggaaGreatDoor
namespace Go.Proofs.YtgboboljgcfggaaGreatDoor
open Go.RowKit
structure AM where
  p : Prg
  S : List AV
  sA : Option Addr
  sc : Nat
  F : List Fr
  fA : Option Addr
  fc : Nat
  steps : Int
  seed : Int
  done : Bool
  err : Int
def AM.v (M : AM) : Value := .agg #[.slice M.p.bA M.p.bs.length M.p.bc, .slice M.p.sA M.p.ss.length M.p.sc, .slice M.sA M.S.length M.sc, .slice M.fA M.F.length M.fc, iv M.steps, .int .u64 M.seed, .bool M.done, iv M.err]
def AM.er (M : AM) : MM := ⟨M.p.bs, ers M.S, M.F.map Fr.er, M.steps, M.seed, M.done, M.err⟩
abbrev noT : Nat → Tag := fun _ => .no
structure AM.Rd (w : World) (M : AM) : Prop where
  p : M.p.Rd w
  s : LRd w.heap.size noT w M.sA M.sc M.S
  f : RD 3 Fr.cs w M.fA M.F
  fc : M.F.length ≤ M.fc
  fm : M.fc ≤ 9223372036854775807
  f0 : M.fA = none → M.fc = 0
  fl : ∀ f ∈ M.F, LRd w.heap.size noT w f.A f.c f.L
def Fr.clip (f : Fr) : Fr := { f with c := f.L.length }
def clipF (k : Nat) (F : List Fr) : List Fr := (F.take k).map Fr.clip ++ F.drop k
theorem clipF_len (k : Nat) (F : List Fr) : (clipF k F).length = F.length := by simp [clipF]; omega
theorem clipF_zero (F : List Fr) : clipF 0 F = F := by simp [clipF]
theorem clipF_all (F : List Fr) : clipF F.length F = F.map Fr.clip := by simp [clipF]
theorem clipF_at {F : List Fr} {k : Nat} (hk : k < F.length) : (clipF k F)[k]? = some F[k] := by
  have h1 : ((F.take k).map Fr.clip).length = k := by simp; omega
  unfold clipF
  rw [List.getElem?_append_right (by omega), h1, Nat.sub_self, List.getElem?_drop, Nat.add_zero]
  simp [hk]
theorem clipF_succ {F : List Fr} {k : Nat} (hk : k < F.length) : clipF (k + 1) F = (clipF k F).set k F[k].clip := by
  apply List.ext_getElem?
  intro i
  have h1 : ((F.take k).map Fr.clip).length = k := by simp; omega
  have h2 : ((F.take (k + 1)).map Fr.clip).length = k + 1 := by simp; omega
  unfold clipF
  rcases Nat.lt_trichotomy i k with h | h | h
  · rw [List.getElem?_append_left (by omega), List.getElem?_set_ne (by omega), List.getElem?_append_left (by omega)]
    simp [h, show i < k + 1 by omega]
  · subst h
    rw [List.getElem?_append_left (by omega), List.getElem?_set_self (by simp; omega)]
    simp [hk]
  · rw [List.getElem?_append_right (by omega), List.getElem?_set_ne (by omega), List.getElem?_append_right (by omega), h1, h2, List.getElem?_drop, List.getElem?_drop]
    congr 1
    omega
theorem flat_set_at {α : Type} (f : α → List Value) (m : Nat) (h : ∀ x, (f x).length = m) {x x' : α} {i : Nat} {u : Value} (hi : i < m) (hx : f x' = (f x).set i u) : ∀ (L : List α) (k : Nat), L[k]? = some x → (L.set k x').flatMap f = (L.flatMap f).set (k * m + i) u
  | [], _, e => by simp at e
  | y :: l, 0, e => by
    simp at e
    subst e
    simp only [List.set_cons_zero, List.flatMap_cons, hx, Nat.zero_mul, Nat.zero_add]
    rw [List.set_append_left _ _ (by rw [h]; exact hi)]
  | y :: l, k + 1, e => by
    simp only [List.set_cons_succ, List.flatMap_cons]
    rw [flat_set_at f m h hi hx l k (by simpa using e), List.set_append_right _ _ (by rw [h, Nat.succ_mul]; omega), h]
    congr 2
    rw [Nat.succ_mul]
    omega
structure NS (w : World) (M : AM) (rb mb : Nat) (sv fv : Value) (F : List Fr) (ev : Value) (W : World) : Prop where
  gr : w.grownBy W none
  rbh : W.heap[rb]? = some (.cells #[.slice M.p.bA M.p.bs.length M.p.bc, .slice M.p.sA M.p.ss.length M.p.sc, sv, fv, iv M.steps, .int .u64 M.seed, .bool M.done, iv M.err, ev, .map (some mb)] 165 (0, 0))
  mbh : W.heap[mb]? = some (.map #[] 0)
  rbB : w.heap.size ≤ rb
  mbB : w.heap.size ≤ mb
  st : W.ownsRow w.heap.size 56 8 sv M.S.length (M.S.flatMap AV.cs)
  fr : W.ownsRow w.heap.size 158 3 fv F.length (F.flatMap Fr.cs)
theorem NS.grow {w W W' : World} {M : AM} {rb mb : Nat} {sv fv : Value} {F : List Fr} {ev : Value} (h : NS w M rb mb sv fv F ev W) (hg : W.grownBy W' none) : NS w M rb mb sv fv F ev W' :=
  ⟨h.gr.trans hg, (hg.block _ (heap_ltM h.rbh) (by simp)).trans h.rbh, (hg.block _ (heap_ltM h.mbh) (by simp)).trans h.mbh, h.rbB, h.mbB, row_keep h.st fun k cur _ e => hg.block k (heap_ltM e) (by simp), row_keep h.fr fun k cur _ e => hg.block k (heap_ltM e) (by simp)⟩
theorem own_block {w : World} {B T sz n : Nat} {v : Value} {xs : List Value} (h : w.ownsRow B T sz v n xs) {k : Nat} (hk : v.ownBlock = some k) : ∃ cur, w.heap[k]? = some (.cells cur T (0, 0)) := by
  rcases h.2 with ⟨e, _⟩ | ⟨g, cap, cur, e, _, hg, _⟩
  · rw [e] at hk; cases hk
  · rw [e] at hk; cases hk; exact ⟨cur, hg⟩
theorem NS.clip {w W : World} {M : AM} {rb mb fb c : Nat} {sv : Value} {F : List Fr} {ev : Value} (h : NS w M rb mb sv (.slice (some ⟨fb, 0, none⟩) F.length c) F ev W) {k : Nat} {f : Fr} (hf : F[k]? = some f) : NS w M rb mb sv (.slice (some ⟨fb, 0, none⟩) F.length c) (F.set k f.clip) ev (W.setCell ⟨fb, k * 3 + 2, none⟩ (.slice f.A f.L.length f.L.length)) := by
  obtain ⟨cur, hcur⟩ := own_block h.fr (k := fb) rfl
  have hB := (World.ownsRow.lt h.fr fb rfl).1
  have o : ∀ i, i ≠ fb → (W.setCell ⟨fb, k * 3 + 2, none⟩ (.slice f.A f.L.length f.L.length)).heap[i]? = W.heap[i]? := fun i hi => Below.heap_setCell _ _ _ _ hi
  refine ⟨⟨h.gr.os, h.gr.tape, h.gr.output, by simpa using h.gr.size, fun i hi hn => (o i (by omega)).trans (h.gr.block i hi hn)⟩, (o _ (fun e => by have := h.rbh; rw [e, hcur] at this; cases this)).trans h.rbh, (o _ (fun e => by have := h.mbh; rw [e, hcur] at this; cases this)).trans h.mbh, h.rbB, h.mbB, row_keep h.st fun i cur' e1 e2 => o i (fun e => by subst e; rw [hcur] at e2; cases e2), ?_⟩
  obtain ⟨r1, _⟩ := World.ownsRow.stored h.fr (k * 3 + 2) (.slice f.A f.L.length f.L.length)
  rw [List.length_set, flat_set_at Fr.cs 3 Fr.cs_len (i := 2) (u := .slice f.A f.L.length f.L.length) (x := f) (by omega) (by simp [Fr.cs, Fr.clip]) F k hf]
  exact r1
theorem owns_base {w : World} {B B' T sz n : Nat} {v : Value} {xs : List Value} (h : w.ownsRow B T sz v n xs) (hB : B' ≤ B) : w.ownsRow B' T sz v n xs := by
  refine ⟨h.1, ?_⟩
  rcases h.2 with e | ⟨g, cap, cur, e, h1, h2⟩
  · exact .inl e
  · exact .inr ⟨g, cap, cur, e, Nat.le_trans hB h1, h2⟩
structure AM.RdX (w0 : World) (tg : Nat → Tag) (w : World) (M : AM) : Prop where
  gr : w0.grownBy w none
  t : ∀ k, tg k = .no ∨ (w0.heap.size ≤ k ∧ k < w.heap.size ∧ tg k = .all)
  p : M.p.Rd w0
  s : LRd w0.heap.size tg w M.sA M.sc M.S
  f : RD 3 Fr.cs w M.fA M.F
  fx : ∀ a, M.fA = some a → M.F ≠ [] → a.block < w0.heap.size ∨ tg a.block = .all
  fc : M.F.length ≤ M.fc
  fm : M.fc ≤ 9223372036854775807
  f0 : M.fA = none → M.fc = 0
  fl : ∀ f ∈ M.F, LRd w0.heap.size tg w f.A f.c f.L
theorem NS.mem {w0 w W : World} {tg : Nat → Tag} {M : AM} {rb mb eb tb : Nat} {sv fv : Value} (h : NS w M rb mb sv fv (M.F.map Fr.clip) (.map (some eb)) W) (hM : M.RdX w0 tg w) (het : W.heap[eb]? = some (.map (effs tb rb) 16)) (htb : W.heap[tb]? = some (.cells #[.pointer (some ⟨rb, 0, none⟩)] 160 (0, 0))) (hebB : w.heap.size ≤ eb) (htbB : w.heap.size ≤ tb) :
    ∃ g, MR ⟨w0, rb, tb, eb, mb⟩ M.p W g M.er ∧ ∀ k, k < w.heap.size → g.tag k = tg k := by
  have hw := hM.gr
  have hws := hw.size
  have hgr := hw.trans h.gr
  have lt : ∀ {k : Nat} {o : Obj}, W.heap[k]? = some o → k < W.heap.size := fun h => heap_ltM h
  let tag : Nat → Tag := fun k => if k = rb ∨ k = tb ∨ k = eb ∨ k = mb ∨ sv.ownBlock = some k ∨ fv.ownBlock = some k then .own else tg k
  have tno : ∀ k, ¬ (k = rb ∨ k = tb ∨ k = eb ∨ k = mb ∨ sv.ownBlock = some k ∨ fv.ownBlock = some k) → tag k = tg k := fun k hk => if_neg hk
  have tow : ∀ k, (k = rb ∨ k = tb ∨ k = eb ∨ k = mb ∨ sv.ownBlock = some k ∨ fv.ownBlock = some k) → tag k = .own := fun k hk => if_pos hk
  have hlow : ∀ k, (k = rb ∨ k = tb ∨ k = eb ∨ k = mb ∨ sv.ownBlock = some k ∨ fv.ownBlock = some k) → w.heap.size ≤ k ∧ k < W.heap.size := fun k hk => by
    rcases hk with rfl | rfl | rfl | rfl | hk | hk
    · exact ⟨h.rbB, lt h.rbh⟩
    · exact ⟨htbB, lt htb⟩
    · exact ⟨hebB, lt het⟩
    · exact ⟨h.mbB, lt h.mbh⟩
    · exact World.ownsRow.lt h.st k hk
    · exact World.ownsRow.lt h.fr k hk
  have old : ∀ k, k < w0.heap.size → W.heap[k]? = w0.heap[k]? := fun k hk => hgr.block k hk (by simp)
  have mono : ∀ {A : Option Addr} {c : Nat} {L : List AV}, LRd w0.heap.size tg w A c L → LRd w0.heap.size tag W A c L := fun hL => hL.mono h.gr.size (fun k hk => by rw [tno k (fun e => by have := (hlow k e).1; omega)]; exact Tag.le_refl _) fun p hp _ => World.cell?_of_block (w := w) (h.gr.block _ hp (by simp))
  have tarr : ∀ k lo sz, tag k ≠ .arr lo sz := fun k lo sz e => by
    by_cases hk : (k = rb ∨ k = tb ∨ k = eb ∨ k = mb ∨ sv.ownBlock = some k ∨ fv.ownBlock = some k)
    · rw [tow k hk] at e; cases e
    · rw [tno k hk] at e
      rcases hM.t k with h' | ⟨_, _, h'⟩
      · rw [h'] at e; cases e
      · rw [h'] at e; cases e
  have lo' : ∀ k, k < w0.heap.size → tag k = .no := fun k hk => by
    rw [tno k (fun e => by have := (hlow k e).1; omega)]
    rcases hM.t k with h' | ⟨h', _, _⟩
    · exact h'
    · omega
  have new' : ∀ k, W.heap.size ≤ k → tag k = .no := fun k hk => by
    rw [tno k (fun e => by have := (hlow k e).2; omega)]
    have h2 := h.gr.size
    rcases hM.t k with h' | ⟨_, h', _⟩
    · exact h'
    · omega
  refine ⟨⟨tag, M.S, sv, M.F.map Fr.clip, fv, []⟩, ⟨{ os := hgr.os, tape := hgr.tape, output := hgr.output, hs := hgr.size, old := old, lo := lo', new := new', rt := tow _ (by simp), rbb := Nat.le_trans hws h.rbB, et := tow _ (by simp), eo := het, tt := tow _ (by simp), to := htb, mt := tow _ (by simp), mbb := Nat.le_trans hws h.mbB, mo := ⟨#[], 0, h.mbh, rfl⟩, st := owns_base h.st hws, stt := fun k e => tow k (by simp [e]), fr := owns_base h.fr hws, frt := fun k e => tow k (by simp [e]), sr := fun x hx => mono (hM.s.hr x hx), fl := fun d f hd => ?_, rm := fun r hr => by simp at hr, ra := List.Pairwise.nil }, h.rbh, rfl, by simp [AM.er, Fr.er, Fr.clip], rfl⟩, fun k hk => tno k (fun e => by have := (hlow k e).1; omega)⟩
  obtain ⟨f0, hf0, rfl⟩ := List.mem_map.1 (List.mem_of_getElem? hd)
  exact ⟨(mono (hM.fl f0 hf0)).clip, fun a lo sz _ => tarr _ _ _, .inl rfl⟩
end Go.Proofs.YtgboboljgcfggaaGreatDoor

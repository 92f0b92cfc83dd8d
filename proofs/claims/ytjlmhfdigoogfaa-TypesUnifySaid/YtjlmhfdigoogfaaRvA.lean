/- Walks: the reference's solver in memory; class (81). -/
import Derived.Test.YtjlmhfdigoogfaaRuD
namespace Go.Proofs.Ytjlmhfdigoogfaa
open Go.RowKit

/-- The places of a solver. -/
structure SB where
  sp : Nat
  ub : Nat
  ib : Nat
  tb : Nat
  A0 : Option Addr
  A1 : Option Addr
  c0 : Nat
  c1 : Nat
/-- A solver in memory. -/
structure SMem (b : SB) (B : Nat) (V : List Int) (S : SS) (L : List Ty) (W : World) : Prop where
  wf : WF V S
  n : V.length ≤ 1000
  a1 : 0 < V.length → b.A1 = some ⟨b.ub, 0, none⟩
  h : W.heap[b.sp]? = some (.cells #[.slice b.A0 V.length b.c0, .slice b.A1 V.length b.c1, .slice (some ⟨b.ib, 0, none⟩) V.length V.length, .slice (some ⟨b.tb, 0, none⟩) V.length V.length] 82 (0, 0))
  v : RD 1 NC W b.A0 V
  u : 0 < V.length → ∃ c, W.heap[b.ub]? = some (.cells c 3 (0, 0)) ∧ ∀ i, i < V.length → c[i]? = some (iv (S.u i))
  i : ∃ c, W.heap[b.ib]? = some (.cells c 4 (0, 0)) ∧ ∀ i, i < V.length → c[i]? = some (.bool (S.b i))
  t : ∃ c, W.heap[b.tb]? = some (.cells c 24 (0, 0)) ∧ ∀ i, i < V.length → ∃ y : Ty, L[i]? = some y ∧ c[i * 3]? = some (iv y.kind) ∧ c[i * 3 + 1]? = some (iv y.var) ∧ c[i * 3 + 2]? = some (.slice y.A y.sub.length y.c)
  l : L.map Ty.er = S.ty
  r : ∀ y ∈ L, y.Rd W ∧ TIn (· < B) y.A y.sub
  bv : 0 < V.length → ∀ a, b.A0 = some a → a.block < B
  lo : B ≤ b.sp ∧ B ≤ b.ub ∧ B ≤ b.ib ∧ B ≤ b.tb
  ne : b.sp ≠ b.ub ∧ b.sp ≠ b.ib ∧ b.sp ≠ b.tb ∧ b.ub ≠ b.ib ∧ b.ub ≠ b.tb ∧ b.ib ≠ b.tb
  ul : b.ub < W.heap.size
theorem RD.butN {w w' : World} {A : Option Addr} {L : List Int} {row : Option Nat} (h : RD 1 NC w A L) (hg : w.grownBy w' row) (hne : 0 < L.length → ∀ a, A = some a → some a.block ≠ row) : RD 1 NC w' A L := by
  by_cases hL : 0 < L.length
  · exact h.but hg (hne hL)
  · have : L = [] := List.eq_nil_of_length_eq_zero (by omega)
    subst this
    exact .inl rfl
section
variable {b : SB} {B : Nat} {V : List Int} {S : SS} {L : List Ty} {W W' : World}
theorem SMem.hd (h : SMem b B V S L W) : W.cell? ⟨b.sp, 0, none⟩ = some (.slice b.A0 V.length b.c0) ∧ W.cell? ⟨b.sp, 1, none⟩ = some (.slice b.A1 V.length b.c1) ∧ W.cell? ⟨b.sp, 2, none⟩ = some (.slice (some ⟨b.ib, 0, none⟩) V.length V.length) ∧ W.cell? ⟨b.sp, 3, none⟩ = some (.slice (some ⟨b.tb, 0, none⟩) V.length V.length) := cell4 h.h
theorem SMem.uc (h : SMem b B V S L W) {i : Nat} (hi : i < V.length) : W.cell? ⟨b.ub, i, none⟩ = some (iv (S.u i)) ∧ ∀ j, W.frozen? ⟨b.ub, j, none⟩ = false := by
  obtain ⟨c, h1, h2⟩ := h.u (by omega)
  exact ⟨by rw [Lib.cell_of_heap h1]; exact h2 i hi, frz h1⟩
theorem SMem.ic (h : SMem b B V S L W) {i : Nat} (hi : i < V.length) : W.cell? ⟨b.ib, i, none⟩ = some (.bool (S.b i)) ∧ ∀ j, W.frozen? ⟨b.ib, j, none⟩ = false := by
  obtain ⟨c, h1, h2⟩ := h.i
  exact ⟨by rw [Lib.cell_of_heap h1]; exact h2 i hi, frz h1⟩
theorem SMem.tc (h : SMem b B V S L W) {i : Nat} (hi : i < V.length) : ∃ y : Ty, L[i]? = some y ∧ y.er = S.t i ∧ y.Rd W ∧ TIn (· < B) y.A y.sub ∧ (W.cell? ⟨b.tb, i * 3, none⟩ = some (iv y.kind) ∧ W.cell? ⟨b.tb, i * 3 + 1, none⟩ = some (iv y.var) ∧ W.cell? ⟨b.tb, i * 3 + 2, none⟩ = some (.slice y.A y.sub.length y.c)) ∧ ∀ j, W.frozen? ⟨b.tb, j, none⟩ = false := by
  obtain ⟨c, h1, h2⟩ := h.t
  obtain ⟨y, hy, e0, e1, e2⟩ := h2 i hi
  have hm := h.r y (List.mem_of_getElem? hy)
  refine ⟨y, hy, ?_, hm.1, hm.2, ⟨by rw [Lib.cell_of_heap h1]; exact e0, by rw [Lib.cell_of_heap h1]; exact e1, by rw [Lib.cell_of_heap h1]; exact e2⟩, frz h1⟩
  unfold SS.t
  rw [← h.l, List.getD_eq_getElem?_getD, List.getElem?_map, hy]
  rfl
theorem SMem.vc (h : SMem b B V S L W) {i : Nat} (hi : i < V.length) : ∃ a, b.A0 = some a ∧ W.cell? (a.add i) = some (iv (vat V i)) := by
  obtain ⟨a, e, -, hc⟩ := h.v.num hi
  refine ⟨a, e, ?_⟩
  rw [hc]
  unfold vat
  rw [List.getD_eq_getElem?_getD, List.getElem?_eq_getElem hi]
  rfl
/-- Nothing that was is turned: a solver stays. -/
theorem SMem.gr (h : SMem b B V S L W) (g : Gr W W') : SMem b B V S L W' :=
  ⟨h.wf, h.n, h.a1, gr_h g h.h, h.v.gr g, fun hn => by obtain ⟨c, h1, h2⟩ := h.u hn; exact ⟨c, gr_h g h1, h2⟩, by obtain ⟨c, h1, h2⟩ := h.i; exact ⟨c, gr_h g h1, h2⟩, by obtain ⟨c, h1, h2⟩ := h.t; exact ⟨c, gr_h g h1, h2⟩, h.l, fun y hy => ⟨TRd.gr (h.r y hy).1 g, (h.r y hy).2⟩, h.bv, h.lo, h.ne, Nat.lt_of_lt_of_le h.ul g.size⟩
theorem vix_ne (h : WF V S) {n : Int} (hn : n ∈ V) {i : Nat} (hi : i < vix V n) : vat V i ≠ n := by
  intro e
  have h1 := vat_at (V := V) (i := i) (Nat.lt_trans hi (vix_lt hn))
  rw [e] at h1
  have := nodup_inj h.nd h1 (vix_at hn)
  omega
end
attribute [local irreducible] Calls in
set_option maxRecDepth 100000 in
set_option maxHeartbeats 2000000 in
theorem class_any (b : SB) (B : Nat) (V : List Int) (S : SS) (L : List Ty) (W : World) (h : SMem b B V S L W) (n : Int) (hn : n ∈ V) : Calls Try.prog 81 #[.pointer (some ⟨b.sp, 0, none⟩), iv n] W fun e w' => e = .returned (iv (cls V S n)) ∧ w' = W := by
  have H := Lib.hid h
  have hx := vix_lt hn
  have hN := h.n
  have NE := Lib.hid (fun i (hi : i < vix V n) => vix_ne h.wf hn hi)
  have VX := Lib.hid (vat_vix hn)
  have RT := Lib.hid (show rootN S V.length (vix V n) = cls V S n from rfl)
  have LE := Lib.hid h.wf.up
  obtain ⟨k, hk⟩ : ∃ k, vix V n = k := ⟨_, rfl⟩
  obtain ⟨r, hr⟩ : ∃ r, cls V S n = r := ⟨_, rfl⟩
  rw [hk] at VX RT hx
  simp only [hk] at NE
  rw [hr] at RT ⊢
  have RM := Lib.hid (fun i (hi : i < V.length) => rootN_more h.wf (V.length + 1) V.length i hi (by omega) (by omega))
  have HA := Lib.hid (h.a1 (by omega))
  have hd := h.hd
  rw [HA.out] at hd
  obtain ⟨s0, s1, -, -⟩ := hd
  clear h hk hr hn
  go_enter Try.func81, Try.ntmps81
  go_wp2
  go_loopw [5] (fun i U => ∃ j : Nat, i = .int .i64 j ∧ j ≤ k ∧ Hid (U = W)) (fun i _ => k - (intOf i).toNat)
  case atStart => exact ⟨0, rfl, Nat.zero_le _, Lib.hid rfl⟩
  case round =>
    obtain ⟨j, rfl, hj, HW⟩ := hrel
    obtain rfl := HW.out
    obtain ⟨a, ha, va⟩ := H.out.vc (i := j) (by omega)
    rw [ha] at s0
    by_cases hjk : j < k
    · have hne := NE.out j hjk
      have hb : (vat V j != n) = true := by simpa using hne
      go_wp2
      exact ⟨⟨j + 1, by simp, by omega, Lib.hid trivial⟩, by simp [intOf]; omega⟩
    · obtain rfl : j = k := by omega
      rw [VX.out] at va
      go_wp2
      go_loopw [5] (fun i U => ∃ m : Nat, i = .int .i64 m ∧ m < V.length ∧ Hid (U = wr ∧ rootN S V.length m = r)) (fun i _ => (intOf i).toNat)
      case atStart => exact ⟨j, rfl, hx, Lib.hid ⟨rfl, RT.out⟩⟩
      case round =>
        obtain ⟨m, rfl, hm, HM⟩ := hrel
        obtain rfl := HM.out.1
        obtain ⟨q0, -⟩ := H.out.uc hm
        have hle := LE.out m hm
        have RR := Lib.hid (show (if S.u m = m then m else rootN S V.length (S.u m)) = r from by
          have h1 := RM.out m hm
          rw [HM.out.2] at h1
          rw [← h1, rootN])
        by_cases hu : S.u m = m
        · rw [if_pos hu] at RR
          have hR := RR.out
          subst hR
          have hb : ((S.u m : Int) != (m : Int)) = false := by simp; exact_mod_cast hu
          go_wp2
          go_ret
          exact ⟨rfl, rfl⟩
        · rw [if_neg hu] at RR
          generalize S.u m = q at *
          have hb : ((q : Int) != (m : Int)) = true := by simp; exact_mod_cast hu
          go_wp2
          exact ⟨⟨q, rfl, by omega, Lib.hid ⟨trivial, RR.out⟩⟩, by simp [intOf]; omega⟩
end Go.Proofs.Ytjlmhfdigoogfaa

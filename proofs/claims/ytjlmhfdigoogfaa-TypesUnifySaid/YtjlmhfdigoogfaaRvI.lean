/- Walks: equal (50). -/
import Derived.Test.YtjlmhfdigoogfaaRvH
namespace Go.Proofs.Ytjlmhfdigoogfaa
open Go.RowKit

attribute [local irreducible] Calls in
set_option maxRecDepth 100000 in
set_option maxHeartbeats 4000000 in
theorem equal_sub (b : SB) (B : Nat) (V : List Int) (S : SS) (L : List Ty) (W : World) (h : SMem b B V S L W) (x y : Ty) (hx : TG B V x W) (hy : TG B V y W) (hkx : x.kind ≠ 5) (hky : y.kind ≠ 5) (hkk : x.kind = y.kind) (g : SS → PT → PT → Option (Bool × SS)) (EQ : EQH b B V g) (r : Bool) (S' : SS) (e : eqL g S (ers x.sub) (ers y.sub) = some (r, S')) :
    Calls Try.prog 50 #[.pointer (some ⟨b.sp, 0, none⟩), x.v, y.v] W (EqM b B V L S S' r W) := by
  obtain ⟨N, hN⟩ : ∃ N, x.sub.length = N := ⟨_, rfl⟩
  obtain ⟨M, hM⟩ : ∃ M, y.sub.length = M := ⟨_, rfl⟩
  have BB := Lib.hid (b2_new x.kind x.var (.slice x.A N x.c) y.kind y.var (.slice y.A M y.c) W)
  obtain ⟨⟨p0, p1, p2⟩, -⟩ := cell3 BB.out.h1
  obtain ⟨⟨q0, q1, q2⟩, -⟩ := cell3 BB.out.h2
  obtain ⟨l1, l2, l3⟩ := h.lt
  have LO := Lib.hid h.low
  have HX := Lib.hid hx
  have HY := Lib.hid hy
  have H := Lib.hid h
  have EE := Lib.hid EQ
  have E := Lib.hid e
  have hx' : (x.kind == 5) = false := by simpa using hkx
  have hy' : (y.kind == 5) = false := by simpa using hky
  have hn' : (x.kind != y.kind) = false := by simpa using hkk
  have hlen : N ≤ 9223372036854775807 := by rw [← hN]; exact Nat.le_trans hx.rd.hc hx.rd.hm
  have hlen' : M ≤ 9223372036854775807 := by rw [← hM]; exact Nat.le_trans hy.rd.hc hy.rd.hm
  unfold Ty.v
  rw [hN, hM]
  have HN := Lib.hid hN
  have HM := Lib.hid hM
  clear h hx hy e EQ hkx hky hkk hN hM
  go_enter Try.func50, Try.ntmps50
  go_upto_region 13 with (fail)
  generalize hW2 : ((W.alloc (.cells #[iv x.kind, iv x.var, .slice x.A N x.c] 24)).alloc (.cells #[iv y.kind, iv y.var, .slice y.A M y.c] 24)) = W2 at *
  clear hW2
  go_wp2
  go_loopw [8] (fun i U => ∃ k : Nat, i = .int .i64 k ∧ k ≤ N ∧ Hid (SGr b W2 U ∧ ∃ S1 L1, SMem b B V S1 L1 U ∧ (∀ i, i < V.length → S.b i = true → S1.b i = true ∧ L1[i]? = L[i]?) ∧ eqL g S1 (ers (x.sub.drop k)) (ers (y.sub.drop k)) = some (r, S'))) (fun i _ => N - (intOf i).toNat)
  case atStart => exact ⟨0, rfl, Nat.zero_le _, Lib.hid ⟨SGr.refl _ _, S, L, H.out.gr BB.out.gr, fun i _ hb => ⟨hb, rfl⟩, by rw [List.drop_zero, List.drop_zero]; exact E.out⟩⟩
  case round =>
    obtain ⟨k, rfl, hkn, HG⟩ := hrel
    have GU := Lib.hid HG.out.1
    obtain ⟨S1, L1, h1, x1, e1⟩ := HG.out.2
    have H1 := Lib.hid h1
    have X1 := Lib.hid x1
    have E1 := Lib.hid e1
    clear h1 x1 e1 HG p0 p1 p2 q0 q1 q2
    have p2 := GU.out.c (cell3 BB.out.h1).1.2.2 (show W.heap.size ≠ b.ub by omega) (show W.heap.size ≠ b.ib by omega) (show W.heap.size ≠ b.tb by omega)
    have q2 := GU.out.c (cell3 BB.out.h2).1.2.2 (show W.heap.size + 1 ≠ b.ub by omega) (show W.heap.size + 1 ≠ b.ib by omega) (show W.heap.size + 1 ≠ b.tb by omega)
    by_cases hlt : k < N
    · have hlt2 : k < x.sub.length := by rw [HN.out]; exact hlt
      have hlt3 : k < y.sub.length := by
        rcases Nat.lt_or_ge k y.sub.length with h | h
        · exact h
        · exfalso
          have h2 := E1.out
          rw [drop_get hlt2, ers_cons, List.drop_of_length_le h, ers_nil, eqL] at h2
          cases h2
      have hlM : k < M := by rw [← HM.out]; exact hlt3
      have XU := Lib.hid ((HX.out.gr BB.out.gr).sg GU.out LO.out)
      have YU := Lib.hid ((HY.out.gr BB.out.gr).sg GU.out LO.out)
      obtain ⟨a, a1, hA, ha, hab, u0, u1, u2, -⟩ := XU.out.rd.at hlt2
      obtain ⟨c, c1, hC, hc, hcb, v0, v1, v2, -⟩ := YU.out.rd.at hlt3
      have haB : a1.block < B := by rw [← ha, show (a.add (k * 3)).block = a.block from by unfold Addr.add; split <;> rfl]; exact XU.out.tin.h a hA (by intro e; rw [e] at hlt2; exact absurd hlt2 (Nat.not_lt_zero _))
      have hcB : c1.block < B := by rw [← hc, show (c.add (k * 3)).block = c.block from by unfold Addr.add; split <;> rfl]; exact YU.out.tin.h c hC (by intro e; rw [e] at hlt3; exact absurd hlt3 (Nat.not_lt_zero _))
      have E2 := Lib.hid (show (match g S1 (x.sub[k]).er (y.sub[k]).er with | some (true, S2) => eqL g S2 (ers (x.sub.drop (k + 1))) (ers (y.sub.drop (k + 1))) | some (false, S2) => some (false, S2) | none => none) = some (r, S') from by
        have h := E1.out
        rw [drop_get hlt2, drop_get hlt3, ers_cons, ers_cons, eqL] at h
        exact h)
      have XS := Lib.hid (XU.out.sub (List.getElem_mem hlt2))
      have YS := Lib.hid (YU.out.sub (List.getElem_mem hlt3))
      rw [hA] at p2
      rw [hC] at q2
      clear hA hC E1
      generalize x.sub[k] = xk at *
      generalize y.sub[k] = yk at *
      obtain ⟨o1, o2, o3⟩ := LO.out
      cases hq : g S1 xk.er yk.er with
      | none => have h := E2.out; rw [hq] at h; cases h
      | some p =>
        obtain ⟨r1, S2⟩ := p
        have CE := Lib.hid (fun U (gg : Gr wr U) => EE.out S1 L1 U xk yk r1 S2 (H1.out.gr gg) (XS.out.gr gg) (YS.out.gr gg) hq)
        unfold Ty.v at CE
        rw [hq] at E2
        clear hq
        have KG := Lib.hid (fun U (gg : SGr b wr U) => (⟨gg.c p2 (show W.heap.size ≠ b.ub by omega) (show W.heap.size ≠ b.ib by omega) (show W.heap.size ≠ b.tb by omega), gg.c q2 (show W.heap.size + 1 ≠ b.ub by omega) (show W.heap.size + 1 ≠ b.ib by omega) (show W.heap.size + 1 ≠ b.tb by omega),
          ⟨gg.c u0 (by omega) (by omega) (by omega), gg.c u1 (show a1.block ≠ b.ub by omega) (show a1.block ≠ b.ib by omega) (show a1.block ≠ b.tb by omega), gg.c u2 (show a1.block ≠ b.ub by omega) (show a1.block ≠ b.ib by omega) (show a1.block ≠ b.tb by omega)⟩,
          gg.c v0 (by omega) (by omega) (by omega), gg.c v1 (show c1.block ≠ b.ub by omega) (show c1.block ≠ b.ib by omega) (show c1.block ≠ b.tb by omega), gg.c v2 (show c1.block ≠ b.ub by omega) (show c1.block ≠ b.ib by omega) (show c1.block ≠ b.tb by omega)⟩ : U.cell? ⟨W.heap.size, 2, none⟩ = some (.slice (some a) N x.c) ∧ U.cell? ⟨W.heap.size + 1, 2, none⟩ = some (.slice (some c) M y.c) ∧ (U.cell? a1 = some (iv xk.kind) ∧ U.cell? ⟨a1.block, a1.off + 1, none⟩ = some (iv xk.var) ∧ U.cell? ⟨a1.block, a1.off + 2, none⟩ = some (.slice xk.A xk.sub.length xk.c)) ∧ (U.cell? c1 = some (iv yk.kind) ∧ U.cell? ⟨c1.block, c1.off + 1, none⟩ = some (iv yk.var) ∧ U.cell? ⟨c1.block, c1.off + 2, none⟩ = some (.slice yk.A yk.sub.length yk.c))))
        have KD := Lib.hid (fun U (gg : Gr wr U) => KG.out U (.gr gg))
        cases r1 with
        | true =>
          go_upto_region 16 with (fail)
          clear p2 q2 u0 u1 u2 v0 v1 v2
          go_region_held3 (fun U => U.cell? ⟨W.heap.size, 2, none⟩ = some (.slice (some a) N x.c) ∧ U.cell? ⟨W.heap.size + 1, 2, none⟩ = some (.slice (some c) M y.c) ∧ (U.cell? a1 = some (iv xk.kind) ∧ U.cell? ⟨a1.block, a1.off + 1, none⟩ = some (iv xk.var) ∧ U.cell? ⟨a1.block, a1.off + 2, none⟩ = some (.slice xk.A xk.sub.length xk.c)) ∧ (U.cell? c1 = some (iv yk.kind) ∧ U.cell? ⟨c1.block, c1.off + 1, none⟩ = some (iv yk.var) ∧ U.cell? ⟨c1.block, c1.off + 2, none⟩ = some (.slice yk.A yk.sub.length yk.c))) (first | with_reducible exact KG.out _ G4.out | with_reducible exact KD.out _ (gr_drew _) | with_reducible exact KD.out _ (gr_refl _) | go_keep) (first | (go_at_call 50; (with_reducible refine (CE.out _ (gr_drew _)).mono ?_); rintro e z2 ⟨rfl, L3, h3, g3, x3⟩; have H4 := Lib.hid h3; have G4 := Lib.hid ((SGr.gr (gr_drew _)).trans g3); have X4 := Lib.hid x3; clear h3 g3 x3))
          go_wp2
          exact ⟨⟨k + 1, by simp, by omega, Lib.hid ⟨GU.out.trans G4.out, S2, L3, H4.out, fun i hi hb => ⟨(X4.out i hi (X1.out i hi hb).1).1, ((X4.out i hi (X1.out i hi hb).1).2).trans (X1.out i hi hb).2⟩, E2.out⟩⟩, by simp [intOf]; omega⟩
        | false =>
          obtain ⟨rfl, rfl⟩ : r = false ∧ S' = S2 := by have := E2.out; simp only [Option.some.injEq, Prod.mk.injEq] at this; exact ⟨this.1.symm, this.2.symm⟩
          go_upto_region 16 with (fail)
          clear p2 q2 u0 u1 u2 v0 v1 v2
          go_region_held3 (fun U => U.cell? ⟨W.heap.size, 2, none⟩ = some (.slice (some a) N x.c) ∧ U.cell? ⟨W.heap.size + 1, 2, none⟩ = some (.slice (some c) M y.c) ∧ (U.cell? a1 = some (iv xk.kind) ∧ U.cell? ⟨a1.block, a1.off + 1, none⟩ = some (iv xk.var) ∧ U.cell? ⟨a1.block, a1.off + 2, none⟩ = some (.slice xk.A xk.sub.length xk.c)) ∧ (U.cell? c1 = some (iv yk.kind) ∧ U.cell? ⟨c1.block, c1.off + 1, none⟩ = some (iv yk.var) ∧ U.cell? ⟨c1.block, c1.off + 2, none⟩ = some (.slice yk.A yk.sub.length yk.c))) (first | with_reducible exact KG.out _ G4.out | with_reducible exact KD.out _ (gr_drew _) | with_reducible exact KD.out _ (gr_refl _) | go_keep) (first | (go_at_call 50; (with_reducible refine (CE.out _ (gr_drew _)).mono ?_); rintro e z2 ⟨rfl, L3, h3, g3, x3⟩; have H4 := Lib.hid h3; have G4 := Lib.hid ((SGr.gr (gr_drew _)).trans g3); have X4 := Lib.hid x3; clear h3 g3 x3))
          go_wp2
          go_ret
          exact ⟨rfl, L3, H4.out, (SGr.gr BB.out.gr).trans (GU.out.trans G4.out), fun i hi hb => ⟨(X4.out i hi (X1.out i hi hb).1).1, ((X4.out i hi (X1.out i hi hb).1).2).trans (X1.out i hi hb).2⟩⟩
    · obtain rfl : N = k := by omega
      have h := E1.out
      rw [List.drop_of_length_le (by rw [HN.out]; exact Nat.le_refl _), ers_nil, eqL] at h
      obtain ⟨rfl, rfl⟩ : r = true ∧ S' = S1 := by simp only [Option.some.injEq, Prod.mk.injEq] at h; exact ⟨h.1.symm, h.2.symm⟩
      clear h E1
      go_wp2
      go_ret
      exact ⟨rfl, L1, H1.out, (SGr.gr BB.out.gr).trans GU.out, X1.out⟩
theorem eqs_any (b : SB) (B : Nat) (V : List Int) : ∀ f, EQH b B V (eqP V f)
  | 0 => by intro S L W x y r S' h hx hy e; cases e
  | f + 1 => by
    have IH := eqs_any b B V f
    intro S L W x y r S' h hx hy e
    rw [eqP] at e
    have hvar : ∀ {z : Ty}, TG B V z W → z.kind = 5 → z.er.var = z.var ∧ z.var ∈ V ∧ z.v = .agg #[iv 5, iv z.var, .slice z.A z.sub.length z.c] := by
      intro z hz hk
      obtain ⟨K, v, A, cc, s⟩ := z
      have hgv := hz.gv
      simp only [Ty.kind] at hk
      subst hk
      rw [Ty.er] at hgv ⊢
      have hs := good_var hgv.c rfl
      simp only [PT.var] at hs
      exact ⟨rfl, hgv.v v (by rw [hs]; exact vin_vr.2 rfl), rfl⟩
    rw [er_kind, er_kind] at e
    by_cases h1 : x.kind = 5 ∧ y.kind = 5
    · rw [if_pos h1] at e
      obtain ⟨a1, a2, a3⟩ := hvar hx h1.1
      obtain ⟨b1, b2, b3⟩ := hvar hy h1.2
      rw [a1, b1] at e
      rw [a3, b3]
      exact equal_vv b B V S L W h _ _ a2 b2 _ _ _ (jj_any IH) r S' e
    · rw [if_neg h1] at e
      by_cases h2 : y.kind = 5
      · rw [if_pos h2] at e
        have hkx : x.kind ≠ 5 := fun h3 => h1 ⟨h3, h2⟩
        obtain ⟨b1, b2, b3⟩ := hvar hy h2
        rw [b1] at e
        unfold evP at e
        rw [b3]
        by_cases h3 : S.b (cls V S y.var) = true
        · rw [if_pos h3] at e
          exact equal_vbs b B V S L W h _ b2 _ _ _ x hx hkx _ IH r S' h3 e
        · rw [if_neg h3] at e
          cases e
          exact equal_vfs b B V S L W h _ b2 _ _ _ x hx hkx (by simpa using h3)
      · rw [if_neg h2] at e
        by_cases h4 : x.kind = 5
        · rw [if_pos h4] at e
          obtain ⟨b1, b2, b3⟩ := hvar hx h4
          rw [b1] at e
          unfold evP at e
          rw [b3]
          by_cases h3 : S.b (cls V S x.var) = true
          · rw [if_pos h3] at e
            exact equal_vb b B V S L W h _ b2 _ _ _ y hy h2 _ IH r S' h3 e
          · rw [if_neg h3] at e
            cases e
            exact equal_vf b B V S L W h _ b2 _ _ _ y hy h2 (by simpa using h3)
        · rw [if_neg h4] at e
          by_cases h5 : x.kind ≠ y.kind
          · rw [if_pos h5] at e
            cases e
            exact equal_ne b B V S L W h x y h4 h2 h5
          · rw [if_neg h5] at e
            rw [er_sub, er_sub] at e
            exact equal_sub b B V S L W h x y hx hy h4 h2 (by simpa using h5) _ IH r S' e
end Go.Proofs.Ytjlmhfdigoogfaa

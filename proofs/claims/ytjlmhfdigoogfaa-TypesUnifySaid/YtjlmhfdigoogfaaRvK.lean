/- Walks: full (51). -/
import Derived.Test.YtjlmhfdigoogfaaRvJ
namespace Go.Proofs.Ytjlmhfdigoogfaa
open Go.RowKit

theorem flL_le {g : PT → Nat → Option (PT × Nat)} (hg : ∀ t L y k, g t L = some (y, k) → 1 ≤ k ∧ k ≤ L + 1) {L : Nat} : ∀ (l : List PT) (n : Nat) (acc : List PT) (r : List PT) (k : Nat), n ≤ L + 1 → flL g L l n acc = some (r, k) → n ≤ k ∧ k ≤ L + 1
  | [], n, acc, r, k, hn, e => by
    rw [flL] at e
    cases e
    exact ⟨Nat.le_refl _, hn⟩
  | x :: l, n, acc, r, k, hn, e => by
    rw [flL] at e
    split at e
    · rename_i h1
      cases hq : g x (L - n) with
      | none => rw [hq] at e; cases e
      | some p =>
        rw [hq] at e
        have h2 := hg _ _ _ _ hq
        have h3 := flL_le hg l _ _ r k (by omega) e
        exact ⟨by omega, h3.2⟩
    · cases e
      exact ⟨Nat.le_refl _, hn⟩
theorem flP_le {V : List Int} {S : SS} : ∀ (f : Nat) (t : PT) (L : Nat) (y : PT) (k : Nat), flP V S f t L = some (y, k) → 1 ≤ k ∧ k ≤ L + 1
  | 0, _, _, _, _, e => by cases e
  | f + 1, t, L, y, k, e => by
    rw [flP] at e
    split at e
    · split at e
      · exact flP_le f _ _ _ _ e
      · cases e
        exact ⟨Nat.le_refl _, by omega⟩
    · cases hq : flL (flP V S f) L t.sub 1 [] with
      | none => rw [hq] at e; cases e
      | some p =>
        rw [hq] at e
        cases e
        exact flL_le (fun t L y k => flP_le f t L y k) _ _ _ _ _ (by omega) hq
attribute [local irreducible] Calls in
set_option maxRecDepth 100000 in
set_option maxHeartbeats 4000000 in
theorem full_sub (b : SB) (B : Nat) (V : List Int) (S : SS) (L : List Ty) (W : World) (h : SMem b B V S L W) (x : Ty) (hx : TG B V x W) (hk : x.kind ≠ 5) (l : Nat) (hl : l ≤ 200) (g : PT → Nat → Option (PT × Nat)) (hg : ∀ t L y k, g t L = some (y, k) → 1 ≤ k ∧ k ≤ L + 1) (FU : FUH b B V S L g) (rs : List PT) (kk : Nat) (e : flL g l (ers x.sub) 1 [] = some (rs, kk)) :
    Calls Try.prog 51 #[.pointer (some ⟨b.sp, 0, none⟩), x.v, iv l] W (FuR B (.mk x.kind 0 rs) kk W) := by
  obtain ⟨K, hK⟩ : ∃ K, x.kind = K := ⟨_, rfl⟩
  have HK := Lib.hid hK
  have I00 : FI B x K [] W 0 (.slice none 0 0) (((W.alloc (.cells #[iv K, iv x.var, .slice x.A x.sub.length x.c] 24)).alloc (.cells #[iv 0, iv 0, .slice none 0 0] 24)).alloc (.cells #[iv K, iv 0, .slice none 0 0] 24)) := by
    refine ⟨((gr_al _ _).trans (gr_al _ _)).trans (gr_al _ _), ?_, ?_, ?_, [], OR.nil, rfl, by simp⟩
    · exact ((Below.heap_alloc _ _ _ (by simp; omega)).trans (Below.heap_alloc _ _ _ (by simp))).trans (al_new W _)
    · exact (Below.heap_alloc _ _ _ (by simp)).trans (al_at _ _ (by simp))
    · exact al_at _ _ (by simp)
  have I0 := Lib.hid I00
  have BX := Lib.hid (b2_z K x.var (.slice x.A x.sub.length x.c) W)
  obtain ⟨⟨b0, b1, b2⟩, -⟩ := cell3 BX.out.h1
  have hlo := h.low
  have hul := h.ul
  have HX := Lib.hid hx
  have H := Lib.hid h
  have FF := Lib.hid FU
  have E := Lib.hid e
  have HG := Lib.hid hg
  have hk' : (K == 5) = false := by rw [← hK]; simpa using hk
  have hlen : x.sub.length ≤ 9223372036854775807 := Nat.le_trans hx.rd.hc hx.rd.hm
  unfold Ty.v
  rw [hK]
  clear h hx e FU hk hg I00 hK
  go_enter Try.func51, Try.ntmps51
  go_wp2
  go_loopw [10, 11] (fun n i U => ∃ (m k : Nat) (A : Option Addr) (c : Nat), n = .int .i64 m ∧ i = .int .i64 k ∧ k + 1 ≤ m ∧ m ≤ l + 1 ∧ k ≤ x.sub.length ∧ Hid (∃ acc, acc.length = k ∧ FI B x K acc W k (.slice A k c) U ∧ flL g l (ers (x.sub.drop k)) m acc = some (rs, kk))) (fun _ i _ => x.sub.length - (intOf i).toNat)
  case atStart => exact ⟨1, 0, none, 0, rfl, rfl, Nat.le_refl _, by omega, Nat.zero_le _, Lib.hid ⟨[], rfl, I0.out, by rw [List.drop_zero]; exact E.out⟩⟩
  case round =>
    clear I0 BX b0 b1 b2
    obtain ⟨m, k, A, c, rfl, rfl, hkm, hml, hkN, HR⟩ := hrel
    obtain ⟨acc, hacc, hfi, hfl⟩ := HR.out
    have HI := Lib.hid hfi
    have HF := Lib.hid hfl
    have HAC := Lib.hid hacc
    obtain ⟨⟨b0, b1, b2⟩, -⟩ := cell3 hfi.t2
    obtain ⟨⟨c0, c1, c2⟩, cf⟩ := cell3 hfi.t4
    obtain ⟨⟨d0, d1, d2⟩, fz⟩ := cell3 hfi.t5
    have z2 := fz 2
    clear fz HR hfi hfl hacc
    have DONE := Lib.hid (fun (hrs : rs = acc) (V' : World) (hV : V'.heap.size = wr.heap.size) (st : ∀ j, j ≠ W.heap.size + 1 → V'.heap[j]? = wr.heap[j]?) => show TyR (fun k => W.heap.size ≤ k) (.mk K 0 rs) V' (.agg #[iv K, iv 0, .slice A k c]) from by
      obtain ⟨L1, ho, hE, hL⟩ := HI.out.ex
      rw [hrs]
      exact fi_end HI.out (by omega) ho hE hL (by rw [← HAC.out, ← hE, ers_map, List.length_map]) V' hV st)
    by_cases hlt : k < x.sub.length
    · by_cases hle : m ≤ l
      · have hlt2 := hlt
        have XU := Lib.hid (HX.out.gr HI.out.gr)
        obtain ⟨a, a1, hA, ha, hab, u0, u1, u2, -⟩ := XU.out.rd.at hlt2
        have XS := Lib.hid (XU.out.sub (List.getElem_mem hlt2))
        have E2 := Lib.hid (show (match g (x.sub[k]).er (l - m) with | some (y, k') => flL g l (ers (x.sub.drop (k + 1))) (m + k') (acc ++ [y]) | none => none) = some (rs, kk) from by
          have h := HF.out
          rw [drop_get hlt2, ers_cons, flL, if_pos hle] at h
          exact h)
        have HA := Lib.hid hA
        rw [hA] at b2
        clear hA
        generalize x.sub[k] = y at *
        cases hq : g y.er (l - m) with
        | none => have h := E2.out; rw [hq] at h; cases h
        | some p =>
          obtain ⟨r1, k1⟩ := p
          obtain ⟨hk1, hk2⟩ := HG.out _ _ _ _ hq
          rw [hq] at E2
          obtain ⟨d, hd⟩ : ∃ d : Nat, l - m = d := ⟨_, rfl⟩
          have hdi : ((l : Int) - (m : Int)) = (d : Int) := by omega
          have CL := Lib.hid (FF.out wr y d r1 k1 (H.out.gr HI.out.gr) XS.out (by omega) (by rw [← hd]; exact hq))
          unfold Ty.v at CL
          obtain ⟨L1, ho, hE, hL⟩ := HI.out.ex
          have hk3 : L1.length = k := by rw [← HAC.out, ← hE, ers_map, List.length_map]
          have HO := Lib.hid (fun V (g : Gr wr V) => ho.gr g)
          have HL := Lib.hid hL
          have HE := Lib.hid hE
          have HK3 := Lib.hid hk3
          have hks : k ≤ 200 := by omega
          have hm1 : d + 1 = l + 1 - m := by omega
          have HB := Lib.hid (show ∀ V : World, Gr wr V → ∀ j, (Value.slice A k c).ownBlock = some j → W.heap.size + 3 ≤ j from fun V g j hj => ((HO.out V g).lt j hj).1)
          have hws := heap_lt HI.out.t5
          clear ho hL hE hk3 hq hd
          go_wp2_with (first | (go_at_call 51; (with_reducible refine CL.out.mono ?_); rintro e w6 ⟨⟨q, rfl, qr, qi, qe⟩, g6⟩; have G6 := Lib.hid (g6.trans (gr_al w6 (.cells #[.int .i64 q.kind, .int .i64 q.var, .slice q.A q.sub.length q.c] 24))); have T6 := Lib.hid (And.intro (TRd.gr qr (gr_al w6 (.cells #[.int .i64 q.kind, .int .i64 q.var, .slice q.A q.sub.length q.c] 24))) (And.intro qi qe)); obtain ⟨⟨k0, k1', k2⟩, -⟩ := cell3 (gr_h G6.out HI.out.t5); obtain ⟨⟨n0, n1, n2⟩, -⟩ := cell3 (al_new w6 (.cells #[.int .i64 q.kind, .int .i64 q.var, .slice q.A q.sub.length q.c] 24)); have SZ := Lib.hid (show W.heap.size + 3 ≤ w6.heap.size from by have := g6.size; omega); clear qr qi qe g6) | (at_builtin; (refine wpList_appTP _ rfl (.tmp 77) (.tmp 79) rfl (W.heap.size + 3) rfl (HO.out _ (G6.out.trans (gr_al _ _))) (M := [q]) rfl rfl (rd_cells (t := 24) Ty.cs_len (al_at _ _ (by simp))) (by simp) (by have := HK3.out; simp; omega) (by have := SZ.out; simp; omega) ?_; intro v7 w7 o7 g7 b7; obtain ⟨A7, c7, rfl, -⟩ := o7.form Ty.cs_len; have l7 : (L1 ++ [q]).length = k + 1 := (by simp [HK3.out]); rw [l7] at o7 b7 ⊢; have O7 := Lib.hid o7; have G7 := Lib.hid g7; have B7 := Lib.hid b7; have K7 := Lib.hid (show w7.heap[W.heap.size + 2]? = some (.cells #[iv K, iv 0, .slice A k c] 24 (0, 0)) from (g7.block _ (by have := SZ.out; simp; omega) (fun e => by have := HB.out _ (gr_refl _) _ e.symm; omega)).trans (gr_h (gr_al _ _) (gr_h G6.out HI.out.t5))); obtain ⟨⟨m0, m1, m2⟩, fz7⟩ := cell3 K7.out; have z7 := fz7 2; clear fz7 o7 g7 b7 l7)))
          refine ⟨⟨m + k1, k + 1, A7, c7, by simp, by simp, by omega, by omega, hlt, Lib.hid ⟨acc ++ [r1], by simp [HAC.out], ?_, E2.out⟩⟩, by simp [intOf]; omega⟩
          rw [← T6.out.2.2]
          exact fi_step HI.out (by omega) HE.out HL.out (HO.out _ (gr_refl _)) (Nat.le_refl _) G6.out T6.out.1 T6.out.2.1 O7.out G7.out B7.out
      · have hrs : rs = acc ∧ kk = m := by
          have h := HF.out
          rw [drop_get hlt, ers_cons, flL, if_neg hle] at h
          simp only [Option.some.injEq, Prod.mk.injEq] at h
          exact ⟨h.1.symm, h.2.symm⟩
        obtain ⟨hrs, rfl⟩ := hrs
        have HRS := Lib.hid hrs
        clear hrs
        have y0 := cf 0
        have y1 := cf 1
        have y2 := cf 2
        clear cf
        go_wp2
        refine bodyPost_ret (results_rt (P := Try.prog) rfl _ _ (W.heap.size + 1) _ _ _ _ rfl rfl (set3 (a' := iv K) (b' := iv 0) (c' := .slice A k c) HI.out.t4) rfl rfl rfl) rfl ⟨?_, ?_⟩
        · obtain ⟨q, hq, qr, qi, qe⟩ := DONE.out HRS.out (((wr.setCell ⟨W.heap.size + 1, 0, none⟩ (iv K)).setCell ⟨W.heap.size + 1, 1, none⟩ (iv 0)).setCell ⟨W.heap.size + 1, 2, none⟩ (.slice A k c)) (by simp [World.setCell]) (fun j hj => (Below.heap_setCell _ _ _ _ hj).trans ((Below.heap_setCell _ _ _ _ hj).trans (Below.heap_setCell _ _ _ _ hj)))
          exact ⟨q, congrArg (fun z => Ending.returned (.tuple #[z, iv kk])) hq, qr, qi, qe⟩
        · exact gr_cell (gr_cell (gr_cell HI.out.gr (by omega) _) (by omega) _) (by omega) _
    · have hrs : rs = acc ∧ kk = m := by
        have h := HF.out
        rw [List.drop_of_length_le (by omega), ers_nil, flL] at h
        simp only [Option.some.injEq, Prod.mk.injEq] at h
        exact ⟨h.1.symm, h.2.symm⟩
      obtain ⟨hrs, rfl⟩ := hrs
      have HRS := Lib.hid hrs
      clear hrs
      have y0 := cf 0
      have y1 := cf 1
      have y2 := cf 2
      clear cf
      go_wp2
      refine bodyPost_ret (results_rt (P := Try.prog) rfl _ _ (W.heap.size + 1) _ _ _ _ rfl rfl (set3 (a' := iv K) (b' := iv 0) (c' := .slice A k c) HI.out.t4) rfl rfl rfl) rfl ⟨?_, ?_⟩
      · obtain ⟨q, hq, qr, qi, qe⟩ := DONE.out HRS.out (((wr.setCell ⟨W.heap.size + 1, 0, none⟩ (iv K)).setCell ⟨W.heap.size + 1, 1, none⟩ (iv 0)).setCell ⟨W.heap.size + 1, 2, none⟩ (.slice A k c)) (by simp [World.setCell]) (fun j hj => (Below.heap_setCell _ _ _ _ hj).trans ((Below.heap_setCell _ _ _ _ hj).trans (Below.heap_setCell _ _ _ _ hj)))
        exact ⟨q, congrArg (fun z => Ending.returned (.tuple #[z, iv kk])) hq, qr, qi, qe⟩
      · exact gr_cell (gr_cell (gr_cell HI.out.gr (by omega) _) (by omega) _) (by omega) _
theorem full_any (b : SB) (B : Nat) (V : List Int) (S : SS) (L : List Ty) : ∀ f, FUH b B V S L (flP V S f)
  | 0 => by intro W x l r k h hx hl e; cases e
  | f + 1 => by
    have IH := full_any b B V S L f
    intro W x l r k h hx hl e
    rw [flP, er_kind] at e
    by_cases hk : x.kind = 5
    · rw [if_pos hk] at e
      obtain ⟨K, v, A, cc, s⟩ := x
      have hgv := hx.gv
      simp only [Ty.kind] at hk
      subst hk
      rw [Ty.er] at hgv e
      have hs := good_var hgv.c rfl
      simp only [PT.var] at hs
      rw [show (PT.mk 5 v (ers s)).var = v from rfl] at e
      have hv : v ∈ V := hgv.v v (by rw [hs]; exact vin_vr.2 rfl)
      by_cases hb : S.b (cls V S v) = true
      · rw [if_pos hb] at e
        exact full_vb b B V S L W h v hv _ l hl hb _ IH r k e
      · rw [if_neg hb] at e
        cases e
        exact full_vf b B V S L W h v hv _ l (by simpa using hb)
    · rw [if_neg hk] at e
      cases hq : flL (flP V S f) l x.er.sub 1 [] with
      | none => rw [hq] at e; cases e
      | some p =>
        rw [hq] at e
        cases e
        rw [er_sub] at hq
        exact full_sub b B V S L W h x hx hk l hl _ (fun t L y k => flP_le f t L y k) IH _ _ hq
end Go.Proofs.Ytjlmhfdigoogfaa

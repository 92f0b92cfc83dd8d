/- The law TypesApply (5). -/
import Derived.Test.YtjlmhfdigoogfaaApF
import Derived.Test.YtjlmhfdigoogfaaLawC
namespace Go.Proofs.Ytjlmhfdigoogfaa
open Go.RowKit

theorem great_one (x : Ty) (V : World) (hx : x.Rd V) (k : Nat) (h : V.heap[k]? = some (.cells #[iv x.kind, iv x.var, .slice x.A x.sub.length x.c] 24 (0, 0))) : Calls Try.prog 12 #[.slice (some ⟨k, 0, none⟩) 1 1] V (fun e w' => e = .returned (.bool (grt x.er)) ∧ Gr V w') := by
  have h1 := great_any (some ⟨k, 0, none⟩) 1 [x] V (row1 h hx)
  simpa using h1
set_option maxRecDepth 100000 in
set_option maxHeartbeats 4000000 in
theorem law_apply_any (A : Option Addr) (c : Nat) (L : List As) (x : Ty) (w : World) (hL : ARd w A L) (hl : L.length ≤ 9223372036854775807) (hx : x.Rd w) : Calls Try.prog 5 #[.slice A L.length c, x.v] w fun e w' => e = .returned (.bool true) ∧ Gr w w' := by
  have AW := Lib.hid awake_any
  have GT := Lib.hid (fun V (g : Gr w V) => great_one x V (TRd.gr hx g))
  have LG := Lib.hid (fun V (g : Gr w V) => large_any A c L V (hL.gr g) hl)
  have HL1 := Lib.hid (show lrg (L.map As.er) = false → L.length ≤ 10 from by unfold lrg; simp)
  have CA := Lib.hid (fun V (g : Gr w V) (h : L.length ≤ 10) => apply_any A c L x V (hL.gr g) (by omega) (TRd.gr hx g))
  have CB := Lib.hid (fun V (g : Gr w V) (h : L.length ≤ 10) => rapply_any A c L x V (hL.gr g) (by omega) (TRd.gr hx g))
  have CS := Lib.hid (fun (p q : Ty) V (hp : p.Rd V) (hq : q.Rd V) (e : p.er = q.er) => show Calls Try.prog 25 #[.agg #[iv p.kind, iv p.var, .slice p.A p.sub.length p.c], .agg #[iv q.kind, iv q.var, .slice q.A q.sub.length q.c]] V (fun e w' => e = .returned (.bool true) ∧ Gr V w') from by
    have h := same_any p q V hp hq
    rw [(seq_iff _ _).2 e] at h
    exact h)
  obtain ⟨R, hR⟩ : ∃ R, apE (L.map As.er) x.er = R := ⟨_, rfl⟩
  simp only [hR] at CA CB
  obtain ⟨N, hN⟩ : ∃ N, L.length = N := ⟨_, rfl⟩
  simp only [hN] at LG HL1 CA CB ⊢
  have HB := Lib.hid (al_new w (.cells #[iv x.kind, iv x.var, .slice x.A x.sub.length x.c] 24))
  have GB := Lib.hid (gr_al w (.cells #[iv x.kind, iv x.var, .slice x.A x.sub.length x.c] 24))
  unfold Ty.v at *
  obtain ⟨g, hg⟩ : ∃ g, grt x.er = g := ⟨_, rfl⟩
  simp only [hg] at GT
  obtain ⟨l, hl2⟩ : ∃ l, lrg (L.map As.er) = l := ⟨_, rfl⟩
  simp only [hl2] at LG HL1
  clear hg hl2 hx hL hR hN hl
  cases g with
  | true =>
    go_enter Try.func5, Try.ntmps5
    go_wp2_with (first | (go_at_call 12; (with_reducible refine (GT.out _ ((gr_al _ _).trans (gr_al _ _)) _ (al_at _ _ (by simp))).mono ?_); rintro e w1 ⟨rfl, g1⟩; have G1 := Lib.hid ((GB.out.trans (gr_al _ _)).trans g1); clear g1) | (go_at_call 13; (with_reducible refine (AW.out _).mono ?_); rintro e w2 ⟨rfl, g2⟩; have G2 := Lib.hid (G1.out.trans g2); clear g2))
    go_ret
    exact ⟨rfl, G2.out⟩
  | false =>
    cases l with
    | true =>
      go_enter Try.func5, Try.ntmps5
      go_wp2_with (first | (go_at_call 12; (with_reducible refine (GT.out _ ((gr_al _ _).trans (gr_al _ _)) _ (al_at _ _ (by simp))).mono ?_); rintro e w1 ⟨rfl, g1⟩; have G1 := Lib.hid ((GB.out.trans (gr_al _ _)).trans g1); clear g1) | (go_at_call 22; (with_reducible refine (LG.out _ G1.out).mono ?_); rintro e w3 ⟨rfl, g3⟩; have G3 := Lib.hid (G1.out.trans g3); clear g3) | (go_at_call 13; (with_reducible refine (AW.out _).mono ?_); rintro e w2 ⟨rfl, g2⟩; have G2 := Lib.hid (G3.out.trans g2); clear g2))
      go_ret
      exact ⟨rfl, G2.out⟩
    | false =>
      have HN := Lib.hid (HL1.out rfl)
      clear HL1
      go_enter Try.func5, Try.ntmps5
      go_upto_region 3 with (first | (go_at_call 12; (with_reducible refine (GT.out _ ((gr_al _ _).trans (gr_al _ _)) _ (al_at _ _ (by simp))).mono ?_); rintro e w1 ⟨rfl, g1⟩; have G1 := Lib.hid ((gr_al _ _).trans g1); clear g1) | (go_at_call 22; (with_reducible refine (LG.out _ (GB.out.trans G1.out)).mono ?_); rintro e w3 ⟨rfl, g3⟩; have G3 := Lib.hid (G1.out.trans g3); obtain ⟨⟨b0, b1, b2⟩, -⟩ := cell3 (gr_h (G1.out.trans g3) HB.out); clear g3))
      go_upto_region 4 with (first | (go_at_call 23; (with_reducible refine (CA.out _ (GB.out.trans G3.out) HN.out).mono ?_); rintro e w4 ⟨p, rfl, hp, ep, g4⟩; have GA := Lib.hid (gr_al w4 (.cells #[iv p.kind, iv p.var, .slice p.A p.sub.length p.c] 24)); have HA := Lib.hid (al_new w4 (.cells #[iv p.kind, iv p.var, .slice p.A p.sub.length p.c] 24)); have HP := Lib.hid hp; have EP := Lib.hid ep; have G4 := Lib.hid (G3.out.trans (g4.trans (gr_al w4 (.cells #[iv p.kind, iv p.var, .slice p.A p.sub.length p.c] 24)))); clear hp ep g4))
      generalize hW5 : World.alloc w4 _ = W5 at *
      clear hW5 b0 b1 b2
      obtain ⟨k5, hk5⟩ : ∃ k, w4.heap.size = k := ⟨_, rfl⟩
      have HA := Lib.hid (show W5.heap[k5]? = some (.cells #[iv p.kind, iv p.var, .slice p.A p.sub.length p.c] 24 (0, 0)) from by rw [← hk5]; exact HA.out)
      rw [hk5]
      clear hk5
      obtain ⟨⟨b0, b1, b2⟩, -⟩ := cell3 (gr_h G4.out HB.out)
      go_upto_region 5 with (first | (go_at_call 24; (with_reducible refine (CB.out _ (GB.out.trans G4.out) HN.out).mono ?_); rintro e w6 ⟨q, rfl, hq, eq, g6⟩; have GC := Lib.hid (g6.trans (gr_al w6 (.cells #[iv q.kind, iv q.var, .slice q.A q.sub.length q.c] 24))); have HC := Lib.hid (al_new w6 (.cells #[iv q.kind, iv q.var, .slice q.A q.sub.length q.c] 24)); have HQ := Lib.hid (TRd.gr hq (gr_al w6 (.cells #[iv q.kind, iv q.var, .slice q.A q.sub.length q.c] 24))); have EQ := Lib.hid eq; clear hq eq g6))
      generalize hW7 : World.alloc w6 _ = W7 at *
      clear hW7 b0 b1 b2
      obtain ⟨k7, hk7⟩ : ∃ k, w6.heap.size = k := ⟨_, rfl⟩
      have HC := Lib.hid (show W7.heap[k7]? = some (.cells #[iv q.kind, iv q.var, .slice q.A q.sub.length q.c] 24 (0, 0)) from by rw [← hk7]; exact HC.out)
      rw [hk7]
      clear hk7
      obtain ⟨⟨c0, c1, c2⟩, -⟩ := cell3 (gr_h GC.out HA.out)
      obtain ⟨⟨d0, d1, d2⟩, -⟩ := cell3 HC.out
      go_wp2_with (first | (go_at_call 25; (with_reducible refine (CS.out p q _ (TRd.gr HP.out (GA.out.trans GC.out)) HQ.out (EP.out.trans EQ.out.symm)).mono ?_); rintro e w8 ⟨rfl, g8⟩; have G8 := Lib.hid ((G4.out.trans GC.out).trans g8); clear g8) | (go_at_call 13; (with_reducible refine (AW.out _).mono ?_); rintro e w9 ⟨rfl, g9⟩; have G9 := Lib.hid (G8.out.trans g9); clear g9))
      go_ret
      exact ⟨rfl, GB.out.trans G9.out⟩
end Go.Proofs.Ytjlmhfdigoogfaa

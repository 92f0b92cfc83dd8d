/- The law TypesInstances (9). -/
import Derived.Test.YtjlmhfdigoogfaaMoU
import Derived.Test.YtjlmhfdigoogfaaLawH
namespace Go.Proofs.Ytjlmhfdigoogfaa
open Go.RowKit

theorem row4 {V : World} {a b c d : Ty} {k : Nat} (h : V.heap[k]? = some (.cells #[iv a.kind, iv a.var, .slice a.A a.sub.length a.c, iv b.kind, iv b.var, .slice b.A b.sub.length b.c, iv c.kind, iv c.var, .slice c.A c.sub.length c.c, iv d.kind, iv d.var, .slice d.A d.sub.length d.c] 24 (0, 0))) (ha : a.Rd V) (hb : b.Rd V) (hc : c.Rd V) (hd : d.Rd V) : TRd V (some ⟨k, 0, none⟩) 4 [a, b, c, d] :=
  TRd.row h (by simp) (by omega) (by
    intro x hx
    simp only [List.mem_cons, List.not_mem_nil, or_false] at hx
    rcases hx with rfl | rfl | rfl | rfl
    · exact ha
    · exact hb
    · exact hc
    · exact hd)
theorem great_four (a b c d : Ty) (V : World) (ha : a.Rd V) (hb : b.Rd V) (hc : c.Rd V) (hd : d.Rd V) (k : Nat) (h : V.heap[k]? = some (.cells #[iv a.kind, iv a.var, .slice a.A a.sub.length a.c, iv b.kind, iv b.var, .slice b.A b.sub.length b.c, iv c.kind, iv c.var, .slice c.A c.sub.length c.c, iv d.kind, iv d.var, .slice d.A d.sub.length d.c] 24 (0, 0))) : Calls Try.prog 12 #[.slice (some ⟨k, 0, none⟩) 4 4] V (fun e w' => ∃ b, e = .returned (.bool b) ∧ Gr V w') := by
  have h1 := great_any (some ⟨k, 0, none⟩) 4 [a, b, c, d] V (row4 h ha hb hc hd)
  exact h1.mono fun e w' ⟨e1, g⟩ => ⟨_, e1, g⟩
/-- A scheme's value. -/
theorem trans_b {p q r : Sc} : ((!moreP p.vars p.ty.er q.vars q.ty.er || !moreP q.vars q.ty.er r.vars r.ty.er) || moreP p.vars p.ty.er r.vars r.ty.er) = true := by
  cases h1 : moreP p.vars p.ty.er q.vars q.ty.er with
  | false => rfl
  | true =>
    cases h2 : moreP q.vars q.ty.er r.vars r.ty.er with
    | false => rfl
    | true => simp [more_trans h1 h2]
/-- Twelve cells. -/
theorem cell12 {W : World} {k : Nat} {a b c d e f g h i j l m : Value} {t : TypeId} (h' : W.heap[k]? = some (.cells #[a, b, c, d, e, f, g, h, i, j, l, m] t (0, 0))) : W.cell? ⟨k, 0, none⟩ = some a ∧ W.cell? ⟨k, 1, none⟩ = some b ∧ W.cell? ⟨k, 2, none⟩ = some c ∧ W.cell? ⟨k, 3, none⟩ = some d ∧ W.cell? ⟨k, 4, none⟩ = some e ∧ W.cell? ⟨k, 5, none⟩ = some f ∧ W.cell? ⟨k, 6, none⟩ = some g ∧ W.cell? ⟨k, 7, none⟩ = some h ∧ W.cell? ⟨k, 8, none⟩ = some i ∧ W.cell? ⟨k, 9, none⟩ = some j ∧ W.cell? ⟨k, 10, none⟩ = some l ∧ W.cell? ⟨k, 11, none⟩ = some m := by
  refine ⟨?_, ?_, ?_, ?_, ?_, ?_, ?_, ?_, ?_, ?_, ?_, ?_⟩ <;> · rw [Lib.cell_of_heap h']; rfl
set_option maxRecDepth 100000 in
set_option maxHeartbeats 16000000 in
theorem law_instances_any (x : Ty) (A : Option Addr) (c : Nat) (L : List As) (p q r : Sc) (w : World) (hx : x.Rd w) (hL : ARd w A L) (hl : L.length ≤ 9223372036854775807) (hp : p.ty.Rd w) (hq : q.ty.Rd w) (hr : r.ty.Rd w) : Calls Try.prog 9 #[x.v, .slice A L.length c, .agg #[iv p.vars, iv p.ty.kind, iv p.ty.var, .slice p.ty.A p.ty.sub.length p.ty.c, iv q.vars, iv q.ty.kind, iv q.ty.var, .slice q.ty.A q.ty.sub.length q.ty.c, iv r.vars, iv r.ty.kind, iv r.ty.var, .slice r.ty.A r.ty.sub.length r.ty.c]] w fun e w' => e = .returned (.bool true) ∧ Gr w w' := by
  have TB := Lib.hid (trans_b (p := p) (q := q) (r := r))
  have M1 := Lib.hid (fun V (g : Gr w V) => more_any p q V (TRd.gr hp g) (TRd.gr hq g))
  have M2 := Lib.hid (fun V (g : Gr w V) => more_any q r V (TRd.gr hq g) (TRd.gr hr g))
  have M3 := Lib.hid (fun V (g : Gr w V) => more_any p r V (TRd.gr hp g) (TRd.gr hr g))
  have C12 := Lib.hid (fun V k (g : Gr w V) => great_four x p.ty q.ty r.ty V (TRd.gr hx g) (TRd.gr hp g) (TRd.gr hq g) (TRd.gr hr g) k)
  obtain ⟨pn, pt⟩ := p
  obtain ⟨qn, qt⟩ := q
  obtain ⟨rn, rt⟩ := r
  simp only [Sc.v] at M1 M2 M3 C12 TB ⊢
  obtain ⟨m1, hm1⟩ : ∃ m, moreP pn pt.er qn qt.er = m := ⟨_, rfl⟩
  obtain ⟨m2, hm2⟩ : ∃ m, moreP qn qt.er rn rt.er = m := ⟨_, rfl⟩
  obtain ⟨m3, hm3⟩ : ∃ m, moreP pn pt.er rn rt.er = m := ⟨_, rfl⟩
  simp only [hm1, hm2, hm3] at M1 M2 M3 TB
  clear hm1 hm2 hm3
  have AW := Lib.hid awake_any
  have C22 := Lib.hid (fun V (g : Gr w V) => large_any A c L V (hL.gr g) hl)
  have HL1 := Lib.hid (show lrg (L.map As.er) = false → L.length ≤ 10 from by unfold lrg; simp)
  have CA := Lib.hid (fun V (g : Gr w V) => show Calls Try.prog 27 #[.agg #[iv x.kind, iv x.var, .slice x.A x.sub.length x.c], .slice none 0 0] V (SEP V (clE [] x.er)) from close_any x none 0 [] V (TRd.gr hx g) RD.nil (by simp))
  have CP := Lib.hid (fun V (g : Gr w V) (h : L.length ≤ 10) => apply_two A c L x V (hL.gr g) (by omega) (TRd.gr hx g))
  have HX := Lib.hid (fun V (g : Gr w V) => TRd.gr hx g)
  have CI := Lib.hid (fun (m : Int) (a b : Ty) V (ha : a.Rd V) (hb : b.Rd V) (h : instP m a.er b.er = true) => show Calls Try.prog 32 #[.agg #[iv m, iv a.kind, iv a.var, .slice a.A a.sub.length a.c], .agg #[iv b.kind, iv b.var, .slice b.A b.sub.length b.c]] V (fun e w' => e = .returned (.bool true) ∧ Gr V w') from by
    have h1 := instance_any ⟨m, a⟩ b V ha hb
    rw [h] at h1
    exact h1)
  have CM := Lib.hid (fun (m : Int) (a : Ty) V (ha : a.Rd V) (h : moreP m a.er m a.er = true) => show Calls Try.prog 34 #[.agg #[iv m, iv a.kind, iv a.var, .slice a.A a.sub.length a.c], .agg #[iv m, iv a.kind, iv a.var, .slice a.A a.sub.length a.c]] V (fun e w' => e = .returned (.bool true) ∧ Gr V w') from by
    have h1 := more_any ⟨m, a⟩ ⟨m, a⟩ V ha ha
    rw [h] at h1
    exact h1)
  obtain ⟨R, hR⟩ : ∃ R, clE [] x.er = R := ⟨_, rfl⟩
  obtain ⟨S, hS⟩ : ∃ R, apE (L.map As.er) x.er = R := ⟨_, rfl⟩
  simp only [hR] at CA
  simp only [hS] at CP
  obtain ⟨⟨m0, t1⟩, e1⟩ := R
  obtain ⟨t2, e2⟩ := S
  have F1 := Lib.hid (show e1 = 0 → ck x.er = 0 ∧ m0 = clN x.er ∧ t1 = clT x.er from fun h => by
    rw [clE_nil] at hR
    split at hR
    · rename_i h1
      injection hR with h2 h3
      exact absurd (h3.trans h) h1
    · rename_i h1
      injection hR with h2 h3
      injection h2 with h4 h5
      exact ⟨Classical.not_not.1 h1, h4.symm, h5.symm⟩)
  have F2 := Lib.hid (show e2 = 0 → ck (x.er.rep (apf (L.map As.er))) = 0 ∧ t2 = x.er.rep (apf (L.map As.er)) from fun h => by
    have h1 := apE_ok (s := L.map As.er) (t := x.er) (by rw [hS]; exact h)
    rw [hS] at h1
    exact ⟨h1.2.2.1, h1.2.2.2⟩)
  obtain ⟨N, hN⟩ : ∃ N, L.length = N := ⟨_, rfl⟩
  simp only [hN] at C22 HL1 CP ⊢
  obtain ⟨l, hl2⟩ : ∃ l, lrg (L.map As.er) = l := ⟨_, rfl⟩
  simp only [hl2] at C22 HL1
  have GB := Lib.hid (show Gr w ((w.alloc (.cells #[iv x.kind, iv x.var, .slice x.A x.sub.length x.c] 24)).alloc (.cells #[iv pn, iv pt.kind, iv pt.var, .slice pt.A pt.sub.length pt.c, iv qn, iv qt.kind, iv qt.var, .slice qt.A qt.sub.length qt.c, iv rn, iv rt.kind, iv rt.var, .slice rt.A rt.sub.length rt.c] 55)) from (gr_al _ _).trans (gr_al _ _))
  have HB := Lib.hid (show ((w.alloc (.cells #[iv x.kind, iv x.var, .slice x.A x.sub.length x.c] 24)).alloc (.cells #[iv pn, iv pt.kind, iv pt.var, .slice pt.A pt.sub.length pt.c, iv qn, iv qt.kind, iv qt.var, .slice qt.A qt.sub.length qt.c, iv rn, iv rt.kind, iv rt.var, .slice rt.A rt.sub.length rt.c] 55)).heap[w.heap.size]? = some (.cells #[iv x.kind, iv x.var, .slice x.A x.sub.length x.c] 24 (0, 0)) from gr_h (gr_al _ _) (al_new _ _))
  have HC := Lib.hid (show ((w.alloc (.cells #[iv x.kind, iv x.var, .slice x.A x.sub.length x.c] 24)).alloc (.cells #[iv pn, iv pt.kind, iv pt.var, .slice pt.A pt.sub.length pt.c, iv qn, iv qt.kind, iv qt.var, .slice qt.A qt.sub.length qt.c, iv rn, iv rt.kind, iv rt.var, .slice rt.A rt.sub.length rt.c] 55)).heap[w.heap.size + 1]? = some (.cells #[iv pn, iv pt.kind, iv pt.var, .slice pt.A pt.sub.length pt.c, iv qn, iv qt.kind, iv qt.var, .slice qt.A qt.sub.length qt.c, iv rn, iv rt.kind, iv rt.var, .slice rt.A rt.sub.length rt.c] 55 (0, 0)) from al_at _ _ (by simp))
  unfold Ty.v at *
  clear hl2 hx hL hR hS hN hl hp hq hr
  go_enter Try.func9, Try.ntmps9
  go_upto_region 1 with (fail)
  generalize hW0 : World.alloc (World.alloc w _) _ = W0 at *
  clear hW0
  obtain ⟨b, hb⟩ : ∃ b, w.heap.size = b := ⟨_, rfl⟩
  have HB := Lib.hid (show W0.heap[b]? = some (.cells #[iv x.kind, iv x.var, .slice x.A x.sub.length x.c] 24 (0, 0)) from by rw [← hb]; exact HB.out)
  have HC := Lib.hid (show W0.heap[b + 1]? = some (.cells #[iv pn, iv pt.kind, iv pt.var, .slice pt.A pt.sub.length pt.c, iv qn, iv qt.kind, iv qt.var, .slice qt.A qt.sub.length qt.c, iv rn, iv rt.kind, iv rt.var, .slice rt.A rt.sub.length rt.c] 55 (0, 0)) from by rw [← hb]; exact HC.out)
  rw [hb]
  clear hb
  have KA := Lib.hid (fun V (g : Gr W0 V) => And.intro (cell3 (gr_h g HB.out)).1 (cell12 (gr_h g HC.out)))
  obtain ⟨⟨c0, c1, c2⟩, d0, d1, d2, d3, d4, d5, d6, d7, d8, d9, d10, d11⟩ := KA.out _ (gr_refl _)
  go_upto_region 3 with (first | (go_at_call 12; (with_reducible refine (C12.out _ _ (GB.out.trans (gr_al _ _)) (al_new _ _)).mono ?_); rintro e v1 ⟨gb, rfl, g1⟩; have G1 := Lib.hid ((gr_al _ _).trans g1); clear g1; cases gb) | (go_at_call 22; (with_reducible refine (C22.out _ (GB.out.trans G1.out)).mono ?_); rintro e v2 ⟨rfl, g2⟩; have G2 := Lib.hid (G1.out.trans g2); clear g2; cases l) | (go_at_call 13; (with_reducible refine (AW.out _).mono ?_); rintro e v3 ⟨rfl, g3⟩; first | (have G3 := Lib.hid (G2.out.trans g3); clear g3) | (have G3 := Lib.hid (G1.out.trans g3); clear g3)))
  rotate_left
  · go_ret
    exact ⟨rfl, GB.out.trans G3.out⟩
  · go_ret
    exact ⟨rfl, GB.out.trans G3.out⟩
  have HN := Lib.hid (HL1.out (by simp))
  clear c0 c1 c2 d0 d1 d2 d3 d4 d5 d6 d7 d8 d9 d10 d11 HL1 C12 C22
  obtain ⟨⟨c0, c1, c2⟩, d0, d1, d2, d3, d4, d5, d6, d7, d8, d9, d10, d11⟩ := KA.out _ G2.out
  go_upto_region 4 with (first | (go_at_call 27; (with_reducible refine (CA.out _ (GB.out.trans G2.out)).mono ?_); rintro e w4 ⟨u, rfl, hu, eu, g4⟩; have GU := Lib.hid (gr_al w4 (.cells #[iv m0, iv u.kind, iv u.var, .slice u.A u.sub.length u.c] 47)); have HU := Lib.hid (al_new w4 (.cells #[iv m0, iv u.kind, iv u.var, .slice u.A u.sub.length u.c] 47)); have RU := Lib.hid hu; have EU := Lib.hid eu; have G4 := Lib.hid (G2.out.trans (g4.trans (gr_al w4 (.cells #[iv m0, iv u.kind, iv u.var, .slice u.A u.sub.length u.c] 47)))); clear hu eu g4))
  generalize hW5 : World.alloc w4 _ = W5 at *
  clear hW5 c0 c1 c2 d0 d1 d2 d3 d4 d5 d6 d7 d8 d9 d10 d11
  obtain ⟨k5, hk5⟩ : ∃ k, w4.heap.size = k := ⟨_, rfl⟩
  have HU := Lib.hid (show W5.heap[k5]? = some (.cells #[iv m0, iv u.kind, iv u.var, .slice u.A u.sub.length u.c] 47 (0, 0)) from by rw [← hk5]; exact HU.out)
  rw [hk5]
  clear hk5
  obtain ⟨⟨c0, c1, c2⟩, d0, d1, d2, d3, d4, d5, d6, d7, d8, d9, d10, d11⟩ := KA.out _ G4.out
  go_upto_region 5 with (first | (go_at_call 23; (with_reducible refine (CP.out _ (GB.out.trans G4.out) HN.out).mono ?_); rintro e w6 ⟨a, rfl, ha, ea, g6⟩; have GA := Lib.hid (g6.trans (gr_al w6 (.cells #[iv a.kind, iv a.var, .slice a.A a.sub.length a.c] 24))); have HA := Lib.hid (al_new w6 (.cells #[iv a.kind, iv a.var, .slice a.A a.sub.length a.c] 24)); have RA := Lib.hid (TRd.gr ha (gr_al w6 (.cells #[iv a.kind, iv a.var, .slice a.A a.sub.length a.c] 24))); have EA := Lib.hid ea; clear ha ea g6))
  generalize hW7 : World.alloc w6 _ = W7 at *
  clear hW7 c0 c1 c2 d0 d1 d2 d3 d4 d5 d6 d7 d8 d9 d10 d11
  obtain ⟨k7, hk7⟩ : ∃ k, w6.heap.size = k := ⟨_, rfl⟩
  have HA := Lib.hid (show W7.heap[k7]? = some (.cells #[iv a.kind, iv a.var, .slice a.A a.sub.length a.c] 24 (0, 0)) from by rw [← hk7]; exact HA.out)
  rw [hk7]
  clear hk7
  have KB := Lib.hid (fun V (g : Gr W7 V) => (⟨(KA.out V ((G4.out.trans GA.out).trans g)).1, (KA.out V ((G4.out.trans GA.out).trans g)).2, cell4 (gr_h (GA.out.trans g) HU.out), (cell3 (gr_h g HA.out)).1⟩ : _ ∧ _ ∧ (V.cell? ⟨k5, 0, none⟩ = some (iv m0) ∧ V.cell? ⟨k5, 1, none⟩ = some (iv u.kind) ∧ V.cell? ⟨k5, 2, none⟩ = some (iv u.var) ∧ V.cell? ⟨k5, 3, none⟩ = some (.slice u.A u.sub.length u.c)) ∧ (V.cell? ⟨k7, 0, none⟩ = some (iv a.kind) ∧ V.cell? ⟨k7, 1, none⟩ = some (iv a.var) ∧ V.cell? ⟨k7, 2, none⟩ = some (.slice a.A a.sub.length a.c))))
  have GW := Lib.hid ((GB.out.trans G4.out).trans GA.out)
  have D32 := Lib.hid (fun (h : e1 = 0) V (g : Gr W7 V) => CI.out m0 u x V (TRd.gr RU.out ((GU.out.trans GA.out).trans g)) (HX.out V (GW.out.trans g)) (by
    obtain ⟨h1, h2, h3⟩ := F1.out h
    rw [EU.out]
    show instP m0 t1 x.er = true
    rw [h2, h3]
    exact clT_self h1))
  have D34 := Lib.hid (fun (h : e1 = 0) V (g : Gr W7 V) => CM.out m0 u V (TRd.gr RU.out ((GU.out.trans GA.out).trans g)) (by
    obtain ⟨h1, h2, h3⟩ := F1.out h
    rw [EU.out]
    show moreP m0 t1 m0 t1 = true
    rw [h2, h3]
    exact more_refl (clT_valid h1)))
  have D33 := Lib.hid (fun (h : e1 = 0) (h' : e2 = 0) V (g : Gr W7 V) => CI.out m0 u a V (TRd.gr RU.out ((GU.out.trans GA.out).trans g)) (TRd.gr RA.out g) (by
    obtain ⟨h1, h2, h3⟩ := F1.out h
    obtain ⟨h4, h5⟩ := F2.out h'
    rw [EU.out, EA.out]
    show instP m0 t1 t2 = true
    rw [h2, h3, h5]
    exact clT_inst h1 _ h4))
  have N1 := Lib.hid (fun V (g : Gr W7 V) => M1.out V (GW.out.trans g))
  have N2 := Lib.hid (fun V (g : Gr W7 V) => M2.out V (GW.out.trans g))
  have N3 := Lib.hid (fun V (g : Gr W7 V) => M3.out V (GW.out.trans g))
  have Z0 := Lib.hid (gr_refl W7)
  obtain ⟨⟨c0, c1, c2⟩, ⟨d0, d1, d2, d3, d4, d5, d6, d7, d8, d9, d10, d11⟩, ⟨f0, f1, f2, f3⟩, i0, i1, i2⟩ := KB.out _ (gr_refl _)
  clear CA CP CI CM M1 M2 M3 F1 F2 HN HX KA G2 G4 GA GB HU HA EU EA RU RA
  by_cases h1 : e1 = 0
  · subst h1
    have E32 := Lib.hid (D32.out rfl)
    have E34 := Lib.hid (D34.out rfl)
    by_cases h2 : e2 = 0
    · subst h2
      have E33 := Lib.hid (D33.out rfl rfl)
      go_upto_region 7 with (first | (go_at_call 32; (with_reducible refine (E32.out _ Z0.out).mono ?_); rintro e z1 ⟨rfl, g⟩; have Z1 := Lib.hid (Z0.out.trans g); clear g; clear c0 c1 c2 d0 d1 d2 d3 d4 d5 d6 d7 d8 d9 d10 d11 f0 f1 f2 f3 i0 i1 i2; obtain ⟨⟨c0, c1, c2⟩, ⟨d0, d1, d2, d3, d4, d5, d6, d7, d8, d9, d10, d11⟩, ⟨f0, f1, f2, f3⟩, i0, i1, i2⟩ := KB.out _ Z1.out) | (go_at_call 34; (with_reducible refine (E34.out _ Z1.out).mono ?_); rintro e z2 ⟨rfl, g⟩; have Z2 := Lib.hid (Z1.out.trans g); clear g; clear c0 c1 c2 d0 d1 d2 d3 d4 d5 d6 d7 d8 d9 d10 d11 f0 f1 f2 f3 i0 i1 i2; obtain ⟨⟨c0, c1, c2⟩, ⟨d0, d1, d2, d3, d4, d5, d6, d7, d8, d9, d10, d11⟩, ⟨f0, f1, f2, f3⟩, i0, i1, i2⟩ := KB.out _ Z2.out) | (go_at_call 32; (with_reducible refine (E33.out _ Z2.out).mono ?_); rintro e z3 ⟨rfl, g⟩; have Z3 := Lib.hid (Z2.out.trans g); clear g; clear c0 c1 c2 d0 d1 d2 d3 d4 d5 d6 d7 d8 d9 d10 d11 f0 f1 f2 f3 i0 i1 i2; obtain ⟨⟨c0, c1, c2⟩, ⟨d0, d1, d2, d3, d4, d5, d6, d7, d8, d9, d10, d11⟩, ⟨f0, f1, f2, f3⟩, i0, i1, i2⟩ := KB.out _ Z3.out))
      cases m1 with
      | false =>
        go_wp2_with (first | (go_at_call 34; (with_reducible refine (N1.out _ Z3.out).mono ?_); rintro e y1 ⟨rfl, g⟩; have Y1 := Lib.hid (Z3.out.trans g); clear g; clear c0 c1 c2 d0 d1 d2 d3 d4 d5 d6 d7 d8 d9 d10 d11 f0 f1 f2 f3 i0 i1 i2; obtain ⟨⟨c0, c1, c2⟩, ⟨d0, d1, d2, d3, d4, d5, d6, d7, d8, d9, d10, d11⟩, ⟨f0, f1, f2, f3⟩, i0, i1, i2⟩ := KB.out _ Y1.out) | (go_at_call 13; (with_reducible refine (AW.out _).mono ?_); rintro e y9 ⟨rfl, g⟩; have Y9 := Lib.hid (Y1.out.trans g); clear g))
        go_ret
        exact ⟨rfl, GW.out.trans Y9.out⟩
      | true =>
        cases m2 with
        | false =>
          go_wp2_with (first | (go_at_call 34; (with_reducible refine (N1.out _ Z3.out).mono ?_); rintro e y1 ⟨rfl, g⟩; have Y1 := Lib.hid (Z3.out.trans g); clear g; clear c0 c1 c2 d0 d1 d2 d3 d4 d5 d6 d7 d8 d9 d10 d11 f0 f1 f2 f3 i0 i1 i2; obtain ⟨⟨c0, c1, c2⟩, ⟨d0, d1, d2, d3, d4, d5, d6, d7, d8, d9, d10, d11⟩, ⟨f0, f1, f2, f3⟩, i0, i1, i2⟩ := KB.out _ Y1.out) | (go_at_call 34; (with_reducible refine (N2.out _ Y1.out).mono ?_); rintro e y2 ⟨rfl, g⟩; have Y2 := Lib.hid (Y1.out.trans g); clear g; clear c0 c1 c2 d0 d1 d2 d3 d4 d5 d6 d7 d8 d9 d10 d11 f0 f1 f2 f3 i0 i1 i2; obtain ⟨⟨c0, c1, c2⟩, ⟨d0, d1, d2, d3, d4, d5, d6, d7, d8, d9, d10, d11⟩, ⟨f0, f1, f2, f3⟩, i0, i1, i2⟩ := KB.out _ Y2.out) | (go_at_call 13; (with_reducible refine (AW.out _).mono ?_); rintro e y9 ⟨rfl, g⟩; have Y9 := Lib.hid (Y2.out.trans g); clear g))
          go_ret
          exact ⟨rfl, GW.out.trans Y9.out⟩
        | true =>
          obtain rfl : m3 = true := by simpa using TB.out
          go_wp2_with (first | (go_at_call 34; (with_reducible refine (N1.out _ Z3.out).mono ?_); rintro e y1 ⟨rfl, g⟩; have Y1 := Lib.hid (Z3.out.trans g); clear g; clear c0 c1 c2 d0 d1 d2 d3 d4 d5 d6 d7 d8 d9 d10 d11 f0 f1 f2 f3 i0 i1 i2; obtain ⟨⟨c0, c1, c2⟩, ⟨d0, d1, d2, d3, d4, d5, d6, d7, d8, d9, d10, d11⟩, ⟨f0, f1, f2, f3⟩, i0, i1, i2⟩ := KB.out _ Y1.out) | (go_at_call 34; (with_reducible refine (N2.out _ Y1.out).mono ?_); rintro e y2 ⟨rfl, g⟩; have Y2 := Lib.hid (Y1.out.trans g); clear g; clear c0 c1 c2 d0 d1 d2 d3 d4 d5 d6 d7 d8 d9 d10 d11 f0 f1 f2 f3 i0 i1 i2; obtain ⟨⟨c0, c1, c2⟩, ⟨d0, d1, d2, d3, d4, d5, d6, d7, d8, d9, d10, d11⟩, ⟨f0, f1, f2, f3⟩, i0, i1, i2⟩ := KB.out _ Y2.out) | (go_at_call 34; (with_reducible refine (N3.out _ Y2.out).mono ?_); rintro e y3 ⟨rfl, g⟩; have Y3 := Lib.hid (Y2.out.trans g); clear g; clear c0 c1 c2 d0 d1 d2 d3 d4 d5 d6 d7 d8 d9 d10 d11 f0 f1 f2 f3 i0 i1 i2; obtain ⟨⟨c0, c1, c2⟩, ⟨d0, d1, d2, d3, d4, d5, d6, d7, d8, d9, d10, d11⟩, ⟨f0, f1, f2, f3⟩, i0, i1, i2⟩ := KB.out _ Y3.out) | (go_at_call 13; (with_reducible refine (AW.out _).mono ?_); rintro e y9 ⟨rfl, g⟩; have Y9 := Lib.hid (Y3.out.trans g); clear g))
          go_ret
          exact ⟨rfl, GW.out.trans Y9.out⟩
    · have hb : (e2 == 0) = false := by simpa using h2
      go_upto_region 7 with (first | (go_at_call 32; (with_reducible refine (E32.out _ Z0.out).mono ?_); rintro e z1 ⟨rfl, g⟩; have Z1 := Lib.hid (Z0.out.trans g); clear g; clear c0 c1 c2 d0 d1 d2 d3 d4 d5 d6 d7 d8 d9 d10 d11 f0 f1 f2 f3 i0 i1 i2; obtain ⟨⟨c0, c1, c2⟩, ⟨d0, d1, d2, d3, d4, d5, d6, d7, d8, d9, d10, d11⟩, ⟨f0, f1, f2, f3⟩, i0, i1, i2⟩ := KB.out _ Z1.out) | (go_at_call 34; (with_reducible refine (E34.out _ Z1.out).mono ?_); rintro e z2 ⟨rfl, g⟩; have Z2 := Lib.hid (Z1.out.trans g); clear g; clear c0 c1 c2 d0 d1 d2 d3 d4 d5 d6 d7 d8 d9 d10 d11 f0 f1 f2 f3 i0 i1 i2; obtain ⟨⟨c0, c1, c2⟩, ⟨d0, d1, d2, d3, d4, d5, d6, d7, d8, d9, d10, d11⟩, ⟨f0, f1, f2, f3⟩, i0, i1, i2⟩ := KB.out _ Z2.out))
      cases m1 with
      | false =>
        go_wp2_with (first | (go_at_call 34; (with_reducible refine (N1.out _ Z2.out).mono ?_); rintro e y1 ⟨rfl, g⟩; have Y1 := Lib.hid (Z2.out.trans g); clear g; clear c0 c1 c2 d0 d1 d2 d3 d4 d5 d6 d7 d8 d9 d10 d11 f0 f1 f2 f3 i0 i1 i2; obtain ⟨⟨c0, c1, c2⟩, ⟨d0, d1, d2, d3, d4, d5, d6, d7, d8, d9, d10, d11⟩, ⟨f0, f1, f2, f3⟩, i0, i1, i2⟩ := KB.out _ Y1.out) | (go_at_call 13; (with_reducible refine (AW.out _).mono ?_); rintro e y9 ⟨rfl, g⟩; have Y9 := Lib.hid (Y1.out.trans g); clear g))
        go_ret
        exact ⟨rfl, GW.out.trans Y9.out⟩
      | true =>
        cases m2 with
        | false =>
          go_wp2_with (first | (go_at_call 34; (with_reducible refine (N1.out _ Z2.out).mono ?_); rintro e y1 ⟨rfl, g⟩; have Y1 := Lib.hid (Z2.out.trans g); clear g; clear c0 c1 c2 d0 d1 d2 d3 d4 d5 d6 d7 d8 d9 d10 d11 f0 f1 f2 f3 i0 i1 i2; obtain ⟨⟨c0, c1, c2⟩, ⟨d0, d1, d2, d3, d4, d5, d6, d7, d8, d9, d10, d11⟩, ⟨f0, f1, f2, f3⟩, i0, i1, i2⟩ := KB.out _ Y1.out) | (go_at_call 34; (with_reducible refine (N2.out _ Y1.out).mono ?_); rintro e y2 ⟨rfl, g⟩; have Y2 := Lib.hid (Y1.out.trans g); clear g; clear c0 c1 c2 d0 d1 d2 d3 d4 d5 d6 d7 d8 d9 d10 d11 f0 f1 f2 f3 i0 i1 i2; obtain ⟨⟨c0, c1, c2⟩, ⟨d0, d1, d2, d3, d4, d5, d6, d7, d8, d9, d10, d11⟩, ⟨f0, f1, f2, f3⟩, i0, i1, i2⟩ := KB.out _ Y2.out) | (go_at_call 13; (with_reducible refine (AW.out _).mono ?_); rintro e y9 ⟨rfl, g⟩; have Y9 := Lib.hid (Y2.out.trans g); clear g))
          go_ret
          exact ⟨rfl, GW.out.trans Y9.out⟩
        | true =>
          obtain rfl : m3 = true := by simpa using TB.out
          go_wp2_with (first | (go_at_call 34; (with_reducible refine (N1.out _ Z2.out).mono ?_); rintro e y1 ⟨rfl, g⟩; have Y1 := Lib.hid (Z2.out.trans g); clear g; clear c0 c1 c2 d0 d1 d2 d3 d4 d5 d6 d7 d8 d9 d10 d11 f0 f1 f2 f3 i0 i1 i2; obtain ⟨⟨c0, c1, c2⟩, ⟨d0, d1, d2, d3, d4, d5, d6, d7, d8, d9, d10, d11⟩, ⟨f0, f1, f2, f3⟩, i0, i1, i2⟩ := KB.out _ Y1.out) | (go_at_call 34; (with_reducible refine (N2.out _ Y1.out).mono ?_); rintro e y2 ⟨rfl, g⟩; have Y2 := Lib.hid (Y1.out.trans g); clear g; clear c0 c1 c2 d0 d1 d2 d3 d4 d5 d6 d7 d8 d9 d10 d11 f0 f1 f2 f3 i0 i1 i2; obtain ⟨⟨c0, c1, c2⟩, ⟨d0, d1, d2, d3, d4, d5, d6, d7, d8, d9, d10, d11⟩, ⟨f0, f1, f2, f3⟩, i0, i1, i2⟩ := KB.out _ Y2.out) | (go_at_call 34; (with_reducible refine (N3.out _ Y2.out).mono ?_); rintro e y3 ⟨rfl, g⟩; have Y3 := Lib.hid (Y2.out.trans g); clear g; clear c0 c1 c2 d0 d1 d2 d3 d4 d5 d6 d7 d8 d9 d10 d11 f0 f1 f2 f3 i0 i1 i2; obtain ⟨⟨c0, c1, c2⟩, ⟨d0, d1, d2, d3, d4, d5, d6, d7, d8, d9, d10, d11⟩, ⟨f0, f1, f2, f3⟩, i0, i1, i2⟩ := KB.out _ Y3.out) | (go_at_call 13; (with_reducible refine (AW.out _).mono ?_); rintro e y9 ⟨rfl, g⟩; have Y9 := Lib.hid (Y3.out.trans g); clear g))
          go_ret
          exact ⟨rfl, GW.out.trans Y9.out⟩
  · have hb : (e1 == 0) = false := by simpa using h1
    go_upto_region 7 with (fail)
    cases m1 with
    | false =>
      go_wp2_with (first | (go_at_call 34; (with_reducible refine (N1.out _ Z0.out).mono ?_); rintro e y1 ⟨rfl, g⟩; have Y1 := Lib.hid (Z0.out.trans g); clear g; clear c0 c1 c2 d0 d1 d2 d3 d4 d5 d6 d7 d8 d9 d10 d11 f0 f1 f2 f3 i0 i1 i2; obtain ⟨⟨c0, c1, c2⟩, ⟨d0, d1, d2, d3, d4, d5, d6, d7, d8, d9, d10, d11⟩, ⟨f0, f1, f2, f3⟩, i0, i1, i2⟩ := KB.out _ Y1.out) | (go_at_call 13; (with_reducible refine (AW.out _).mono ?_); rintro e y9 ⟨rfl, g⟩; have Y9 := Lib.hid (Y1.out.trans g); clear g))
      go_ret
      exact ⟨rfl, GW.out.trans Y9.out⟩
    | true =>
      cases m2 with
      | false =>
        go_wp2_with (first | (go_at_call 34; (with_reducible refine (N1.out _ Z0.out).mono ?_); rintro e y1 ⟨rfl, g⟩; have Y1 := Lib.hid (Z0.out.trans g); clear g; clear c0 c1 c2 d0 d1 d2 d3 d4 d5 d6 d7 d8 d9 d10 d11 f0 f1 f2 f3 i0 i1 i2; obtain ⟨⟨c0, c1, c2⟩, ⟨d0, d1, d2, d3, d4, d5, d6, d7, d8, d9, d10, d11⟩, ⟨f0, f1, f2, f3⟩, i0, i1, i2⟩ := KB.out _ Y1.out) | (go_at_call 34; (with_reducible refine (N2.out _ Y1.out).mono ?_); rintro e y2 ⟨rfl, g⟩; have Y2 := Lib.hid (Y1.out.trans g); clear g; clear c0 c1 c2 d0 d1 d2 d3 d4 d5 d6 d7 d8 d9 d10 d11 f0 f1 f2 f3 i0 i1 i2; obtain ⟨⟨c0, c1, c2⟩, ⟨d0, d1, d2, d3, d4, d5, d6, d7, d8, d9, d10, d11⟩, ⟨f0, f1, f2, f3⟩, i0, i1, i2⟩ := KB.out _ Y2.out) | (go_at_call 13; (with_reducible refine (AW.out _).mono ?_); rintro e y9 ⟨rfl, g⟩; have Y9 := Lib.hid (Y2.out.trans g); clear g))
        go_ret
        exact ⟨rfl, GW.out.trans Y9.out⟩
      | true =>
        obtain rfl : m3 = true := by simpa using TB.out
        go_wp2_with (first | (go_at_call 34; (with_reducible refine (N1.out _ Z0.out).mono ?_); rintro e y1 ⟨rfl, g⟩; have Y1 := Lib.hid (Z0.out.trans g); clear g; clear c0 c1 c2 d0 d1 d2 d3 d4 d5 d6 d7 d8 d9 d10 d11 f0 f1 f2 f3 i0 i1 i2; obtain ⟨⟨c0, c1, c2⟩, ⟨d0, d1, d2, d3, d4, d5, d6, d7, d8, d9, d10, d11⟩, ⟨f0, f1, f2, f3⟩, i0, i1, i2⟩ := KB.out _ Y1.out) | (go_at_call 34; (with_reducible refine (N2.out _ Y1.out).mono ?_); rintro e y2 ⟨rfl, g⟩; have Y2 := Lib.hid (Y1.out.trans g); clear g; clear c0 c1 c2 d0 d1 d2 d3 d4 d5 d6 d7 d8 d9 d10 d11 f0 f1 f2 f3 i0 i1 i2; obtain ⟨⟨c0, c1, c2⟩, ⟨d0, d1, d2, d3, d4, d5, d6, d7, d8, d9, d10, d11⟩, ⟨f0, f1, f2, f3⟩, i0, i1, i2⟩ := KB.out _ Y2.out) | (go_at_call 34; (with_reducible refine (N3.out _ Y2.out).mono ?_); rintro e y3 ⟨rfl, g⟩; have Y3 := Lib.hid (Y2.out.trans g); clear g; clear c0 c1 c2 d0 d1 d2 d3 d4 d5 d6 d7 d8 d9 d10 d11 f0 f1 f2 f3 i0 i1 i2; obtain ⟨⟨c0, c1, c2⟩, ⟨d0, d1, d2, d3, d4, d5, d6, d7, d8, d9, d10, d11⟩, ⟨f0, f1, f2, f3⟩, i0, i1, i2⟩ := KB.out _ Y3.out) | (go_at_call 13; (with_reducible refine (AW.out _).mono ?_); rintro e y9 ⟨rfl, g⟩; have Y9 := Lib.hid (Y3.out.trans g); clear g))
        go_ret
        exact ⟨rfl, GW.out.trans Y9.out⟩
end Go.Proofs.Ytjlmhfdigoogfaa

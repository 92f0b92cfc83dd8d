/- The law TypesCheck (4). -/
import Derived.Test.YtjlmhfdigoogfaaM5
namespace Go.Proofs.Ytjlmhfdigoogfaa
open Go.RowKit

theorem vrs_len (t : PT) : (vrs t).length ≤ t.size := by
  unfold vrs
  split
  · rw [ascd_len]; have := sn_len [] t; simpa using this
  · simp
/-- One type in a row. -/
theorem row1 {V : World} {x : Ty} {k : Nat} {t : TypeId} (h : V.heap[k]? = some (.cells #[iv x.kind, iv x.var, .slice x.A x.sub.length x.c] t (0, 0))) (hx : x.Rd V) : TRd V (some ⟨k, 0, none⟩) 1 [x] :=
  TRd.row (L := [x]) (t := t) (by simpa [Ty.cs] using h) (by simp) (by omega) (by simpa using hx)
set_option maxRecDepth 100000 in
set_option maxHeartbeats 4000000 in
theorem law_check_any (x : Ty) (w : World) (hx : x.Rd w) : Calls Try.prog 4 #[x.v] w fun e w' => e = .returned (.bool true) ∧ Gr w w' := by
  have AW := Lib.hid awake_any
  have GT := Lib.hid (fun V (g : Gr w V) (k : Nat) (h : V.heap[k]? = some (.cells #[iv x.kind, iv x.var, .slice x.A x.sub.length x.c] 24 (0, 0))) => show Calls Try.prog 12 #[.slice (some ⟨k, 0, none⟩) 1 1] V (fun e w' => e = .returned (.bool (grt x.er)) ∧ Gr V w') from by
    have h1 := great_any (some ⟨k, 0, none⟩) 1 [x] V (row1 h (TRd.gr hx g))
    simpa using h1)
  have C17 := Lib.hid (fun V (g : Gr w V) => check_any x V (TRd.gr hx g))
  have C18 := Lib.hid (fun V (g : Gr w V) => rCheck_any x V (TRd.gr hx g))
  have C20 := Lib.hid (fun V (g : Gr w V) => vars_any x V (TRd.gr hx g))
  have C21 := Lib.hid (fun V (g : Gr w V) => rvars_any x V (TRd.gr hx g))
  have HB := Lib.hid (al_new w (.cells #[iv x.kind, iv x.var, .slice x.A x.sub.length x.c] 24))
  have GB := Lib.hid (gr_al w (.cells #[iv x.kind, iv x.var, .slice x.A x.sub.length x.c] 24))
  obtain ⟨l, hl⟩ : ∃ l, vrs x.er = l := ⟨_, rfl⟩
  have hl1 := vrs_len x.er
  simp only [rvars_eq, hl] at C20 C21 hl1
  have hgs : grt x.er = false → x.er.size ≤ 40 := by unfold grt; simp
  have HGS := Lib.hid hgs
  have HL1 := Lib.hid hl1
  obtain ⟨q, hq⟩ : ∃ q, ck x.er = q := ⟨_, rfl⟩
  simp only [hq] at C17 C18
  unfold Ty.v at *
  obtain ⟨g, hg⟩ : ∃ g, grt x.er = g := ⟨_, rfl⟩
  simp only [hg] at GT HGS
  clear hg hq hl hgs hl1 hx
  cases g with
  | true =>
    go_enter Try.func4, Try.ntmps4
    go_wp2_with (first | (go_at_call 12; (with_reducible refine (GT.out _ ((gr_al _ _).trans (gr_al _ _)) _ (al_at _ _ (by simp))).mono ?_); rintro e w1 ⟨rfl, g1⟩; have G1 := Lib.hid ((GB.out.trans (gr_al _ _)).trans g1); clear g1) | (go_at_call 13; (with_reducible refine (AW.out _).mono ?_); rintro e w2 ⟨rfl, g2⟩; have G2 := Lib.hid (G1.out.trans g2); clear g2))
    go_ret
    exact ⟨rfl, G2.out⟩
  | false =>
    have HSZ := Lib.hid (show l.length ≤ 1000000 from by have := HGS.out rfl; have := HL1.out; omega)
    have CS := Lib.hid (fun V (v : Value) (g c : _) (b b' : Nat) (h1 : OR 3 1 NC V b v l) (h2 : OR 3 1 NC V b' (.slice (some ⟨g, 0, none⟩) l.length c) l) => show Calls Try.prog 19 #[v, .slice (some ⟨g, 0, none⟩) l.length c] V (fun e w' => e = .returned (.bool true) ∧ Gr V w') from by
      obtain ⟨A, c1, rfl, r1⟩ := h1.form NC_len
      obtain ⟨A2, c2, e2, r2⟩ := h2.form NC_len
      obtain ⟨rfl, -, rfl⟩ := Value.slice.inj e2
      have h := sameInts_any A (some ⟨g, 0, none⟩) c1 c l l V r1 r2 HSZ.out HSZ.out
      simpa using h)
    have KS := Lib.hid (fun V (g : Gr (w.alloc (.cells #[iv x.kind, iv x.var, .slice x.A x.sub.length x.c] 24)) V) => (cell3 (gr_h g HB.out)).1)
    go_enter Try.func4, Try.ntmps4
    go_upto_region 3 with (first | (go_at_call 12; (with_reducible refine (GT.out _ ((gr_al _ _).trans (gr_al _ _)) _ (al_at _ _ (by simp))).mono ?_); rintro e w1 ⟨rfl, g1⟩; have G1 := Lib.hid ((gr_al _ _).trans g1); clear g1))
    obtain ⟨a0, a1, a2⟩ := KS.out _ G1.out
    go_region_held3 (fun V => V.cell? ⟨w.heap.size, 0, none⟩ = some (iv x.kind) ∧ V.cell? ⟨w.heap.size, 1, none⟩ = some (iv x.var) ∧ V.cell? ⟨w.heap.size, 2, none⟩ = some (.slice x.A x.sub.length x.c)) (first | with_reducible exact KS.out _ Z6.out | with_reducible exact KS.out _ Z5.out | with_reducible exact KS.out _ Z4.out | with_reducible exact KS.out _ Z3.out | with_reducible exact KS.out _ Z2.out | with_reducible exact KS.out _ Z1.out | with_reducible exact KS.out _ (G1.out.trans (gr_drew _)) | with_reducible exact KS.out _ G1.out | go_keep) (first | (go_at_call 17; (with_reducible refine (C17.out _ (GB.out.trans (G1.out.trans (gr_drew _)))).mono ?_); rintro e z1 ⟨rfl, g⟩; have Z1 := Lib.hid (G1.out.trans ((gr_drew _).trans g)); clear g) | (go_at_call 18; (with_reducible refine (C18.out _ (GB.out.trans Z1.out)).mono ?_); rintro e z2 ⟨rfl, g⟩; have Z2 := Lib.hid (Z1.out.trans g); clear g) | (go_at_call 20; (with_reducible refine (C20.out _ (GB.out.trans Z2.out)).mono ?_); rintro e z3 ⟨⟨v, rfl, ho⟩, g⟩; have O3 := Lib.hid ho; have Z3 := Lib.hid (Z2.out.trans g); clear g ho) | (go_at_call 21; (with_reducible refine (C21.out _ (GB.out.trans Z3.out)).mono ?_); rintro e z4 ⟨⟨b, c, rfl, ho⟩, g⟩; have O4 := Lib.hid ho; have P4 := Lib.hid (O3.out.gr g); have Z4 := Lib.hid (Z3.out.trans g); clear g ho) | (go_at_call 19; (with_reducible refine (CS.out _ _ _ _ _ _ P4.out O4.out).mono ?_); rintro e z5 ⟨rfl, g⟩; have Z5 := Lib.hid (Z4.out.trans g); clear g) | (go_at_call 13; (with_reducible refine (AW.out _).mono ?_); rintro e z6 ⟨rfl, g⟩; have Z6 := Lib.hid (Z5.out.trans g); clear g))
    all_goals go_wp2
    all_goals go_ret
    all_goals exact ⟨rfl, GB.out.trans Z6.out⟩
end Go.Proofs.Ytjlmhfdigoogfaa

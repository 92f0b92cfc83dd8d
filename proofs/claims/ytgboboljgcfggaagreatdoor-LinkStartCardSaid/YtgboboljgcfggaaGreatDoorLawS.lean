/- Law: LinkStart. -/
import Derived.Test.YtgboboljgcfggaaGreatDoorLnP
import Derived.Test.YtgboboljgcfggaaGreatDoorM7
import Derived.Test.YtgboboljgcfggaaGreatDoorRfE
import Derived.Test.YtgboboljgcfggaaGreatDoorRfS
namespace Go.Proofs.YtgboboljgcfggaaGreatDoor
open Go.RowKit

attribute [local irreducible] Calls in
set_option maxRecDepth 100000 in
set_option maxHeartbeats 8000000 in
theorem start_walk (p : Prg) (n : Nam) (w : World) (hp : p.Rd w) (hl : p.Len) (hc : ∀ b ∈ p.bs, b.ins.length ≤ 10000000000000) :
    Calls Tryz.prog 4 #[p.v, .agg #[.string ⟨n.pack.toArray⟩, .int .i64 n.id]] w fun e w' => e = .returned (.bool true) ∧ Gr w w' := by
  have GC := Lib.hid (fun V (g : Gr w V) => greatP_any p V (hp.below (below_of g)) hl.b hl.s hl.i)
  have AW := Lib.hid (fun V => awake_any V)
  obtain ⟨z0, z1, hz⟩ : ∃ a b, stR p n = (a, b) := ⟨_, _, rfl⟩
  have ST := Lib.hid (fun V (g : Gr w V) => show Calls Tryz.prog 11 #[p.v, .agg #[.string ⟨n.pack.toArray⟩, .int .i64 n.id]] V (fun e w' => e = .returned (.tuple #[.int .i64 z0, .int .i64 z1]) ∧ Gr V w') from by
    have h := start_any p n V (hp.below (below_of g)) hl
    rw [hz] at h
    exact h)
  have RS := Lib.hid (fun V (g : Gr w V) => show Calls Tryz.prog 12 #[p.v, .agg #[.string ⟨n.pack.toArray⟩, .int .i64 n.id]] V (fun e w' => e = .returned (.tuple #[.int .i64 z0, .int .i64 z1]) ∧ Gr V w') from by
    have h := rstart_any p n V (hp.below (below_of g)) hl
    rw [hz] at h
    exact h)
  have HPV := Lib.hid (fun V (g : Gr w V) => hp.below (below_of g))
  have HLV := Lib.hid hl
  have HCV := Lib.hid hc
  obtain ⟨bA, bc, bs, sA, sc, ss⟩ := p
  obtain ⟨nb, hnb⟩ : ∃ n, bs.length = n := ⟨_, rfl⟩
  obtain ⟨ns, hns⟩ : ∃ n, ss.length = n := ⟨_, rfl⟩
  have NB := Lib.hid hnb
  have NS := Lib.hid hns
  unfold Prg.v at GC ST RS ⊢
  simp only [hnb, hns] at GC ST RS ⊢
  clear hp hl hc hnb hns hz
  have GX := Lib.hid ((gr_al w (.cells #[.slice bA nb bc, .slice sA ns sc] 26)).trans (gr_al _ (.cells #[.string ⟨n.pack.toArray⟩, .int .i64 n.id] 33)))
  have X3 := Lib.hid (gr_h (gr_al (w.alloc (.cells #[.slice bA nb bc, .slice sA ns sc] 26)) (.cells #[.string ⟨n.pack.toArray⟩, .int .i64 n.id] 33)) (al_new w (.cells #[.slice bA nb bc, .slice sA ns sc] 26)))
  have X4 := Lib.hid (al_at (w.alloc (.cells #[.slice bA nb bc, .slice sA ns sc] 26)) (.cells #[.string ⟨n.pack.toArray⟩, .int .i64 n.id] 33) (A := w.heap.size + 1) (by simp))
  obtain ⟨k1, hk1⟩ : ∃ m, w.heap.size = m := ⟨_, rfl⟩
  go_enter Tryz.func4, Tryz.ntmps4
  go_upto_region 1 with (fail)
  rw [hk1] at X3 X4
  clear hk1
  generalize (w.alloc (.cells #[.slice bA nb bc, .slice sA ns sc] 26)).alloc (.cells #[.string ⟨n.pack.toArray⟩, .int .i64 n.id] 33) = W0 at *
  have XC := Lib.hid (fun V (g : Gr W0 V) => And.intro (dcel2 (gr_h g X3.out)) (dcel2 (gr_h g X4.out)))
  obtain ⟨⟨p0, p1, -, -⟩, ⟨q0, q1, -, -⟩⟩ := XC.out _ (gr_refl _)
  go_upto_region 3 with (first
    | (go_at_call 10; refine (GC.out _ GX.out).mono ?_; rintro e w1 ⟨⟨g, rfl, hg⟩, b1⟩; have G1 := Lib.hid (gr_of b1); have HG := Lib.hid hg; clear b1 hg; cases g)
    | (go_at_call 6; refine (AW.out _).mono ?_; rintro e w2 ⟨rfl, g2⟩; have G2 := Lib.hid g2; clear g2))
  all_goals try (go_ret; exact ⟨rfl, GX.out.trans (G1.out.trans G2.out)⟩)
  have SM := Lib.hid (HG.out.1 (by simp))
  have CN := Lib.hid (small_cnt SM.out (by have h1 := cnt_le HCV.out; have h2 := SM.out.b; simp only at h1 h2 ⊢; have h3 := Nat.mul_le_mul_right 10000000000000 h2; omega))
  have HI := Lib.hid (show ∀ b ∈ bs, b.ins.length ≤ 1000000 from fun b hb => by have := ins_le hb; have h := CN.out; simp only at h; omega)
  have HS := Lib.hid (show ss.length ≤ 1000000 from by have h := SM.out.s; simp only at h; omega)
  obtain ⟨et, er, hen⟩ : ∃ a b, encV ⟨bA, bc, bs, sA, sc, ss⟩ = (a, b) := ⟨_, _, rfl⟩
  have EN := Lib.hid (fun V (g : Gr w V) => show Calls Tryz.prog 13 #[.agg #[.slice bA nb bc, .slice sA ns sc]] V (fun e w' => e = .returned (.tuple #[.string ⟨et.toArray⟩, .int .i64 er]) ∧ Gr V w') from by
    have h := encode_any ⟨bA, bc, bs, sA, sc, ss⟩ V (HPV.out V g) HLV.out HI.out HS.out
    unfold EnP at h
    rw [hen] at h
    unfold Prg.v at h
    simp only [NB.out, NS.out] at h
    exact h)
  have RN := Lib.hid (fun V (g : Gr w V) => show Calls Tryz.prog 14 #[.agg #[.slice bA nb bc, .slice sA ns sc]] V (fun e w' => e = .returned (.tuple #[.string ⟨et.toArray⟩, .int .i64 er]) ∧ Gr V w') from by
    have h := rencode_any ⟨bA, bc, bs, sA, sc, ss⟩ V (HPV.out V g) HLV.out HI.out HS.out
    unfold EnP at h
    rw [hen] at h
    unfold Prg.v at h
    simp only [NB.out, NS.out] at h
    exact h)
  clear HG GC hen p0 p1 q0 q1
  obtain ⟨⟨p0, p1, -, -⟩, ⟨q0, q1, -, -⟩⟩ := XC.out _ G1.out
  go_upto_region 4 with (go_at_call 11; refine (ST.out _ (GX.out.trans G1.out)).mono ?_; rintro e w2 ⟨rfl, g2⟩; have G2 := Lib.hid (G1.out.trans g2); clear g2)
  clear p0 p1 q0 q1 ST
  obtain ⟨⟨p0, p1, -, -⟩, ⟨q0, q1, -, -⟩⟩ := XC.out _ G2.out
  go_upto_region 5 with (go_at_call 12; refine (RS.out _ (GX.out.trans G2.out)).mono ?_; rintro e w3 ⟨rfl, g3⟩; have G3 := Lib.hid (G2.out.trans g3); clear g3)
  clear p0 p1 q0 q1 RS
  obtain ⟨⟨p0, p1, -, -⟩, -⟩ := XC.out _ G3.out
  go_upto_region 6 with (go_at_call 13; refine (EN.out _ (GX.out.trans G3.out)).mono ?_; rintro e w4 ⟨rfl, g4⟩; have G4 := Lib.hid (G3.out.trans g4); clear g4)
  clear p0 p1 EN
  obtain ⟨⟨p0, p1, -, -⟩, -⟩ := XC.out _ G4.out
  go_upto_region 7 with (go_at_call 14; refine (RN.out _ (GX.out.trans G4.out)).mono ?_; rintro e w5 ⟨rfl, g5⟩; have G5 := Lib.hid (G4.out.trans g5); clear g5)
  clear p0 p1 RN
  go_wp2_with (go_at_call 6; refine (AW.out _).mono ?_; rintro e w6 ⟨rfl, g6⟩; have G6 := Lib.hid g6; clear g6)
  go_ret
  exact ⟨rfl, GX.out.trans (G5.out.trans G6.out)⟩
theorem law_start_any (p : Prg) (n : Nam) (w : World) (hp : p.Rd w) (hl : p.Len) (hc : ∀ b ∈ p.bs, b.ins.length ≤ 10000000000000) :
    Calls Tryz.prog 4 #[p.v, .agg #[.string ⟨n.pack.toArray⟩, .int .i64 n.id]] w fun e w' => e = .returned (.bool true) ∧ w.grownBy w' none := start_walk p n w hp hl hc
end Go.Proofs.YtgboboljgcfggaaGreatDoor

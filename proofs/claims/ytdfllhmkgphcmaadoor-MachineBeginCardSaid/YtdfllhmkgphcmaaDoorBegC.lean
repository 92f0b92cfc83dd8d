/- Walks: the reference's Begin. -/
import Derived.Test.YtdfllhmkgphcmaaDoorM9
namespace Go.Proofs.YtdfllhmkgphcmaaDoor
open Go.RowKit

theorem BegP.drew {p : Prg} {pk : T} {id seed : Int} {w V : World} {e : Ending} (h : BegP p pk id seed w e V) : BegP p pk id seed w e V.drew := by
  have g : V.grownBy V.drew none := grown_drewN _ 1 none
  obtain ⟨h1, h2 | h2 | ⟨b, B, a1, a2, a3, a4, a5⟩⟩ := h
  · exact ⟨h1.trans g, .inl h2⟩
  · exact ⟨h1.trans g, .inr (.inl h2)⟩
  · exact ⟨h1.trans g, .inr (.inr ⟨b, B, a1, a2, a3, a4, a5⟩)⟩
theorem beg_fin' {p : Prg} {pk : T} {id seed blk : Int} {w wr : World} (HB : BG p pk id w wr) (he : errP p = 0) (hb : begB p.ss pk id = some blk) (x : Option Addr) (hx : p.sA = x) :
    BegP p pk id seed w (.returned (.tuple #[(bAM p blk seed wr.heap.size).v, iv 0])) (set36 (wr.alloc (.cells #[iv blk, iv 0, nilS] 78)) (w.heap.size + 2) (.slice p.bA p.bs.length p.bc) (.slice x p.ss.length p.sc) nilS (.slice (some ⟨wr.heap.size, 0, none⟩) 1 1) (iv 0) (.int .u64 seed) (.bool false) (iv 0)) := by
  subst hx
  have l := heap_lt HB.m
  have g := HB.gr.trans (World.grownBy_alloc wr (.cells #[iv blk, iv 0, nilS] 78) none)
  have k := al_new wr (.cells #[iv blk, iv 0, nilS] 78)
  obtain ⟨h1, h2, h3, h4, h5⟩ := set36_ok (wr.alloc (.cells #[iv blk, iv 0, nilS] 78)) (w.heap.size + 2) (.slice p.bA p.bs.length p.bc) (.slice p.sA p.ss.length p.sc) nilS (.slice (some ⟨wr.heap.size, 0, none⟩) 1 1) (iv 0) (.int .u64 seed) (.bool false) (iv 0)
  have g' := grown_setM (m := w.heap.size + 2) g (by omega) (bAM p blk seed wr.heap.size)
  exact ⟨g', .inr (.inr ⟨blk, wr.heap.size, he, hb, rfl, by omega, (h5 _ (by omega)).trans k⟩)⟩
set_option maxRecDepth 100000 in
set_option maxHeartbeats 8000000 in
theorem rbegin_any (p : Prg) (pk : T) (id seed : Int) (w : World) (hp : p.Rd w) (hb : p.bs.length ≤ 9223372036854775807) (hs : p.ss.length ≤ 9223372036854775807) (hi : ∀ b ∈ p.bs, b.ins.length ≤ 9223372036854775807) (hnp : ∀ s ∈ p.ss, s.pack.length ≤ 9223372036854775807) :
    Calls Tryd.prog 16 #[p.v, .agg #[tv pk, iv id], .int .u64 seed] w (BegP p pk id seed w) := by
  have CK := Lib.hid (fun V (h : w.grownBy V none) => rcheck_any p V (hp.below ⟨h.os, h.tape, h.output, h.size, fun k hk => h.block k hk (by simp)⟩) hb hs hi hnp)
  have HP := Lib.hid (fun V (h : w.grownBy V none) => hp.below (⟨h.os, h.tape, h.output, h.size, fun k hk => h.block k hk (by simp)⟩ : Below w.heap.size w V))
  have BG0 := Lib.hid (BG.of p pk id w)
  unfold Prg.v at *
  clear hp hi hnp
  go_enter Tryd.func16, Tryd.ntmps16
  by_cases he : errP p = 0
  · rw [he] at CK
    have HE := Lib.hid he
    clear he
    go_wp2_with (go_at_call 13; refine (CK.out _ BG0.out.gr).mono ?_; rintro e w1 ⟨rfl, b1⟩; have bg := BG0.out.grow (grown_below b1 none); have BG1 := Lib.hid bg; obtain ⟨-, p0, p1, n0, n1, -⟩ := bg; clear b1)
    clear CK BG0
    have FB := Lib.hid (Nat.le_refl 0)
    go_loopw [8] (fun i V => ∃ k : Nat, k ≤ p.ss.length ∧ i = .int .i64 k ∧ Hid (BG p pk id w V) ∧ Hid (∀ s ∈ p.ss.take k, ¬ (s.pack = pk ∧ s.id = id))) (fun i _ => p.ss.length - (intOf i).toNat)
    case atStart => exact ⟨0, Nat.zero_le _, rfl, BG1, Lib.hid (by simp)⟩
    case round =>
      clear BG1 p0 p1 n0 n1
      obtain ⟨k, hk, rfl, HB, HN⟩ := hrel
      by_cases hlt : k < p.ss.length
      · obtain ⟨a, a1, hA, ha, hab, c0, c1, c2⟩ := (HP.out _ HB.out.gr).s.stt hlt
        obtain ⟨s, hs'⟩ : ∃ s, s = p.ss[k] := ⟨_, rfl⟩
        rw [← hs'] at c0 c1 c2
        have HS := Lib.hid hs'
        obtain ⟨hg, p0, p1, n0, n1, km⟩ := HB.out
        have HA := Lib.hid hA
        rw [hA] at p1
        clear hs' hA
        by_cases z1 : s.pack = pk
        · by_cases z2 : s.id = id
          · go_wp2
            go_quiet (fail)
            go_wp2
            have DW : ∀ n, BG p pk id w (wr.drewN n) := fun n => HB.out.grow (grown_drewN _ n none)
            have bV := DW nq
            have e0 : (wr.drewN nq).cell? a1 = _ := c0
            have e1 : (wr.drewN nq).cell? ⟨a1.block, a1.off + 1, none⟩ = _ := c1
            have e2 : (wr.drewN nq).cell? ⟨a1.block, a1.off + 2, none⟩ = _ := c2
            have eb : a1.block < (wr.drewN nq).heap.size := hab
            clear DW p0 p1 n0 n1 c0 c1 c2 hab km hg HB
            generalize wr.drewN nq = V at *
            have BV := Lib.hid bV
            have G2 := Lib.hid (fun o => bV.grow (World.grownBy_alloc V o none))
            obtain ⟨hg, p0, p1, n0, n1, km⟩ := bV
            rw [HA.out] at p1
            have m0 := fun o => (cells36 ((G2.out o).m.trans (congrArg some zmc))).1.1
            have m1 := fun o => (cells36 ((G2.out o).m.trans (congrArg some zmc))).1.2.1
            have m2 := fun o => (cells36 ((G2.out o).m.trans (congrArg some zmc))).1.2.2.1
            have m3 := fun o => (cells36 ((G2.out o).m.trans (congrArg some zmc))).1.2.2.2.1
            have m4 := fun o => (cells36 ((G2.out o).m.trans (congrArg some zmc))).1.2.2.2.2.1
            have m5 := fun o => (cells36 ((G2.out o).m.trans (congrArg some zmc))).1.2.2.2.2.2.1
            have m6 := fun o => (cells36 ((G2.out o).m.trans (congrArg some zmc))).1.2.2.2.2.2.2.1
            have m7 := fun o => (cells36 ((G2.out o).m.trans (congrArg some zmc))).1.2.2.2.2.2.2.2
            have mf := fun o => (cells36 ((G2.out o).m.trans (congrArg some zmc))).2
            have q0 := fun o => (G2.out o).p0
            have q1 := fun o => (G2.out o).p1
            rw [HA.out] at q1
            have s0 := fun o => cell_al e0 eb o
            have s1 := fun o => cell_al e1 (show (⟨a1.block, a1.off + 1, none⟩ : Addr).block < _ from eb) o
            have s2 := fun o => cell_al e2 (show (⟨a1.block, a1.off + 2, none⟩ : Addr).block < _ from eb) o
            have dc : ∀ (X : World) (a : Addr), X.drew.cell? a = X.cell? a := fun _ _ => rfl
            have df : ∀ (X : World) (a : Addr), X.drew.frozen? a = X.frozen? a := fun _ _ => rfl
            go_region_law (fail)
            all_goals go_wp2
            all_goals
              have hq := begB_at hlt HN.out (by rw [← HS.out]; exact ⟨z1, z2⟩)
              rw [← HS.out] at hq
              have W9 := Lib.hid (beg_fin' (seed := seed) BV.out HE.out hq _ HA.out).drew
              refine bodyPost_ret (v := .tuple #[(bAM p s.block seed V.heap.size).v, iv 0]) ?_ ?_ W9.out
              · simp [results, Tryd.results16, go_sem, AM.v, bAM, HA.out, m0, m1, m2, m3, m4, m5, m6, m7, Act.put]
              · rfl
          · go_wp2
            go_quiet (fail)
            go_wp2
            exact ⟨⟨k + 1, by omega, by simp, Lib.hid (HB.out.grow (grown_drewN _ _ none)), Lib.hid (not_succ hlt HN.out (by rw [← HS.out]; exact fun h => z2 h.2))⟩, by simp [intOf]; omega⟩
        · go_wp2
          go_quiet (fail)
          go_wp2
          exact ⟨⟨k + 1, by omega, by simp, Lib.hid (HB.out.grow (grown_drewN _ _ none)), Lib.hid (not_succ hlt HN.out (by rw [← HS.out]; exact fun h => z1 h.1))⟩, by simp [intOf]; omega⟩
      · obtain rfl : k = p.ss.length := by omega
        have hn := HN.out
        rw [List.take_length] at hn
        have h8 := begB_none hn
        obtain ⟨hg, -, y1, -, -, km⟩ := HB.out
        rw [zmc] at km
        obtain ⟨⟨q0, q1, q2, q3, q4, q5, q6, q7⟩, qf⟩ := cells36 km
        have W9 : ∀ V, V = setM wr (w.heap.size + 2) zAM → Hid (BegP p pk id seed w (.returned (.tuple #[zAM.v, iv 8])) V) := fun V e => Lib.hid ⟨by rw [e]; exact grown_setM hg (by omega) zAM, .inr (.inl ⟨HE.out, h8, rfl⟩)⟩
        have W9 := Lib.hid W9
        clear hn h8 hg km HN HB
        go_wp2
        refine bodyPost_ret (v := .tuple #[zAM.v, iv 8]) ?_ rfl (W9.out _ rfl).out
        simp [results, Tryd.results16, go_sem, AM.v, zAM, q0, q1, q2, q3, q4, q5, q6, q7]
  · have HE := Lib.hid he
    have h1 : (errP p != 0) = true := by simpa using he
    obtain ⟨E, hE⟩ : ∃ E, E = errP p := ⟨_, rfl⟩
    rw [← hE] at CK h1
    clear he hE
    go_wp2_with (go_at_call 13; refine (CK.out _ BG0.out.gr).mono ?_; rintro e w1 ⟨rfl, b1⟩; have bg := BG0.out.grow (grown_below b1 none); have BG1 := Lib.hid bg; have km := bg.m; rw [zmc] at km; obtain ⟨⟨q0, q1, q2, q3, q4, q5, q6, q7⟩, qf⟩ := cells36 km; clear b1 bg km)
    have W9 : Hid (BegP p pk id seed w (.returned (.tuple #[zAM.v, iv 1])) (setM w1 (w.heap.size + 2) zAM)) := Lib.hid ⟨grown_setM BG1.out.gr (by omega) zAM, .inl ⟨HE.out, rfl⟩⟩
    refine bodyPost_ret (v := .tuple #[zAM.v, iv 1]) ?_ rfl W9.out
    simp [results, Tryd.results16, go_sem, AM.v, zAM, q0, q1, q2, q3, q4, q5, q6, q7]
end Go.Proofs.YtdfllhmkgphcmaaDoor

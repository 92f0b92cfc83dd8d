/- Walks: machines compared. -/
import Derived.Test.YtdfllhmkgphcmaaDoorSag
namespace Go.Proofs.YtdfllhmkgphcmaaDoor
open Go.RowKit

theorem rd_fr {w : World} {A : Option Addr} {L : List Fr} (h : RD 3 Fr.cs w A L) {k : Nat} (hk : k < L.length) : ∃ a a1 : Addr, A = some a ∧ a.add (k * 3) = a1 ∧ a1.block < w.heap.size ∧ w.cell? a1 = some (.int .i64 L[k].block) ∧ w.cell? ⟨a1.block, a1.off + 1, none⟩ = some (.int .i64 L[k].at_) ∧ w.cell? ⟨a1.block, a1.off + 2, none⟩ = some (.slice L[k].A L[k].L.length L[k].c) := by
  obtain ⟨a, e, hb, hc⟩ := h.at hk
  refine ⟨a, _, e, rfl, by rw [add_block]; exact hb, by simpa using hc 0 _ rfl, ?_, ?_⟩
  · rw [← fld_add _ 1 (by omega), add_add']; exact hc 1 _ rfl
  · rw [← fld_add _ 2 (by omega), add_add']; exact hc 2 _ rfl
theorem AM.Rd.up {w V : World} {M : AM} (h : M.Rd w) (g : w.grownBy V none) : M.Rd V := h.grow g
theorem Fr.er_parts {f f' : Fr} (h : f.er = f'.er) : f'.block = f.block ∧ f'.at_ = f.at_ ∧ ers f.L = ers f'.L := by
  cases f
  cases f'
  simp only [Fr.er, MF.mk.injEq] at h
  exact ⟨h.1.symm, h.2.1.symm, h.2.2⟩
/-- Two boxes with machines. -/
structure M2 (M N : AM) (w V : World) : Prop where
  gr : w.grownBy V none
  o0 : V.heap[w.heap.size]? = some (oM M)
  o1 : V.heap[w.heap.size + 1]? = some (oM N)
theorem M2.of (M N : AM) (w : World) : M2 M N w ((w.alloc (oM M)).alloc (oM N)) := by
  have h0 := al_new w (oM M)
  have h1 := al_new (w.alloc (oM M)) (oM N)
  rw [show (w.alloc (oM M)).heap.size = w.heap.size + 1 by simp] at h1
  exact ⟨(World.grownBy_alloc w _ none).trans (World.grownBy_alloc _ _ none), (Below.heap_alloc _ _ _ (heap_lt h0)).trans h0, h1⟩
theorem M2.grow {M N : AM} {w V V' : World} (h : M2 M N w V) (g : V.grownBy V' none) : M2 M N w V' := ⟨h.gr.trans g, (g.block _ (heap_lt h.o0) (by simp)).trans h.o0, (g.block _ (heap_lt h.o1) (by simp)).trans h.o1⟩

set_option maxRecDepth 100000 in
set_option maxHeartbeats 8000000 in
theorem sameM_any (M N : AM) (w : World) (hM : M.Rd w) (hN : N.Rd w) (hp : N.p = M.p) (he : M.er = N.er) (hl : LenP M.p) (hF : M.F.length ≤ 9223372036854775807) : Calls Tryd.prog 17 #[M.v, N.v] w fun e w' => e = .returned (.bool true) ∧ w.grownBy w' none := by
  have e1 : N.steps = M.steps := (congrArg MM.steps he).symm
  have e2 : N.seed = M.seed := (congrArg MM.seed he).symm
  have e3 : N.done = M.done := (congrArg MM.done he).symm
  have e4 : N.err = M.err := (congrArg MM.err he).symm
  have e5 : ers M.S = ers N.S := congrArg MM.S he
  have e6 : M.F.map Fr.er = N.F.map Fr.er := congrArg MM.F he
  have e7 : N.F.length = M.F.length := by
    have := congrArg List.length e6
    rw [List.length_map, List.length_map] at this
    exact this.symm
  have e8 : N.S.length = M.S.length := by
    have := congrArg List.length e5
    rw [ers_length, ers_length] at this
    exact this.symm
  have SP := Lib.hid (fun V (h : M2 M N w V) => sameP_any M.p V (hM.up h.gr).p hl)
  have SA := Lib.hid (fun V (h : M2 M N w V) => agrees_any hM.s N.sA N.sc N.S hN.s e5 V h.gr 2000 (by omega) (by omega))
  have HR := Lib.hid (fun V (h : M2 M N w V) => (hM.up h.gr).f)
  have HR' := Lib.hid (fun V (h : M2 M N w V) => (hN.up h.gr).f)
  have SF := Lib.hid (fun (k : Nat) (h1 : k < M.F.length) (h2 : k < N.F.length) => (by
    have k1 : (M.F.map Fr.er)[k]? = some M.F[k].er := by rw [List.getElem?_map, List.getElem?_eq_getElem h1]; rfl
    have k2 : (N.F.map Fr.er)[k]? = some N.F[k].er := by rw [List.getElem?_map, List.getElem?_eq_getElem h2]; rfl
    rw [e6, k2] at k1
    obtain ⟨q1, q2, q3⟩ := Fr.er_parts (Option.some.inj k1).symm
    have q4 := congrArg List.length q3
    rw [ers_length, ers_length] at q4
    exact ⟨q1, q2, q4.symm, fun V g l l1 l2 => agrees_any (hM.fl _ (List.getElem_mem h1)) _ _ _ (hN.fl _ (List.getElem_mem h2)) q3 V g l l1 l2⟩ : N.F[k].block = M.F[k].block ∧ N.F[k].at_ = M.F[k].at_ ∧ N.F[k].L.length = M.F[k].L.length ∧ ∀ V, w.grownBy V none → ∀ l : Int, 0 ≤ l → l ≤ 2000 → Calls Tryd.prog 35 #[.slice M.F[k].A M.F[k].L.length M.F[k].c, .slice N.F[k].A M.F[k].L.length N.F[k].c, iv l] V (AgP l V)))
  have M0 := Lib.hid (M2.of M N w)
  have hm : oM M = .cells #[.slice M.p.bA M.p.bs.length M.p.bc, .slice M.p.sA M.p.ss.length M.p.sc, .slice M.sA M.S.length M.sc, .slice M.fA M.F.length M.fc, iv M.steps, .int .u64 M.seed, .bool M.done, iv M.err] 36 (0, 0) := rfl
  have hn : oM N = .cells #[.slice M.p.bA M.p.bs.length M.p.bc, .slice M.p.sA M.p.ss.length M.p.sc, .slice N.sA M.S.length N.sc, .slice N.fA M.F.length N.fc, iv M.steps, .int .u64 M.seed, .bool M.done, iv M.err] 36 (0, 0) := by unfold oM; rw [hp, e1, e2, e3, e4, e7, e8]
  have C2 := Lib.hid (fun V (h : M2 M N w V) => (⟨cells36 (h.o0.trans (congrArg some hm)), cells36 (h.o1.trans (congrArg some hn))⟩ : _ ∧ _))
  have xM : M.v = .agg #[.slice M.p.bA M.p.bs.length M.p.bc, .slice M.p.sA M.p.ss.length M.p.sc, .slice M.sA M.S.length M.sc, .slice M.fA M.F.length M.fc, iv M.steps, .int .u64 M.seed, .bool M.done, iv M.err] := rfl
  have xN : N.v = .agg #[.slice M.p.bA M.p.bs.length M.p.bc, .slice M.p.sA M.p.ss.length M.p.sc, .slice N.sA M.S.length N.sc, .slice N.fA M.F.length N.fc, iv M.steps, .int .u64 M.seed, .bool M.done, iv M.err] := by unfold AM.v; rw [hp, e1, e2, e3, e4, e7, e8]
  rw [xM, xN]
  rw [hm, hn] at M0
  unfold Prg.v at SP
  have E7 := Lib.hid e7
  clear e1 e2 e3 e4 e5 e6 e7 e8 hm hn xM xN hM hN hp he hl
  go_enter Tryd.func17, Tryd.ntmps17
  obtain ⟨⟨⟨p0, p1, p2, p3, p4, p5, p6, p7⟩, -⟩, ⟨q0, q1, q2, q3, q4, q5, q6, q7⟩, -⟩ := C2.out _ M0.out
  go_wp2_with (first | (go_at_call 34; refine (SP.out _ M0.out).mono ?_; rintro e w1 ⟨rfl, g1⟩; have m1 := M0.out.grow g1; have M1 := Lib.hid m1; clear p0 p1 p2 p3 p4 p5 p6 p7 q0 q1 q2 q3 q4 q5 q6 q7; obtain ⟨⟨⟨p0, p1, p2, p3, p4, p5, p6, p7⟩, -⟩, ⟨q0, q1, q2, q3, q4, q5, q6, q7⟩, -⟩ := C2.out _ m1; clear m1 g1) | (go_at_call 35; refine (SA.out _ M1.out).mono ?_; rintro e w3 ⟨g3, r, rfl, r1, r2⟩; have M3 := Lib.hid (M1.out.grow g3); have R1 := Lib.hid r1; have R2 := Lib.hid r2; clear g3 r1 r2))
  have R2' := R2.out
  have R1' := R1.out
  clear M0 M1 p0 p1 p2 p3 p4 p5 p6 p7 q0 q1 q2 q3 q4 q5 q6 q7 SP SA R1 R2
  go_loopw [5, 6] (fun l i V => ∃ (k : Nat) (n : Int), k ≤ M.F.length ∧ i = .int .i64 k ∧ l = .int .i64 n ∧ 0 ≤ n ∧ n ≤ 2000 ∧ Hid (M2 M N w V)) (fun _ i _ => M.F.length - (intOf i).toNat)
  case atStart => exact ⟨0, r, Nat.zero_le _, rfl, rfl, R1', R2', M3⟩
  case round =>
    clear M3 R1' R2'
    obtain ⟨k, n, hk, rfl, rfl, n1, n2, HG⟩ := hrel
    obtain ⟨⟨⟨p0, p1, p2, p3, p4, p5, p6, p7⟩, -⟩, ⟨q0, q1, q2, q3, q4, q5, q6, q7⟩, -⟩ := C2.out _ HG.out
    clear p0 p1 p2 p4 p5 p6 p7 q0 q1 q2 q4 q5 q6 q7
    by_cases hlt : k < M.F.length
    · have hlt' : k < N.F.length := by rw [E7.out]; exact hlt
      obtain ⟨a, a1, hA, ha, hab, c0, c1, c2⟩ := rd_fr (HR.out _ HG.out) hlt
      obtain ⟨b, b1, hB, hb, hbb, d0, d1, d2⟩ := rd_fr (HR'.out _ HG.out) hlt'
      obtain ⟨z1, z2, z4, z3⟩ := SF.out k hlt hlt'
      obtain ⟨f, hf⟩ : ∃ f, f = M.F[k] := ⟨_, rfl⟩
      obtain ⟨f', hf'⟩ : ∃ f', f' = N.F[k] := ⟨_, rfl⟩
      rw [← hf] at c0 c1 c2 z1 z2 z4 z3
      rw [← hf'] at d0 d1 d2 z1 z2 z4 z3
      clear hf hf'
      rw [z1] at d0
      rw [z2] at d1
      rw [z4] at d2
      have CL := Lib.hid (fun V (h : M2 M N w V) => z3 V h.gr n n1 n2)
      rw [hA] at p3
      rw [hB] at q3
      clear z1 z2 z3 z4 hA hB hlt'
      go_wp2
      go_quiet (fail)
      go_wp2
      have HG1 := Lib.hid (HG.out.grow (grown_drewN _ nq none))
      have x3 : (wr.drewN nq).cell? ⟨w.heap.size, 3, none⟩ = _ := p3
      have y3 : (wr.drewN nq).cell? ⟨w.heap.size + 1, 3, none⟩ = _ := q3
      have x2 : (wr.drewN nq).cell? ⟨a1.block, a1.off + 2, none⟩ = _ := c2
      have y2 : (wr.drewN nq).cell? ⟨b1.block, b1.off + 2, none⟩ = _ := d2
      clear p3 q3 c0 c1 c2 d0 d1 d2 HG hab hbb
      generalize wr.drewN nq = W1 at *
      go_still_tail 13, (by kernel_rfl)
      change wpList _ _ _ _ _ (World.drew _)
      have G1 := Lib.hid (HG1.out.grow (grown_drew _))
      generalize World.drew _ = V1 at *
      go_wp2_with (first | (go_at_call 35; refine (CL.out _ G1.out).mono ?_; rintro e w6 ⟨g6, r, rfl, r1, r2⟩; have G6 := Lib.hid (G1.out.grow g6); have R1 := Lib.hid r1; have R2 := Lib.hid r2; clear g6 r1 r2))
      have h4 := R2.out
      exact ⟨⟨k + 1, r, by omega, by simp, rfl, R1.out, by omega, G6⟩, by simp [intOf]; omega⟩
    · obtain rfl : k = M.F.length := by omega
      go_wp2
      go_ret
      exact ⟨rfl, HG.out.gr⟩
end Go.Proofs.YtdfllhmkgphcmaaDoor

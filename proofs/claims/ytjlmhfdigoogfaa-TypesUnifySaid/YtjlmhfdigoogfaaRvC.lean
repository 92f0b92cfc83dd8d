/- Walks: sound (82). -/
import Derived.Test.YtjlmhfdigoogfaaRvB
namespace Go.Proofs.Ytjlmhfdigoogfaa
open Go.RowKit

theorem SMem.fresh {b : SB} {B : Nat} {V : List Int} {S : SS} {L : List Ty} {W : World} (h : SMem b B V S L W) (hn : 0 < V.length) : NB b B W.heap.size := by
  have h1 := heap_lt h.h
  obtain ⟨c, h2, -⟩ := h.u hn
  obtain ⟨c', h3, -⟩ := h.i
  obtain ⟨c'', h4, -⟩ := h.t
  have := heap_lt h2
  have := heap_lt h3
  have := heap_lt h4
  have := h.lo
  exact ⟨by omega, by omega, by omega, by omega, by omega⟩
theorem info4 : (Try.prog.info? 4).map (fun i => (i.zero, i.size, i.bytes)) = some (some (.bool false), 1, 1) := by kernel_rfl
theorem made_one (v : Value) (h : v.cells = #[v]) (N : Nat) : madeCells v.cells N = Array.replicate N v := by
  rw [h]
  apply Array.ext
  · rw [size_madeCells]; simp
  · intro i h1 h2
    simp [madeCells, Nat.mod_one]
theorem dm_new (N : Nat) (W : World) : DM W.heap.size (List.replicate N false) (W.alloc (.cells (Array.replicate N (Value.bool false)) 4)) := by
  unfold DM
  rw [List.map_replicate, List.toArray_replicate]
  exact al_new _ _
theorem mk80 (N : Nat) (h : N ≤ 1000) (W : World) : (Instr.makeSlice 80 (iv N) (iv N)).run Try.prog W = .ok (.slice (some ⟨W.heap.size, 0, none⟩) N N) (W.alloc (.cells (Array.replicate N (Value.bool false)) 4)) := by
  obtain ⟨i0, hi, hz0, hz1, hz2⟩ := info_parts info4
  have hr := run_make (P := Try.prog) W 80 4 i0 (.bool false) Try.underlying80 hi hz0 .i64 .i64 N N (by omega) (Int.le_refl _) (by rw [hz2]; omega) (by omega)
  rw [hz1, Nat.mul_one] at hr
  simp only [Int.toNat_natCast, made_one (Value.bool false) rfl] at hr
  exact hr
attribute [local irreducible] Calls in
set_option maxRecDepth 100000 in
set_option maxHeartbeats 4000000 in
theorem sound_any (b : SB) (B : Nat) (V : List Int) (S : SS) (L : List Ty) (c : Nat) (W : World) (h : SMem b B V S L W) (hc : c < V.length) : Calls Try.prog 82 #[.pointer (some ⟨b.sp, 0, none⟩), iv c] W fun e w' => e = .returned (.bool (sndP V S c)) ∧ Gr W w' := by
  have H := Lib.hid h
  have hN := h.n
  obtain ⟨p0, -⟩ := h.ic hc
  obtain ⟨s0, s1, s2, s3⟩ := h.hd
  have SP := Lib.hid (show sndP V S c = (!S.b c || !((insP V S c (V.length + 1) (S.t c) (List.replicate V.length false)).map (·.1)).getD true) from rfl)
  cases hb : S.b c with
  | false =>
    rw [hb] at SP p0
    rw [SP.out]
    clear h
    go_enter Try.func82, Try.ntmps82
    go_upto_region 1 with (fail)
    go_quiet (fail)
    go_wp2
    go_ret
    exact ⟨by simp, gr_drewN _ _⟩
  | true =>
    rw [hb] at SP p0
    obtain ⟨y, ye, yt, y0, y1, y2⟩ := h.tg hc hb
    obtain ⟨r, d', e, -⟩ := insP_ok h.wf (c := c) V.length (S.t c) (h.wf.ok c hc hb).2.1 (h.wf.ok c hc hb).2.2 (List.replicate V.length false) (by simp) (by rw [und_new]; exact Nat.le_refl _)
    rw [e] at SP
    rw [← ye] at e
    have E := Lib.hid e
    have YT := Lib.hid yt
    rw [SP.out]
    simp only [Bool.not_true, Bool.false_or, Option.map_some, Option.getD_some]
    clear h e SP ye yt
    go_enter Try.func82, Try.ntmps82
    go_upto_region 1 with (fail)
    have GU := Lib.hid (show Gr W (W.alloc (.cells (Array.replicate V.length (Value.bool false)) 4)).drew from (gr_al _ _).trans (gr_drew _))
    have CI := Lib.hid (inside_any b B V S L c (V.length + 1) y (List.replicate V.length false) d' r W.heap.size _ (H.out.gr GU.out) (YT.out.gr GU.out) (H.out.fresh (by omega)) (show DM W.heap.size _ (W.alloc (.cells (Array.replicate V.length (Value.bool false)) 4)).drew from dm_new _ _) (by simp) E.out)
    unfold Ty.v at CI
    have mk := fun U => mk80 V.length hN U
    have KS := Lib.hid (fun (U : World) (g : Gr W U) => (⟨gr_c g s0, gr_c g s2, gr_c g s3, gr_c g p0, gr_c g y0, gr_c g y1, gr_c g y2⟩ : U.cell? ⟨b.sp, 0, none⟩ = some (.slice b.A0 V.length b.c0) ∧ U.cell? ⟨b.sp, 2, none⟩ = some (.slice (some ⟨b.ib, 0, none⟩) V.length V.length) ∧ U.cell? ⟨b.sp, 3, none⟩ = some (.slice (some ⟨b.tb, 0, none⟩) V.length V.length) ∧ U.cell? ⟨b.ib, c, none⟩ = some (.bool true) ∧ U.cell? ⟨b.tb, c * 3, none⟩ = some (iv y.kind) ∧ U.cell? ⟨b.tb, c * 3 + 1, none⟩ = some (iv y.var) ∧ U.cell? ⟨b.tb, c * 3 + 2, none⟩ = some (.slice y.A y.sub.length y.c)))
    go_region_held3 (fun U => U.cell? ⟨b.sp, 0, none⟩ = some (.slice b.A0 V.length b.c0) ∧ U.cell? ⟨b.sp, 2, none⟩ = some (.slice (some ⟨b.ib, 0, none⟩) V.length V.length) ∧ U.cell? ⟨b.sp, 3, none⟩ = some (.slice (some ⟨b.tb, 0, none⟩) V.length V.length) ∧ U.cell? ⟨b.ib, c, none⟩ = some (.bool true) ∧ U.cell? ⟨b.tb, c * 3, none⟩ = some (iv y.kind) ∧ U.cell? ⟨b.tb, c * 3 + 1, none⟩ = some (iv y.var) ∧ U.cell? ⟨b.tb, c * 3 + 2, none⟩ = some (.slice y.A y.sub.length y.c)) (first | with_reducible exact KS.out _ Z1.out | with_reducible exact KS.out _ GU.out | with_reducible exact KS.out _ (gr_drew _) | with_reducible exact KS.out _ (gr_refl _) | go_keep) (first | (go_at_call 104; (with_reducible refine CI.out.mono ?_); rintro e z1 ⟨rfl, g, -⟩; have Z1 := Lib.hid (gr_own GU.out (Nat.le_refl _) g); clear g))
    go_wp2
    go_ret
    exact ⟨rfl, Z1.out⟩
end Go.Proofs.Ytjlmhfdigoogfaa

/- Machines in boxes. -/
import Derived.Test.YtdfllhmkgphcmaaDoorM9
namespace Go.Proofs.YtdfllhmkgphcmaaDoor
open Go.RowKit

/-- A machine in a box, in blocks of its own. -/
structure HM (w V : World) (b : Nat) (M : AM) (tg : Nat → Tag) : Prop where
  gr : w.grownBy V none
  k : V.heap[b]? = some (oM M)
  x : M.RdX w tg V
  hb : w.heap.size ≤ b
  tb : tg b = .no
theorem HM.lt {w V : World} {b : Nat} {M : AM} {tg : Nat → Tag} (h : HM w V b M tg) : b < V.heap.size := heap_lt h.k
theorem HM.grow {w V V' : World} {b : Nat} {M : AM} {tg : Nat → Tag} (h : HM w V b M tg) (g : V.grownBy V' none) : HM w V' b M tg :=
  ⟨h.gr.trans g, (g.block _ h.lt (by simp)).trans h.k, h.x.grow g, h.hb, h.tb⟩
theorem setM_size (w : World) (m : Nat) (M : AM) : (setM w m M).heap.size = w.heap.size := (set36_ok w m (.slice M.p.bA M.p.bs.length M.p.bc) (.slice M.p.sA M.p.ss.length M.p.sc) (.slice M.sA M.S.length M.sc) (.slice M.fA M.F.length M.fc) (iv M.steps) (.int .u64 M.seed) (.bool M.done) (iv M.err)).2.2.2.1
/-- Another box is written. -/
theorem HM.put {w V : World} {b : Nat} {M : AM} {tg : Nat → Tag} (h : HM w V b M tg) {b' : Nat} (M' : AM) (hb' : w.heap.size ≤ b') (hne : b ≠ b') (ht : tg b' = .no) : HM w (setM V b' M') b M tg := by
  have g := grown_setM h.gr hb' M'
  refine ⟨g, (setM_at hne).trans h.k, h.x.keep g (by rw [setM_size]; exact Nat.le_refl _) fun k hk hn => setM_at fun e => hn (by rw [e]; exact ht), h.hb, h.tb⟩
/-- A machine comes back, and is stored in its box. -/
theorem HM.back {w V V' : World} {b : Nat} {M M' : AM} {tg tg' : Nat → Tag} (h : HM w V b M tg) (g : V.grownBy V' none) (hx : M'.RdX w tg' V') (ht : ∀ k, k < V.heap.size → tg' k = tg k) : HM w (setM V' b M') b M' tg' := by
  have g1 := grown_setM (h.gr.trans g) h.hb M'
  have tb : tg' b = .no := (ht b h.lt).trans h.tb
  have k1 := (g.block _ h.lt (by simp)).trans h.k
  refine ⟨g1, ?_, hx.keep g1 (by rw [setM_size]; exact Nat.le_refl _) fun k hk hn => setM_at fun e => hn (by rw [e]; exact tb), h.hb, tb⟩
  unfold oM at k1 ⊢
  unfold setM
  exact set36_at _ _ _ _ _ _ _ _ k1
/-- A machine that starts. -/
theorem HM.start {w V : World} {p : Prg} {blk seed : Int} {B : Nat} (hp : p.Rd w) (hg : w.grownBy V none) (hB : w.heap.size ≤ B) (hk : V.heap[B]? = some (.cells #[iv blk, iv 0, nilS] 78 (0, 0))) : HM w (V.alloc (oM (bAM p blk seed B))) V.heap.size (bAM p blk seed B) (tgB B) :=
  ⟨hg.trans (World.grownBy_alloc _ _ none), al_new _ _, (bAM_rdX hp hg hB hk).grow (World.grownBy_alloc _ _ none), hg.size, tgB_no (by have := heap_lt hk; omega)⟩
theorem HM.c {w V : World} {b : Nat} {M : AM} {tg : Nat → Tag} (h : HM w V b M tg) : (V.cell? ⟨b, 0, none⟩ = some (.slice M.p.bA M.p.bs.length M.p.bc) ∧ V.cell? ⟨b, 1, none⟩ = some (.slice M.p.sA M.p.ss.length M.p.sc) ∧ V.cell? ⟨b, 2, none⟩ = some (.slice M.sA M.S.length M.sc) ∧ V.cell? ⟨b, 3, none⟩ = some (.slice M.fA M.F.length M.fc) ∧ V.cell? ⟨b, 4, none⟩ = some (iv M.steps) ∧ V.cell? ⟨b, 5, none⟩ = some (.int .u64 M.seed) ∧ V.cell? ⟨b, 6, none⟩ = some (.bool M.done) ∧ V.cell? ⟨b, 7, none⟩ = some (iv M.err)) ∧ ∀ j, V.frozen? ⟨b, j, none⟩ = false := cells36 h.k
/-- Another seed. -/
def AM.reseed (M : AM) (s : Int) : AM := { M with seed := s }
theorem HM.reseed {w V : World} {b : Nat} {M : AM} {tg : Nat → Tag} (h : HM w V b M tg) (s : Int) : HM w (V.setCell ⟨b, 5, none⟩ (.int .u64 s)) b (M.reseed s) tg := by
  have g : w.grownBy (V.setCell ⟨b, 5, none⟩ (.int .u64 s)) none := ⟨h.gr.os, h.gr.tape, h.gr.output, by simpa using h.gr.size, fun k hk hn => (heap_sc _ _ _ _ (by have := h.hb; omega)).trans (h.gr.block k hk hn)⟩
  have x1 : M.RdX w tg (V.setCell ⟨b, 5, none⟩ (.int .u64 s)) := h.x.keep g (by simp) fun k hk hn => heap_sc _ _ _ _ fun e => hn (by rw [e]; exact h.tb)
  refine ⟨g, ?_, ⟨x1.gr, x1.t, x1.p, x1.s, x1.f, x1.fx, x1.fc, x1.fm, x1.f0, x1.fl⟩, h.hb, h.tb⟩
  have k1 := h.k
  unfold oM at k1 ⊢
  rw [heap_set k1]
  simp [AM.reseed]
theorem HM.keep {w V : World} {b b' : Nat} {M : AM} {tg : Nat → Tag} (h : HM w V b M tg) (hb' : w.heap.size ≤ b') (hne : b ≠ b') (ht : tg b' = .no) (j : Nat) (u : Value) : HM w (V.setCell ⟨b', j, none⟩ u) b M tg := by
  have g : w.grownBy (V.setCell ⟨b', j, none⟩ u) none := ⟨h.gr.os, h.gr.tape, h.gr.output, by simpa using h.gr.size, fun k hk hn => (heap_sc _ _ _ _ (by omega)).trans (h.gr.block k hk hn)⟩
  exact ⟨g, (heap_sc _ _ _ _ hne).trans h.k, h.x.keep g (by simp) fun k hk hn => heap_sc _ _ _ _ fun e => hn (by rw [e]; exact ht), h.hb, h.tb⟩
end Go.Proofs.YtdfllhmkgphcmaaDoor

/- Walks: join (80). -/
import Derived.Test.YtjlmhfdigoogfaaRvC
namespace Go.Proofs.Ytjlmhfdigoogfaa
open Go.RowKit

/-- Nothing but the solver's rows is turned. -/
structure SGr (b : SB) (W W' : World) : Prop where
  os : W'.os = W.os
  tape : W'.tape = W.tape
  output : W'.output = W.output
  size : W.heap.size ≤ W'.heap.size
  block : ∀ k, k < W.heap.size → k ≠ b.ub → k ≠ b.ib → k ≠ b.tb → W'.heap[k]? = W.heap[k]?
theorem h_oth {V : World} {k b j : Nat} {o : Option Obj} (h : V.heap[k]? = o) (hk : k ≠ b) (u : Value) : (V.setCell ⟨b, j, none⟩ u).heap[k]? = o := (Below.heap_setCell _ _ _ _ hk).trans h
section
variable {b : SB} {B : Nat} {V : List Int} {S : SS} {L : List Ty} {W W' W'' : World}
theorem SGr.gr (g : Gr W W') : SGr b W W' := ⟨g.os, g.tape, g.output, g.size, fun k hk _ _ _ => g.block k hk (by simp)⟩
theorem SGr.refl (b : SB) (W : World) : SGr b W W := SGr.gr (gr_refl W)
theorem SGr.trans (h : SGr b W W') (k : SGr b W' W'') : SGr b W W'' := ⟨k.os.trans h.os, k.tape.trans h.tape, k.output.trans h.output, Nat.le_trans h.size k.size, fun j hj h1 h2 h3 => (k.block j (Nat.lt_of_lt_of_le hj h.size) h1 h2 h3).trans (h.block j hj h1 h2 h3)⟩
theorem SGr.set {k : Nat} (h : k = b.ub ∨ k = b.ib ∨ k = b.tb) (W : World) (j : Nat) (v : Value) : SGr b W (W.setCell ⟨k, j, none⟩ v) :=
  ⟨rfl, rfl, rfl, by simp [World.setCell], fun i _ h1 h2 h3 => Below.heap_setCell _ _ _ _ (show i ≠ k by rcases h with h | h | h <;> omega)⟩
theorem SGr.h {k : Nat} {o : Obj} (g : SGr b W W') (h : W.heap[k]? = some o) (h1 : k ≠ b.ub) (h2 : k ≠ b.ib) (h3 : k ≠ b.tb) : W'.heap[k]? = some o := (g.block k (heap_lt h) h1 h2 h3).trans h
theorem TG.sg {x : Ty} (h : TG B V x W) (g : SGr b W W') (lo : B ≤ b.ub ∧ B ≤ b.ib ∧ B ≤ b.tb) : TG B V x W' :=
  ⟨TRd.keepAt h.rd h.tin g.size fun k hk hl => g.block k hl (by omega) (by omega) (by omega), h.tin, h.gv⟩
theorem SMem.low (h : SMem b B V S L W) : B ≤ b.ub ∧ B ≤ b.ib ∧ B ≤ b.tb := h.lo.2
theorem arr_set {c : Array Value} {j i : Nat} {v : Value} (hj : j < c.size) : (c.setIfInBounds j v)[i]? = if j = i then some v else c[i]? := by
  rw [Array.getElem?_setIfInBounds]
  by_cases h : j = i
  · rw [if_pos h, if_pos h, if_pos hj]
  · rw [if_neg h, if_neg h]
theorem set_heap {k : Nat} {c : Array Value} {t : TypeId} {j : Nat} {v : Value} (h : W.heap[k]? = some (.cells c t (0, 0))) : (W.setCell ⟨k, j, none⟩ v).heap[k]? = some (.cells (c.setIfInBounds j v) t (0, 0)) := by
  simp [World.setCell, Array.getElem?_modify, h]
/-- A class goes up to another one. -/
theorem SMem.setU (h : SMem b B V S L W) {a c : Nat} (hc : c < V.length) (w : WF V (S.jn a c)) : SMem b B V (S.jn a c) L (W.setCell ⟨b.ub, c, none⟩ (iv a)) := by
  have ne := h.ne
  have g : SGr b W (W.setCell ⟨b.ub, c, none⟩ (iv a)) := SGr.set (.inl rfl) _ _ _
  have gb := grown_set (w := W) b.ub c (iv a)
  have lo := h.lo
  refine ⟨w, h.n, h.a1, h_oth h.h ne.1 _, h.v.but gb fun a e e2 => ?_, fun hn => ?_, ?_, ?_, h.l, fun y hy => ⟨gb_rd gb (by omega) (h.r y hy).1 (h.r y hy).2, (h.r y hy).2⟩, h.bv, h.lo, h.ne, by simpa [World.setCell] using h.ul⟩
  · have h1 := h.bv (Nat.lt_of_le_of_lt (Nat.zero_le _) hc) a e
    have h2 : a.block = b.ub := Option.some.inj e2
    omega
  · obtain ⟨q, h1, h2⟩ := h.u hn
    refine ⟨_, set_heap h1, fun i hi => ?_⟩
    have hq : c < q.size := (Array.getElem?_eq_some_iff.1 (h2 c hc)).1
    rw [arr_set hq, jn_u h.wf hc]
    by_cases e : c = i
    · rw [if_pos e, if_pos e.symm]
    · rw [if_neg e, if_neg (Ne.symm e)]; exact h2 i hi
  · obtain ⟨q, h1, h2⟩ := h.i
    exact ⟨q, h_oth h1 (Ne.symm ne.2.2.2.1) _, h2⟩
  · obtain ⟨q, h1, h2⟩ := h.t
    exact ⟨q, h_oth h1 (Ne.symm ne.2.2.2.2.1) _, h2⟩
/-- A class gets a type. -/
theorem SMem.setT (h : SMem b B V S L W) {c : Nat} (hc : c < V.length) {x : Ty} (hx : TG B V x W) (w : WF V (S.bd c x.er)) : SMem b B V (S.bd c x.er) (L.set c x) ((((W.setCell ⟨b.ib, c, none⟩ (.bool true)).setCell ⟨b.tb, c * 3, none⟩ (iv x.kind)).setCell ⟨b.tb, c * 3 + 1, none⟩ (iv x.var)).setCell ⟨b.tb, c * 3 + 2, none⟩ (.slice x.A x.sub.length x.c)) := by
  have ne := h.ne
  have lo := h.lo
  generalize hW' : (((W.setCell ⟨b.ib, c, none⟩ (.bool true)).setCell ⟨b.tb, c * 3, none⟩ (iv x.kind)).setCell ⟨b.tb, c * 3 + 1, none⟩ (iv x.var)).setCell ⟨b.tb, c * 3 + 2, none⟩ (.slice x.A x.sub.length x.c) = W'
  have oth : ∀ (k : Nat) (o : Obj), W.heap[k]? = some o → k ≠ b.ib → k ≠ b.tb → W'.heap[k]? = some o := fun k o ho h1 h2 => by
    rw [← hW']
    exact h_oth (h_oth (h_oth (h_oth ho h1 _) h2 _) h2 _) h2 _
  have hs : W.heap.size ≤ W'.heap.size := by rw [← hW']; simp [World.setCell]
  have low : ∀ k, k < B → k < W.heap.size → W'.heap[k]? = W.heap[k]? := fun k h1 h2 => by
    obtain ⟨o, ho⟩ : ∃ o, W.heap[k]? = some o := ⟨_, Array.getElem?_eq_getElem h2⟩
    rw [ho]
    exact oth k o ho (by omega) (by omega)
  refine ⟨w, h.n, h.a1, oth _ _ h.h ne.2.1 ne.2.2.1, RD.keepAt h.v hs fun a e _ hl => low _ (h.bv (Nat.lt_of_le_of_lt (Nat.zero_le _) hc) a e) hl, fun hn => ?_, ?_, ?_, ?_, fun y hy => ?_, h.bv, h.lo, h.ne, Nat.lt_of_lt_of_le h.ul hs⟩
  · obtain ⟨q, h1, h2⟩ := h.u hn
    exact ⟨q, oth _ _ h1 ne.2.2.2.1 ne.2.2.2.2.1, h2⟩
  · obtain ⟨q, h1, h2⟩ := h.i
    have hq : c < q.size := (Array.getElem?_eq_some_iff.1 (h2 c hc)).1
    refine ⟨_, by rw [← hW']; exact h_oth (h_oth (h_oth (set_heap h1) ne.2.2.2.2.2 _) ne.2.2.2.2.2 _) ne.2.2.2.2.2 _, fun i hi => ?_⟩
    rw [arr_set hq, bd_b h.wf hc]
    by_cases e : c = i
    · rw [if_pos e, if_pos e.symm]
    · rw [if_neg e, if_neg (Ne.symm e)]; exact h2 i hi
  · obtain ⟨q, h1, h2⟩ := h.t
    obtain ⟨y0, hy0, e0, e1, e2⟩ := h2 c hc
    have hq : c * 3 + 2 < q.size := (Array.getElem?_eq_some_iff.1 e2).1
    refine ⟨_, by rw [← hW']; exact set_heap (set_heap (set_heap (h_oth h1 (Ne.symm ne.2.2.2.2.2) _))), fun i hi => ?_⟩
    have hz : ∀ (d : Array Value) (j i : Nat) (v : Value), d.size = q.size → j < q.size → (d.setIfInBounds j v)[i]? = if j = i then some v else d[i]? := fun d j i v h1 h2 => arr_set (by omega)
    have z1 : (q.setIfInBounds (c * 3) (iv x.kind)).size = q.size := by simp
    have z2 : ((q.setIfInBounds (c * 3) (iv x.kind)).setIfInBounds (c * 3 + 1) (iv x.var)).size = q.size := by simp
    have get : ∀ k, (((q.setIfInBounds (c * 3) (iv x.kind)).setIfInBounds (c * 3 + 1) (iv x.var)).setIfInBounds (c * 3 + 2) (.slice x.A x.sub.length x.c))[k]? = if c * 3 + 2 = k then some (.slice x.A x.sub.length x.c) else if c * 3 + 1 = k then some (iv x.var) else if c * 3 = k then some (iv x.kind) else q[k]? := fun k => by
      rw [hz _ _ _ _ z2 (by omega), hz _ _ _ _ z1 (by omega), hz _ _ _ _ rfl (by omega)]
    rw [get, get, get]
    by_cases e : c = i
    · subst e
      refine ⟨x, ?_, ?_, ?_, ?_⟩
      · rw [List.getElem?_set, if_pos rfl, if_pos (List.getElem?_eq_some_iff.1 hy0).1]
      · rw [if_neg (by omega), if_neg (by omega), if_pos rfl]
      · rw [if_neg (by omega), if_pos rfl]
      · rw [if_pos rfl]
    · obtain ⟨y, hy, f0, f1, f2⟩ := h2 i hi
      refine ⟨y, ?_, ?_, ?_, ?_⟩
      · rw [List.getElem?_set, if_neg e]; exact hy
      · rw [if_neg (by omega), if_neg (by omega), if_neg (by omega)]; exact f0
      · rw [if_neg (by omega), if_neg (by omega), if_neg (by omega)]; exact f1
      · rw [if_neg (by omega), if_neg (by omega), if_neg (by omega)]; exact f2
  · rw [List.map_set, h.l]; rfl
  · rcases List.mem_or_eq_of_mem_set hy with hy | rfl
    · exact ⟨TRd.keepAt (h.r y hy).1 (h.r y hy).2 hs low, (h.r y hy).2⟩
    · exact ⟨TRd.keepAt hx.rd hx.tin hs low, hx.tin⟩
/-- What is left where something is made equal. -/
def EqM (b : SB) (B : Nat) (V : List Int) (L : List Ty) (S S' : SS) (r : Bool) (W : World) (e : Ending) (W' : World) : Prop := e = .returned (.bool r) ∧ ∃ L', SMem b B V S' L' W' ∧ SGr b W W' ∧ ∀ i, i < V.length → S.b i = true → S'.b i = true ∧ L'[i]? = L[i]?
end
end Go.Proofs.Ytjlmhfdigoogfaa

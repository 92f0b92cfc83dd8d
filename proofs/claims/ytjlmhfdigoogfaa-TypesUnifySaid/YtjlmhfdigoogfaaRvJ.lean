/- Walks: full (51): a variable. -/
import Derived.Test.YtjlmhfdigoogfaaRvI
namespace Go.Proofs.Ytjlmhfdigoogfaa
open Go.RowKit

/-- Between the rounds of full. -/
structure FI (B : Nat) (x : Ty) (K : Int) (acc : List PT) (w : World) (k : Nat) (v : Value) (V : World) : Prop where
  gr : Gr w V
  t2 : V.heap[w.heap.size]? = some (.cells #[iv K, iv x.var, .slice x.A x.sub.length x.c] 24 (0, 0))
  t4 : V.heap[w.heap.size + 1]? = some (.cells #[iv 0, iv 0, .slice none 0 0] 24 (0, 0))
  t5 : V.heap[w.heap.size + 2]? = some (.cells #[iv K, iv 0, v] 24 (0, 0))
  ex : ∃ L : List Ty, OR 24 3 Ty.cs V (w.heap.size + 3) v L ∧ ers L = acc ∧ ∀ y ∈ L, y.Rd V ∧ TIn (fun j => w.heap.size + 3 ≤ j) y.A y.sub ∧ TIn (fun j => v.ownBlock ≠ some j) y.A y.sub
theorem results_rt {P : Program} {fn : Func} {p u : Tmp} {ty : TypeId} {x : Value} (h : fn.results = #[.cell p ty, .tmp u]) (tmps : Array Value) (w : World) (g : Nat) (t : TypeId) (cs : Array Value) (fr : Nat × Nat) (d : TypeDesc)
    (hp : tmps.getD p undef = .pointer (some ⟨g, 0, none⟩)) (hx : tmps.getD u undef = x) (hg : w.heap[g]? = some (.cells cs t fr))
    (hu : P.underlying ty = some d) (hd : (match d with | .struct _ | .array _ _ => true | _ => false) = true) (hi : (P.info? ty).map (·.size) = some cs.size) :
    (results fn tmps).run P w = .ok (.tuple #[.agg cs, x]) w := by
  rw [results_cell_tmp h, hp, hx]
  simp [asAddr, run_loadVar_row w g t ty cs fr d hg hu hd hi, Result.andThen]
theorem fi_step {B : Nat} {acc : List PT} {x : Ty} {K : Int} {w : World} {k : Nat} {A A7 : Option Addr} {c c7 m : Nat} {wr w6 w7 : World} {q : Ty} {L : List Ty} {o : Obj} (HR : FI B x K acc w k (.slice A k c) wr) (_hg0 : B ≤ w.heap.size)
    (hE : ers L = acc) (hL : ∀ y ∈ L, y.Rd wr ∧ TIn (fun j => w.heap.size + 3 ≤ j) y.A y.sub ∧ TIn (fun j => (Value.slice A k c).ownBlock ≠ some j) y.A y.sub)
    (hO : OR 24 3 Ty.cs wr (w.heap.size + 3) (.slice A k c) L) (hm : wr.heap.size ≤ m) (g : Gr wr w6) (hq : q.Rd w6) (hqi : TIn (fun k => m ≤ k) q.A q.sub)
    (o7 : OR 24 3 Ty.cs w7 (w.heap.size + 3) (.slice A7 (k + 1) c7) (L ++ [q])) (g7 : (w6.alloc o).grownBy w7 (Value.slice A k c).ownBlock)
    (b7 : (Value.slice A7 (k + 1) c7).ownBlock = (Value.slice A k c).ownBlock ∨ (Value.slice A7 (k + 1) c7).ownBlock = some (w6.alloc o).heap.size) :
    FI B x K (acc ++ [q.er]) w (k + 1) (.slice A7 (k + 1) c7) (w7.setCell ⟨w.heap.size + 2, 2, none⟩ (.slice A7 (k + 1) c7)) := by
  have hlt := hO.lt
  have h5 := heap_lt HR.t5
  have hs := g.size
  have hs7 := g7.size
  have ha : (w6.alloc o).heap.size = w6.heap.size + 1 := by simp
  have gw : Gr w (w6.alloc o) := (HR.gr.trans g).trans (gr_al _ _)
  have G7 : Gr w w7 := ⟨g7.os.trans gw.os, g7.tape.trans gw.tape, g7.output.trans gw.output, Nat.le_trans gw.size g7.size, fun j hj _ => (g7.block j (Nat.lt_of_lt_of_le hj gw.size) (by
    intro e
    have := hlt _ e.symm
    omega)).trans (gw.block j hj (by simp))⟩
  have st : ∀ j, j ≠ w.heap.size + 2 → j < w6.heap.size → (Value.slice A k c).ownBlock ≠ some j → (w7.setCell ⟨w.heap.size + 2, 2, none⟩ (.slice A7 (k + 1) c7)).heap[j]? = w6.heap[j]? := fun j h1 h2 h3 =>
    (Below.heap_setCell _ _ _ _ h1).trans ((g7.block j (by omega) (fun e => h3 e.symm)).trans (Below.heap_alloc _ _ _ h2))
  have ow : ∀ j, j < w.heap.size + 3 → (Value.slice A k c).ownBlock ≠ some j := fun j hj e => by have := hlt _ e; omega
  have sz : (w7.setCell ⟨w.heap.size + 2, 2, none⟩ (.slice A7 (k + 1) c7)).heap.size = w7.heap.size := by simp [World.setCell]
  refine ⟨gr_cell G7 (by omega) _, ?_, ?_, ?_, L ++ [q], ?_, ?_, ?_⟩
  · exact (st _ (by omega) (by omega) (ow _ (by omega))).trans (gr_h g HR.t2)
  · exact (st _ (by omega) (by omega) (ow _ (by omega))).trans (gr_h g HR.t4)
  · exact set3_2 (((g7.block _ (by omega) (fun e => ow _ (by omega) e.symm)).trans (Below.heap_alloc _ _ _ (by omega))).trans (gr_h g HR.t5))
  · refine o7.kept (grown_set _ _ _) ?_
    cases hb : (Value.slice A7 (k + 1) c7).ownBlock with
    | none => exact .inl rfl
    | some j => right; intro e; have := o7.lt j hb; cases e; omega
  · rw [ers_append, hE]; simp
  · intro z hz
    rcases List.mem_append.1 hz with hz | hz
    · obtain ⟨z1, z2, z3⟩ := hL z hz
      have z4 := (z1.tin.and (z2.and z3))
      refine ⟨TRd.keepAt z1 z4 (by omega) fun j hj hl => ?_, z2, z4.mono fun j hj => ?_⟩
      · exact (st j (by have := hj.2.1; omega) (by omega) hj.2.2).trans (g.block j hl (by simp))
      · rcases b7 with h | h
        · rw [h]; exact hj.2.2
        · rw [h]; intro e; have := hj.1; cases e; omega
    · simp only [List.mem_singleton] at hz
      subst hz
      have z4 := (TRd.tin hq).and hqi
      have z5 : ∀ j, m ≤ j → (Value.slice A k c).ownBlock ≠ some j := fun j hj e => by have := hlt _ e; omega
      refine ⟨TRd.keepAt hq z4 (by omega) fun j hj hl => ?_, hqi.mono fun j hj => by omega, z4.mono fun j hj => ?_⟩
      · exact st j (by have := hj.2; omega) hl (z5 j hj.2)
      · rcases b7 with h | h
        · rw [h]; exact z5 j hj.2
        · rw [h]; intro e; have := hj.1; cases e; omega
theorem fi_end {B : Nat} {acc : List PT} {n : Nat} {x : Ty} {K : Int} {w : World} {A : Option Addr} {c : Nat} {wr : World} {L : List Ty} (HR : FI B x K acc w n (.slice A n c) wr) (_hg0 : B ≤ w.heap.size)
    (hO : OR 24 3 Ty.cs wr (w.heap.size + 3) (.slice A n c) L) (hE : ers L = acc) (hL : ∀ y ∈ L, y.Rd wr ∧ TIn (fun j => w.heap.size + 3 ≤ j) y.A y.sub ∧ TIn (fun j => (Value.slice A n c).ownBlock ≠ some j) y.A y.sub)
    (hk : L.length = n) (V : World) (hV : V.heap.size = wr.heap.size) (st : ∀ j, j ≠ w.heap.size + 1 → V.heap[j]? = wr.heap[j]?) :
    TyR (fun k => w.heap.size ≤ k) (.mk K 0 acc) V (.agg #[iv K, iv 0, .slice A n c]) := by
  obtain ⟨A', c', e1, hr, h1, h2, h3, h4⟩ := hO.form2 Ty.cs_len
  obtain ⟨rfl, -, rfl⟩ := Value.slice.inj e1
  have h5 := heap_lt HR.t5
  have z2 : TIn (fun j => w.heap.size + 3 ≤ j) A L := .mk (fun a e _ => (h4 a e).1) fun z hz => (hL z hz).2.1
  have z1 : TRd wr A c L := .mk h1 h2 h3 hr fun z hz => (hL z hz).1
  refine ⟨.mk K 0 A c L, by unfold Ty.v; simp [Ty.kind, Ty.var, Ty.A, Ty.sub, Ty.c, hk], TRd.keepAt z1 z2 (by omega) fun j hj _ => st j (by omega), z2.mono fun j hj => by omega, ?_⟩
  simp [Ty.er, hE]
/-- What full leaves. -/
def FuR (_B : Nat) (r : PT) (k : Nat) (W : World) (e : Ending) (W' : World) : Prop := (∃ q : Ty, e = .returned (.tuple #[.agg #[iv q.kind, iv q.var, .slice q.A q.sub.length q.c], iv k]) ∧ q.Rd W' ∧ TIn (fun j => W.heap.size ≤ j) q.A q.sub ∧ q.er = r) ∧ Gr W W'
/-- What full does. -/
def FUH (b : SB) (B : Nat) (V : List Int) (S : SS) (L : List Ty) (g : PT → Nat → Option (PT × Nat)) : Prop := ∀ (W : World) (x : Ty) (l : Nat) (r : PT) (k : Nat), SMem b B V S L W → TG B V x W → l ≤ 200 → g x.er l = some (r, k) → Calls Try.prog 51 #[.pointer (some ⟨b.sp, 0, none⟩), x.v, iv l] W (FuR B r k W)
theorem b2_z (k v : Int) (s : Value) (W : World) : B2 k v s 0 0 (.slice none 0 0) W ((W.alloc (.cells #[iv k, iv v, s] 24)).alloc (.cells #[iv 0, iv 0, .slice none 0 0] 24)) := b2_new _ _ _ _ _ _ _
attribute [local irreducible] Calls in
set_option maxRecDepth 100000 in
set_option maxHeartbeats 2000000 in
theorem full_vf (b : SB) (B : Nat) (V : List Int) (S : SS) (L : List Ty) (W : World) (h : SMem b B V S L W) (v : Int) (hv : v ∈ V) (s : Value) (l : Nat) (hb : S.b (cls V S v) = false) :
    Calls Try.prog 51 #[.pointer (some ⟨b.sp, 0, none⟩), .agg #[iv 5, iv v, s], iv l] W (FuR B (vr (vat V (cls V S v))) 1 W) := by
  have BB := Lib.hid (b2_z 5 v s W)
  obtain ⟨⟨p0, p1, p2⟩, -⟩ := cell3 BB.out.h1
  obtain ⟨⟨q0, q1, q2⟩, qf⟩ := cell3 BB.out.h2
  have hN := h.n
  have hc := cls_lt h.wf hv
  have C1 := Lib.hid (fun U (g : Gr W U) => class_any b B V S L U (h.gr g) v hv)
  have H := Lib.hid (fun U (g : Gr W U) => h.gr g)
  clear h hv
  generalize hke : cls V S v = k at *
  clear hke
  go_enter Try.func51, Try.ntmps51
  go_upto_region 2 with (fail)
  generalize hW3 : ((W.alloc (.cells #[iv 5, iv v, s] 24)).alloc (.cells #[iv 0, iv 0, .slice none 0 0] 24)) = W3 at *
  clear hW3
  have H3 := Lib.hid (H.out _ BB.out.gr)
  obtain ⟨s0, s1, s2, s3⟩ := H3.out.hd
  obtain ⟨pc, -⟩ := H3.out.ic hc
  obtain ⟨va, hA0, vc⟩ := H3.out.vc hc
  rw [hA0] at s0
  clear hA0
  rw [hb] at pc
  go_wp2_with (first | (go_at_call 81; (with_reducible refine (C1.out _ BB.out.gr).mono ?_); rintro e z ⟨rfl, rfl⟩) | (go_at_call 26; (with_reducible refine (var_any _ _).mono ?_); rintro e w4 ⟨rfl, g4⟩; have G4 := Lib.hid g4; have q0' := gr_c g4 q0; have q1' := gr_c g4 q1; have q2' := gr_c g4 q2; have HQ := Lib.hid (gr_h g4 BB.out.h2); obtain ⟨-, zf⟩ := cell3 (gr_h g4 BB.out.h2); clear g4))
  refine bodyPost_ret (results_rt (P := Try.prog) rfl _ _ (W.heap.size + 1) _ _ _ _ rfl rfl (set3 (a' := iv 5) (b' := iv (vat V k)) (c' := .slice none 0 0) HQ.out) rfl rfl rfl) rfl ⟨⟨.mk 5 (vat V k) none 0 [], rfl, TRd.nil _, TIn.nil, rfl⟩, ?_⟩
  exact gr_cell (gr_cell (gr_cell (World.grownBy.but (BB.out.gr.trans G4.out) _) (by omega) _) (by omega) _) (by omega) _
attribute [local irreducible] Calls in
set_option maxRecDepth 100000 in
set_option maxHeartbeats 2000000 in
theorem full_vb (b : SB) (B : Nat) (V : List Int) (S : SS) (L : List Ty) (W : World) (h : SMem b B V S L W) (v : Int) (hv : v ∈ V) (s : Value) (l : Nat) (hl : l ≤ 200) (hb : S.b (cls V S v) = true) (g : PT → Nat → Option (PT × Nat)) (FU : FUH b B V S L g) (r : PT) (m : Nat) (e : g (S.t (cls V S v)) l = some (r, m)) :
    Calls Try.prog 51 #[.pointer (some ⟨b.sp, 0, none⟩), .agg #[iv 5, iv v, s], iv l] W (FuR B r m W) := by
  have BB := Lib.hid (b2_z 5 v s W)
  obtain ⟨⟨p0, p1, p2⟩, -⟩ := cell3 BB.out.h1
  obtain ⟨⟨q0, q1, q2⟩, qf⟩ := cell3 BB.out.h2
  have hN := h.n
  have hc := cls_lt h.wf hv
  have C1 := Lib.hid (fun U (g : Gr W U) => class_any b B V S L U (h.gr g) v hv)
  have H := Lib.hid (fun U (g : Gr W U) => h.gr g)
  have CE := Lib.hid (fun U (g : Gr W U) y (hy : TG B V y U) (he : y.er = S.t (cls V S v)) => FU U y l r m (h.gr g) hy hl (by rw [he]; exact e))
  clear h hv e FU
  generalize hke : cls V S v = k at *
  clear hke
  go_enter Try.func51, Try.ntmps51
  go_upto_region 2 with (fail)
  generalize hW3 : ((W.alloc (.cells #[iv 5, iv v, s] 24)).alloc (.cells #[iv 0, iv 0, .slice none 0 0] 24)) = W3 at *
  clear hW3
  have H3 := Lib.hid (H.out _ BB.out.gr)
  obtain ⟨s0, s1, s2, s3⟩ := H3.out.hd
  obtain ⟨pc, -⟩ := H3.out.ic hc
  rw [hb] at pc
  have hlo := H3.out.low
  have hul := (H.out _ (gr_refl _)).ul
  have h31 := heap_lt BB.out.h2
  obtain ⟨y, hyL, ye, yr, yi, yc, -⟩ := H3.out.tc hc
  have YG : TG B V y W3 := ⟨yr, yi, by rw [ye]; exact H3.out.wf.gv hc hb⟩
  have CE2 := Lib.hid (CE.out _ BB.out.gr y YG ye)
  unfold Ty.v at CE2
  obtain ⟨y0, y1, y2⟩ := yc
  clear YG ye yr yi hyL
  go_wp2_with (first | (go_at_call 81; (with_reducible refine (C1.out _ BB.out.gr).mono ?_); rintro e z ⟨rfl, rfl⟩) | (go_at_call 51; (with_reducible refine CE2.out.mono ?_); rintro e w4 ⟨⟨q, rfl, qr, qi, qe⟩, g4⟩; have G4 := Lib.hid g4; have q0' := gr_c g4 q0; have q1' := gr_c g4 q1; have q2' := gr_c g4 q2; have HQ := Lib.hid (gr_h g4 BB.out.h2); obtain ⟨-, zf⟩ := cell3 (gr_h g4 BB.out.h2); have QR := Lib.hid qr; have QI := Lib.hid qi; have QE := Lib.hid qe; clear g4 qr qi qe))
  refine bodyPost_ret (results_rt (P := Try.prog) rfl _ _ (W.heap.size + 1) _ _ _ _ rfl rfl (set3 (a' := iv q.kind) (b' := iv q.var) (c' := .slice q.A q.sub.length q.c) HQ.out) rfl rfl rfl) rfl ⟨⟨q, rfl, ?_, ?_, QE.out⟩, ?_⟩
  · exact TRd.keepAt QR.out QI.out (by simp [World.setCell]) fun j hj _ => by
      have hj1 : j ≠ W.heap.size + 1 := by omega
      exact (Below.heap_setCell _ _ _ _ hj1).trans ((Below.heap_setCell _ _ _ _ hj1).trans (Below.heap_setCell _ _ _ _ hj1))
  · exact QI.out.mono fun j hj => by omega
  · exact gr_cell (gr_cell (gr_cell (World.grownBy.but (BB.out.gr.trans G4.out) _) (by omega) _) (by omega) _) (by omega) _
end Go.Proofs.Ytjlmhfdigoogfaa

/- Words: a block of the reference; single operations at a frame that is a letter. -/
import Derived.Test.YtgboboljgcfggaaDoorNub
import Derived.Test.YtgboboljgcfggaaDoorM7
namespace Go.Proofs.YtgboboljgcfggaaDoor
open Go.RowKit Go.Maps
attribute [local go_sem] Oper.semAt_some

theorem results_b3 {fn : Func} {p q r : Tmp} (h : fn.results = #[.cell p 61, .tmp q, .tmp r]) (tmps : Array Value) (w : World) (a : Addr) (x y z u v : Value) (hp : tmps.getD p undef = .pointer (some a)) (hq : tmps.getD q undef = u) (hr : tmps.getD r undef = v) (h0 : w.cell? a = some x) (h1 : w.cell? ⟨a.block, a.off + 1, none⟩ = some y) (h2 : w.cell? ⟨a.block, a.off + 2, none⟩ = some z) : (results fn tmps).run Tryd.prog w = .ok (.tuple #[.agg #[x, y, z], u, v]) w := by
  have ha := Tryd.isAgg61
  have hz := Tryd.sizeOf61
  have hp' : tmps[p]?.getD undef = .pointer (some a) := by simpa using hp
  have hq' : tmps[q]?.getD undef = u := by simpa using hq
  have hr' : tmps[r]?.getD undef = v := by simpa using hr
  clear hp hq hr
  simp only [results, h]
  simp [Sem.run_bind, hp', hq', hr', asAddr, go_sem, ha, hz, loadVar, h0, h1, h2]
section
variable {o : Oper} {a : Act} {w : World}
theorem op_faSp {x : Tmp} {i g f : Nat} (hd : o.dst.isSome = true) (hi : i = 0 ∨ i = 1) (ho : o.op = .fieldAddr 84 (.tmp x) i) (h : a.eval (.tmp x) = .pointer (some ⟨g, f, none⟩)) : (execOp a.eval o).run Tryd.prog w = .ok (nx o (.pointer (some ⟨g, f + i, none⟩))) w := by
  rw [nx_some hd]
  unfold Act.eval at h
  obtain ⟨d, op, t, ps, af, gu⟩ := o
  simp only at ho
  subst ho
  rcases hi with rfl | rfl <;> go_simp
theorem op_faC {x : Tmp} {p : Addr} (hd : o.dst.isSome = true) (ho : o.op = .fieldAddr 49 (.tmp x) 1) (h : a.eval (.tmp x) = .pointer (some p)) : (execOp a.eval o).run Tryd.prog w = .ok (nx o (.pointer (some ⟨p.block, p.off + 1, none⟩))) w := by
  rw [nx_some hd]
  unfold Act.eval at h
  obtain ⟨d, op, t, ps, af, gu⟩ := o
  simp only at ho
  subst ho
  go_simp
theorem op_ldB {x : Tmp} {p : Addr} {v : Value} (hd : o.dst.isSome = true) (ho : o.op = .load 26 (.tmp x)) (h : a.eval (.tmp x) = .pointer (some p)) (hc : w.cell? p = some v) : (execOp a.eval o).run Tryd.prog w = .ok (nx o v) w := by
  rw [nx_some hd]
  unfold Act.eval at h
  obtain ⟨d, op, t, ps, af, gu⟩ := o
  simp only at ho
  subst ho
  go_simp
theorem op_ldBk {x : Tmp} {p : Addr} {u v z : Value} (hd : o.dst.isSome = true) (ho : o.op = .load 61 (.tmp x)) (h : a.eval (.tmp x) = .pointer (some p)) (h0 : w.cell? p = some u) (h1 : w.cell? ⟨p.block, p.off + 1, none⟩ = some v) (h2 : w.cell? ⟨p.block, p.off + 2, none⟩ = some z) : (execOp a.eval o).run Tryd.prog w = .ok (nx o (.agg #[u, v, z])) w := by
  rw [nx_some hd]
  unfold Act.eval at h
  obtain ⟨d, op, t, ps, af, gu⟩ := o
  simp only at ho
  subst ho
  go_simp
theorem op_ix3 {x y : Tmp} {T : TypeId} {n c k : Nat} {p p1 : Addr} (hd : o.dst.isSome = true) (hT : T = 22 ∨ T = 26) (ho : o.op = .indexAddr T (.tmp x) (.tmp y)) (h : a.eval (.tmp x) = .slice (some p) n c) (h' : a.eval (.tmp y) = .int .i64 k) (hk : k < n) (e : p.add (k * 3) = p1) : (execOp a.eval o).run Tryd.prog w = .ok (nx o (.pointer (some p1))) w := by
  rw [nx_some hd]
  unfold Act.eval at h h'
  obtain ⟨d, op, t, ps, af, gu⟩ := o
  simp only at ho
  subst ho
  subst e
  rcases hT with rfl | rfl <;> go_simp
theorem op_alB {m : Nat} (hs : w.heap.size = m) (hd : o.dst.isSome = true) (ho : o.op = .alloc 61) : (execOp a.eval o).run Tryd.prog w = .ok (nx o (.pointer (some ⟨m, 0, none⟩))) (w.alloc (.cells #[iv 0, .bool false, .slice none 0 0] 61)) := by
  subst hs
  rw [nx_some hd]
  obtain ⟨d, op, t, ps, af, gu⟩ := o
  simp only at ho
  subst ho
  go_simp
theorem op_stB {x y : Tmp} {g : Nat} {n : Int} {q : Bool} {A' : Option Addr} {k c : Nat} {u0 u1 u2 : Value} (hd : o.dst.isSome = false) (ho : o.op = .store 61 (.tmp x) (.tmp y)) (h : a.eval (.tmp x) = .pointer (some ⟨g, 0, none⟩)) (h' : a.eval (.tmp y) = .agg #[iv n, .bool q, .slice A' k c]) (hg : w.heap[g]? = some (.cells #[u0, u1, u2] 61 (0, 0))) : (execOp a.eval o).run Tryd.prog w = .ok (nx o undef) (((w.setCell ⟨g, 0, none⟩ (iv n)).setCell ⟨g, 1, none⟩ (.bool q)).setCell ⟨g, 2, none⟩ (.slice A' k c)) := by
  have c0 : w.cell? ⟨g, 0, none⟩ = some u0 := by rw [Lib.cell_of_heap hg]; rfl
  have c1 : w.cell? ⟨g, 1, none⟩ = some u1 := by rw [Lib.cell_of_heap hg]; rfl
  have c2 : w.cell? ⟨g, 2, none⟩ = some u2 := by rw [Lib.cell_of_heap hg]; rfl
  have f0 := frz hg 0
  have f1 := frz hg 1
  have f2 := frz hg 2
  have h2 : a.tmps[x]?.getD undef = .pointer (some ⟨g, 0, none⟩) := by simpa [Act.eval] using h
  have h3 : a.tmps[y]?.getD undef = .agg #[iv n, .bool q, .slice A' k c] := by simpa [Act.eval] using h'
  rw [nx_none hd]
  clear hg
  obtain ⟨d, op, t, ps, af, gu⟩ := o
  simp only at ho
  subst ho
  go_simp
end
/-- Between the rounds of block: what it has put together, and the blocks that have numbers. -/
structure BoS (w V : World) (ob : Nat) (c0 c1 v : Value) (M : List Ins) (A0 Ak : Option Addr) (K : List Sp) (W : World) : Prop where
  g : V.grownBy W (some ob)
  p : W.heap[ob]? = some (.cells #[c0, c1, v] 61 (0, 0))
  o : OR 63 4 Ins.cs W V.heap.size v M
  r : RD 2 Sp.cs W Ak K
  n1 : ∀ a, Ak = some a → a.block < w.heap.size ∨ V.heap.size ≤ a.block
  n2 : ∀ a, Ak = some a → v.ownBlock ≠ some a.block ∧ a.block < W.heap.size
  n3 : Ak = A0 ∨ ∀ a, Ak = some a → V.heap.size ≤ a.block
section
variable {w V W W' W1 : World} {ob b : Nat} {c0 c1 v v' : Value} {M M' : List Ins} {A0 Ak Ak' : Option Addr} {K K' : List Sp}
theorem BoS.gw (h : BoS w V ob c0 c1 v M A0 Ak K W) (hb : w.heap.size ≤ ob) (g : Gr w V) : Gr w W := gr_own g hb h.g
theorem BoS.go (h : BoS w V ob c0 c1 v M A0 Ak K W) (g : Gr W W') : BoS w V ob c0 c1 v M A0 Ak K W' :=
  ⟨h.g.trans (World.grownBy.but g _), gr_h g h.p, h.o.gr g, h.r.gr g, h.n1, fun a ha => ⟨(h.n2 a ha).1, Nat.lt_of_lt_of_le (h.n2 a ha).2 g.size⟩, h.n3⟩
theorem BoS.num (h : BoS w V ob c0 c1 v M A0 Ak K W) (g : Gr W W') (r' : RD 2 Sp.cs W' Ak' K') (hn : Ak' = Ak ∨ ∀ a, Ak' = some a → W.heap.size ≤ a.block) (hK : K' ≠ []) : BoS w V ob c0 c1 v M A0 Ak' K' W' := by
  have h' := h.go g
  rcases hn with rfl | hn
  · exact ⟨h'.g, h'.p, h'.o, r', h'.n1, h'.n2, h'.n3⟩
  · refine ⟨h'.g, h'.p, h'.o, r', fun a ha => .inr (Nat.le_trans h.g.size (hn a ha)), fun a ha => ⟨fun e => ?_, ?_⟩, .inr fun a ha => Nat.le_trans h.g.size (hn a ha)⟩
    · have h1 := (h.o.lt _ e).2
      have h2 := hn a ha
      omega
    · rcases r' with h1 | ⟨a', e, hb, -⟩
      · exact absurd h1 hK
      · rw [ha] at e; cases e; exact hb
/-- A store into a block of the round's own. -/
theorem BoS.cell (h : BoS w V ob c0 c1 v M A0 Ak K W) (hb : V.heap.size ≤ b) (h1 : b ≠ ob) (h2 : v.ownBlock ≠ some b) (h3 : ∀ a, Ak = some a → a.block ≠ b) (j : Nat) (u : Value) : BoS w V ob c0 c1 v M A0 Ak K (W.setCell ⟨b, j, none⟩ u) := by
  have g := grown_set (w := W) b j u
  refine ⟨⟨g.os.trans h.g.os, g.tape.trans h.g.tape, g.output.trans h.g.output, Nat.le_trans h.g.size g.size, fun k hk hn => ?_⟩, ?_, h.o.kept g (.inr h2), h.r.but g (fun a ha e => h3 a ha (Option.some.inj e)), h.n1, fun a ha => ⟨(h.n2 a ha).1, by simpa [World.setCell] using (h.n2 a ha).2⟩, h.n3⟩
  · exact (Below.heap_setCell _ _ _ _ (by show k ≠ b; omega)).trans (h.g.block k hk hn)
  · exact (Below.heap_setCell _ _ _ _ (by show ob ≠ b; omega)).trans h.p
/-- An instruction more; it is stored. -/
theorem BoS.put (h : BoS w V ob c0 c1 v M A0 Ak K W) (hw : w.heap.size ≤ ob) (hV : ob < V.heap.size) (o' : OR 63 4 Ins.cs W1 V.heap.size v' M') (g' : W.grownBy W1 v.ownBlock) (hv : v'.ownBlock = v.ownBlock ∨ v'.ownBlock = some W.heap.size) : BoS w V ob c0 c1 v' M' A0 Ak K (W1.setCell ⟨ob, 2, none⟩ v') := by
  have own : ∀ j, v.ownBlock = some j → V.heap.size ≤ j := fun j hj => (h.o.lt j hj).1
  have st : ∀ j, j < V.heap.size → W1.heap[j]? = W.heap[j]? := fun j hj => g'.block j (by have := h.g.size; omega) (fun e => by have := own j e.symm; omega)
  have r1 : RD 2 Sp.cs W1 Ak K := h.r.but g' (fun a ha e => (h.n2 a ha).1 e.symm)
  refine ⟨⟨g'.os.trans h.g.os, g'.tape.trans h.g.tape, g'.output.trans h.g.output, ?_, fun j hj hn => ?_⟩, ?_, ?_, ?_, h.n1, fun a ha => ⟨?_, ?_⟩, h.n3⟩
  · have := h.g.size
    have := g'.size
    simp only [World.setCell, Array.size_modify]
    omega
  · exact (Below.heap_setCell _ _ _ _ (by show j ≠ ob; exact fun e => hn (by rw [e]))).trans ((st j hj).trans (h.g.block j hj hn))
  · have h1 := (st _ hV).trans h.p
    simp [World.setCell, Array.getElem?_modify, h1]
  · refine o'.kept (grown_set _ _ _) ?_
    cases hq : v'.ownBlock with
    | none => exact .inl rfl
    | some j => right; intro e; cases e; have := (o'.lt _ hq).1; omega
  · refine r1.but (grown_set _ _ _) (fun a ha e => ?_)
    have := Option.some.inj e
    rcases h.n1 a ha with h1 | h1 <;> omega
  · rcases hv with e | e
    · rw [e]; exact (h.n2 a ha).1
    · rw [e]
      intro e2
      have := Option.some.inj e2
      have := (h.n2 a ha).2
      omega
  · have := (h.n2 a ha).2
    have := g'.size
    simp only [World.setCell, Array.size_modify]
    omega
end
theorem BoS.fin {w V W W' : World} {ob b : Nat} {c0 c1 v : Value} {M : List Ins} {A0 Ak : Option Addr} {K : List Sp} (h : BoS w V ob c0 c1 v M A0 Ak K W) (gV : Gr w V) (hw : w.heap.size ≤ ob) (hb : w.heap.size ≤ b) (hb2 : b < V.heap.size) (g : W.grownBy W' (some b)) : OR 63 4 Ins.cs W' V.heap.size v M ∧ RD 2 Sp.cs W' Ak K ∧ Gr w W' := by
  refine ⟨h.o.kept g ?_, h.r.but g (fun a ha e => ?_), gr_own (h.gw hw gV) hb g⟩
  · cases hq : v.ownBlock with
    | none => exact .inl rfl
    | some j => right; intro e; cases e; have := (h.o.lt _ hq).1; omega
  · have := Option.some.inj e
    rcases h.n1 a ha with h1 | h1 <;> omega
theorem grown3 {W : World} {b : Nat} (u0 u1 u2 : Value) : W.grownBy (((W.setCell ⟨b, 0, none⟩ u0).setCell ⟨b, 1, none⟩ u1).setCell ⟨b, 2, none⟩ u2) (some b) := ((grown_set _ _ _).trans (grown_set _ _ _)).trans (grown_set _ _ _)
/-- What block leaves. -/
def BlP (l : List PC) (s : Sp) (K : List Sp) (Ak : Option Addr) (w : World) (e : Ending) (w' : World) : Prop := Gr w w' ∧
  match addAll K ((blkAt l s).ins.filterMap (tgt l s)) with
  | none => ∃ (n : Int) (q : Bool) (A1 : Option Addr) (m1 c1 : Nat) (A2 : Option Addr) (m2 c2 : Nat), e = .returned (.tuple #[.agg #[iv n, .bool q, .slice A1 m1 c1], .slice A2 m2 c2, .bool false])
  | some K' => ∃ (A1 : Option Addr) (c1 : Nat) (A2 : Option Addr) (c2 : Nat), e = .returned (.tuple #[.agg #[iv (blkAt l s).cap, .bool (blkAt l s).param, .slice A1 (blkAt l s).ins.length c1], .slice A2 K'.length c2, .bool true]) ∧
      RD 4 Ins.cs w' A1 ((blkAt l s).ins.map (relab l K' s)) ∧ RD 2 Sp.cs w' A2 K' ∧ (∀ a, A1 = some a → w.heap.size ≤ a.block ∧ a.block < w'.heap.size) ∧ (A2 = Ak ∨ ∀ a, A2 = some a → w.heap.size ≤ a.block)
theorem relab_app {l : List PC} {K e : List Sp} {s : Sp} {x : Ins} (h : ∀ t, tgt l s x = some (some t) → t ∈ K) : relab l (K ++ e) s x = relab l K s x := by
  unfold relab
  split
  · rename_i t ht
    have h2 := h t ht
    rw [List.idxOf_append, if_pos h2]
  · rfl
theorem tgt_nf {l : List PC} {s : Sp} {x : Ins} (h : x.op ≠ 4 ∧ x.op ≠ 5) : tgt l s x = none := by
  unfold tgt
  rw [if_neg h.1, if_neg h.2]
theorem relab_nf {l : List PC} {K : List Sp} {s : Sp} {x : Ins} (h : x.op ≠ 4 ∧ x.op ≠ 5) : relab l K s x = x := by
  unfold relab
  rw [tgt_nf h]
theorem relab_of {l : List PC} {K : List Sp} {s t : Sp} {x : Ins} (h : tgt l s x = some (some t)) : relab l K s x = ⟨x.op, K.idxOf t, x.b, []⟩ := by
  unfold relab
  rw [h]
/-- The targets of the first instructions, and these with numbers. -/
structure RbI (l : List PC) (s : Sp) (K : List Sp) (ins : List Ins) (j : Nat) (K' : List Sp) (M : List Ins) : Prop where
  a : addAll K ((ins.take j).filterMap (tgt l s)) = some K'
  m : M = (ins.take j).map (relab l K' s)
theorem RbI.nil {l : List PC} {s : Sp} {K : List Sp} {ins : List Ins} : RbI l s K ins 0 K [] := ⟨rfl, rfl⟩
theorem RbI.tg {l : List PC} {s : Sp} {K K' : List Sp} {ins M : List Ins} {j : Nat} (h : RbI l s K ins j K' M) : ∀ x ∈ ins.take j, ∀ t, tgt l s x = some (some t) → t ∈ K' := fun x hx t ht =>
  ((addAll_mem _ _ _ h.a).1 t).2 (.inr (List.mem_filterMap.2 ⟨x, hx, ht⟩))
theorem addAll_app' : ∀ (r m : List (Option Sp)) (k : List Sp), addAll k (r ++ m) = (addAll k r).bind fun k' => addAll k' m
  | [], m, k => rfl
  | none :: _, _, _ => rfl
  | some x :: r, m, k => by
    rw [List.cons_append, addAll, addAll]
    exact addAll_app' r m _
theorem RbI.no {l : List PC} {s : Sp} {K K' : List Sp} {ins M : List Ins} {j : Nat} {x : Ins} (h : RbI l s K ins j K' M) (hx : ins[j]? = some x) (hn : x.op ≠ 4 ∧ x.op ≠ 5) : RbI l s K ins (j + 1) K' (M ++ [x]) := by
  refine ⟨?_, ?_⟩
  · rw [List.take_add_one, hx, List.filterMap_append, addAll_app', h.a]
    simp [tgt_nf hn, addAll]
  · rw [List.take_add_one, hx, List.map_append, ← h.m]
    simp [relab_nf hn]
theorem RbI.yes {l : List PC} {s t : Sp} {K K' : List Sp} {ins M : List Ins} {j : Nat} {x : Ins} (h : RbI l s K ins j K' M) (hx : ins[j]? = some x) (ht : tgt l s x = some (some t)) : RbI l s K ins (j + 1) (addS K' t) (M ++ [⟨x.op, (addS K' t).idxOf t, x.b, []⟩]) := by
  refine ⟨?_, ?_⟩
  · rw [List.take_add_one, hx, List.filterMap_append, addAll_app', h.a]
    simp [ht, addAll]
  · obtain ⟨e, he⟩ := addS_pre K' t
    rw [List.take_add_one, hx, List.map_append, h.m]
    congr 1
    · refine List.map_congr_left fun y hy => ?_
      rw [he]
      exact (relab_app (h.tg y hy)).symm
    · simp [relab_of ht]
theorem RbI.bad {l : List PC} {s : Sp} {K K' : List Sp} {ins M : List Ins} {j : Nat} {x : Ins} (h : RbI l s K ins j K' M) (hx : ins[j]? = some x) (ht : tgt l s x = some none) : addAll K (ins.filterMap (tgt l s)) = none := by
  obtain ⟨hk, e⟩ := List.getElem?_eq_some_iff.1 hx
  have h2 : ins = ins.take j ++ (x :: ins.drop (j + 1)) := by
    rw [← e, ← List.drop_eq_getElem_cons hk, List.take_append_drop]
  rw [h2, List.filterMap_append, addAll_app', h.a, List.filterMap_cons, ht]
  rfl
theorem RbI.all {l : List PC} {s : Sp} {K K' : List Sp} {ins M : List Ins} {j : Nat} (h : RbI l s K ins j K' M) (hj : ins.length = j) : addAll K (ins.filterMap (tgt l s)) = some K' ∧ M = ins.map (relab l K' s) := by
  have e : ins.take j = ins := List.take_of_length_le (by omega)
  have h1 := h.a
  have h2 := h.m
  rw [e] at h1 h2
  exact ⟨h1, h2⟩
theorem addS_len (k : List Sp) (x : Sp) : (addS k x).length ≤ k.length + 1 := by
  unfold addS
  split <;> simp
theorem addS_ne (k : List Sp) (x : Sp) : addS k x ≠ [] := fun h => by
  have : x ∈ addS k x := mem_addS.2 (.inr rfl)
  rw [h] at this
  cases this
end Go.Proofs.YtgboboljgcfggaaDoor

/- Walks and words: RunAk, RunAl, RunAm, RunAn, RunAo, RunAp. -/
import Derived.Test.YtgboboljgcfggaaGreatDoorMb2
import Derived.Laws.CopyRow
import Derived.Laws.MakeOwn
namespace Go.Proofs.YtgboboljgcfggaaGreatDoor
open Go.RowKit
section
variable {o : Oper} {a : Act} {w : World}
theorem op_lookup {x y : Tmp} {r : Nat} {q : Addr} {v : Value} (hd : o.dst.isSome = true) (ho : o.op = .lookup 163 (.tmp x) (.tmp y) false) (h : a.eval (.tmp x) = .map (some r)) (h' : a.eval (.tmp y) = .pointer (some q)) (hl : (Instr.lookup 163 (.map (some r)) (.pointer (some q)) false).run Tryz.prog w = .ok v w) : (execOp a.eval o).run Tryz.prog w = .ok (nx o v) w := by
  rw [nx_some hd]
  unfold Act.eval at h h'
  obtain ⟨d, op, t, ps, af, gu⟩ := o
  simp only at ho
  subst ho
  go_simp
theorem op_delete {x y : Tmp} {r : Nat} {q : Addr} {w' : World} (ho : o.op = .call { callee := .builtin .delete, args := #[.tmp x, .tmp y], argTypes := #[163, 234] }) (h : a.eval (.tmp x) = .map (some r)) (h' : a.eval (.tmp y) = .pointer (some q)) (hl : ∀ ty, (Builtin.delete_ #[163, 234] ty #[.map (some r), .pointer (some q)]).run Tryz.prog w = .ok (.tuple #[]) w') : (execOp a.eval o).run Tryz.prog w = .ok (.value (.tuple #[])) w' := by
  unfold Act.eval at h h'
  obtain ⟨d, op, t, ps, af, gu⟩ := o
  simp only at ho
  subst ho
  have hl' := hl t
  clear hl
  go_simp
theorem wl_value {P : Program} {ops : Array Oper} {rest : List Oper} {Q : Exit → Act → World → Prop} {v : Value} {w' : World} (hgd : o.guard = none) (hr : (execOp a.eval o).run P w = .ok (.value v) w') (h : wpList P ops Q rest (a.put o.dst v) w') : wpList P ops Q (o :: rest) a w := by
  refine wpList_plain hgd fun K hK => ?_
  unfold Oper.wp
  rw [hr]
  simp [Oper.upon]
  exact hK _ _ h
theorem op_mapUpdate {x y z : Tmp} {r : Nat} {q : Addr} {v : Value} {w' : World} (hd : o.dst.isSome = false) (ho : o.op = .mapUpdate 163 (.tmp x) (.tmp y) (.tmp z)) (h : a.eval (.tmp x) = .map (some r)) (h' : a.eval (.tmp y) = .pointer (some q)) (h2 : a.eval (.tmp z) = v) (hl : (Instr.mapUpdate 163 (.map (some r)) (.pointer (some q)) v).run Tryz.prog w = .ok () w') : (execOp a.eval o).run Tryz.prog w = .ok (nx o undef) w' := by
  rw [nx_none hd]
  unfold Act.eval at h h' h2
  obtain ⟨d, op, t, ps, af, gu⟩ := o
  simp only at ho
  subst ho
  go_simp
theorem op_copyd {x y : Tmp} {u v r : Value} {w' : World} (hd : o.dst.isSome = true) (ho : o.op = .call { callee := .builtin .copy, args := #[.tmp x, .tmp y], argTypes := #[47, 47] }) (h : a.eval (.tmp x) = u) (h' : a.eval (.tmp y) = v) (hl : ∀ ty, (Builtin.copy_ #[47, 47] ty #[u, v]).run Tryz.prog w = .ok r w') : (execOp a.eval o).run Tryz.prog w = .ok (nx o r) w' := by
  rw [nx_some hd]
  unfold Act.eval at h h'
  obtain ⟨d, op, t, ps, af, gu⟩ := o
  simp only at ho
  subst ho
  have hl' := hl t
  clear hl
  go_simp
theorem op_tail {x y : Tmp} {g n c k r m d : Nat} {ki : Int} (hr : k * 8 = r) (hm : n - k = m) (hc : c - k = d) (hd : o.dst.isSome = true) (ho : o.op = .slice 47 (.tmp x) (some (.tmp y)) none none) (h : a.eval (.tmp x) = .slice (some ⟨g, 0, none⟩) n c) (h' : a.eval (.tmp y) = .int .i64 ki) (hki : ki = k) (hk : k < n) (hnc : n ≤ c) : (execOp a.eval o).run Tryz.prog w = .ok (nx o (.slice (some ⟨g, r, none⟩) m d)) w := by
  rw [nx_some hd]
  subst hr hm hc hki
  unfold Act.eval at h h'
  obtain ⟨dd, op, t, ps, af, gu⟩ := o
  simp only at ho
  subst ho
  have t1 : (0 : Int) ≤ k := by omega
  have t2 : (k : Int) ≤ n := by omega
  have t3 : ((k : Int)).toNat = k := by omega
  have t4 : (n : Int) ≤ c := by omega
  have t5 : k < c := by omega
  have t6 : (k : Int) < c := by omega
  have t7 : ¬ (c - k = 0) := by omega
  have t8 : ¬ (k : Int) = c := by omega
  have t9 : ¬ c = k := by omega
  go_simp
end
def c8 (x : AV) : Obj := .cells #[iv x.kind, iv x.int, .slice x.A x.list.length x.c, iv x.block, eSm, eSm, nilS, nilS] 56
theorem c8_cell (x : AV) {W : World} {m : Nat} (h : W.heap[m]? = some (c8 x)) (i : Nat) (hi : i < 8) : W.cell? ⟨m, 0 + i, none⟩ = x.cs[i]? := by
  unfold c8 at h
  rw [Nat.zero_add, Lib.cell_of_heap h]
  have : i = 0 ∨ i = 1 ∨ i = 2 ∨ i = 3 ∨ i = 4 ∨ i = 5 ∨ i = 6 ∨ i = 7 := by omega
  rcases this with rfl | rfl | rfl | rfl | rfl | rfl | rfl | rfl <;> rfl
def roomV (q : Addr) (R : List Rm) : Value := match rIdx q R with | some j => (match R[j]? with | some r => .pointer (some ⟨r.ro, 0, none⟩) | none => .pointer none) | none => .pointer none
def delR (q : Addr) (R : List Rm) : List Rm := match rIdx q R with | some j => R.eraseIdx j | none => R
theorem delR_sub (q : Addr) (R : List Rm) : (delR q R).Sublist R := by
  unfold delR
  split
  · exact List.eraseIdx_sublist R _
  · exact List.Sublist.refl _
theorem look_rooms {b : Bl} {w : World} {g : Gh} (h : Mem b w g) {q : Addr} {v : Value} (hq : w.cell? q = some v) {es : Array MapEntry} {clk : Nat} (hmo : w.heap[b.mb]? = some (.map es clk)) (hkv : es.toList.map (fun e => (e.key, e.val)) = g.R.map Rm.kv) :
    (Instr.lookup 163 (.map (some b.mb)) (.pointer (some q)) false).run Tryz.prog w = .ok (roomV q g.R) w := by
  have ks := rooms_keys h (es := es.toList) hkv hq
  rw [lookup_ptr (fun k => q == k) hmo ks, atK_rooms q g.R es.toList hkv]
  unfold roomV
  cases hj : rIdx q g.R with
  | none => rfl
  | some j =>
    obtain ⟨r, hr, _⟩ := rIdx_some hj
    have h1 := congrArg (fun l => l[j]?) hkv
    simp only [List.getElem?_map, hr, Option.map_some] at h1
    cases he : es.toList[j]? with
    | none => rw [he] at h1; simp at h1
    | some e =>
      rw [he] at h1
      simp [Rm.kv] at h1
      simp only [hr, he, h1.2]
theorem delR_ne {q : Addr} {R : List Rm} (hp : R.Pairwise fun r r' => r.ab ≠ r'.ab ∧ r.ro ≠ r'.ro) {j : Nat} {r : Rm} (hj : rIdx q R = some j) (hr : R[j]? = some r) : ∀ r' ∈ delR q R, r'.ab ≠ r.ab ∧ r'.ro ≠ r.ro := fun r' h' => by
  unfold delR at h'
  rw [hj] at h'
  simp only at h'
  obtain ⟨i, hi, hne, e⟩ := List.mem_eraseIdx_iff_getElem.1 h'
  obtain ⟨hjl, e2⟩ := List.getElem?_eq_some_iff.1 hr
  rw [List.pairwise_iff_getElem] at hp
  rcases Nat.lt_or_gt_of_ne hne with h1 | h1
  · have := hp i j hi hjl h1
    rw [e, e2] at this
    exact this
  · have := hp j i hjl hi h1
    rw [e, e2] at this
    exact ⟨Ne.symm this.1, Ne.symm this.2⟩
theorem copy8 (w : World) (ty : TypeId) (g o n dc sc : Nat) (A : Option Addr) (cur : Array Value) (cs : List Value) (hg : w.heap[g]? = some (.cells cur 56 (0, 0))) (hn : cs.length = n * 8) (hsrc : ∀ a, A = some a → ∀ j v, cs[j]? = some v → w.cell? (a.add j) = some v) (h0 : A = none → n = 0 ∧ sc = 0)
    (hfit : o + cs.length ≤ cur.size) (h1 : ∀ v ∈ cs, v.oneCell' = true) :
    (Builtin.copy_ #[47, 47] ty #[.slice (some ⟨g, o, none⟩) n dc, .slice A n sc]).run Tryz.prog w = .ok (goInt n) (w.setRow g (cur.toList.take o ++ cs ++ cur.toList.drop (o + cs.length)).toArray) := by
  obtain ⟨i0, hi, hz0, hz1, hz2⟩ := info_parts info54
  cases A with
  | none =>
    obtain ⟨rfl, rfl⟩ := h0 rfl
    have : cs = [] := by simpa using hn
    subst this
    rw [run_copy_nil Tryz.prog w 47 47 ty 56 _ _ _ Tryz.underlying47 (by rw [hi]; rfl)]
    have e : (cur.toList.take o ++ ([] : List Value) ++ cur.toList.drop (o + ([] : List Value).length)).toArray = cur := by simp
    rw [e, setRow_self w g cur 56 (0, 0) hg]
    rfl
  | some a =>
    have hl := run_loadCells_list (P := Tryz.prog) w a cs (hsrc a rfl)
    have hst := run_storeCells_at Tryz.prog g o 56 cs 0 cur w hg (by simpa using hfit) h1
    simp only [Nat.add_zero] at hst
    rw [hn] at hl
    simp [Builtin.copy_, run_underlying Tryz.underlying47, Builtin.lenOf, Builtin.firstCells, sizeOf, typeInfo, hi, hz1, hl, hst]
structure AhS (b : Bl) (W : World) (x : AV) (M0 ro ab sz st : Nat) (es : Array MapEntry) (clk : Nat) : Prop where
  m : W.heap[M0]? = some (c8 x)
  rc : ∃ cs fz, W.heap[b.rb]? = some (.cells cs 165 fz) ∧ cs[9]? = some (.map (some b.mb))
  hmb : W.heap[b.mb]? = some (.map es clk)
  hro : W.heap[ro]? = some (.cells #[.slice (some ⟨ab, 0, none⟩) sz sz, iv st] 236 (0, 0))
  hab : ∃ cur, W.heap[ab]? = some (.cells cur 56 (0, 0)) ∧ cur.size = sz * 8
  nm : M0 ≠ ab
  ks : ∀ e ∈ es.toList, ∃ k0 o0, e.key = .pointer (some ⟨k0, o0, none⟩) ∧ k0 ≠ ab ∧ ∃ cur, W.heap[k0]? = some (.cells cur 56 (0, 0))
section
variable {b : Bl} {W : World} {x : AV} {M0 ro ab sz st : Nat} {es : Array MapEntry} {clk : Nat}
theorem AhS.heap (h : AhS b W x M0 ro ab sz st es clk) {W' : World} (e : W'.heap = W.heap) : AhS b W' x M0 ro ab sz st es clk := by
  obtain ⟨h1, h2, h3, h4, h5, h6, h7⟩ := h
  exact ⟨by rw [e]; exact h1, by rw [e]; exact h2, by rw [e]; exact h3, by rw [e]; exact h4, by rw [e]; exact h5, h6, by rw [e]; exact h7⟩
theorem AhS.n1 (h : AhS b W x M0 ro ab sz st es clk) : ro ≠ ab := fun e => by obtain ⟨c, h1, _⟩ := h.hab; have h2 := h.hro; rw [e, h1] at h2; cases h2
theorem AhS.n2 (h : AhS b W x M0 ro ab sz st es clk) : M0 ≠ ro := fun e => by have h2 := h.hro; rw [← e, h.m] at h2; unfold c8 at h2; cases h2
theorem AhS.n3 (h : AhS b W x M0 ro ab sz st es clk) : b.rb ≠ ro := fun e => by obtain ⟨c, f, h1, _⟩ := h.rc; have h2 := h.hro; rw [← e, h1] at h2; cases h2
theorem AhS.n4 (h : AhS b W x M0 ro ab sz st es clk) : b.mb ≠ ro := fun e => by have h2 := h.hro; rw [← e, h.hmb] at h2; cases h2
theorem AhS.n5 (h : AhS b W x M0 ro ab sz st es clk) : b.rb ≠ ab := fun e => by obtain ⟨c, f, h1, _⟩ := h.rc; obtain ⟨c2, h2, _⟩ := h.hab; rw [← e, h1] at h2; cases h2
theorem AhS.n6 (h : AhS b W x M0 ro ab sz st es clk) : b.mb ≠ ab := fun e => by obtain ⟨c2, h2, _⟩ := h.hab; rw [← e, h.hmb] at h2; cases h2
theorem AhS.set (h : AhS b W x M0 ro ab sz st es clk) (st' : Nat) : AhS b (W.setCell ⟨ro, 1, none⟩ (iv st')) x M0 ro ab sz st' es clk := by
  have k : ∀ i, i ≠ ro → (W.setCell ⟨ro, 1, none⟩ (iv st')).heap[i]? = W.heap[i]? := fun i hi => Below.heap_setCell _ _ _ _ hi
  refine ⟨(k _ h.n2).trans h.m, ?_, (k _ h.n4).trans h.hmb, (heap_set h.hro 1 _).trans (by simp), ?_, h.nm, fun e he => ?_⟩
  · rw [k _ h.n3]; exact h.rc
  · rw [k _ (Ne.symm h.n1)]; exact h.hab
  · obtain ⟨k0, o0, e1, e2, c, e3⟩ := h.ks e he
    exact ⟨k0, o0, e1, e2, c, (k _ (fun e => by have h2 := h.hro; rw [← e, e3] at h2; cases h2)).trans e3⟩
theorem AhS.st8 (h : AhS b W x M0 ro ab sz st es clk) (y : AV) (o : Nat) : AhS b (st8 W ab o y) x M0 ro ab sz st es clk := by
  have k : ∀ i, i ≠ ab → (Go.Proofs.YtgboboljgcfggaaGreatDoor.st8 W ab o y).heap[i]? = W.heap[i]? := fun i hi => st8_other _ _ _ _ _ hi
  refine ⟨(k _ h.nm).trans h.m, ?_, (k _ h.n6).trans h.hmb, (k _ h.n1).trans h.hro, ?_, h.nm, fun e he => ?_⟩
  · rw [k _ h.n5]; exact h.rc
  · obtain ⟨c, h1, h2⟩ := h.hab
    obtain ⟨c', h3, h4⟩ := st8_hp W ab o y h1
    exact ⟨c', h3, h4.trans h2⟩
  · obtain ⟨k0, o0, e1, e2, c, e3⟩ := h.ks e he
    exact ⟨k0, o0, e1, e2, c, (k _ e2).trans e3⟩
theorem AhS.c9 (h : AhS b W x M0 ro ab sz st es clk) : W.cell? ⟨b.rb, 9, none⟩ = some (.map (some b.mb)) := by
  obtain ⟨c, f, h1, h2⟩ := h.rc
  simp [World.cell?, h1, h2]
theorem AhS.r0 (h : AhS b W x M0 ro ab sz st es clk) : W.cell? ⟨ro, 0, none⟩ = some (.slice (some ⟨ab, 0, none⟩) sz sz) := by simp [World.cell?, h.hro]
theorem AhS.r1 (h : AhS b W x M0 ro ab sz st es clk) : W.cell? ⟨ro, 1, none⟩ = some (iv st) := by simp [World.cell?, h.hro]
theorem AhS.rf (h : AhS b W x M0 ro ab sz st es clk) (j : Nat) : W.frozen? ⟨ro, j, none⟩ = false := by simp [World.frozen?, h.hro]
theorem AhS.af (h : AhS b W x M0 ro ab sz st es clk) (j : Nat) : W.frozen? ⟨ab, j, none⟩ = false := by
  obtain ⟨c, h1, _⟩ := h.hab
  simp [World.frozen?, h1]
theorem AhS.ac (h : AhS b W x M0 ro ab sz st es clk) (hs : st < sz) (i : Nat) (hi : i < 8) : (W.cell? ⟨ab, st * 8 + i, none⟩).isSome = true := by
  obtain ⟨c, h1, h2⟩ := h.hab
  have : st * 8 + i < c.size := by omega
  simp [World.cell?, h1, this]
theorem AhS.xc (h : AhS b W x M0 ro ab sz st es clk) (i : Nat) (hi : i < 8) : W.cell? ⟨M0, 0 + i, none⟩ = x.cs[i]? := c8_cell x h.m i hi
theorem AhS.upd (h : AhS b W x M0 ro ab sz st es clk) (hs : st < sz) (v : Value) : (Instr.mapUpdate 163 (.map (some b.mb)) (.pointer (some ⟨ab, st * 8, none⟩)) v).run Tryz.prog W = .ok () (mapw W b.mb (es.push { key := .pointer (some ⟨ab, st * 8, none⟩), val := v, born := clk }) (clk + 1)) := by
  obtain ⟨u, hu⟩ := Option.isSome_iff_exists.1 (h.ac hs 0 (by omega))
  rw [Nat.add_zero] at hu
  refine update_new (q := ⟨ab, st * 8, none⟩) v (fun k => (⟨ab, st * 8, none⟩ : Addr) == k) h.hmb (fun e he => ?_) ?_
  · obtain ⟨k0, o0, e1, e2, c, e3⟩ := h.ks e he
    refine ⟨_, e1, ?_⟩
    have : ((⟨ab, st * 8, none⟩ : Addr) == (⟨k0, o0, none⟩ : Addr)) = false := by
      apply Bool.eq_false_iff.2
      intro e4
      have := eq_of_beq e4
      simp at this
    rw [this]
    exact same_no (fun e => e2 e.symm) hu e3
  · unfold atK
    rw [List.findIdx?_eq_none_iff]
    intro e he
    obtain ⟨k0, o0, e1, e2, c, e3⟩ := h.ks e he
    rw [e1]
    apply Bool.eq_false_iff.2
    intro e4
    have := eq_of_beq e4
    simp at this
theorem AhS.q0 (h : AhS b W x M0 ro ab sz st es clk) (es' : Array MapEntry) (k : Nat) : (mapw W b.mb es' k).cell? ⟨ro, 0, none⟩ = some (.slice (some ⟨ab, 0, none⟩) sz sz) := (World.cell?_of_block (mapw_ne _ _ _ _ (Ne.symm h.n4))).trans h.r0
theorem AhS.q1 (h : AhS b W x M0 ro ab sz st es clk) (es' : Array MapEntry) (k : Nat) : (mapw W b.mb es' k).cell? ⟨ro, 1, none⟩ = some (iv st) := (World.cell?_of_block (mapw_ne _ _ _ _ (Ne.symm h.n4))).trans h.r1
end
theorem setCell_congr {w w' : World} (h : w.heap = w'.heap) (a : Addr) (v : Value) : (w.setCell a v).heap = (w'.setCell a v).heap := by simp [World.setCell, h]
theorem st8_congr {w w' : World} (h : w.heap = w'.heap) (g o : Nat) (x : AV) : (st8 w g o x).heap = (st8 w' g o x).heap := by
  unfold st8
  iterate 8 refine setCell_congr ?_ _ _
  exact h
theorem mapw_congr {w w' : World} (h : w.heap = w'.heap) (r : Nat) (es : Array MapEntry) (clk : Nat) : (mapw w r es clk).heap = (mapw w' r es clk).heap := by simp [mapw, h]
theorem ahead_fin {W0 W4 W5 W6 W7 : World} {x : AV} {ro ab st mb clk : Nat} {es : Array MapEntry} (H5 : W4.setCell ⟨ro, 1, none⟩ (iv st) = W5) (H6 : st8 W5.drew ab (st * 8) x = W6) (H7 : mapw W6.drew mb es clk = W7) (h0 : W4.heap = W0.heap) :
    W7.drew.heap = (mapw (st8 (W0.setCell ⟨ro, 1, none⟩ (iv st)) ab (st * 8) x) mb es clk).heap := by
  subst H7
  refine mapw_congr (w := W6.drew) ?_ _ _ _
  show W6.heap = _
  subst H6
  refine st8_congr ?_ _ _ _
  show W5.heap = _
  subst H5
  exact setCell_congr h0 _ _
theorem ahead_fin_os {W4 W5 W6 W7 : World} {x : AV} {ro ab st mb clk : Nat} {es : Array MapEntry} (H5 : W4.setCell ⟨ro, 1, none⟩ (iv st) = W5) (H6 : st8 W5.drew ab (st * 8) x = W6) (H7 : mapw W6.drew mb es clk = W7) : W7.drew.os = W4.os ∧ W7.drew.tape = W4.tape ∧ W7.drew.output = W4.output := by
  obtain ⟨a1, a2, a3⟩ := st8_os W5.drew ab (st * 8) x
  rw [H6] at a1 a2 a3
  have c : W5.os = W4.os ∧ W5.tape = W4.tape ∧ W5.output = W4.output := by rw [← H5]; exact ⟨rfl, rfl, rfl⟩
  have d : W7.os = W6.os ∧ W7.tape = W6.tape ∧ W7.output = W6.output := by rw [← H7]; exact ⟨rfl, rfl, rfl⟩
  exact ⟨d.1.trans (a1.trans c.1), d.2.1.trans (a2.trans c.2.1), d.2.2.trans (a3.trans c.2.2)⟩
end Go.Proofs.YtgboboljgcfggaaGreatDoor
namespace Go.Proofs.YtgboboljgcfggaaGreatDoor
open Go.RowKit
set_option maxRecDepth 100000 in
set_option maxHeartbeats 1000000 in
theorem ahead_room (b : Bl) (x : AV) (w : World) (q : Addr) (n c ro ab sz st : Nat) (es : Array MapEntry) (clk : Nat) (P : Ending → World → Prop) (N : Nat) (hN : N = st + 1) (hn : 0 < n) (hnc : n ≤ 1000000000) (hs : st + 1 ≤ sz) (hsz : sz ≤ 1000000000)
    (c9 : ∀ o k, ((w.alloc o).drewN k).cell? ⟨b.rb, 9, none⟩ = some (.map (some b.mb)))
    (LK : ∀ k, (Instr.lookup 163 (.map (some b.mb)) (.pointer (some q)) false).run Tryz.prog ((w.alloc (c8 x)).drewN k) = .ok (.pointer (some ⟨ro, 0, none⟩)) ((w.alloc (c8 x)).drewN k))
    (DL : ∀ k ty, (Builtin.delete_ #[163, 234] ty #[.map (some b.mb), .pointer (some q)]).run Tryz.prog ((w.alloc (c8 x)).drewN k) = .ok (.tuple #[]) (mapw ((w.alloc (c8 x)).drewN k) b.mb es clk))
    (S4 : ∀ k, AhS b (mapw ((w.alloc (c8 x)).drewN k) b.mb es clk) x w.heap.size ro ab sz N es clk)
    (FIN : ∀ w', w'.heap = (mapw (st8 ((mapw (w.alloc (c8 x)) b.mb es clk).setCell ⟨ro, 1, none⟩ (iv st)) ab (st * 8) x) b.mb (es.push { key := .pointer (some ⟨ab, st * 8, none⟩), val := .pointer (some ⟨ro, 0, none⟩), born := clk }) (clk + 1)).heap → w'.os = w.os → w'.tape = w.tape → w'.output = w.output →
      P (.returned (.slice (some ⟨ab, st * 8, none⟩) (sz - st) (sz - st))) w') :
    Calls Tryz.prog 160 #[.pointer (some ⟨b.rb, 0, none⟩), x.v, .slice (some q) n c] w P := by
  have z1 : (0 : Int) < (n : Int) := by omega
  have z2 : ((N : Int) == 0) = false := by simp; omega
  have z3 : IntKind.i64.wrap ((N : Int) - 1) = (st : Int) := by rw [IntWalk.i64_in _ (by omega)]; omega
  have hs' := Lib.hid hs
  have hN' := Lib.hid hN
  clear hN
  have LK := Lib.hid LK
  have DL := Lib.hid DL
  have S4 := Lib.hid S4
  have FIN := Lib.hid FIN
  have xe : x.v = .agg #[iv x.kind, iv x.int, .slice x.A x.list.length x.c, iv x.block, eSm, eSm, nilS, nilS] := rfl
  rw [xe]
  clear xe
  have we : w.alloc (.cells #[iv x.kind, iv x.int, .slice x.A x.list.length x.c, iv x.block, eSm, eSm, nilS, nilS] 56) = w.alloc (c8 x) := rfl
  have WE := Lib.hid we
  clear we
  go_enter Tryz.func160, Tryz.ntmps160
  go_wp2
  rw [WE.out]
  refine wp_phaseT [false, false, false, false, false, false, false, false] [[]] [Value.pointer (some ⟨b.rb, 0, none⟩), Value.pointer (some ⟨b.rb, 0, none⟩), Value.pointer (some ⟨b.rb, 9, none⟩), .map (some b.mb), Value.slice (some q) n c, .pointer (some q), Value.pointer (some ⟨ro, 0, none⟩), Value.pointer (some ⟨ro, 0, none⟩)] [_] 0 8 (by decide) (by kernel_rfl) (by kernel_rfl) (by kernel_rfl) (by kernel_rfl) rfl (by kernel_rfl) (fun h => absurd h (by decide)) (fun h => absurd h (by decide)) rfl rfl ⟨?_, ?_, ?_, ?_, ?_, ?_, ?_, ?_, trivial⟩ rfl (by kernel_rfl) ?_
  · intro kk aa hk E
    have h0 : aa.eval (.tmp 0) = Value.pointer (some ⟨b.rb, 0, none⟩) := (E 0 (by kernel_rfl)).trans (by kernel_rfl)
    exact obl_pure (by kernel_rfl) rfl hk fun w => op_move rfl rfl h0
  · intro kk aa hk E
    have h12 : aa.eval (.tmp 12) = Value.pointer (some ⟨b.rb, 0, none⟩) := (E 12 (by kernel_rfl)).trans (by kernel_rfl)
    exact obl_pure (by kernel_rfl) rfl hk fun w => op_nil rfl rfl h12
  · intro kk aa hk E
    have h13 : aa.eval (.tmp 13) = Value.pointer (some ⟨b.rb, 0, none⟩) := (E 13 (by kernel_rfl)).trans (by kernel_rfl)
    exact obl_pure (by kernel_rfl) rfl hk fun w => op_fa (k := 9) rfl rfl rfl h13
  · intro kk aa hk E
    have h14 : aa.eval (.tmp 14) = Value.pointer (some ⟨b.rb, 9, none⟩) := (E 14 (by kernel_rfl)).trans (by kernel_rfl)
    refine obl_read (ks := [0]) (by kernel_rfl) (by kernel_rfl) rfl hk ⟨?_, trivial⟩
    · intro w' hw; cases hw; exact op_load1M rfl (by decide) rfl h14 (c9 _ 1)
  · intro kk aa hk E
    have h2 : aa.eval (.tmp 2) = Value.slice (some q) n c := (E 2 (by kernel_rfl)).trans (by kernel_rfl)
    exact obl_pure (by kernel_rfl) rfl hk fun w => op_move rfl rfl h2
  · intro kk aa hk E
    have h16 : aa.eval (.tmp 16) = Value.slice (some q) n c := (E 16 (by kernel_rfl)).trans (by kernel_rfl)
    exact obl_pure (by kernel_rfl) rfl hk fun w => op_index0' rfl rfl h16 (by omega)
  · intro kk aa hk E
    have h15 : aa.eval (.tmp 15) = .map (some b.mb) := (E 15 (by kernel_rfl)).trans (by kernel_rfl)
    have h17 : aa.eval (.tmp 17) = .pointer (some q) := (E 17 (by kernel_rfl)).trans (by kernel_rfl)
    refine obl_read (ks := [0]) (by kernel_rfl) (by kernel_rfl) rfl hk ⟨?_, trivial⟩
    · intro w' hw; cases hw; exact op_lookup rfl rfl h15 h17 (LK.out 1)
  · intro kk aa hk E
    have h18 : aa.eval (.tmp 18) = Value.pointer (some ⟨ro, 0, none⟩) := (E 18 (by kernel_rfl)).trans (by kernel_rfl)
    exact obl_pure (by kernel_rfl) rfl hk fun w => op_assign rfl rfl h18
  intro af haf
  simp only [List.take_succ_cons, List.take_zero, finA, Act.put, List.setIfInBounds_toArray, List.set_cons_succ, List.set_cons_zero] at haf
  subst haf
  simp only [List.drop_succ_cons, List.drop_zero]
  go_wp2
  refine wp_phaseT [false, false, false, false, false, false] [[]] [Value.pointer (some ⟨b.rb, 0, none⟩), Value.pointer (some ⟨b.rb, 0, none⟩), Value.pointer (some ⟨b.rb, 9, none⟩), .map (some b.mb), Value.slice (some q) n c, .pointer (some q)] [_] 0 6 (by decide) (by kernel_rfl) (by kernel_rfl) (by kernel_rfl) (by kernel_rfl) rfl (by kernel_rfl) (fun _ => by kernel_rfl) (fun _ => by kernel_rfl) rfl rfl ⟨?_, ?_, ?_, ?_, ?_, ?_, trivial⟩ rfl (by kernel_rfl) ?_
  · intro kk aa hk E
    have h0 : aa.eval (.tmp 0) = Value.pointer (some ⟨b.rb, 0, none⟩) := (E 0 (by kernel_rfl)).trans (by kernel_rfl)
    exact obl_pure (by kernel_rfl) rfl hk fun w => op_move rfl rfl h0
  · intro kk aa hk E
    have h19 : aa.eval (.tmp 19) = Value.pointer (some ⟨b.rb, 0, none⟩) := (E 19 (by kernel_rfl)).trans (by kernel_rfl)
    exact obl_pure (by kernel_rfl) rfl hk fun w => op_nil rfl rfl h19
  · intro kk aa hk E
    have h20 : aa.eval (.tmp 20) = Value.pointer (some ⟨b.rb, 0, none⟩) := (E 20 (by kernel_rfl)).trans (by kernel_rfl)
    exact obl_pure (by kernel_rfl) rfl hk fun w => op_fa (k := 9) rfl rfl rfl h20
  · intro kk aa hk E
    have h21 : aa.eval (.tmp 21) = Value.pointer (some ⟨b.rb, 9, none⟩) := (E 21 (by kernel_rfl)).trans (by kernel_rfl)
    refine obl_read (ks := [0]) (by kernel_rfl) (by kernel_rfl) rfl hk ⟨?_, trivial⟩
    · intro w' hw; cases hw; exact op_load1M rfl (by decide) rfl h21 (c9 _ 2)
  · intro kk aa hk E
    have h2 : aa.eval (.tmp 2) = Value.slice (some q) n c := (E 2 (by kernel_rfl)).trans (by kernel_rfl)
    exact obl_pure (by kernel_rfl) rfl hk fun w => op_move rfl rfl h2
  · intro kk aa hk E
    have h23 : aa.eval (.tmp 23) = Value.slice (some q) n c := (E 23 (by kernel_rfl)).trans (by kernel_rfl)
    exact obl_pure (by kernel_rfl) rfl hk fun w => op_index0' rfl rfl h23 (by omega)
  intro af haf
  simp only [List.take_succ_cons, List.take_zero, finA, Act.put, List.setIfInBounds_toArray, List.set_cons_succ, List.set_cons_zero] at haf
  subst haf
  simp only [List.drop_succ_cons, List.drop_zero]
  refine wl_value (w' := mapw ((w.alloc (c8 x)).drewN 2) b.mb es clk) rfl (op_delete (x := 22) (y := 24) rfl rfl rfl (DL.out 2)) ?_
  have s4 := S4.out 2
  generalize hW4 : mapw ((w.alloc (c8 x)).drewN 2) b.mb es clk = W4 at s4 ⊢
  have H4 := Lib.hid hW4
  clear hW4
  have f0 := s4.r0
  have f1 := s4.r1
  have ff := s4.rf
  have S4' := Lib.hid s4
  clear s4
  go_wp2
  have s5 := S4'.out.set st
  generalize hW5 : W4.setCell ⟨ro, 1, none⟩ (Value.int IntKind.i64 ↑st) = W5 at s5 ⊢
  have H5 := Lib.hid hW5
  clear hW5 f0 f1 ff
  refine wp_phaseT [false, false, false, false, false, false, false, false, false, false, true] [[], [10]] [Value.pointer (some ⟨ro, 0, none⟩), Value.pointer (some ⟨ro, 0, none⟩), Value.pointer (some ⟨ro, 0, none⟩), .slice (some ⟨ab, 0, none⟩) sz sz, Value.pointer (some ⟨ro, 0, none⟩), Value.pointer (some ⟨ro, 0, none⟩), Value.pointer (some ⟨ro, 1, none⟩), iv st, x.v, Value.pointer (some ⟨ab, st * 8, none⟩), undef] [_, (st8 W5.drew ab (st * 8) x)] 1 11 (by decide) (by kernel_rfl) (by kernel_rfl) (by kernel_rfl) (by kernel_rfl) rfl (by kernel_rfl) (fun h => absurd h (by decide)) (fun h => absurd h (by decide)) rfl rfl ⟨?_, ?_, ?_, ?_, ?_, ?_, ?_, ?_, ?_, ?_, ?_, trivial⟩ rfl (by kernel_rfl) ?_
  · intro kk aa hk E
    have h7 : aa.eval (.tmp 7) = Value.pointer (some ⟨ro, 0, none⟩) := (E 7 (by kernel_rfl)).trans (by kernel_rfl)
    exact obl_pure (by kernel_rfl) rfl hk fun w => op_move rfl rfl h7
  · intro kk aa hk E
    have h64 : aa.eval (.tmp 64) = Value.pointer (some ⟨ro, 0, none⟩) := (E 64 (by kernel_rfl)).trans (by kernel_rfl)
    exact obl_pure (by kernel_rfl) rfl hk fun w => op_nil rfl rfl h64
  · intro kk aa hk E
    have h65 : aa.eval (.tmp 65) = Value.pointer (some ⟨ro, 0, none⟩) := (E 65 (by kernel_rfl)).trans (by kernel_rfl)
    exact obl_pure (by kernel_rfl) rfl hk fun w => op_fa (k := 0) rfl rfl rfl h65
  · intro kk aa hk E
    have h66 : aa.eval (.tmp 66) = Value.pointer (some ⟨ro, 0, none⟩) := (E 66 (by kernel_rfl)).trans (by kernel_rfl)
    refine obl_read (ks := [0]) (by kernel_rfl) (by kernel_rfl) rfl hk ⟨?_, trivial⟩
    · intro w' hw; cases hw; exact op_load1M rfl (by decide) rfl h66 s5.r0
  · intro kk aa hk E
    have h7 : aa.eval (.tmp 7) = Value.pointer (some ⟨ro, 0, none⟩) := (E 7 (by kernel_rfl)).trans (by kernel_rfl)
    exact obl_pure (by kernel_rfl) rfl hk fun w => op_move rfl rfl h7
  · intro kk aa hk E
    have h68 : aa.eval (.tmp 68) = Value.pointer (some ⟨ro, 0, none⟩) := (E 68 (by kernel_rfl)).trans (by kernel_rfl)
    exact obl_pure (by kernel_rfl) rfl hk fun w => op_nil rfl rfl h68
  · intro kk aa hk E
    have h69 : aa.eval (.tmp 69) = Value.pointer (some ⟨ro, 0, none⟩) := (E 69 (by kernel_rfl)).trans (by kernel_rfl)
    exact obl_pure (by kernel_rfl) rfl hk fun w => op_fa (k := 1) rfl rfl rfl h69
  · intro kk aa hk E
    have h70 : aa.eval (.tmp 70) = Value.pointer (some ⟨ro, 1, none⟩) := (E 70 (by kernel_rfl)).trans (by kernel_rfl)
    refine obl_read (ks := [0]) (by kernel_rfl) (by kernel_rfl) rfl hk ⟨?_, trivial⟩
    · intro w' hw; cases hw; exact op_load1M rfl (by decide) rfl h70 s5.r1
  · intro kk aa hk E
    have h4 : aa.eval (.tmp 4) = Value.pointer (some ⟨w.heap.size, 0, none⟩) := (E 4 (by kernel_rfl)).trans (by kernel_rfl)
    refine obl_read (ks := [0]) (by kernel_rfl) (by kernel_rfl) rfl hk ⟨?_, trivial⟩
    · intro w' hw; cases hw; exact op_load54 (vs := x.cs) rfl rfl rfl h4 s5.xc
  · intro kk aa hk E
    have h67 : aa.eval (.tmp 67) = .slice (some ⟨ab, 0, none⟩) sz sz := (E 67 (by kernel_rfl)).trans (by kernel_rfl)
    have h71 : aa.eval (.tmp 71) = iv st := (E 71 (by kernel_rfl)).trans (by kernel_rfl)
    exact obl_pure (by kernel_rfl) rfl hk fun w => op_index (sz := 8) (k := st) (Nat.zero_add _) rfl (.inl ⟨rfl, rfl⟩) rfl h67 h71 rfl (by omega)
  · intro kk aa hk E
    have h73 : aa.eval (.tmp 73) = Value.pointer (some ⟨ab, st * 8, none⟩) := (E 73 (by kernel_rfl)).trans (by kernel_rfl)
    have h72 : aa.eval (.tmp 72) = x.v := (E 72 (by kernel_rfl)).trans (by kernel_rfl)
    exact obl_write (ks := [0]) (by kernel_rfl) (by kernel_rfl) hk ⟨⟨1, _, _, by kernel_rfl, rfl, rfl, op_st8 rfl rfl h73 h72 (fun i hi => s5.ac (by omega) i hi) s5.af⟩, trivial⟩
  intro af haf
  simp only [List.take_succ_cons, List.take_zero, finA, Act.put, List.setIfInBounds_toArray, List.set_cons_succ, List.set_cons_zero] at haf
  subst haf
  simp only [List.drop_succ_cons, List.drop_zero]
  have s5d : AhS b W5.drew x w.heap.size ro ab sz st es clk := AhS.heap s5 rfl
  have s6 := s5d.st8 x (st * 8)
  generalize hW6 : st8 W5.drew ab (st * 8) x = W6 at s6 ⊢
  have s6 : AhS b W6.drew x w.heap.size ro ab sz st es clk := AhS.heap s6 rfl
  have H6 := Lib.hid hW6
  clear hW6
  have u6 := s6.upd (by omega) (.pointer (some ⟨ro, 0, none⟩))
  have U6 := Lib.hid u6
  clear u6
  have S6 := Lib.hid s6
  clear s6 s5 s5d
  go_wp2
  have s6 := S6.out
  refine wp_phaseT [false, false, false, false, false, false, false, false, false, false, false, false, false, false, true] [[], [14]] [Value.pointer (some ⟨b.rb, 0, none⟩), Value.pointer (some ⟨b.rb, 0, none⟩), Value.pointer (some ⟨b.rb, 9, none⟩), .map (some b.mb), Value.pointer (some ⟨ro, 0, none⟩), Value.pointer (some ⟨ro, 0, none⟩), Value.pointer (some ⟨ro, 0, none⟩), .slice (some ⟨ab, 0, none⟩) sz sz, Value.pointer (some ⟨ro, 0, none⟩), Value.pointer (some ⟨ro, 0, none⟩), Value.pointer (some ⟨ro, 1, none⟩), iv st, Value.pointer (some ⟨ab, st * 8, none⟩), Value.pointer (some ⟨ro, 0, none⟩), undef] [_, (mapw W6.drew b.mb (es.push { key := .pointer (some ⟨ab, st * 8, none⟩), val := .pointer (some ⟨ro, 0, none⟩), born := clk }) (clk + 1))] 1 15 (by decide) (by kernel_rfl) (by kernel_rfl) (by kernel_rfl) (by kernel_rfl) rfl (by kernel_rfl) (fun h => absurd h (by decide)) (fun h => absurd h (by decide)) rfl rfl ⟨?_, ?_, ?_, ?_, ?_, ?_, ?_, ?_, ?_, ?_, ?_, ?_, ?_, ?_, ?_, trivial⟩ rfl (by kernel_rfl) ?_
  · intro kk aa hk E
    have h0 : aa.eval (.tmp 0) = Value.pointer (some ⟨b.rb, 0, none⟩) := (E 0 (by kernel_rfl)).trans (by kernel_rfl)
    exact obl_pure (by kernel_rfl) rfl hk fun w => op_move rfl rfl h0
  · intro kk aa hk E
    have h74 : aa.eval (.tmp 74) = Value.pointer (some ⟨b.rb, 0, none⟩) := (E 74 (by kernel_rfl)).trans (by kernel_rfl)
    exact obl_pure (by kernel_rfl) rfl hk fun w => op_nil rfl rfl h74
  · intro kk aa hk E
    have h75 : aa.eval (.tmp 75) = Value.pointer (some ⟨b.rb, 0, none⟩) := (E 75 (by kernel_rfl)).trans (by kernel_rfl)
    exact obl_pure (by kernel_rfl) rfl hk fun w => op_fa (k := 9) rfl rfl rfl h75
  · intro kk aa hk E
    have h76 : aa.eval (.tmp 76) = Value.pointer (some ⟨b.rb, 9, none⟩) := (E 76 (by kernel_rfl)).trans (by kernel_rfl)
    refine obl_read (ks := [0]) (by kernel_rfl) (by kernel_rfl) rfl hk ⟨?_, trivial⟩
    · intro w' hw; cases hw; exact op_load1M rfl (by decide) rfl h76 s6.c9
  · intro kk aa hk E
    have h7 : aa.eval (.tmp 7) = Value.pointer (some ⟨ro, 0, none⟩) := (E 7 (by kernel_rfl)).trans (by kernel_rfl)
    exact obl_pure (by kernel_rfl) rfl hk fun w => op_move rfl rfl h7
  · intro kk aa hk E
    have h78 : aa.eval (.tmp 78) = Value.pointer (some ⟨ro, 0, none⟩) := (E 78 (by kernel_rfl)).trans (by kernel_rfl)
    exact obl_pure (by kernel_rfl) rfl hk fun w => op_nil rfl rfl h78
  · intro kk aa hk E
    have h79 : aa.eval (.tmp 79) = Value.pointer (some ⟨ro, 0, none⟩) := (E 79 (by kernel_rfl)).trans (by kernel_rfl)
    exact obl_pure (by kernel_rfl) rfl hk fun w => op_fa (k := 0) rfl rfl rfl h79
  · intro kk aa hk E
    have h80 : aa.eval (.tmp 80) = Value.pointer (some ⟨ro, 0, none⟩) := (E 80 (by kernel_rfl)).trans (by kernel_rfl)
    refine obl_read (ks := [0]) (by kernel_rfl) (by kernel_rfl) rfl hk ⟨?_, trivial⟩
    · intro w' hw; cases hw; exact op_load1M rfl (by decide) rfl h80 s6.r0
  · intro kk aa hk E
    have h7 : aa.eval (.tmp 7) = Value.pointer (some ⟨ro, 0, none⟩) := (E 7 (by kernel_rfl)).trans (by kernel_rfl)
    exact obl_pure (by kernel_rfl) rfl hk fun w => op_move rfl rfl h7
  · intro kk aa hk E
    have h82 : aa.eval (.tmp 82) = Value.pointer (some ⟨ro, 0, none⟩) := (E 82 (by kernel_rfl)).trans (by kernel_rfl)
    exact obl_pure (by kernel_rfl) rfl hk fun w => op_nil rfl rfl h82
  · intro kk aa hk E
    have h83 : aa.eval (.tmp 83) = Value.pointer (some ⟨ro, 0, none⟩) := (E 83 (by kernel_rfl)).trans (by kernel_rfl)
    exact obl_pure (by kernel_rfl) rfl hk fun w => op_fa (k := 1) rfl rfl rfl h83
  · intro kk aa hk E
    have h84 : aa.eval (.tmp 84) = Value.pointer (some ⟨ro, 1, none⟩) := (E 84 (by kernel_rfl)).trans (by kernel_rfl)
    refine obl_read (ks := [0]) (by kernel_rfl) (by kernel_rfl) rfl hk ⟨?_, trivial⟩
    · intro w' hw; cases hw; exact op_load1M rfl (by decide) rfl h84 s6.r1
  · intro kk aa hk E
    have h81 : aa.eval (.tmp 81) = .slice (some ⟨ab, 0, none⟩) sz sz := (E 81 (by kernel_rfl)).trans (by kernel_rfl)
    have h85 : aa.eval (.tmp 85) = iv st := (E 85 (by kernel_rfl)).trans (by kernel_rfl)
    exact obl_pure (by kernel_rfl) rfl hk fun w => op_index (sz := 8) (k := st) (Nat.zero_add _) rfl (.inl ⟨rfl, rfl⟩) rfl h81 h85 rfl (by omega)
  · intro kk aa hk E
    have h7 : aa.eval (.tmp 7) = Value.pointer (some ⟨ro, 0, none⟩) := (E 7 (by kernel_rfl)).trans (by kernel_rfl)
    exact obl_pure (by kernel_rfl) rfl hk fun w => op_move rfl rfl h7
  · intro kk aa hk E
    have h77 : aa.eval (.tmp 77) = .map (some b.mb) := (E 77 (by kernel_rfl)).trans (by kernel_rfl)
    have h86 : aa.eval (.tmp 86) = Value.pointer (some ⟨ab, st * 8, none⟩) := (E 86 (by kernel_rfl)).trans (by kernel_rfl)
    have h87 : aa.eval (.tmp 87) = Value.pointer (some ⟨ro, 0, none⟩) := (E 87 (by kernel_rfl)).trans (by kernel_rfl)
    exact obl_write (ks := [0]) (by kernel_rfl) (by kernel_rfl) hk ⟨⟨1, _, _, by kernel_rfl, rfl, rfl, op_mapUpdate rfl rfl h77 h86 h87 U6.out⟩, trivial⟩
  intro af haf
  simp only [List.take_succ_cons, List.take_zero, finA, Act.put, List.setIfInBounds_toArray, List.set_cons_succ, List.set_cons_zero] at haf
  subst haf
  simp only [List.drop_succ_cons, List.drop_zero]
  have q0 := s6.q0 (es.push { key := .pointer (some ⟨ab, st * 8, none⟩), val := .pointer (some ⟨ro, 0, none⟩), born := clk }) (clk + 1)
  have q1 := s6.q1 (es.push { key := .pointer (some ⟨ab, st * 8, none⟩), val := .pointer (some ⟨ro, 0, none⟩), born := clk }) (clk + 1)
  generalize hW7 : mapw W6.drew b.mb (es.push { key := .pointer (some ⟨ab, st * 8, none⟩), val := .pointer (some ⟨ro, 0, none⟩), born := clk }) (clk + 1) = W7 at q0 q1 ⊢
  have H7 := Lib.hid hW7
  have Q0 := Lib.hid q0
  have Q1 := Lib.hid q1
  clear hW7 s6 q0 q1
  go_wp2
  refine wp_phaseT [false, false, false, false, false, false, false, false, false, false] [[]] [Value.pointer (some ⟨ro, 0, none⟩), Value.pointer (some ⟨ro, 0, none⟩), Value.pointer (some ⟨ro, 0, none⟩), .slice (some ⟨ab, 0, none⟩) sz sz, Value.pointer (some ⟨ro, 0, none⟩), Value.pointer (some ⟨ro, 0, none⟩), Value.pointer (some ⟨ro, 1, none⟩), iv st, .slice (some ⟨ab, st * 8, none⟩) (sz - st) (sz - st), .slice (some ⟨ab, st * 8, none⟩) (sz - st) (sz - st)] [_] 0 10 (by decide) (by kernel_rfl) (by kernel_rfl) (by kernel_rfl) (by kernel_rfl) rfl (by kernel_rfl) (fun h => absurd h (by decide)) (fun h => absurd h (by decide)) rfl rfl ⟨?_, ?_, ?_, ?_, ?_, ?_, ?_, ?_, ?_, ?_, trivial⟩ rfl (by kernel_rfl) ?_
  · intro kk aa hk E
    have h7 : aa.eval (.tmp 7) = Value.pointer (some ⟨ro, 0, none⟩) := (E 7 (by kernel_rfl)).trans (by kernel_rfl)
    exact obl_pure (by kernel_rfl) rfl hk fun w => op_move rfl rfl h7
  · intro kk aa hk E
    have h88 : aa.eval (.tmp 88) = Value.pointer (some ⟨ro, 0, none⟩) := (E 88 (by kernel_rfl)).trans (by kernel_rfl)
    exact obl_pure (by kernel_rfl) rfl hk fun w => op_nil rfl rfl h88
  · intro kk aa hk E
    have h89 : aa.eval (.tmp 89) = Value.pointer (some ⟨ro, 0, none⟩) := (E 89 (by kernel_rfl)).trans (by kernel_rfl)
    exact obl_pure (by kernel_rfl) rfl hk fun w => op_fa (k := 0) rfl rfl rfl h89
  · intro kk aa hk E
    have h90 : aa.eval (.tmp 90) = Value.pointer (some ⟨ro, 0, none⟩) := (E 90 (by kernel_rfl)).trans (by kernel_rfl)
    refine obl_read (ks := [0]) (by kernel_rfl) (by kernel_rfl) rfl hk ⟨?_, trivial⟩
    · intro w' hw; cases hw; exact op_load1M rfl (by decide) rfl h90 Q0.out
  · intro kk aa hk E
    have h7 : aa.eval (.tmp 7) = Value.pointer (some ⟨ro, 0, none⟩) := (E 7 (by kernel_rfl)).trans (by kernel_rfl)
    exact obl_pure (by kernel_rfl) rfl hk fun w => op_move rfl rfl h7
  · intro kk aa hk E
    have h92 : aa.eval (.tmp 92) = Value.pointer (some ⟨ro, 0, none⟩) := (E 92 (by kernel_rfl)).trans (by kernel_rfl)
    exact obl_pure (by kernel_rfl) rfl hk fun w => op_nil rfl rfl h92
  · intro kk aa hk E
    have h93 : aa.eval (.tmp 93) = Value.pointer (some ⟨ro, 0, none⟩) := (E 93 (by kernel_rfl)).trans (by kernel_rfl)
    exact obl_pure (by kernel_rfl) rfl hk fun w => op_fa (k := 1) rfl rfl rfl h93
  · intro kk aa hk E
    have h94 : aa.eval (.tmp 94) = Value.pointer (some ⟨ro, 1, none⟩) := (E 94 (by kernel_rfl)).trans (by kernel_rfl)
    refine obl_read (ks := [0]) (by kernel_rfl) (by kernel_rfl) rfl hk ⟨?_, trivial⟩
    · intro w' hw; cases hw; exact op_load1M rfl (by decide) rfl h94 Q1.out
  · intro kk aa hk E
    have h91 : aa.eval (.tmp 91) = .slice (some ⟨ab, 0, none⟩) sz sz := (E 91 (by kernel_rfl)).trans (by kernel_rfl)
    have h95 : aa.eval (.tmp 95) = iv st := (E 95 (by kernel_rfl)).trans (by kernel_rfl)
    exact obl_pure (by kernel_rfl) rfl hk fun w => op_tail rfl rfl rfl rfl rfl h91 h95 rfl (by omega) (Nat.le_refl _)
  · intro kk aa hk E
    have h96 : aa.eval (.tmp 96) = .slice (some ⟨ab, st * 8, none⟩) (sz - st) (sz - st) := (E 96 (by kernel_rfl)).trans (by kernel_rfl)
    exact obl_pure (by kernel_rfl) rfl hk fun w => op_assign rfl rfl h96
  intro af haf
  simp only [List.take_succ_cons, List.take_zero, finA, Act.put, List.setIfInBounds_toArray, List.set_cons_succ, List.set_cons_zero] at haf
  subst haf
  simp only [List.drop_succ_cons, List.drop_zero]
  go_wp2
  show P (.returned (.slice (some ⟨ab, st * 8, none⟩) (sz - st) (sz - st))) W7.drew
  have h4 := H4.out
  subst h4
  obtain ⟨o1, o2, o3⟩ := ahead_fin_os H5.out H6.out H7.out
  exact FIN.out _ (ahead_fin H5.out H6.out H7.out rfl) o1 o2 o3
end Go.Proofs.YtgboboljgcfggaaGreatDoor
namespace Go.Proofs.YtgboboljgcfggaaGreatDoor
open Go.RowKit
section
variable {o : Oper} {a : Act} {w : World}
theorem op_tailE {x y : Tmp} {g n c k : Nat} {ki : Int} (hd : o.dst.isSome = true) (ho : o.op = .slice 47 (.tmp x) (some (.tmp y)) none none) (h : a.eval (.tmp x) = .slice (some ⟨g, 0, none⟩) n c) (h' : a.eval (.tmp y) = .int .i64 ki) (hki : ki = k) (hk : k = n) (hnc : n = c) : (execOp a.eval o).run Tryz.prog w = .ok (nx o (.slice (some ⟨g, 0, none⟩) 0 0)) w := by
  rw [nx_some hd]
  subst hk hki hnc
  unfold Act.eval at h h'
  obtain ⟨dd, op, t, ps, af, gu⟩ := o
  simp only at ho
  subst ho
  have t1 : (0 : Int) ≤ k := by omega
  have t3 : ((k : Int)).toNat = k := by omega
  go_simp
end
def zc (sz : Nat) : Array Value := madeCells (Value.cells (.agg #[.int .i64 0, .int .i64 0, .slice none 0 0, .int .i64 0, .string ⟨#[]⟩, .string ⟨#[]⟩, .slice none 0 0, .slice none 0 0])) (sz * 8)
theorem zc_size (sz : Nat) : (zc sz).size = sz * 8 := size_madeCells _ _
theorem mk_run (sz : Nat) (h : sz ≤ 2000000000) (W : World) : (Instr.makeSlice 47 (.int .i64 sz) (.int .i64 sz)).run Tryz.prog W = .ok (.slice (some ⟨W.heap.size, 0, none⟩) sz sz) (W.alloc (.cells (zc sz) 56)) := by
  obtain ⟨i0, hi, hz0, hz1, hz2⟩ := info_parts info54
  have := run_make (P := Tryz.prog) W 47 56 i0 _ Tryz.underlying47 hi hz0 .i64 .i64 (sz : Int) (sz : Int) (by omega) (Int.le_refl _) (by rw [hz2]; omega) (by omega)
  rw [Int.toNat_natCast, hz1] at this
  exact this
structure AhV (b : Bl) (V : World) (x : AV) (M0 : Nat) (A : Option Addr) (cs : List Value) (es : Array MapEntry) (clk : Nat) : Prop where
  m : V.heap[M0]? = some (c8 x)
  rc : ∃ cs fz, V.heap[b.rb]? = some (.cells cs 165 fz) ∧ cs[9]? = some (.map (some b.mb))
  hmb : V.heap[b.mb]? = some (.map es clk)
  ks : ∀ e ∈ es.toList, ∃ k0 o0, e.key = .pointer (some ⟨k0, o0, none⟩) ∧ ∃ cur, V.heap[k0]? = some (.cells cur 56 (0, 0))
  src : ∀ a, A = some a → a.block < V.heap.size ∧ ∀ (j : Nat) v, cs[j]? = some v → V.cell? (a.add j) = some v
def newR (V : World) (sz N : Nat) : World := (V.alloc (.cells (zc sz) 56)).alloc (.cells #[.slice (some ⟨V.heap.size, 0, none⟩) sz sz, iv N] 236)
theorem newR_size (V : World) (sz N : Nat) : (newR V sz N).heap.size = V.heap.size + 2 := by simp [newR]
theorem newR_old (V : World) (sz N : Nat) {k : Nat} (h : k < V.heap.size) : (newR V sz N).heap[k]? = V.heap[k]? :=
  (Below.heap_alloc _ _ _ (by simp; omega)).trans (Below.heap_alloc _ _ _ h)
theorem newR_ab (V : World) (sz N : Nat) : (newR V sz N).heap[V.heap.size]? = some (.cells (zc sz) 56 (0, 0)) :=
  (Below.heap_alloc _ _ _ (by simp)).trans (al_newM _ _)
theorem newR_ro (V : World) (sz N : Nat) : (newR V sz N).heap[V.heap.size + 1]? = some (.cells #[.slice (some ⟨V.heap.size, 0, none⟩) sz sz, iv N] 236 (0, 0)) := by
  have := al_newM (V.alloc (.cells (zc sz) 56)) (.cells #[.slice (some ⟨V.heap.size, 0, none⟩) sz sz, iv N] 236)
  simpa [newR] using this
def newA (sz N : Nat) (cs : List Value) : Array Value := ((zc sz).toList.take (N * 8) ++ cs ++ (zc sz).toList.drop (N * 8 + cs.length)).toArray
section
variable {b : Bl} {V : World} {x : AV} {M0 : Nat} {A : Option Addr} {cs : List Value} {es : Array MapEntry} {clk : Nat}
theorem AhV.up (h : AhV b V x M0 A cs es clk) (sz N : Nat) {W : World} (hW : W.heap = (newR V sz N).heap) (cur : Array Value) (hc : cur.size = sz * 8) : AhS b (W.setRow V.heap.size cur) x M0 (V.heap.size + 1) V.heap.size sz N es clk := by
  have k : ∀ i, i ≠ V.heap.size → (W.setRow V.heap.size cur).heap[i]? = (newR V sz N).heap[i]? := fun i hi => by rw [setRow_other _ _ _ _ hi, hW]
  have o : ∀ i, i < V.heap.size → (W.setRow V.heap.size cur).heap[i]? = V.heap[i]? := fun i hi => (k i (by omega)).trans (newR_old V sz N hi)
  refine ⟨(o _ (heap_ltM h.m)).trans h.m, ?_, (o _ (heap_ltM h.hmb)).trans h.hmb, (k _ (by omega)).trans (newR_ro V sz N), ⟨cur, setRow_heap _ _ (zc sz) _ _ _ (by rw [hW]; exact newR_ab V sz N), hc⟩, Nat.ne_of_lt (heap_ltM h.m), fun e he => ?_⟩
  · obtain ⟨c, f, h1, h2⟩ := h.rc
    exact ⟨c, f, (o _ (heap_ltM h1)).trans h1, h2⟩
  · obtain ⟨k0, o0, e1, c, e3⟩ := h.ks e he
    exact ⟨k0, o0, e1, Nat.ne_of_lt (heap_ltM e3), c, (o _ (heap_ltM e3)).trans e3⟩
theorem AhV.copy (h : AhV b V x M0 A cs es clk) {sz N n c : Nat} {W : World} (hW : W.heap = (newR V sz N).heap) (hn : cs.length = n * 8) (h0 : A = none → n = 0 ∧ c = 0) (hs : N + n = sz) (h1 : ∀ v ∈ cs, v.oneCell' = true) (ty : TypeId) :
    (Builtin.copy_ #[47, 47] ty #[.slice (some ⟨V.heap.size, N * 8, none⟩) n n, .slice A n c]).run Tryz.prog W = .ok (goInt n) (W.setRow V.heap.size (newA sz N cs)) := by
  refine copy8 W ty V.heap.size (N * 8) n n c A (zc sz) cs (by rw [hW]; exact newR_ab V sz N) hn (fun a ha j v hj => ?_) h0 (by rw [zc_size, hn]; omega) h1
  obtain ⟨h2, h3⟩ := h.src a ha
  refine (World.cell?_of_block (w := V) ?_).trans (h3 j v hj)
  rw [hW, add_block]
  exact newR_old V sz N h2
theorem new_size {sz N n : Nat} {cs : List Value} (hn : cs.length = n * 8) (hs : N + n = sz) : (newA sz N cs).size = sz * 8 := by
  simp [newA, zc_size, hn]
  omega
theorem AhV.pack (h : AhV b V x M0 A cs es clk) {sz N n c : Nat} (hn : cs.length = n * 8) (h0 : A = none → n = 0 ∧ c = 0) (hs : N + n = sz) (h1 : ∀ v ∈ cs, v.oneCell' = true) :
    (newR V sz N).heap[V.heap.size + 1]? = some (.cells #[.slice (some ⟨V.heap.size, 0, none⟩) sz sz, iv N] 236 (0, 0)) ∧ AhS b ((newR V sz N).drew.setRow V.heap.size (newA sz N cs)) x M0 (V.heap.size + 1) V.heap.size sz N es clk ∧
    ∀ ty, (Builtin.copy_ #[47, 47] ty #[.slice (some ⟨V.heap.size, N * 8, none⟩) n n, .slice A n c]).run Tryz.prog (newR V sz N).drew = .ok (goInt n) ((newR V sz N).drew.setRow V.heap.size (newA sz N cs)) :=
  ⟨newR_ro V sz N, h.up sz N (W := (newR V sz N).drew) rfl _ (new_size hn hs), h.copy (W := (newR V sz N).drew) rfl hn h0 hs h1⟩
theorem AhV.packE (h : AhV b V x M0 A cs es clk) {sz N n c : Nat} (hn : cs.length = n * 8) (h0 : A = none → n = 0 ∧ c = 0) (hn0 : n = 0) (ty : TypeId) :
    (Builtin.copy_ #[47, 47] ty #[.slice (some ⟨V.heap.size, 0, none⟩) 0 0, .slice A n c]).run Tryz.prog (newR V sz N).drew = .ok (goInt n) ((newR V sz N).drew.setRow V.heap.size (newA sz N cs)) := by
  subst hn0
  have hc : cs = [] := by simpa using hn
  subst hc
  have := copy8 (newR V sz N).drew ty V.heap.size 0 0 0 c A (zc sz) [] (newR_ab V sz N) rfl (fun a ha j v hj => by simp at hj) h0 (by simp) (by simp)
  have e : newA sz N [] = ((zc sz).toList.take 0 ++ [] ++ (zc sz).toList.drop (0 + ([] : List Value).length)).toArray := by simp [newA]
  rw [e]
  exact this
end
theorem setRow_congr {w w' : World} (h : w.heap = w'.heap) (g : Nat) (c : Array Value) : (w.setRow g c).heap = (w'.setRow g c).heap := by simp [World.setRow, h]
end Go.Proofs.YtgboboljgcfggaaGreatDoor
namespace Go.Proofs.YtgboboljgcfggaaGreatDoor
open Go.RowKit
set_option maxRecDepth 100000 in
set_option maxHeartbeats 2000000 in
theorem ahead_none (b : Bl) (x : AV) (w : World) (q : Addr) (n c sz st N : Nat) (cs : List Value) (es : Array MapEntry) (clk : Nat) (P : Ending → World → Prop) (hn : 0 < n) (hnc : n ≤ 400000000) (hsz : sz = 2 * n + 4) (hN : N = n + 4) (hst : N = st + 1)
    (hcs : cs.length = n * 8) (h1 : ∀ v ∈ cs, v.oneCell' = true) (hA : (some q) = none → n = 0 ∧ c = 0)
    (c9 : ∀ o k, ((w.alloc o).drewN k).cell? ⟨b.rb, 9, none⟩ = some (.map (some b.mb)))
    (LK : ∀ k, (Instr.lookup 163 (.map (some b.mb)) (.pointer (some q)) false).run Tryz.prog ((w.alloc (c8 x)).drewN k) = .ok (.pointer none) ((w.alloc (c8 x)).drewN k))
    (DL : ∀ k ty, (Builtin.delete_ #[163, 234] ty #[.map (some b.mb), .pointer (some q)]).run Tryz.prog ((w.alloc (c8 x)).drewN k) = .ok (.tuple #[]) (mapw ((w.alloc (c8 x)).drewN k) b.mb es clk))
    (S4 : ∀ k, AhV b (mapw ((w.alloc (c8 x)).drewN k) b.mb es clk) x w.heap.size (some q) cs es clk)
    (FIN : ∀ V w', V.heap = (mapw (w.alloc (c8 x)) b.mb es clk).heap → V.os = w.os → V.tape = w.tape → V.output = w.output → w'.heap = (mapw (st8 (((newR V sz N).setRow V.heap.size (newA sz N cs)).setCell ⟨V.heap.size + 1, 1, none⟩ (iv st)) V.heap.size (st * 8) x) b.mb (es.push { key := .pointer (some ⟨V.heap.size, st * 8, none⟩), val := .pointer (some ⟨V.heap.size + 1, 0, none⟩), born := clk }) (clk + 1)).heap → w'.os = V.os → w'.tape = V.tape → w'.output = V.output →
      P (.returned (.slice (some ⟨V.heap.size, st * 8, none⟩) (sz - st) (sz - st))) w') :
    Calls Tryz.prog 160 #[.pointer (some ⟨b.rb, 0, none⟩), x.v, .slice (some q) n c] w P := by
  have z1 : (0 : Int) < (n : Int) := by omega
  have z3 : IntKind.i64.wrap ((N : Int) - 1) = (st : Int) := by rw [IntWalk.i64_in _ (by omega)]; omega
  have z5 : IntKind.i64.wrap (2 * (n : Int)) = 2 * (n : Int) := IntWalk.i64_in _ (by omega)
  have z6 : IntKind.i64.wrap (2 * (n : Int) + 4) = (sz : Int) := by rw [IntWalk.i64_in _ (by omega)]; omega
  have z7 : IntKind.i64.wrap ((sz : Int) - (n : Int)) = (N : Int) := by rw [IntWalk.i64_in _ (by omega)]; omega
  have MK := mk_run sz (by omega)
  have k1 := Lib.hid hsz
  have k2 := Lib.hid hN
  have k3 := Lib.hid hst
  clear hsz hN hst
  have hsN : N + n = sz := by have := k1.out; have := k2.out; omega
  have k4 := Lib.hid hsN
  clear hsN
  have LK := Lib.hid LK
  have DL := Lib.hid DL
  have S4 := Lib.hid S4
  have FIN := Lib.hid FIN
  have xe : x.v = .agg #[iv x.kind, iv x.int, .slice x.A x.list.length x.c, iv x.block, eSm, eSm, nilS, nilS] := rfl
  rw [xe]
  clear xe
  have we : w.alloc (.cells #[iv x.kind, iv x.int, .slice x.A x.list.length x.c, iv x.block, eSm, eSm, nilS, nilS] 56) = w.alloc (c8 x) := rfl
  have WE := Lib.hid we
  clear we
  have kA := Lib.hid hA
  have kC := Lib.hid hcs
  have kO := Lib.hid h1
  clear hA hcs h1
  go_enter Tryz.func160, Tryz.ntmps160
  go_wp2
  rw [WE.out]
  refine wp_phaseT [false, false, false, false, false, false, false, false] [[]] [Value.pointer (some ⟨b.rb, 0, none⟩), Value.pointer (some ⟨b.rb, 0, none⟩), Value.pointer (some ⟨b.rb, 9, none⟩), .map (some b.mb), Value.slice (some q) n c, .pointer (some q), .pointer none, .pointer none] [_] 0 8 (by decide) (by kernel_rfl) (by kernel_rfl) (by kernel_rfl) (by kernel_rfl) rfl (by kernel_rfl) (fun h => absurd h (by decide)) (fun h => absurd h (by decide)) rfl rfl ⟨?_, ?_, ?_, ?_, ?_, ?_, ?_, ?_, trivial⟩ rfl (by kernel_rfl) ?_
  · intro kk aa hk E
    have h0 : aa.eval (.tmp 0) = Value.pointer (some ⟨b.rb, 0, none⟩) := (E 0 (by kernel_rfl)).trans (by kernel_rfl)
    exact obl_pure (by kernel_rfl) rfl hk fun w => op_move rfl rfl h0
  · intro kk aa hk E
    have h12 : aa.eval (.tmp 12) = Value.pointer (some ⟨b.rb, 0, none⟩) := (E 12 (by kernel_rfl)).trans (by kernel_rfl)
    exact obl_pure (by kernel_rfl) rfl hk fun w => op_nil rfl rfl h12
  · intro kk aa hk E
    have h13 : aa.eval (.tmp 13) = Value.pointer (some ⟨b.rb, 0, none⟩) := (E 13 (by kernel_rfl)).trans (by kernel_rfl)
    exact obl_pure (by kernel_rfl) rfl hk fun w => op_fa (k := 9) rfl rfl rfl h13
  · intro kk aa hk E
    have h14 : aa.eval (.tmp 14) = Value.pointer (some ⟨b.rb, 9, none⟩) := (E 14 (by kernel_rfl)).trans (by kernel_rfl)
    refine obl_read (ks := [0]) (by kernel_rfl) (by kernel_rfl) rfl hk ⟨?_, trivial⟩
    · intro w' hw; cases hw; exact op_load1M rfl (by decide) rfl h14 (c9 _ 1)
  · intro kk aa hk E
    have h2 : aa.eval (.tmp 2) = Value.slice (some q) n c := (E 2 (by kernel_rfl)).trans (by kernel_rfl)
    exact obl_pure (by kernel_rfl) rfl hk fun w => op_move rfl rfl h2
  · intro kk aa hk E
    have h16 : aa.eval (.tmp 16) = Value.slice (some q) n c := (E 16 (by kernel_rfl)).trans (by kernel_rfl)
    exact obl_pure (by kernel_rfl) rfl hk fun w => op_index0' rfl rfl h16 (by omega)
  · intro kk aa hk E
    have h15 : aa.eval (.tmp 15) = .map (some b.mb) := (E 15 (by kernel_rfl)).trans (by kernel_rfl)
    have h17 : aa.eval (.tmp 17) = .pointer (some q) := (E 17 (by kernel_rfl)).trans (by kernel_rfl)
    refine obl_read (ks := [0]) (by kernel_rfl) (by kernel_rfl) rfl hk ⟨?_, trivial⟩
    · intro w' hw; cases hw; exact op_lookup rfl rfl h15 h17 (LK.out 1)
  · intro kk aa hk E
    have h18 : aa.eval (.tmp 18) = .pointer none := (E 18 (by kernel_rfl)).trans (by kernel_rfl)
    exact obl_pure (by kernel_rfl) rfl hk fun w => op_assign rfl rfl h18
  intro af haf
  simp only [List.take_succ_cons, List.take_zero, finA, Act.put, List.setIfInBounds_toArray, List.set_cons_succ, List.set_cons_zero] at haf
  subst haf
  simp only [List.drop_succ_cons, List.drop_zero]
  go_wp2
  refine wp_phaseT [false, false, false, false, false, false] [[]] [Value.pointer (some ⟨b.rb, 0, none⟩), Value.pointer (some ⟨b.rb, 0, none⟩), Value.pointer (some ⟨b.rb, 9, none⟩), .map (some b.mb), Value.slice (some q) n c, .pointer (some q)] [_] 0 6 (by decide) (by kernel_rfl) (by kernel_rfl) (by kernel_rfl) (by kernel_rfl) rfl (by kernel_rfl) (fun _ => by kernel_rfl) (fun _ => by kernel_rfl) rfl rfl ⟨?_, ?_, ?_, ?_, ?_, ?_, trivial⟩ rfl (by kernel_rfl) ?_
  · intro kk aa hk E
    have h0 : aa.eval (.tmp 0) = Value.pointer (some ⟨b.rb, 0, none⟩) := (E 0 (by kernel_rfl)).trans (by kernel_rfl)
    exact obl_pure (by kernel_rfl) rfl hk fun w => op_move rfl rfl h0
  · intro kk aa hk E
    have h19 : aa.eval (.tmp 19) = Value.pointer (some ⟨b.rb, 0, none⟩) := (E 19 (by kernel_rfl)).trans (by kernel_rfl)
    exact obl_pure (by kernel_rfl) rfl hk fun w => op_nil rfl rfl h19
  · intro kk aa hk E
    have h20 : aa.eval (.tmp 20) = Value.pointer (some ⟨b.rb, 0, none⟩) := (E 20 (by kernel_rfl)).trans (by kernel_rfl)
    exact obl_pure (by kernel_rfl) rfl hk fun w => op_fa (k := 9) rfl rfl rfl h20
  · intro kk aa hk E
    have h21 : aa.eval (.tmp 21) = Value.pointer (some ⟨b.rb, 9, none⟩) := (E 21 (by kernel_rfl)).trans (by kernel_rfl)
    refine obl_read (ks := [0]) (by kernel_rfl) (by kernel_rfl) rfl hk ⟨?_, trivial⟩
    · intro w' hw; cases hw; exact op_load1M rfl (by decide) rfl h21 (c9 _ 2)
  · intro kk aa hk E
    have h2 : aa.eval (.tmp 2) = Value.slice (some q) n c := (E 2 (by kernel_rfl)).trans (by kernel_rfl)
    exact obl_pure (by kernel_rfl) rfl hk fun w => op_move rfl rfl h2
  · intro kk aa hk E
    have h23 : aa.eval (.tmp 23) = Value.slice (some q) n c := (E 23 (by kernel_rfl)).trans (by kernel_rfl)
    exact obl_pure (by kernel_rfl) rfl hk fun w => op_index0' rfl rfl h23 (by omega)
  intro af haf
  simp only [List.take_succ_cons, List.take_zero, finA, Act.put, List.setIfInBounds_toArray, List.set_cons_succ, List.set_cons_zero] at haf
  subst haf
  simp only [List.drop_succ_cons, List.drop_zero]
  refine wl_value (w' := mapw ((w.alloc (c8 x)).drewN 2) b.mb es clk) rfl (op_delete (x := 22) (y := 24) rfl rfl rfl (DL.out 2)) ?_
  have s3 := S4.out 2
  have FIN := Lib.hid (FIN.out (mapw ((w.alloc (c8 x)).drewN 2) b.mb es clk))
  generalize hW3 : mapw ((w.alloc (c8 x)).drewN 2) b.mb es clk = W3 at s3 FIN ⊢
  have H3 := Lib.hid hW3
  clear hW3
  obtain ⟨p1, p2, p3⟩ := s3.pack kC.out kA.out k4.out kO.out
  have P1 := Lib.hid p1
  have P2 := Lib.hid p2
  have P3 := Lib.hid p3
  clear p1 p2 p3 s3
  go_wp2
  have NR : (W3.alloc (.cells (zc sz) 56)).alloc (.cells #[.slice (some ⟨W3.heap.size, 0, none⟩) sz sz, iv N] 236) = newR W3 sz N := rfl
  rw [NR]
  clear NR
  generalize hW2 : newR W3 sz N = W2 at P1 P2 P3 FIN ⊢
  have H2 := Lib.hid hW2
  clear hW2
  have r1 := P1.out
  have r10 : W2.cell? ⟨W3.heap.size + 1, 0, none⟩ = some (.slice (some ⟨W3.heap.size, 0, none⟩) sz sz) := by simp [World.cell?, r1]
  have r11 : W2.cell? ⟨W3.heap.size + 1, 1, none⟩ = some (iv N) := by simp [World.cell?, r1]
  refine wp_phaseT [false, false, false, false, false, false, false, false, false, false, true] [[], [10]] [Value.pointer (some ⟨W3.heap.size + 1, 0, none⟩), Value.pointer (some ⟨W3.heap.size + 1, 0, none⟩), Value.pointer (some ⟨W3.heap.size + 1, 0, none⟩), .slice (some ⟨W3.heap.size, 0, none⟩) sz sz, Value.pointer (some ⟨W3.heap.size + 1, 0, none⟩), Value.pointer (some ⟨W3.heap.size + 1, 0, none⟩), Value.pointer (some ⟨W3.heap.size + 1, 1, none⟩), iv N, .slice (some ⟨W3.heap.size, N * 8, none⟩) n n, Value.slice (some q) n c, goInt n] [_, (W2.drew.setRow W3.heap.size (newA sz N cs))] 1 11 (by decide) (by kernel_rfl) (by kernel_rfl) (by kernel_rfl) (by kernel_rfl) rfl (by kernel_rfl) (fun h => absurd h (by decide)) (fun h => absurd h (by decide)) rfl rfl ⟨?_, ?_, ?_, ?_, ?_, ?_, ?_, ?_, ?_, ?_, ?_, trivial⟩ rfl (by kernel_rfl) ?_
  · intro kk aa hk E
    have h7 : aa.eval (.tmp 7) = Value.pointer (some ⟨W3.heap.size + 1, 0, none⟩) := (E 7 (by kernel_rfl)).trans (by kernel_rfl)
    exact obl_pure (by kernel_rfl) rfl hk fun w => op_move rfl rfl h7
  · intro kk aa hk E
    have h46 : aa.eval (.tmp 46) = Value.pointer (some ⟨W3.heap.size + 1, 0, none⟩) := (E 46 (by kernel_rfl)).trans (by kernel_rfl)
    exact obl_pure (by kernel_rfl) rfl hk fun w => op_nil rfl rfl h46
  · intro kk aa hk E
    have h47 : aa.eval (.tmp 47) = Value.pointer (some ⟨W3.heap.size + 1, 0, none⟩) := (E 47 (by kernel_rfl)).trans (by kernel_rfl)
    exact obl_pure (by kernel_rfl) rfl hk fun w => op_fa (k := 0) rfl rfl rfl h47
  · intro kk aa hk E
    have h48 : aa.eval (.tmp 48) = Value.pointer (some ⟨W3.heap.size + 1, 0, none⟩) := (E 48 (by kernel_rfl)).trans (by kernel_rfl)
    refine obl_read (ks := [0, 1]) (by kernel_rfl) (by kernel_rfl) rfl hk ⟨?_, ?_, trivial⟩
    · intro w' hw; cases hw; exact op_load1M rfl (by decide) rfl h48 r10
    · intro w' hw; cases hw; exact op_load1M rfl (by decide) rfl h48 P2.out.r0
  · intro kk aa hk E
    have h7 : aa.eval (.tmp 7) = Value.pointer (some ⟨W3.heap.size + 1, 0, none⟩) := (E 7 (by kernel_rfl)).trans (by kernel_rfl)
    exact obl_pure (by kernel_rfl) rfl hk fun w => op_move rfl rfl h7
  · intro kk aa hk E
    have h50 : aa.eval (.tmp 50) = Value.pointer (some ⟨W3.heap.size + 1, 0, none⟩) := (E 50 (by kernel_rfl)).trans (by kernel_rfl)
    exact obl_pure (by kernel_rfl) rfl hk fun w => op_nil rfl rfl h50
  · intro kk aa hk E
    have h51 : aa.eval (.tmp 51) = Value.pointer (some ⟨W3.heap.size + 1, 0, none⟩) := (E 51 (by kernel_rfl)).trans (by kernel_rfl)
    exact obl_pure (by kernel_rfl) rfl hk fun w => op_fa (k := 1) rfl rfl rfl h51
  · intro kk aa hk E
    have h52 : aa.eval (.tmp 52) = Value.pointer (some ⟨W3.heap.size + 1, 1, none⟩) := (E 52 (by kernel_rfl)).trans (by kernel_rfl)
    refine obl_read (ks := [0, 1]) (by kernel_rfl) (by kernel_rfl) rfl hk ⟨?_, ?_, trivial⟩
    · intro w' hw; cases hw; exact op_load1M rfl (by decide) rfl h52 r11
    · intro w' hw; cases hw; exact op_load1M rfl (by decide) rfl h52 P2.out.r1
  · intro kk aa hk E
    have h49 : aa.eval (.tmp 49) = .slice (some ⟨W3.heap.size, 0, none⟩) sz sz := (E 49 (by kernel_rfl)).trans (by kernel_rfl)
    have h53 : aa.eval (.tmp 53) = iv N := (E 53 (by kernel_rfl)).trans (by kernel_rfl)
    exact obl_pure (by kernel_rfl) rfl hk fun w => op_tail rfl (by have := k4.out; omega) (by have := k4.out; omega) rfl rfl h49 h53 rfl (by have := k1.out; have := k2.out; omega) (Nat.le_refl _)
  · intro kk aa hk E
    have h2 : aa.eval (.tmp 2) = Value.slice (some q) n c := (E 2 (by kernel_rfl)).trans (by kernel_rfl)
    exact obl_pure (by kernel_rfl) rfl hk fun w => op_move rfl rfl h2
  · intro kk aa hk E
    have h54 : aa.eval (.tmp 54) = .slice (some ⟨W3.heap.size, N * 8, none⟩) n n := (E 54 (by kernel_rfl)).trans (by kernel_rfl)
    have h55 : aa.eval (.tmp 55) = Value.slice (some q) n c := (E 55 (by kernel_rfl)).trans (by kernel_rfl)
    exact obl_write (ks := [0]) (by kernel_rfl) (by kernel_rfl) hk ⟨⟨1, _, _, by kernel_rfl, rfl, rfl, op_copyd rfl rfl h54 h55 P3.out⟩, trivial⟩
  intro af haf
  simp only [List.take_succ_cons, List.take_zero, finA, Act.put, List.setIfInBounds_toArray, List.set_cons_succ, List.set_cons_zero] at haf
  subst haf
  simp only [List.drop_succ_cons, List.drop_zero]
  have s4 := P2.out
  generalize hW4 : W2.drew.setRow W3.heap.size (newA sz N cs) = W4 at s4 ⊢
  have H4 := Lib.hid hW4
  clear hW4 r10 r11 r1
  have f0 := s4.r0
  have f1 := s4.r1
  have ff := s4.rf
  have S4' := Lib.hid s4
  clear s4
  go_wp2
  have hs : st < sz := by have := k1.out; have := k2.out; have := k3.out; omega
  have s5 := S4'.out.set st
  generalize hW5 : W4.setCell ⟨(W3.heap.size + 1), 1, none⟩ (Value.int IntKind.i64 ↑st) = W5 at s5 ⊢
  have H5 := Lib.hid hW5
  clear hW5 f0 f1 ff
  refine wp_phaseT [false, false, false, false, false, false, false, false, false, false, true] [[], [10]] [Value.pointer (some ⟨W3.heap.size + 1, 0, none⟩), Value.pointer (some ⟨W3.heap.size + 1, 0, none⟩), Value.pointer (some ⟨W3.heap.size + 1, 0, none⟩), .slice (some ⟨W3.heap.size, 0, none⟩) sz sz, Value.pointer (some ⟨W3.heap.size + 1, 0, none⟩), Value.pointer (some ⟨W3.heap.size + 1, 0, none⟩), Value.pointer (some ⟨W3.heap.size + 1, 1, none⟩), iv st, x.v, Value.pointer (some ⟨W3.heap.size, st * 8, none⟩), undef] [_, (st8 W5.drew W3.heap.size (st * 8) x)] 1 11 (by decide) (by kernel_rfl) (by kernel_rfl) (by kernel_rfl) (by kernel_rfl) rfl (by kernel_rfl) (fun h => absurd h (by decide)) (fun h => absurd h (by decide)) rfl rfl ⟨?_, ?_, ?_, ?_, ?_, ?_, ?_, ?_, ?_, ?_, ?_, trivial⟩ rfl (by kernel_rfl) ?_
  · intro kk aa hk E
    have h7 : aa.eval (.tmp 7) = Value.pointer (some ⟨W3.heap.size + 1, 0, none⟩) := (E 7 (by kernel_rfl)).trans (by kernel_rfl)
    exact obl_pure (by kernel_rfl) rfl hk fun w => op_move rfl rfl h7
  · intro kk aa hk E
    have h64 : aa.eval (.tmp 64) = Value.pointer (some ⟨W3.heap.size + 1, 0, none⟩) := (E 64 (by kernel_rfl)).trans (by kernel_rfl)
    exact obl_pure (by kernel_rfl) rfl hk fun w => op_nil rfl rfl h64
  · intro kk aa hk E
    have h65 : aa.eval (.tmp 65) = Value.pointer (some ⟨W3.heap.size + 1, 0, none⟩) := (E 65 (by kernel_rfl)).trans (by kernel_rfl)
    exact obl_pure (by kernel_rfl) rfl hk fun w => op_fa (k := 0) rfl rfl rfl h65
  · intro kk aa hk E
    have h66 : aa.eval (.tmp 66) = Value.pointer (some ⟨W3.heap.size + 1, 0, none⟩) := (E 66 (by kernel_rfl)).trans (by kernel_rfl)
    refine obl_read (ks := [0]) (by kernel_rfl) (by kernel_rfl) rfl hk ⟨?_, trivial⟩
    · intro w' hw; cases hw; exact op_load1M rfl (by decide) rfl h66 s5.r0
  · intro kk aa hk E
    have h7 : aa.eval (.tmp 7) = Value.pointer (some ⟨W3.heap.size + 1, 0, none⟩) := (E 7 (by kernel_rfl)).trans (by kernel_rfl)
    exact obl_pure (by kernel_rfl) rfl hk fun w => op_move rfl rfl h7
  · intro kk aa hk E
    have h68 : aa.eval (.tmp 68) = Value.pointer (some ⟨W3.heap.size + 1, 0, none⟩) := (E 68 (by kernel_rfl)).trans (by kernel_rfl)
    exact obl_pure (by kernel_rfl) rfl hk fun w => op_nil rfl rfl h68
  · intro kk aa hk E
    have h69 : aa.eval (.tmp 69) = Value.pointer (some ⟨W3.heap.size + 1, 0, none⟩) := (E 69 (by kernel_rfl)).trans (by kernel_rfl)
    exact obl_pure (by kernel_rfl) rfl hk fun w => op_fa (k := 1) rfl rfl rfl h69
  · intro kk aa hk E
    have h70 : aa.eval (.tmp 70) = Value.pointer (some ⟨W3.heap.size + 1, 1, none⟩) := (E 70 (by kernel_rfl)).trans (by kernel_rfl)
    refine obl_read (ks := [0]) (by kernel_rfl) (by kernel_rfl) rfl hk ⟨?_, trivial⟩
    · intro w' hw; cases hw; exact op_load1M rfl (by decide) rfl h70 s5.r1
  · intro kk aa hk E
    have h4 : aa.eval (.tmp 4) = Value.pointer (some ⟨w.heap.size, 0, none⟩) := (E 4 (by kernel_rfl)).trans (by kernel_rfl)
    refine obl_read (ks := [0]) (by kernel_rfl) (by kernel_rfl) rfl hk ⟨?_, trivial⟩
    · intro w' hw; cases hw; exact op_load54 (vs := x.cs) rfl rfl rfl h4 s5.xc
  · intro kk aa hk E
    have h67 : aa.eval (.tmp 67) = .slice (some ⟨W3.heap.size, 0, none⟩) sz sz := (E 67 (by kernel_rfl)).trans (by kernel_rfl)
    have h71 : aa.eval (.tmp 71) = iv st := (E 71 (by kernel_rfl)).trans (by kernel_rfl)
    exact obl_pure (by kernel_rfl) rfl hk fun w => op_index (sz := 8) (k := st) (Nat.zero_add _) rfl (.inl ⟨rfl, rfl⟩) rfl h67 h71 rfl (by omega)
  · intro kk aa hk E
    have h73 : aa.eval (.tmp 73) = Value.pointer (some ⟨W3.heap.size, st * 8, none⟩) := (E 73 (by kernel_rfl)).trans (by kernel_rfl)
    have h72 : aa.eval (.tmp 72) = x.v := (E 72 (by kernel_rfl)).trans (by kernel_rfl)
    exact obl_write (ks := [0]) (by kernel_rfl) (by kernel_rfl) hk ⟨⟨1, _, _, by kernel_rfl, rfl, rfl, op_st8 rfl rfl h73 h72 (fun i hi => s5.ac (by omega) i hi) s5.af⟩, trivial⟩
  intro af haf
  simp only [List.take_succ_cons, List.take_zero, finA, Act.put, List.setIfInBounds_toArray, List.set_cons_succ, List.set_cons_zero] at haf
  subst haf
  simp only [List.drop_succ_cons, List.drop_zero]
  have s5d : AhS b W5.drew x w.heap.size (W3.heap.size + 1) W3.heap.size sz st es clk := AhS.heap s5 rfl
  have s6 := s5d.st8 x (st * 8)
  generalize hW6 : st8 W5.drew W3.heap.size (st * 8) x = W6 at s6 ⊢
  have s6 : AhS b W6.drew x w.heap.size (W3.heap.size + 1) W3.heap.size sz st es clk := AhS.heap s6 rfl
  have H6 := Lib.hid hW6
  clear hW6
  have u6 := s6.upd (by omega) (.pointer (some ⟨(W3.heap.size + 1), 0, none⟩))
  have U6 := Lib.hid u6
  clear u6
  have S6 := Lib.hid s6
  clear s6 s5 s5d
  go_wp2
  have s6 := S6.out
  refine wp_phaseT [false, false, false, false, false, false, false, false, false, false, false, false, false, false, true] [[], [14]] [Value.pointer (some ⟨b.rb, 0, none⟩), Value.pointer (some ⟨b.rb, 0, none⟩), Value.pointer (some ⟨b.rb, 9, none⟩), .map (some b.mb), Value.pointer (some ⟨W3.heap.size + 1, 0, none⟩), Value.pointer (some ⟨W3.heap.size + 1, 0, none⟩), Value.pointer (some ⟨W3.heap.size + 1, 0, none⟩), .slice (some ⟨W3.heap.size, 0, none⟩) sz sz, Value.pointer (some ⟨W3.heap.size + 1, 0, none⟩), Value.pointer (some ⟨W3.heap.size + 1, 0, none⟩), Value.pointer (some ⟨W3.heap.size + 1, 1, none⟩), iv st, Value.pointer (some ⟨W3.heap.size, st * 8, none⟩), Value.pointer (some ⟨W3.heap.size + 1, 0, none⟩), undef] [_, (mapw W6.drew b.mb (es.push { key := .pointer (some ⟨W3.heap.size, st * 8, none⟩), val := .pointer (some ⟨(W3.heap.size + 1), 0, none⟩), born := clk }) (clk + 1))] 1 15 (by decide) (by kernel_rfl) (by kernel_rfl) (by kernel_rfl) (by kernel_rfl) rfl (by kernel_rfl) (fun h => absurd h (by decide)) (fun h => absurd h (by decide)) rfl rfl ⟨?_, ?_, ?_, ?_, ?_, ?_, ?_, ?_, ?_, ?_, ?_, ?_, ?_, ?_, ?_, trivial⟩ rfl (by kernel_rfl) ?_
  · intro kk aa hk E
    have h0 : aa.eval (.tmp 0) = Value.pointer (some ⟨b.rb, 0, none⟩) := (E 0 (by kernel_rfl)).trans (by kernel_rfl)
    exact obl_pure (by kernel_rfl) rfl hk fun w => op_move rfl rfl h0
  · intro kk aa hk E
    have h74 : aa.eval (.tmp 74) = Value.pointer (some ⟨b.rb, 0, none⟩) := (E 74 (by kernel_rfl)).trans (by kernel_rfl)
    exact obl_pure (by kernel_rfl) rfl hk fun w => op_nil rfl rfl h74
  · intro kk aa hk E
    have h75 : aa.eval (.tmp 75) = Value.pointer (some ⟨b.rb, 0, none⟩) := (E 75 (by kernel_rfl)).trans (by kernel_rfl)
    exact obl_pure (by kernel_rfl) rfl hk fun w => op_fa (k := 9) rfl rfl rfl h75
  · intro kk aa hk E
    have h76 : aa.eval (.tmp 76) = Value.pointer (some ⟨b.rb, 9, none⟩) := (E 76 (by kernel_rfl)).trans (by kernel_rfl)
    refine obl_read (ks := [0]) (by kernel_rfl) (by kernel_rfl) rfl hk ⟨?_, trivial⟩
    · intro w' hw; cases hw; exact op_load1M rfl (by decide) rfl h76 s6.c9
  · intro kk aa hk E
    have h7 : aa.eval (.tmp 7) = Value.pointer (some ⟨W3.heap.size + 1, 0, none⟩) := (E 7 (by kernel_rfl)).trans (by kernel_rfl)
    exact obl_pure (by kernel_rfl) rfl hk fun w => op_move rfl rfl h7
  · intro kk aa hk E
    have h78 : aa.eval (.tmp 78) = Value.pointer (some ⟨W3.heap.size + 1, 0, none⟩) := (E 78 (by kernel_rfl)).trans (by kernel_rfl)
    exact obl_pure (by kernel_rfl) rfl hk fun w => op_nil rfl rfl h78
  · intro kk aa hk E
    have h79 : aa.eval (.tmp 79) = Value.pointer (some ⟨W3.heap.size + 1, 0, none⟩) := (E 79 (by kernel_rfl)).trans (by kernel_rfl)
    exact obl_pure (by kernel_rfl) rfl hk fun w => op_fa (k := 0) rfl rfl rfl h79
  · intro kk aa hk E
    have h80 : aa.eval (.tmp 80) = Value.pointer (some ⟨W3.heap.size + 1, 0, none⟩) := (E 80 (by kernel_rfl)).trans (by kernel_rfl)
    refine obl_read (ks := [0]) (by kernel_rfl) (by kernel_rfl) rfl hk ⟨?_, trivial⟩
    · intro w' hw; cases hw; exact op_load1M rfl (by decide) rfl h80 s6.r0
  · intro kk aa hk E
    have h7 : aa.eval (.tmp 7) = Value.pointer (some ⟨W3.heap.size + 1, 0, none⟩) := (E 7 (by kernel_rfl)).trans (by kernel_rfl)
    exact obl_pure (by kernel_rfl) rfl hk fun w => op_move rfl rfl h7
  · intro kk aa hk E
    have h82 : aa.eval (.tmp 82) = Value.pointer (some ⟨W3.heap.size + 1, 0, none⟩) := (E 82 (by kernel_rfl)).trans (by kernel_rfl)
    exact obl_pure (by kernel_rfl) rfl hk fun w => op_nil rfl rfl h82
  · intro kk aa hk E
    have h83 : aa.eval (.tmp 83) = Value.pointer (some ⟨W3.heap.size + 1, 0, none⟩) := (E 83 (by kernel_rfl)).trans (by kernel_rfl)
    exact obl_pure (by kernel_rfl) rfl hk fun w => op_fa (k := 1) rfl rfl rfl h83
  · intro kk aa hk E
    have h84 : aa.eval (.tmp 84) = Value.pointer (some ⟨W3.heap.size + 1, 1, none⟩) := (E 84 (by kernel_rfl)).trans (by kernel_rfl)
    refine obl_read (ks := [0]) (by kernel_rfl) (by kernel_rfl) rfl hk ⟨?_, trivial⟩
    · intro w' hw; cases hw; exact op_load1M rfl (by decide) rfl h84 s6.r1
  · intro kk aa hk E
    have h81 : aa.eval (.tmp 81) = .slice (some ⟨W3.heap.size, 0, none⟩) sz sz := (E 81 (by kernel_rfl)).trans (by kernel_rfl)
    have h85 : aa.eval (.tmp 85) = iv st := (E 85 (by kernel_rfl)).trans (by kernel_rfl)
    exact obl_pure (by kernel_rfl) rfl hk fun w => op_index (sz := 8) (k := st) (Nat.zero_add _) rfl (.inl ⟨rfl, rfl⟩) rfl h81 h85 rfl (by omega)
  · intro kk aa hk E
    have h7 : aa.eval (.tmp 7) = Value.pointer (some ⟨W3.heap.size + 1, 0, none⟩) := (E 7 (by kernel_rfl)).trans (by kernel_rfl)
    exact obl_pure (by kernel_rfl) rfl hk fun w => op_move rfl rfl h7
  · intro kk aa hk E
    have h77 : aa.eval (.tmp 77) = .map (some b.mb) := (E 77 (by kernel_rfl)).trans (by kernel_rfl)
    have h86 : aa.eval (.tmp 86) = Value.pointer (some ⟨W3.heap.size, st * 8, none⟩) := (E 86 (by kernel_rfl)).trans (by kernel_rfl)
    have h87 : aa.eval (.tmp 87) = Value.pointer (some ⟨W3.heap.size + 1, 0, none⟩) := (E 87 (by kernel_rfl)).trans (by kernel_rfl)
    exact obl_write (ks := [0]) (by kernel_rfl) (by kernel_rfl) hk ⟨⟨1, _, _, by kernel_rfl, rfl, rfl, op_mapUpdate rfl rfl h77 h86 h87 U6.out⟩, trivial⟩
  intro af haf
  simp only [List.take_succ_cons, List.take_zero, finA, Act.put, List.setIfInBounds_toArray, List.set_cons_succ, List.set_cons_zero] at haf
  subst haf
  simp only [List.drop_succ_cons, List.drop_zero]
  have q0 := s6.q0 (es.push { key := .pointer (some ⟨W3.heap.size, st * 8, none⟩), val := .pointer (some ⟨(W3.heap.size + 1), 0, none⟩), born := clk }) (clk + 1)
  have q1 := s6.q1 (es.push { key := .pointer (some ⟨W3.heap.size, st * 8, none⟩), val := .pointer (some ⟨(W3.heap.size + 1), 0, none⟩), born := clk }) (clk + 1)
  generalize hW7 : mapw W6.drew b.mb (es.push { key := .pointer (some ⟨W3.heap.size, st * 8, none⟩), val := .pointer (some ⟨(W3.heap.size + 1), 0, none⟩), born := clk }) (clk + 1) = W7 at q0 q1 ⊢
  have H7 := Lib.hid hW7
  have Q0 := Lib.hid q0
  have Q1 := Lib.hid q1
  clear hW7 s6 q0 q1
  go_wp2
  refine wp_phaseT [false, false, false, false, false, false, false, false, false, false] [[]] [Value.pointer (some ⟨W3.heap.size + 1, 0, none⟩), Value.pointer (some ⟨W3.heap.size + 1, 0, none⟩), Value.pointer (some ⟨W3.heap.size + 1, 0, none⟩), .slice (some ⟨W3.heap.size, 0, none⟩) sz sz, Value.pointer (some ⟨W3.heap.size + 1, 0, none⟩), Value.pointer (some ⟨W3.heap.size + 1, 0, none⟩), Value.pointer (some ⟨W3.heap.size + 1, 1, none⟩), iv st, .slice (some ⟨W3.heap.size, st * 8, none⟩) (sz - st) (sz - st), .slice (some ⟨W3.heap.size, st * 8, none⟩) (sz - st) (sz - st)] [_] 0 10 (by decide) (by kernel_rfl) (by kernel_rfl) (by kernel_rfl) (by kernel_rfl) rfl (by kernel_rfl) (fun h => absurd h (by decide)) (fun h => absurd h (by decide)) rfl rfl ⟨?_, ?_, ?_, ?_, ?_, ?_, ?_, ?_, ?_, ?_, trivial⟩ rfl (by kernel_rfl) ?_
  · intro kk aa hk E
    have h7 : aa.eval (.tmp 7) = Value.pointer (some ⟨W3.heap.size + 1, 0, none⟩) := (E 7 (by kernel_rfl)).trans (by kernel_rfl)
    exact obl_pure (by kernel_rfl) rfl hk fun w => op_move rfl rfl h7
  · intro kk aa hk E
    have h88 : aa.eval (.tmp 88) = Value.pointer (some ⟨W3.heap.size + 1, 0, none⟩) := (E 88 (by kernel_rfl)).trans (by kernel_rfl)
    exact obl_pure (by kernel_rfl) rfl hk fun w => op_nil rfl rfl h88
  · intro kk aa hk E
    have h89 : aa.eval (.tmp 89) = Value.pointer (some ⟨W3.heap.size + 1, 0, none⟩) := (E 89 (by kernel_rfl)).trans (by kernel_rfl)
    exact obl_pure (by kernel_rfl) rfl hk fun w => op_fa (k := 0) rfl rfl rfl h89
  · intro kk aa hk E
    have h90 : aa.eval (.tmp 90) = Value.pointer (some ⟨W3.heap.size + 1, 0, none⟩) := (E 90 (by kernel_rfl)).trans (by kernel_rfl)
    refine obl_read (ks := [0]) (by kernel_rfl) (by kernel_rfl) rfl hk ⟨?_, trivial⟩
    · intro w' hw; cases hw; exact op_load1M rfl (by decide) rfl h90 Q0.out
  · intro kk aa hk E
    have h7 : aa.eval (.tmp 7) = Value.pointer (some ⟨W3.heap.size + 1, 0, none⟩) := (E 7 (by kernel_rfl)).trans (by kernel_rfl)
    exact obl_pure (by kernel_rfl) rfl hk fun w => op_move rfl rfl h7
  · intro kk aa hk E
    have h92 : aa.eval (.tmp 92) = Value.pointer (some ⟨W3.heap.size + 1, 0, none⟩) := (E 92 (by kernel_rfl)).trans (by kernel_rfl)
    exact obl_pure (by kernel_rfl) rfl hk fun w => op_nil rfl rfl h92
  · intro kk aa hk E
    have h93 : aa.eval (.tmp 93) = Value.pointer (some ⟨W3.heap.size + 1, 0, none⟩) := (E 93 (by kernel_rfl)).trans (by kernel_rfl)
    exact obl_pure (by kernel_rfl) rfl hk fun w => op_fa (k := 1) rfl rfl rfl h93
  · intro kk aa hk E
    have h94 : aa.eval (.tmp 94) = Value.pointer (some ⟨W3.heap.size + 1, 1, none⟩) := (E 94 (by kernel_rfl)).trans (by kernel_rfl)
    refine obl_read (ks := [0]) (by kernel_rfl) (by kernel_rfl) rfl hk ⟨?_, trivial⟩
    · intro w' hw; cases hw; exact op_load1M rfl (by decide) rfl h94 Q1.out
  · intro kk aa hk E
    have h91 : aa.eval (.tmp 91) = .slice (some ⟨W3.heap.size, 0, none⟩) sz sz := (E 91 (by kernel_rfl)).trans (by kernel_rfl)
    have h95 : aa.eval (.tmp 95) = iv st := (E 95 (by kernel_rfl)).trans (by kernel_rfl)
    exact obl_pure (by kernel_rfl) rfl hk fun w => op_tail rfl rfl rfl rfl rfl h91 h95 rfl (by omega) (Nat.le_refl _)
  · intro kk aa hk E
    have h96 : aa.eval (.tmp 96) = .slice (some ⟨W3.heap.size, st * 8, none⟩) (sz - st) (sz - st) := (E 96 (by kernel_rfl)).trans (by kernel_rfl)
    exact obl_pure (by kernel_rfl) rfl hk fun w => op_assign rfl rfl h96
  intro af haf
  simp only [List.take_succ_cons, List.take_zero, finA, Act.put, List.setIfInBounds_toArray, List.set_cons_succ, List.set_cons_zero] at haf
  subst haf
  simp only [List.drop_succ_cons, List.drop_zero]
  go_wp2
  show P (.returned (.slice (some ⟨W3.heap.size, st * 8, none⟩) (sz - st) (sz - st))) W7.drew
  obtain ⟨o1, o2, o3⟩ := ahead_fin_os H5.out H6.out H7.out
  have w2 : W2.os = W3.os ∧ W2.tape = W3.tape ∧ W2.output = W3.output := by rw [← H2.out]; exact ⟨rfl, rfl, rfl⟩
  have w4 : W4.os = W2.os ∧ W4.tape = W2.tape ∧ W4.output = W2.output := by rw [← H4.out]; exact ⟨rfl, rfl, rfl⟩
  have w0 : W4.heap = (W2.setRow W3.heap.size (newA sz N cs)).heap := by rw [← H4.out]; exact setRow_congr rfl _ _
  have w3 : W3.heap = (mapw (w.alloc (c8 x)) b.mb es clk).heap ∧ W3.os = w.os ∧ W3.tape = w.tape ∧ W3.output = w.output := by rw [← H3.out]; exact ⟨rfl, rfl, rfl, rfl⟩
  exact FIN.out _ w3.1 w3.2.1 w3.2.2.1 w3.2.2.2 (ahead_fin H5.out H6.out H7.out w0) (o1.trans (w4.1.trans w2.1)) (o2.trans (w4.2.1.trans w2.2.1)) (o3.trans (w4.2.2.trans w2.2.2))
set_option maxRecDepth 100000 in
set_option maxHeartbeats 2000000 in
theorem ahead_zero (b : Bl) (x : AV) (w : World) (q : Addr) (n c sz st N r0 : Nat) (cs : List Value) (es : Array MapEntry) (clk : Nat) (P : Ending → World → Prop) (hn : 0 < n) (hnc : n ≤ 400000000) (hsz : sz = 2 * n + 4) (hN : N = n + 4) (hst : N = st + 1)
    (hcs : cs.length = n * 8) (h1 : ∀ v ∈ cs, v.oneCell' = true) (hA : (some q) = none → n = 0 ∧ c = 0)
    (c9 : ∀ o k, ((w.alloc o).drewN k).cell? ⟨b.rb, 9, none⟩ = some (.map (some b.mb)))
    (LK : ∀ k, (Instr.lookup 163 (.map (some b.mb)) (.pointer (some q)) false).run Tryz.prog ((w.alloc (c8 x)).drewN k) = .ok (.pointer (some ⟨r0, 0, none⟩)) ((w.alloc (c8 x)).drewN k))
    (DL : ∀ k ty, (Builtin.delete_ #[163, 234] ty #[.map (some b.mb), .pointer (some q)]).run Tryz.prog ((w.alloc (c8 x)).drewN k) = .ok (.tuple #[]) (mapw ((w.alloc (c8 x)).drewN k) b.mb es clk))
    (S4 : ∀ k, AhV b (mapw ((w.alloc (c8 x)).drewN k) b.mb es clk) x w.heap.size (some q) cs es clk)
    (Z0 : ∀ k, (mapw ((w.alloc (c8 x)).drewN k) b.mb es clk).cell? ⟨r0, 1, none⟩ = some (iv 0))
    (FIN : ∀ V w', V.heap = (mapw (w.alloc (c8 x)) b.mb es clk).heap → V.os = w.os → V.tape = w.tape → V.output = w.output → w'.heap = (mapw (st8 (((newR V sz N).setRow V.heap.size (newA sz N cs)).setCell ⟨V.heap.size + 1, 1, none⟩ (iv st)) V.heap.size (st * 8) x) b.mb (es.push { key := .pointer (some ⟨V.heap.size, st * 8, none⟩), val := .pointer (some ⟨V.heap.size + 1, 0, none⟩), born := clk }) (clk + 1)).heap → w'.os = V.os → w'.tape = V.tape → w'.output = V.output →
      P (.returned (.slice (some ⟨V.heap.size, st * 8, none⟩) (sz - st) (sz - st))) w') :
    Calls Tryz.prog 160 #[.pointer (some ⟨b.rb, 0, none⟩), x.v, .slice (some q) n c] w P := by
  have z1 : (0 : Int) < (n : Int) := by omega
  have z3 : IntKind.i64.wrap ((N : Int) - 1) = (st : Int) := by rw [IntWalk.i64_in _ (by omega)]; omega
  have z5 : IntKind.i64.wrap (2 * (n : Int)) = 2 * (n : Int) := IntWalk.i64_in _ (by omega)
  have z6 : IntKind.i64.wrap (2 * (n : Int) + 4) = (sz : Int) := by rw [IntWalk.i64_in _ (by omega)]; omega
  have z7 : IntKind.i64.wrap ((sz : Int) - (n : Int)) = (N : Int) := by rw [IntWalk.i64_in _ (by omega)]; omega
  have MK := mk_run sz (by omega)
  have k1 := Lib.hid hsz
  have k2 := Lib.hid hN
  have k3 := Lib.hid hst
  clear hsz hN hst
  have hsN : N + n = sz := by have := k1.out; have := k2.out; omega
  have k4 := Lib.hid hsN
  clear hsN
  have LK := Lib.hid LK
  have DL := Lib.hid DL
  have Z0 := Lib.hid Z0
  have S4 := Lib.hid S4
  have FIN := Lib.hid FIN
  have xe : x.v = .agg #[iv x.kind, iv x.int, .slice x.A x.list.length x.c, iv x.block, eSm, eSm, nilS, nilS] := rfl
  rw [xe]
  clear xe
  have we : w.alloc (.cells #[iv x.kind, iv x.int, .slice x.A x.list.length x.c, iv x.block, eSm, eSm, nilS, nilS] 56) = w.alloc (c8 x) := rfl
  have WE := Lib.hid we
  clear we
  have kA := Lib.hid hA
  have kC := Lib.hid hcs
  have kO := Lib.hid h1
  clear hA hcs h1
  go_enter Tryz.func160, Tryz.ntmps160
  go_wp2
  rw [WE.out]
  refine wp_phaseT [false, false, false, false, false, false, false, false] [[]] [Value.pointer (some ⟨b.rb, 0, none⟩), Value.pointer (some ⟨b.rb, 0, none⟩), Value.pointer (some ⟨b.rb, 9, none⟩), .map (some b.mb), Value.slice (some q) n c, .pointer (some q), Value.pointer (some ⟨r0, 0, none⟩), Value.pointer (some ⟨r0, 0, none⟩)] [_] 0 8 (by decide) (by kernel_rfl) (by kernel_rfl) (by kernel_rfl) (by kernel_rfl) rfl (by kernel_rfl) (fun h => absurd h (by decide)) (fun h => absurd h (by decide)) rfl rfl ⟨?_, ?_, ?_, ?_, ?_, ?_, ?_, ?_, trivial⟩ rfl (by kernel_rfl) ?_
  · intro kk aa hk E
    have h0 : aa.eval (.tmp 0) = Value.pointer (some ⟨b.rb, 0, none⟩) := (E 0 (by kernel_rfl)).trans (by kernel_rfl)
    exact obl_pure (by kernel_rfl) rfl hk fun w => op_move rfl rfl h0
  · intro kk aa hk E
    have h12 : aa.eval (.tmp 12) = Value.pointer (some ⟨b.rb, 0, none⟩) := (E 12 (by kernel_rfl)).trans (by kernel_rfl)
    exact obl_pure (by kernel_rfl) rfl hk fun w => op_nil rfl rfl h12
  · intro kk aa hk E
    have h13 : aa.eval (.tmp 13) = Value.pointer (some ⟨b.rb, 0, none⟩) := (E 13 (by kernel_rfl)).trans (by kernel_rfl)
    exact obl_pure (by kernel_rfl) rfl hk fun w => op_fa (k := 9) rfl rfl rfl h13
  · intro kk aa hk E
    have h14 : aa.eval (.tmp 14) = Value.pointer (some ⟨b.rb, 9, none⟩) := (E 14 (by kernel_rfl)).trans (by kernel_rfl)
    refine obl_read (ks := [0]) (by kernel_rfl) (by kernel_rfl) rfl hk ⟨?_, trivial⟩
    · intro w' hw; cases hw; exact op_load1M rfl (by decide) rfl h14 (c9 _ 1)
  · intro kk aa hk E
    have h2 : aa.eval (.tmp 2) = Value.slice (some q) n c := (E 2 (by kernel_rfl)).trans (by kernel_rfl)
    exact obl_pure (by kernel_rfl) rfl hk fun w => op_move rfl rfl h2
  · intro kk aa hk E
    have h16 : aa.eval (.tmp 16) = Value.slice (some q) n c := (E 16 (by kernel_rfl)).trans (by kernel_rfl)
    exact obl_pure (by kernel_rfl) rfl hk fun w => op_index0' rfl rfl h16 (by omega)
  · intro kk aa hk E
    have h15 : aa.eval (.tmp 15) = .map (some b.mb) := (E 15 (by kernel_rfl)).trans (by kernel_rfl)
    have h17 : aa.eval (.tmp 17) = .pointer (some q) := (E 17 (by kernel_rfl)).trans (by kernel_rfl)
    refine obl_read (ks := [0]) (by kernel_rfl) (by kernel_rfl) rfl hk ⟨?_, trivial⟩
    · intro w' hw; cases hw; exact op_lookup rfl rfl h15 h17 (LK.out 1)
  · intro kk aa hk E
    have h18 : aa.eval (.tmp 18) = Value.pointer (some ⟨r0, 0, none⟩) := (E 18 (by kernel_rfl)).trans (by kernel_rfl)
    exact obl_pure (by kernel_rfl) rfl hk fun w => op_assign rfl rfl h18
  intro af haf
  simp only [List.take_succ_cons, List.take_zero, finA, Act.put, List.setIfInBounds_toArray, List.set_cons_succ, List.set_cons_zero] at haf
  subst haf
  simp only [List.drop_succ_cons, List.drop_zero]
  go_wp2
  refine wp_phaseT [false, false, false, false, false, false] [[]] [Value.pointer (some ⟨b.rb, 0, none⟩), Value.pointer (some ⟨b.rb, 0, none⟩), Value.pointer (some ⟨b.rb, 9, none⟩), .map (some b.mb), Value.slice (some q) n c, .pointer (some q)] [_] 0 6 (by decide) (by kernel_rfl) (by kernel_rfl) (by kernel_rfl) (by kernel_rfl) rfl (by kernel_rfl) (fun _ => by kernel_rfl) (fun _ => by kernel_rfl) rfl rfl ⟨?_, ?_, ?_, ?_, ?_, ?_, trivial⟩ rfl (by kernel_rfl) ?_
  · intro kk aa hk E
    have h0 : aa.eval (.tmp 0) = Value.pointer (some ⟨b.rb, 0, none⟩) := (E 0 (by kernel_rfl)).trans (by kernel_rfl)
    exact obl_pure (by kernel_rfl) rfl hk fun w => op_move rfl rfl h0
  · intro kk aa hk E
    have h19 : aa.eval (.tmp 19) = Value.pointer (some ⟨b.rb, 0, none⟩) := (E 19 (by kernel_rfl)).trans (by kernel_rfl)
    exact obl_pure (by kernel_rfl) rfl hk fun w => op_nil rfl rfl h19
  · intro kk aa hk E
    have h20 : aa.eval (.tmp 20) = Value.pointer (some ⟨b.rb, 0, none⟩) := (E 20 (by kernel_rfl)).trans (by kernel_rfl)
    exact obl_pure (by kernel_rfl) rfl hk fun w => op_fa (k := 9) rfl rfl rfl h20
  · intro kk aa hk E
    have h21 : aa.eval (.tmp 21) = Value.pointer (some ⟨b.rb, 9, none⟩) := (E 21 (by kernel_rfl)).trans (by kernel_rfl)
    refine obl_read (ks := [0]) (by kernel_rfl) (by kernel_rfl) rfl hk ⟨?_, trivial⟩
    · intro w' hw; cases hw; exact op_load1M rfl (by decide) rfl h21 (c9 _ 2)
  · intro kk aa hk E
    have h2 : aa.eval (.tmp 2) = Value.slice (some q) n c := (E 2 (by kernel_rfl)).trans (by kernel_rfl)
    exact obl_pure (by kernel_rfl) rfl hk fun w => op_move rfl rfl h2
  · intro kk aa hk E
    have h23 : aa.eval (.tmp 23) = Value.slice (some q) n c := (E 23 (by kernel_rfl)).trans (by kernel_rfl)
    exact obl_pure (by kernel_rfl) rfl hk fun w => op_index0' rfl rfl h23 (by omega)
  intro af haf
  simp only [List.take_succ_cons, List.take_zero, finA, Act.put, List.setIfInBounds_toArray, List.set_cons_succ, List.set_cons_zero] at haf
  subst haf
  simp only [List.drop_succ_cons, List.drop_zero]
  refine wl_value (w' := mapw ((w.alloc (c8 x)).drewN 2) b.mb es clk) rfl (op_delete (x := 22) (y := 24) rfl rfl rfl (DL.out 2)) ?_
  have s3 := S4.out 2
  have FIN := Lib.hid (FIN.out (mapw ((w.alloc (c8 x)).drewN 2) b.mb es clk))
  have zz := Z0.out 2
  generalize hW3 : mapw ((w.alloc (c8 x)).drewN 2) b.mb es clk = W3 at s3 FIN zz ⊢
  have H3 := Lib.hid hW3
  clear hW3
  obtain ⟨p1, p2, p3⟩ := s3.pack kC.out kA.out k4.out kO.out
  have P1 := Lib.hid p1
  have P2 := Lib.hid p2
  have P3 := Lib.hid p3
  clear p1 p2 p3 s3
  go_wp2
  have NR : (W3.alloc (.cells (zc sz) 56)).alloc (.cells #[.slice (some ⟨W3.heap.size, 0, none⟩) sz sz, iv N] 236) = newR W3 sz N := rfl
  rw [NR]
  clear NR
  generalize hW2 : newR W3 sz N = W2 at P1 P2 P3 FIN ⊢
  have H2 := Lib.hid hW2
  clear hW2
  have r1 := P1.out
  have r10 : W2.cell? ⟨W3.heap.size + 1, 0, none⟩ = some (.slice (some ⟨W3.heap.size, 0, none⟩) sz sz) := by simp [World.cell?, r1]
  have r11 : W2.cell? ⟨W3.heap.size + 1, 1, none⟩ = some (iv N) := by simp [World.cell?, r1]
  refine wp_phaseT [false, false, false, false, false, false, false, false, false, false, true] [[], [10]] [Value.pointer (some ⟨W3.heap.size + 1, 0, none⟩), Value.pointer (some ⟨W3.heap.size + 1, 0, none⟩), Value.pointer (some ⟨W3.heap.size + 1, 0, none⟩), .slice (some ⟨W3.heap.size, 0, none⟩) sz sz, Value.pointer (some ⟨W3.heap.size + 1, 0, none⟩), Value.pointer (some ⟨W3.heap.size + 1, 0, none⟩), Value.pointer (some ⟨W3.heap.size + 1, 1, none⟩), iv N, .slice (some ⟨W3.heap.size, N * 8, none⟩) n n, Value.slice (some q) n c, goInt n] [_, (W2.drew.setRow W3.heap.size (newA sz N cs))] 1 11 (by decide) (by kernel_rfl) (by kernel_rfl) (by kernel_rfl) (by kernel_rfl) rfl (by kernel_rfl) (fun h => absurd h (by decide)) (fun h => absurd h (by decide)) rfl rfl ⟨?_, ?_, ?_, ?_, ?_, ?_, ?_, ?_, ?_, ?_, ?_, trivial⟩ rfl (by kernel_rfl) ?_
  · intro kk aa hk E
    have h7 : aa.eval (.tmp 7) = Value.pointer (some ⟨W3.heap.size + 1, 0, none⟩) := (E 7 (by kernel_rfl)).trans (by kernel_rfl)
    exact obl_pure (by kernel_rfl) rfl hk fun w => op_move rfl rfl h7
  · intro kk aa hk E
    have h46 : aa.eval (.tmp 46) = Value.pointer (some ⟨W3.heap.size + 1, 0, none⟩) := (E 46 (by kernel_rfl)).trans (by kernel_rfl)
    exact obl_pure (by kernel_rfl) rfl hk fun w => op_nil rfl rfl h46
  · intro kk aa hk E
    have h47 : aa.eval (.tmp 47) = Value.pointer (some ⟨W3.heap.size + 1, 0, none⟩) := (E 47 (by kernel_rfl)).trans (by kernel_rfl)
    exact obl_pure (by kernel_rfl) rfl hk fun w => op_fa (k := 0) rfl rfl rfl h47
  · intro kk aa hk E
    have h48 : aa.eval (.tmp 48) = Value.pointer (some ⟨W3.heap.size + 1, 0, none⟩) := (E 48 (by kernel_rfl)).trans (by kernel_rfl)
    refine obl_read (ks := [0, 1]) (by kernel_rfl) (by kernel_rfl) rfl hk ⟨?_, ?_, trivial⟩
    · intro w' hw; cases hw; exact op_load1M rfl (by decide) rfl h48 r10
    · intro w' hw; cases hw; exact op_load1M rfl (by decide) rfl h48 P2.out.r0
  · intro kk aa hk E
    have h7 : aa.eval (.tmp 7) = Value.pointer (some ⟨W3.heap.size + 1, 0, none⟩) := (E 7 (by kernel_rfl)).trans (by kernel_rfl)
    exact obl_pure (by kernel_rfl) rfl hk fun w => op_move rfl rfl h7
  · intro kk aa hk E
    have h50 : aa.eval (.tmp 50) = Value.pointer (some ⟨W3.heap.size + 1, 0, none⟩) := (E 50 (by kernel_rfl)).trans (by kernel_rfl)
    exact obl_pure (by kernel_rfl) rfl hk fun w => op_nil rfl rfl h50
  · intro kk aa hk E
    have h51 : aa.eval (.tmp 51) = Value.pointer (some ⟨W3.heap.size + 1, 0, none⟩) := (E 51 (by kernel_rfl)).trans (by kernel_rfl)
    exact obl_pure (by kernel_rfl) rfl hk fun w => op_fa (k := 1) rfl rfl rfl h51
  · intro kk aa hk E
    have h52 : aa.eval (.tmp 52) = Value.pointer (some ⟨W3.heap.size + 1, 1, none⟩) := (E 52 (by kernel_rfl)).trans (by kernel_rfl)
    refine obl_read (ks := [0, 1]) (by kernel_rfl) (by kernel_rfl) rfl hk ⟨?_, ?_, trivial⟩
    · intro w' hw; cases hw; exact op_load1M rfl (by decide) rfl h52 r11
    · intro w' hw; cases hw; exact op_load1M rfl (by decide) rfl h52 P2.out.r1
  · intro kk aa hk E
    have h49 : aa.eval (.tmp 49) = .slice (some ⟨W3.heap.size, 0, none⟩) sz sz := (E 49 (by kernel_rfl)).trans (by kernel_rfl)
    have h53 : aa.eval (.tmp 53) = iv N := (E 53 (by kernel_rfl)).trans (by kernel_rfl)
    exact obl_pure (by kernel_rfl) rfl hk fun w => op_tail rfl (by have := k4.out; omega) (by have := k4.out; omega) rfl rfl h49 h53 rfl (by have := k1.out; have := k2.out; omega) (Nat.le_refl _)
  · intro kk aa hk E
    have h2 : aa.eval (.tmp 2) = Value.slice (some q) n c := (E 2 (by kernel_rfl)).trans (by kernel_rfl)
    exact obl_pure (by kernel_rfl) rfl hk fun w => op_move rfl rfl h2
  · intro kk aa hk E
    have h54 : aa.eval (.tmp 54) = .slice (some ⟨W3.heap.size, N * 8, none⟩) n n := (E 54 (by kernel_rfl)).trans (by kernel_rfl)
    have h55 : aa.eval (.tmp 55) = Value.slice (some q) n c := (E 55 (by kernel_rfl)).trans (by kernel_rfl)
    exact obl_write (ks := [0]) (by kernel_rfl) (by kernel_rfl) hk ⟨⟨1, _, _, by kernel_rfl, rfl, rfl, op_copyd rfl rfl h54 h55 P3.out⟩, trivial⟩
  intro af haf
  simp only [List.take_succ_cons, List.take_zero, finA, Act.put, List.setIfInBounds_toArray, List.set_cons_succ, List.set_cons_zero] at haf
  subst haf
  simp only [List.drop_succ_cons, List.drop_zero]
  have s4 := P2.out
  generalize hW4 : W2.drew.setRow W3.heap.size (newA sz N cs) = W4 at s4 ⊢
  have H4 := Lib.hid hW4
  clear hW4 r10 r11 r1
  have f0 := s4.r0
  have f1 := s4.r1
  have ff := s4.rf
  have S4' := Lib.hid s4
  clear s4
  go_wp2
  have hs : st < sz := by have := k1.out; have := k2.out; have := k3.out; omega
  have s5 := S4'.out.set st
  generalize hW5 : W4.setCell ⟨(W3.heap.size + 1), 1, none⟩ (Value.int IntKind.i64 ↑st) = W5 at s5 ⊢
  have H5 := Lib.hid hW5
  clear hW5 f0 f1 ff
  refine wp_phaseT [false, false, false, false, false, false, false, false, false, false, true] [[], [10]] [Value.pointer (some ⟨W3.heap.size + 1, 0, none⟩), Value.pointer (some ⟨W3.heap.size + 1, 0, none⟩), Value.pointer (some ⟨W3.heap.size + 1, 0, none⟩), .slice (some ⟨W3.heap.size, 0, none⟩) sz sz, Value.pointer (some ⟨W3.heap.size + 1, 0, none⟩), Value.pointer (some ⟨W3.heap.size + 1, 0, none⟩), Value.pointer (some ⟨W3.heap.size + 1, 1, none⟩), iv st, x.v, Value.pointer (some ⟨W3.heap.size, st * 8, none⟩), undef] [_, (st8 W5.drew W3.heap.size (st * 8) x)] 1 11 (by decide) (by kernel_rfl) (by kernel_rfl) (by kernel_rfl) (by kernel_rfl) rfl (by kernel_rfl) (fun h => absurd h (by decide)) (fun h => absurd h (by decide)) rfl rfl ⟨?_, ?_, ?_, ?_, ?_, ?_, ?_, ?_, ?_, ?_, ?_, trivial⟩ rfl (by kernel_rfl) ?_
  · intro kk aa hk E
    have h7 : aa.eval (.tmp 7) = Value.pointer (some ⟨W3.heap.size + 1, 0, none⟩) := (E 7 (by kernel_rfl)).trans (by kernel_rfl)
    exact obl_pure (by kernel_rfl) rfl hk fun w => op_move rfl rfl h7
  · intro kk aa hk E
    have h64 : aa.eval (.tmp 64) = Value.pointer (some ⟨W3.heap.size + 1, 0, none⟩) := (E 64 (by kernel_rfl)).trans (by kernel_rfl)
    exact obl_pure (by kernel_rfl) rfl hk fun w => op_nil rfl rfl h64
  · intro kk aa hk E
    have h65 : aa.eval (.tmp 65) = Value.pointer (some ⟨W3.heap.size + 1, 0, none⟩) := (E 65 (by kernel_rfl)).trans (by kernel_rfl)
    exact obl_pure (by kernel_rfl) rfl hk fun w => op_fa (k := 0) rfl rfl rfl h65
  · intro kk aa hk E
    have h66 : aa.eval (.tmp 66) = Value.pointer (some ⟨W3.heap.size + 1, 0, none⟩) := (E 66 (by kernel_rfl)).trans (by kernel_rfl)
    refine obl_read (ks := [0]) (by kernel_rfl) (by kernel_rfl) rfl hk ⟨?_, trivial⟩
    · intro w' hw; cases hw; exact op_load1M rfl (by decide) rfl h66 s5.r0
  · intro kk aa hk E
    have h7 : aa.eval (.tmp 7) = Value.pointer (some ⟨W3.heap.size + 1, 0, none⟩) := (E 7 (by kernel_rfl)).trans (by kernel_rfl)
    exact obl_pure (by kernel_rfl) rfl hk fun w => op_move rfl rfl h7
  · intro kk aa hk E
    have h68 : aa.eval (.tmp 68) = Value.pointer (some ⟨W3.heap.size + 1, 0, none⟩) := (E 68 (by kernel_rfl)).trans (by kernel_rfl)
    exact obl_pure (by kernel_rfl) rfl hk fun w => op_nil rfl rfl h68
  · intro kk aa hk E
    have h69 : aa.eval (.tmp 69) = Value.pointer (some ⟨W3.heap.size + 1, 0, none⟩) := (E 69 (by kernel_rfl)).trans (by kernel_rfl)
    exact obl_pure (by kernel_rfl) rfl hk fun w => op_fa (k := 1) rfl rfl rfl h69
  · intro kk aa hk E
    have h70 : aa.eval (.tmp 70) = Value.pointer (some ⟨W3.heap.size + 1, 1, none⟩) := (E 70 (by kernel_rfl)).trans (by kernel_rfl)
    refine obl_read (ks := [0]) (by kernel_rfl) (by kernel_rfl) rfl hk ⟨?_, trivial⟩
    · intro w' hw; cases hw; exact op_load1M rfl (by decide) rfl h70 s5.r1
  · intro kk aa hk E
    have h4 : aa.eval (.tmp 4) = Value.pointer (some ⟨w.heap.size, 0, none⟩) := (E 4 (by kernel_rfl)).trans (by kernel_rfl)
    refine obl_read (ks := [0]) (by kernel_rfl) (by kernel_rfl) rfl hk ⟨?_, trivial⟩
    · intro w' hw; cases hw; exact op_load54 (vs := x.cs) rfl rfl rfl h4 s5.xc
  · intro kk aa hk E
    have h67 : aa.eval (.tmp 67) = .slice (some ⟨W3.heap.size, 0, none⟩) sz sz := (E 67 (by kernel_rfl)).trans (by kernel_rfl)
    have h71 : aa.eval (.tmp 71) = iv st := (E 71 (by kernel_rfl)).trans (by kernel_rfl)
    exact obl_pure (by kernel_rfl) rfl hk fun w => op_index (sz := 8) (k := st) (Nat.zero_add _) rfl (.inl ⟨rfl, rfl⟩) rfl h67 h71 rfl (by omega)
  · intro kk aa hk E
    have h73 : aa.eval (.tmp 73) = Value.pointer (some ⟨W3.heap.size, st * 8, none⟩) := (E 73 (by kernel_rfl)).trans (by kernel_rfl)
    have h72 : aa.eval (.tmp 72) = x.v := (E 72 (by kernel_rfl)).trans (by kernel_rfl)
    exact obl_write (ks := [0]) (by kernel_rfl) (by kernel_rfl) hk ⟨⟨1, _, _, by kernel_rfl, rfl, rfl, op_st8 rfl rfl h73 h72 (fun i hi => s5.ac (by omega) i hi) s5.af⟩, trivial⟩
  intro af haf
  simp only [List.take_succ_cons, List.take_zero, finA, Act.put, List.setIfInBounds_toArray, List.set_cons_succ, List.set_cons_zero] at haf
  subst haf
  simp only [List.drop_succ_cons, List.drop_zero]
  have s5d : AhS b W5.drew x w.heap.size (W3.heap.size + 1) W3.heap.size sz st es clk := AhS.heap s5 rfl
  have s6 := s5d.st8 x (st * 8)
  generalize hW6 : st8 W5.drew W3.heap.size (st * 8) x = W6 at s6 ⊢
  have s6 : AhS b W6.drew x w.heap.size (W3.heap.size + 1) W3.heap.size sz st es clk := AhS.heap s6 rfl
  have H6 := Lib.hid hW6
  clear hW6
  have u6 := s6.upd (by omega) (.pointer (some ⟨(W3.heap.size + 1), 0, none⟩))
  have U6 := Lib.hid u6
  clear u6
  have S6 := Lib.hid s6
  clear s6 s5 s5d
  go_wp2
  have s6 := S6.out
  refine wp_phaseT [false, false, false, false, false, false, false, false, false, false, false, false, false, false, true] [[], [14]] [Value.pointer (some ⟨b.rb, 0, none⟩), Value.pointer (some ⟨b.rb, 0, none⟩), Value.pointer (some ⟨b.rb, 9, none⟩), .map (some b.mb), Value.pointer (some ⟨W3.heap.size + 1, 0, none⟩), Value.pointer (some ⟨W3.heap.size + 1, 0, none⟩), Value.pointer (some ⟨W3.heap.size + 1, 0, none⟩), .slice (some ⟨W3.heap.size, 0, none⟩) sz sz, Value.pointer (some ⟨W3.heap.size + 1, 0, none⟩), Value.pointer (some ⟨W3.heap.size + 1, 0, none⟩), Value.pointer (some ⟨W3.heap.size + 1, 1, none⟩), iv st, Value.pointer (some ⟨W3.heap.size, st * 8, none⟩), Value.pointer (some ⟨W3.heap.size + 1, 0, none⟩), undef] [_, (mapw W6.drew b.mb (es.push { key := .pointer (some ⟨W3.heap.size, st * 8, none⟩), val := .pointer (some ⟨(W3.heap.size + 1), 0, none⟩), born := clk }) (clk + 1))] 1 15 (by decide) (by kernel_rfl) (by kernel_rfl) (by kernel_rfl) (by kernel_rfl) rfl (by kernel_rfl) (fun h => absurd h (by decide)) (fun h => absurd h (by decide)) rfl rfl ⟨?_, ?_, ?_, ?_, ?_, ?_, ?_, ?_, ?_, ?_, ?_, ?_, ?_, ?_, ?_, trivial⟩ rfl (by kernel_rfl) ?_
  · intro kk aa hk E
    have h0 : aa.eval (.tmp 0) = Value.pointer (some ⟨b.rb, 0, none⟩) := (E 0 (by kernel_rfl)).trans (by kernel_rfl)
    exact obl_pure (by kernel_rfl) rfl hk fun w => op_move rfl rfl h0
  · intro kk aa hk E
    have h74 : aa.eval (.tmp 74) = Value.pointer (some ⟨b.rb, 0, none⟩) := (E 74 (by kernel_rfl)).trans (by kernel_rfl)
    exact obl_pure (by kernel_rfl) rfl hk fun w => op_nil rfl rfl h74
  · intro kk aa hk E
    have h75 : aa.eval (.tmp 75) = Value.pointer (some ⟨b.rb, 0, none⟩) := (E 75 (by kernel_rfl)).trans (by kernel_rfl)
    exact obl_pure (by kernel_rfl) rfl hk fun w => op_fa (k := 9) rfl rfl rfl h75
  · intro kk aa hk E
    have h76 : aa.eval (.tmp 76) = Value.pointer (some ⟨b.rb, 9, none⟩) := (E 76 (by kernel_rfl)).trans (by kernel_rfl)
    refine obl_read (ks := [0]) (by kernel_rfl) (by kernel_rfl) rfl hk ⟨?_, trivial⟩
    · intro w' hw; cases hw; exact op_load1M rfl (by decide) rfl h76 s6.c9
  · intro kk aa hk E
    have h7 : aa.eval (.tmp 7) = Value.pointer (some ⟨W3.heap.size + 1, 0, none⟩) := (E 7 (by kernel_rfl)).trans (by kernel_rfl)
    exact obl_pure (by kernel_rfl) rfl hk fun w => op_move rfl rfl h7
  · intro kk aa hk E
    have h78 : aa.eval (.tmp 78) = Value.pointer (some ⟨W3.heap.size + 1, 0, none⟩) := (E 78 (by kernel_rfl)).trans (by kernel_rfl)
    exact obl_pure (by kernel_rfl) rfl hk fun w => op_nil rfl rfl h78
  · intro kk aa hk E
    have h79 : aa.eval (.tmp 79) = Value.pointer (some ⟨W3.heap.size + 1, 0, none⟩) := (E 79 (by kernel_rfl)).trans (by kernel_rfl)
    exact obl_pure (by kernel_rfl) rfl hk fun w => op_fa (k := 0) rfl rfl rfl h79
  · intro kk aa hk E
    have h80 : aa.eval (.tmp 80) = Value.pointer (some ⟨W3.heap.size + 1, 0, none⟩) := (E 80 (by kernel_rfl)).trans (by kernel_rfl)
    refine obl_read (ks := [0]) (by kernel_rfl) (by kernel_rfl) rfl hk ⟨?_, trivial⟩
    · intro w' hw; cases hw; exact op_load1M rfl (by decide) rfl h80 s6.r0
  · intro kk aa hk E
    have h7 : aa.eval (.tmp 7) = Value.pointer (some ⟨W3.heap.size + 1, 0, none⟩) := (E 7 (by kernel_rfl)).trans (by kernel_rfl)
    exact obl_pure (by kernel_rfl) rfl hk fun w => op_move rfl rfl h7
  · intro kk aa hk E
    have h82 : aa.eval (.tmp 82) = Value.pointer (some ⟨W3.heap.size + 1, 0, none⟩) := (E 82 (by kernel_rfl)).trans (by kernel_rfl)
    exact obl_pure (by kernel_rfl) rfl hk fun w => op_nil rfl rfl h82
  · intro kk aa hk E
    have h83 : aa.eval (.tmp 83) = Value.pointer (some ⟨W3.heap.size + 1, 0, none⟩) := (E 83 (by kernel_rfl)).trans (by kernel_rfl)
    exact obl_pure (by kernel_rfl) rfl hk fun w => op_fa (k := 1) rfl rfl rfl h83
  · intro kk aa hk E
    have h84 : aa.eval (.tmp 84) = Value.pointer (some ⟨W3.heap.size + 1, 1, none⟩) := (E 84 (by kernel_rfl)).trans (by kernel_rfl)
    refine obl_read (ks := [0]) (by kernel_rfl) (by kernel_rfl) rfl hk ⟨?_, trivial⟩
    · intro w' hw; cases hw; exact op_load1M rfl (by decide) rfl h84 s6.r1
  · intro kk aa hk E
    have h81 : aa.eval (.tmp 81) = .slice (some ⟨W3.heap.size, 0, none⟩) sz sz := (E 81 (by kernel_rfl)).trans (by kernel_rfl)
    have h85 : aa.eval (.tmp 85) = iv st := (E 85 (by kernel_rfl)).trans (by kernel_rfl)
    exact obl_pure (by kernel_rfl) rfl hk fun w => op_index (sz := 8) (k := st) (Nat.zero_add _) rfl (.inl ⟨rfl, rfl⟩) rfl h81 h85 rfl (by omega)
  · intro kk aa hk E
    have h7 : aa.eval (.tmp 7) = Value.pointer (some ⟨W3.heap.size + 1, 0, none⟩) := (E 7 (by kernel_rfl)).trans (by kernel_rfl)
    exact obl_pure (by kernel_rfl) rfl hk fun w => op_move rfl rfl h7
  · intro kk aa hk E
    have h77 : aa.eval (.tmp 77) = .map (some b.mb) := (E 77 (by kernel_rfl)).trans (by kernel_rfl)
    have h86 : aa.eval (.tmp 86) = Value.pointer (some ⟨W3.heap.size, st * 8, none⟩) := (E 86 (by kernel_rfl)).trans (by kernel_rfl)
    have h87 : aa.eval (.tmp 87) = Value.pointer (some ⟨W3.heap.size + 1, 0, none⟩) := (E 87 (by kernel_rfl)).trans (by kernel_rfl)
    exact obl_write (ks := [0]) (by kernel_rfl) (by kernel_rfl) hk ⟨⟨1, _, _, by kernel_rfl, rfl, rfl, op_mapUpdate rfl rfl h77 h86 h87 U6.out⟩, trivial⟩
  intro af haf
  simp only [List.take_succ_cons, List.take_zero, finA, Act.put, List.setIfInBounds_toArray, List.set_cons_succ, List.set_cons_zero] at haf
  subst haf
  simp only [List.drop_succ_cons, List.drop_zero]
  have q0 := s6.q0 (es.push { key := .pointer (some ⟨W3.heap.size, st * 8, none⟩), val := .pointer (some ⟨(W3.heap.size + 1), 0, none⟩), born := clk }) (clk + 1)
  have q1 := s6.q1 (es.push { key := .pointer (some ⟨W3.heap.size, st * 8, none⟩), val := .pointer (some ⟨(W3.heap.size + 1), 0, none⟩), born := clk }) (clk + 1)
  generalize hW7 : mapw W6.drew b.mb (es.push { key := .pointer (some ⟨W3.heap.size, st * 8, none⟩), val := .pointer (some ⟨(W3.heap.size + 1), 0, none⟩), born := clk }) (clk + 1) = W7 at q0 q1 ⊢
  have H7 := Lib.hid hW7
  have Q0 := Lib.hid q0
  have Q1 := Lib.hid q1
  clear hW7 s6 q0 q1
  go_wp2
  refine wp_phaseT [false, false, false, false, false, false, false, false, false, false] [[]] [Value.pointer (some ⟨W3.heap.size + 1, 0, none⟩), Value.pointer (some ⟨W3.heap.size + 1, 0, none⟩), Value.pointer (some ⟨W3.heap.size + 1, 0, none⟩), .slice (some ⟨W3.heap.size, 0, none⟩) sz sz, Value.pointer (some ⟨W3.heap.size + 1, 0, none⟩), Value.pointer (some ⟨W3.heap.size + 1, 0, none⟩), Value.pointer (some ⟨W3.heap.size + 1, 1, none⟩), iv st, .slice (some ⟨W3.heap.size, st * 8, none⟩) (sz - st) (sz - st), .slice (some ⟨W3.heap.size, st * 8, none⟩) (sz - st) (sz - st)] [_] 0 10 (by decide) (by kernel_rfl) (by kernel_rfl) (by kernel_rfl) (by kernel_rfl) rfl (by kernel_rfl) (fun h => absurd h (by decide)) (fun h => absurd h (by decide)) rfl rfl ⟨?_, ?_, ?_, ?_, ?_, ?_, ?_, ?_, ?_, ?_, trivial⟩ rfl (by kernel_rfl) ?_
  · intro kk aa hk E
    have h7 : aa.eval (.tmp 7) = Value.pointer (some ⟨W3.heap.size + 1, 0, none⟩) := (E 7 (by kernel_rfl)).trans (by kernel_rfl)
    exact obl_pure (by kernel_rfl) rfl hk fun w => op_move rfl rfl h7
  · intro kk aa hk E
    have h88 : aa.eval (.tmp 88) = Value.pointer (some ⟨W3.heap.size + 1, 0, none⟩) := (E 88 (by kernel_rfl)).trans (by kernel_rfl)
    exact obl_pure (by kernel_rfl) rfl hk fun w => op_nil rfl rfl h88
  · intro kk aa hk E
    have h89 : aa.eval (.tmp 89) = Value.pointer (some ⟨W3.heap.size + 1, 0, none⟩) := (E 89 (by kernel_rfl)).trans (by kernel_rfl)
    exact obl_pure (by kernel_rfl) rfl hk fun w => op_fa (k := 0) rfl rfl rfl h89
  · intro kk aa hk E
    have h90 : aa.eval (.tmp 90) = Value.pointer (some ⟨W3.heap.size + 1, 0, none⟩) := (E 90 (by kernel_rfl)).trans (by kernel_rfl)
    refine obl_read (ks := [0]) (by kernel_rfl) (by kernel_rfl) rfl hk ⟨?_, trivial⟩
    · intro w' hw; cases hw; exact op_load1M rfl (by decide) rfl h90 Q0.out
  · intro kk aa hk E
    have h7 : aa.eval (.tmp 7) = Value.pointer (some ⟨W3.heap.size + 1, 0, none⟩) := (E 7 (by kernel_rfl)).trans (by kernel_rfl)
    exact obl_pure (by kernel_rfl) rfl hk fun w => op_move rfl rfl h7
  · intro kk aa hk E
    have h92 : aa.eval (.tmp 92) = Value.pointer (some ⟨W3.heap.size + 1, 0, none⟩) := (E 92 (by kernel_rfl)).trans (by kernel_rfl)
    exact obl_pure (by kernel_rfl) rfl hk fun w => op_nil rfl rfl h92
  · intro kk aa hk E
    have h93 : aa.eval (.tmp 93) = Value.pointer (some ⟨W3.heap.size + 1, 0, none⟩) := (E 93 (by kernel_rfl)).trans (by kernel_rfl)
    exact obl_pure (by kernel_rfl) rfl hk fun w => op_fa (k := 1) rfl rfl rfl h93
  · intro kk aa hk E
    have h94 : aa.eval (.tmp 94) = Value.pointer (some ⟨W3.heap.size + 1, 1, none⟩) := (E 94 (by kernel_rfl)).trans (by kernel_rfl)
    refine obl_read (ks := [0]) (by kernel_rfl) (by kernel_rfl) rfl hk ⟨?_, trivial⟩
    · intro w' hw; cases hw; exact op_load1M rfl (by decide) rfl h94 Q1.out
  · intro kk aa hk E
    have h91 : aa.eval (.tmp 91) = .slice (some ⟨W3.heap.size, 0, none⟩) sz sz := (E 91 (by kernel_rfl)).trans (by kernel_rfl)
    have h95 : aa.eval (.tmp 95) = iv st := (E 95 (by kernel_rfl)).trans (by kernel_rfl)
    exact obl_pure (by kernel_rfl) rfl hk fun w => op_tail rfl rfl rfl rfl rfl h91 h95 rfl (by omega) (Nat.le_refl _)
  · intro kk aa hk E
    have h96 : aa.eval (.tmp 96) = .slice (some ⟨W3.heap.size, st * 8, none⟩) (sz - st) (sz - st) := (E 96 (by kernel_rfl)).trans (by kernel_rfl)
    exact obl_pure (by kernel_rfl) rfl hk fun w => op_assign rfl rfl h96
  intro af haf
  simp only [List.take_succ_cons, List.take_zero, finA, Act.put, List.setIfInBounds_toArray, List.set_cons_succ, List.set_cons_zero] at haf
  subst haf
  simp only [List.drop_succ_cons, List.drop_zero]
  go_wp2
  show P (.returned (.slice (some ⟨W3.heap.size, st * 8, none⟩) (sz - st) (sz - st))) W7.drew
  obtain ⟨o1, o2, o3⟩ := ahead_fin_os H5.out H6.out H7.out
  have w2 : W2.os = W3.os ∧ W2.tape = W3.tape ∧ W2.output = W3.output := by rw [← H2.out]; exact ⟨rfl, rfl, rfl⟩
  have w4 : W4.os = W2.os ∧ W4.tape = W2.tape ∧ W4.output = W2.output := by rw [← H4.out]; exact ⟨rfl, rfl, rfl⟩
  have w0 : W4.heap = (W2.setRow W3.heap.size (newA sz N cs)).heap := by rw [← H4.out]; exact setRow_congr rfl _ _
  have w3 : W3.heap = (mapw (w.alloc (c8 x)) b.mb es clk).heap ∧ W3.os = w.os ∧ W3.tape = w.tape ∧ W3.output = w.output := by rw [← H3.out]; exact ⟨rfl, rfl, rfl, rfl⟩
  exact FIN.out _ w3.1 w3.2.1 w3.2.2.1 w3.2.2.2 (ahead_fin H5.out H6.out H7.out w0) (o1.trans (w4.1.trans w2.1)) (o2.trans (w4.2.1.trans w2.2.1)) (o3.trans (w4.2.2.trans w2.2.2))
set_option maxRecDepth 100000 in
set_option maxHeartbeats 2000000 in
theorem ahead_nil (b : Bl) (x : AV) (w : World) (A : Option Addr) (n c sz st N : Nat) (cs : List Value) (es : Array MapEntry) (clk : Nat) (P : Ending → World → Prop) (hn : n = 0) (hnc : n ≤ 400000000) (hsz : sz = 2 * n + 4) (hN : N = n + 4) (hst : N = st + 1)
    (hcs : cs.length = n * 8) (h1 : ∀ v ∈ cs, v.oneCell' = true) (hA : A = none → n = 0 ∧ c = 0)
    (S4 : AhV b (w.alloc (c8 x)) x w.heap.size A cs es clk)
    (FIN : ∀ V w', V.heap = (w.alloc (c8 x)).heap → V.os = w.os → V.tape = w.tape → V.output = w.output → w'.heap = (mapw (st8 (((newR V sz N).setRow V.heap.size (newA sz N cs)).setCell ⟨V.heap.size + 1, 1, none⟩ (iv st)) V.heap.size (st * 8) x) b.mb (es.push { key := .pointer (some ⟨V.heap.size, st * 8, none⟩), val := .pointer (some ⟨V.heap.size + 1, 0, none⟩), born := clk }) (clk + 1)).heap → w'.os = V.os → w'.tape = V.tape → w'.output = V.output →
      P (.returned (.slice (some ⟨V.heap.size, st * 8, none⟩) (sz - st) (sz - st))) w') :
    Calls Tryz.prog 160 #[.pointer (some ⟨b.rb, 0, none⟩), x.v, .slice A n c] w P := by
  have z1 : ((0 : Int) < (n : Int)) = False := by simp; omega
  have z1n : (0 < n) = False := by simp; omega
  have k0 := Lib.hid hn
  clear hn
  have z3 : IntKind.i64.wrap ((N : Int) - 1) = (st : Int) := by rw [IntWalk.i64_in _ (by omega)]; omega
  have z5 : IntKind.i64.wrap (2 * (n : Int)) = 2 * (n : Int) := IntWalk.i64_in _ (by omega)
  have z6 : IntKind.i64.wrap (2 * (n : Int) + 4) = (sz : Int) := by rw [IntWalk.i64_in _ (by omega)]; omega
  have z7 : IntKind.i64.wrap ((sz : Int) - (n : Int)) = (N : Int) := by rw [IntWalk.i64_in _ (by omega)]; omega
  have MK := mk_run sz (by omega)
  have k1 := Lib.hid hsz
  have k2 := Lib.hid hN
  have k3 := Lib.hid hst
  clear hsz hN hst
  have hsN : N + n = sz := by have := k1.out; have := k2.out; omega
  have k4 := Lib.hid hsN
  clear hsN
  have S4 := Lib.hid S4
  have FIN := Lib.hid FIN
  have xe : x.v = .agg #[iv x.kind, iv x.int, .slice x.A x.list.length x.c, iv x.block, eSm, eSm, nilS, nilS] := rfl
  rw [xe]
  clear xe
  have we : w.alloc (.cells #[iv x.kind, iv x.int, .slice x.A x.list.length x.c, iv x.block, eSm, eSm, nilS, nilS] 56) = w.alloc (c8 x) := rfl
  have WE := Lib.hid we
  clear we
  have kA := Lib.hid hA
  have kC := Lib.hid hcs
  have kO := Lib.hid h1
  clear hA hcs h1
  go_enter Tryz.func160, Tryz.ntmps160
  go_wp2
  obtain ⟨p1, p2, -⟩ := S4.out.pack kC.out kA.out k4.out kO.out
  have p3 := S4.out.packE (sz := sz) (N := N) kC.out kA.out k0.out
  have FIN := fun w' => FIN.out (w.alloc (c8 x)) w' rfl rfl rfl rfl
  have al : (w.alloc (c8 x)).heap.size = w.heap.size + 1 := by simp
  simp only [al] at p1 p2 p3 FIN
  clear al
  rw [WE.out]
  have NR : (((w.alloc (c8 x)).alloc (.cells (zc sz) 56)).alloc (.cells #[.slice (some ⟨w.heap.size + 1, 0, none⟩) sz sz, iv N] 236)) = newR (w.alloc (c8 x)) sz N := by unfold newR; simp
  rw [NR]
  clear NR
  generalize hW2 : newR (w.alloc (c8 x)) sz N = W2 at p1 p2 p3 FIN ⊢
  have H2 := Lib.hid hW2
  clear hW2
  have P1 := Lib.hid p1
  have P2 := Lib.hid p2
  have P3 := Lib.hid p3
  have FIN := Lib.hid FIN
  clear p1 p2 p3
  have r1 := P1.out
  have r10 : W2.cell? ⟨w.heap.size + 1 + 1, 0, none⟩ = some (.slice (some ⟨w.heap.size + 1, 0, none⟩) sz sz) := by simp [World.cell?, r1]
  have r11 : W2.cell? ⟨w.heap.size + 1 + 1, 1, none⟩ = some (iv N) := by simp [World.cell?, r1]
  refine wp_phaseT [false, false, false, false, false, false, false, false, false, false, true] [[], [10]] [Value.pointer (some ⟨w.heap.size + 1 + 1, 0, none⟩), Value.pointer (some ⟨w.heap.size + 1 + 1, 0, none⟩), Value.pointer (some ⟨w.heap.size + 1 + 1, 0, none⟩), .slice (some ⟨(w.heap.size + 1), 0, none⟩) sz sz, Value.pointer (some ⟨w.heap.size + 1 + 1, 0, none⟩), Value.pointer (some ⟨w.heap.size + 1 + 1, 0, none⟩), Value.pointer (some ⟨w.heap.size + 1 + 1, 1, none⟩), iv N, .slice (some ⟨(w.heap.size + 1), 0, none⟩) 0 0, Value.slice A n c, goInt n] [_, (W2.drew.setRow (w.heap.size + 1) (newA sz N cs))] 1 11 (by decide) (by kernel_rfl) (by kernel_rfl) (by kernel_rfl) (by kernel_rfl) rfl (by kernel_rfl) (fun h => absurd h (by decide)) (fun h => absurd h (by decide)) rfl rfl ⟨?_, ?_, ?_, ?_, ?_, ?_, ?_, ?_, ?_, ?_, ?_, trivial⟩ rfl (by kernel_rfl) ?_
  · intro kk aa hk E
    have h7 : aa.eval (.tmp 7) = Value.pointer (some ⟨w.heap.size + 1 + 1, 0, none⟩) := (E 7 (by kernel_rfl)).trans (by kernel_rfl)
    exact obl_pure (by kernel_rfl) rfl hk fun w => op_move rfl rfl h7
  · intro kk aa hk E
    have h46 : aa.eval (.tmp 46) = Value.pointer (some ⟨w.heap.size + 1 + 1, 0, none⟩) := (E 46 (by kernel_rfl)).trans (by kernel_rfl)
    exact obl_pure (by kernel_rfl) rfl hk fun w => op_nil rfl rfl h46
  · intro kk aa hk E
    have h47 : aa.eval (.tmp 47) = Value.pointer (some ⟨w.heap.size + 1 + 1, 0, none⟩) := (E 47 (by kernel_rfl)).trans (by kernel_rfl)
    exact obl_pure (by kernel_rfl) rfl hk fun w => op_fa (k := 0) rfl rfl rfl h47
  · intro kk aa hk E
    have h48 : aa.eval (.tmp 48) = Value.pointer (some ⟨w.heap.size + 1 + 1, 0, none⟩) := (E 48 (by kernel_rfl)).trans (by kernel_rfl)
    refine obl_read (ks := [0, 1]) (by kernel_rfl) (by kernel_rfl) rfl hk ⟨?_, ?_, trivial⟩
    · intro w' hw; cases hw; exact op_load1M rfl (by decide) rfl h48 r10
    · intro w' hw; cases hw; exact op_load1M rfl (by decide) rfl h48 P2.out.r0
  · intro kk aa hk E
    have h7 : aa.eval (.tmp 7) = Value.pointer (some ⟨w.heap.size + 1 + 1, 0, none⟩) := (E 7 (by kernel_rfl)).trans (by kernel_rfl)
    exact obl_pure (by kernel_rfl) rfl hk fun w => op_move rfl rfl h7
  · intro kk aa hk E
    have h50 : aa.eval (.tmp 50) = Value.pointer (some ⟨w.heap.size + 1 + 1, 0, none⟩) := (E 50 (by kernel_rfl)).trans (by kernel_rfl)
    exact obl_pure (by kernel_rfl) rfl hk fun w => op_nil rfl rfl h50
  · intro kk aa hk E
    have h51 : aa.eval (.tmp 51) = Value.pointer (some ⟨w.heap.size + 1 + 1, 0, none⟩) := (E 51 (by kernel_rfl)).trans (by kernel_rfl)
    exact obl_pure (by kernel_rfl) rfl hk fun w => op_fa (k := 1) rfl rfl rfl h51
  · intro kk aa hk E
    have h52 : aa.eval (.tmp 52) = Value.pointer (some ⟨w.heap.size + 1 + 1, 1, none⟩) := (E 52 (by kernel_rfl)).trans (by kernel_rfl)
    refine obl_read (ks := [0, 1]) (by kernel_rfl) (by kernel_rfl) rfl hk ⟨?_, ?_, trivial⟩
    · intro w' hw; cases hw; exact op_load1M rfl (by decide) rfl h52 r11
    · intro w' hw; cases hw; exact op_load1M rfl (by decide) rfl h52 P2.out.r1
  · intro kk aa hk E
    have h49 : aa.eval (.tmp 49) = .slice (some ⟨(w.heap.size + 1), 0, none⟩) sz sz := (E 49 (by kernel_rfl)).trans (by kernel_rfl)
    have h53 : aa.eval (.tmp 53) = iv N := (E 53 (by kernel_rfl)).trans (by kernel_rfl)
    exact obl_pure (by kernel_rfl) rfl hk fun w => op_tailE rfl rfl h49 h53 rfl (by have := k4.out; have := k0.out; omega) rfl
  · intro kk aa hk E
    have h2 : aa.eval (.tmp 2) = Value.slice A n c := (E 2 (by kernel_rfl)).trans (by kernel_rfl)
    exact obl_pure (by kernel_rfl) rfl hk fun w => op_move rfl rfl h2
  · intro kk aa hk E
    have h54 : aa.eval (.tmp 54) = .slice (some ⟨(w.heap.size + 1), 0, none⟩) 0 0 := (E 54 (by kernel_rfl)).trans (by kernel_rfl)
    have h55 : aa.eval (.tmp 55) = Value.slice A n c := (E 55 (by kernel_rfl)).trans (by kernel_rfl)
    exact obl_write (ks := [0]) (by kernel_rfl) (by kernel_rfl) hk ⟨⟨1, _, _, by kernel_rfl, rfl, rfl, op_copyd rfl rfl h54 h55 P3.out⟩, trivial⟩
  intro af haf
  simp only [List.take_succ_cons, List.take_zero, finA, Act.put, List.setIfInBounds_toArray, List.set_cons_succ, List.set_cons_zero] at haf
  subst haf
  simp only [List.drop_succ_cons, List.drop_zero]
  have s4 := P2.out
  generalize hW4 : W2.drew.setRow (w.heap.size + 1) (newA sz N cs) = W4 at s4 ⊢
  have H4 := Lib.hid hW4
  clear hW4 r10 r11 r1
  have f0 := s4.r0
  have f1 := s4.r1
  have ff := s4.rf
  have S4' := Lib.hid s4
  clear s4
  go_wp2
  have hs : st < sz := by have := k1.out; have := k2.out; have := k3.out; omega
  have s5 := S4'.out.set st
  generalize hW5 : W4.setCell ⟨(w.heap.size + 1 + 1), 1, none⟩ (Value.int IntKind.i64 ↑st) = W5 at s5 ⊢
  have H5 := Lib.hid hW5
  clear hW5 f0 f1 ff
  refine wp_phaseT [false, false, false, false, false, false, false, false, false, false, true] [[], [10]] [Value.pointer (some ⟨w.heap.size + 1 + 1, 0, none⟩), Value.pointer (some ⟨w.heap.size + 1 + 1, 0, none⟩), Value.pointer (some ⟨w.heap.size + 1 + 1, 0, none⟩), .slice (some ⟨(w.heap.size + 1), 0, none⟩) sz sz, Value.pointer (some ⟨w.heap.size + 1 + 1, 0, none⟩), Value.pointer (some ⟨w.heap.size + 1 + 1, 0, none⟩), Value.pointer (some ⟨w.heap.size + 1 + 1, 1, none⟩), iv st, x.v, Value.pointer (some ⟨(w.heap.size + 1), st * 8, none⟩), undef] [_, (st8 W5.drew (w.heap.size + 1) (st * 8) x)] 1 11 (by decide) (by kernel_rfl) (by kernel_rfl) (by kernel_rfl) (by kernel_rfl) rfl (by kernel_rfl) (fun h => absurd h (by decide)) (fun h => absurd h (by decide)) rfl rfl ⟨?_, ?_, ?_, ?_, ?_, ?_, ?_, ?_, ?_, ?_, ?_, trivial⟩ rfl (by kernel_rfl) ?_
  · intro kk aa hk E
    have h7 : aa.eval (.tmp 7) = Value.pointer (some ⟨w.heap.size + 1 + 1, 0, none⟩) := (E 7 (by kernel_rfl)).trans (by kernel_rfl)
    exact obl_pure (by kernel_rfl) rfl hk fun w => op_move rfl rfl h7
  · intro kk aa hk E
    have h64 : aa.eval (.tmp 64) = Value.pointer (some ⟨w.heap.size + 1 + 1, 0, none⟩) := (E 64 (by kernel_rfl)).trans (by kernel_rfl)
    exact obl_pure (by kernel_rfl) rfl hk fun w => op_nil rfl rfl h64
  · intro kk aa hk E
    have h65 : aa.eval (.tmp 65) = Value.pointer (some ⟨w.heap.size + 1 + 1, 0, none⟩) := (E 65 (by kernel_rfl)).trans (by kernel_rfl)
    exact obl_pure (by kernel_rfl) rfl hk fun w => op_fa (k := 0) rfl rfl rfl h65
  · intro kk aa hk E
    have h66 : aa.eval (.tmp 66) = Value.pointer (some ⟨w.heap.size + 1 + 1, 0, none⟩) := (E 66 (by kernel_rfl)).trans (by kernel_rfl)
    refine obl_read (ks := [0]) (by kernel_rfl) (by kernel_rfl) rfl hk ⟨?_, trivial⟩
    · intro w' hw; cases hw; exact op_load1M rfl (by decide) rfl h66 s5.r0
  · intro kk aa hk E
    have h7 : aa.eval (.tmp 7) = Value.pointer (some ⟨w.heap.size + 1 + 1, 0, none⟩) := (E 7 (by kernel_rfl)).trans (by kernel_rfl)
    exact obl_pure (by kernel_rfl) rfl hk fun w => op_move rfl rfl h7
  · intro kk aa hk E
    have h68 : aa.eval (.tmp 68) = Value.pointer (some ⟨w.heap.size + 1 + 1, 0, none⟩) := (E 68 (by kernel_rfl)).trans (by kernel_rfl)
    exact obl_pure (by kernel_rfl) rfl hk fun w => op_nil rfl rfl h68
  · intro kk aa hk E
    have h69 : aa.eval (.tmp 69) = Value.pointer (some ⟨w.heap.size + 1 + 1, 0, none⟩) := (E 69 (by kernel_rfl)).trans (by kernel_rfl)
    exact obl_pure (by kernel_rfl) rfl hk fun w => op_fa (k := 1) rfl rfl rfl h69
  · intro kk aa hk E
    have h70 : aa.eval (.tmp 70) = Value.pointer (some ⟨w.heap.size + 1 + 1, 1, none⟩) := (E 70 (by kernel_rfl)).trans (by kernel_rfl)
    refine obl_read (ks := [0]) (by kernel_rfl) (by kernel_rfl) rfl hk ⟨?_, trivial⟩
    · intro w' hw; cases hw; exact op_load1M rfl (by decide) rfl h70 s5.r1
  · intro kk aa hk E
    have h4 : aa.eval (.tmp 4) = Value.pointer (some ⟨w.heap.size, 0, none⟩) := (E 4 (by kernel_rfl)).trans (by kernel_rfl)
    refine obl_read (ks := [0]) (by kernel_rfl) (by kernel_rfl) rfl hk ⟨?_, trivial⟩
    · intro w' hw; cases hw; exact op_load54 (vs := x.cs) rfl rfl rfl h4 s5.xc
  · intro kk aa hk E
    have h67 : aa.eval (.tmp 67) = .slice (some ⟨(w.heap.size + 1), 0, none⟩) sz sz := (E 67 (by kernel_rfl)).trans (by kernel_rfl)
    have h71 : aa.eval (.tmp 71) = iv st := (E 71 (by kernel_rfl)).trans (by kernel_rfl)
    exact obl_pure (by kernel_rfl) rfl hk fun w => op_index (sz := 8) (k := st) (Nat.zero_add _) rfl (.inl ⟨rfl, rfl⟩) rfl h67 h71 rfl (by omega)
  · intro kk aa hk E
    have h73 : aa.eval (.tmp 73) = Value.pointer (some ⟨(w.heap.size + 1), st * 8, none⟩) := (E 73 (by kernel_rfl)).trans (by kernel_rfl)
    have h72 : aa.eval (.tmp 72) = x.v := (E 72 (by kernel_rfl)).trans (by kernel_rfl)
    exact obl_write (ks := [0]) (by kernel_rfl) (by kernel_rfl) hk ⟨⟨1, _, _, by kernel_rfl, rfl, rfl, op_st8 rfl rfl h73 h72 (fun i hi => s5.ac (by omega) i hi) s5.af⟩, trivial⟩
  intro af haf
  simp only [List.take_succ_cons, List.take_zero, finA, Act.put, List.setIfInBounds_toArray, List.set_cons_succ, List.set_cons_zero] at haf
  subst haf
  simp only [List.drop_succ_cons, List.drop_zero]
  have s5d : AhS b W5.drew x w.heap.size (w.heap.size + 1 + 1) (w.heap.size + 1) sz st es clk := AhS.heap s5 rfl
  have s6 := s5d.st8 x (st * 8)
  generalize hW6 : st8 W5.drew (w.heap.size + 1) (st * 8) x = W6 at s6 ⊢
  have s6 : AhS b W6.drew x w.heap.size (w.heap.size + 1 + 1) (w.heap.size + 1) sz st es clk := AhS.heap s6 rfl
  have H6 := Lib.hid hW6
  clear hW6
  have u6 := s6.upd (by omega) (.pointer (some ⟨(w.heap.size + 1 + 1), 0, none⟩))
  have U6 := Lib.hid u6
  clear u6
  have S6 := Lib.hid s6
  clear s6 s5 s5d
  go_wp2
  have s6 := S6.out
  refine wp_phaseT [false, false, false, false, false, false, false, false, false, false, false, false, false, false, true] [[], [14]] [Value.pointer (some ⟨b.rb, 0, none⟩), Value.pointer (some ⟨b.rb, 0, none⟩), Value.pointer (some ⟨b.rb, 9, none⟩), .map (some b.mb), Value.pointer (some ⟨w.heap.size + 1 + 1, 0, none⟩), Value.pointer (some ⟨w.heap.size + 1 + 1, 0, none⟩), Value.pointer (some ⟨w.heap.size + 1 + 1, 0, none⟩), .slice (some ⟨(w.heap.size + 1), 0, none⟩) sz sz, Value.pointer (some ⟨w.heap.size + 1 + 1, 0, none⟩), Value.pointer (some ⟨w.heap.size + 1 + 1, 0, none⟩), Value.pointer (some ⟨w.heap.size + 1 + 1, 1, none⟩), iv st, Value.pointer (some ⟨(w.heap.size + 1), st * 8, none⟩), Value.pointer (some ⟨w.heap.size + 1 + 1, 0, none⟩), undef] [_, (mapw W6.drew b.mb (es.push { key := .pointer (some ⟨(w.heap.size + 1), st * 8, none⟩), val := .pointer (some ⟨(w.heap.size + 1 + 1), 0, none⟩), born := clk }) (clk + 1))] 1 15 (by decide) (by kernel_rfl) (by kernel_rfl) (by kernel_rfl) (by kernel_rfl) rfl (by kernel_rfl) (fun h => absurd h (by decide)) (fun h => absurd h (by decide)) rfl rfl ⟨?_, ?_, ?_, ?_, ?_, ?_, ?_, ?_, ?_, ?_, ?_, ?_, ?_, ?_, ?_, trivial⟩ rfl (by kernel_rfl) ?_
  · intro kk aa hk E
    have h0 : aa.eval (.tmp 0) = Value.pointer (some ⟨b.rb, 0, none⟩) := (E 0 (by kernel_rfl)).trans (by kernel_rfl)
    exact obl_pure (by kernel_rfl) rfl hk fun w => op_move rfl rfl h0
  · intro kk aa hk E
    have h74 : aa.eval (.tmp 74) = Value.pointer (some ⟨b.rb, 0, none⟩) := (E 74 (by kernel_rfl)).trans (by kernel_rfl)
    exact obl_pure (by kernel_rfl) rfl hk fun w => op_nil rfl rfl h74
  · intro kk aa hk E
    have h75 : aa.eval (.tmp 75) = Value.pointer (some ⟨b.rb, 0, none⟩) := (E 75 (by kernel_rfl)).trans (by kernel_rfl)
    exact obl_pure (by kernel_rfl) rfl hk fun w => op_fa (k := 9) rfl rfl rfl h75
  · intro kk aa hk E
    have h76 : aa.eval (.tmp 76) = Value.pointer (some ⟨b.rb, 9, none⟩) := (E 76 (by kernel_rfl)).trans (by kernel_rfl)
    refine obl_read (ks := [0]) (by kernel_rfl) (by kernel_rfl) rfl hk ⟨?_, trivial⟩
    · intro w' hw; cases hw; exact op_load1M rfl (by decide) rfl h76 s6.c9
  · intro kk aa hk E
    have h7 : aa.eval (.tmp 7) = Value.pointer (some ⟨w.heap.size + 1 + 1, 0, none⟩) := (E 7 (by kernel_rfl)).trans (by kernel_rfl)
    exact obl_pure (by kernel_rfl) rfl hk fun w => op_move rfl rfl h7
  · intro kk aa hk E
    have h78 : aa.eval (.tmp 78) = Value.pointer (some ⟨w.heap.size + 1 + 1, 0, none⟩) := (E 78 (by kernel_rfl)).trans (by kernel_rfl)
    exact obl_pure (by kernel_rfl) rfl hk fun w => op_nil rfl rfl h78
  · intro kk aa hk E
    have h79 : aa.eval (.tmp 79) = Value.pointer (some ⟨w.heap.size + 1 + 1, 0, none⟩) := (E 79 (by kernel_rfl)).trans (by kernel_rfl)
    exact obl_pure (by kernel_rfl) rfl hk fun w => op_fa (k := 0) rfl rfl rfl h79
  · intro kk aa hk E
    have h80 : aa.eval (.tmp 80) = Value.pointer (some ⟨w.heap.size + 1 + 1, 0, none⟩) := (E 80 (by kernel_rfl)).trans (by kernel_rfl)
    refine obl_read (ks := [0]) (by kernel_rfl) (by kernel_rfl) rfl hk ⟨?_, trivial⟩
    · intro w' hw; cases hw; exact op_load1M rfl (by decide) rfl h80 s6.r0
  · intro kk aa hk E
    have h7 : aa.eval (.tmp 7) = Value.pointer (some ⟨w.heap.size + 1 + 1, 0, none⟩) := (E 7 (by kernel_rfl)).trans (by kernel_rfl)
    exact obl_pure (by kernel_rfl) rfl hk fun w => op_move rfl rfl h7
  · intro kk aa hk E
    have h82 : aa.eval (.tmp 82) = Value.pointer (some ⟨w.heap.size + 1 + 1, 0, none⟩) := (E 82 (by kernel_rfl)).trans (by kernel_rfl)
    exact obl_pure (by kernel_rfl) rfl hk fun w => op_nil rfl rfl h82
  · intro kk aa hk E
    have h83 : aa.eval (.tmp 83) = Value.pointer (some ⟨w.heap.size + 1 + 1, 0, none⟩) := (E 83 (by kernel_rfl)).trans (by kernel_rfl)
    exact obl_pure (by kernel_rfl) rfl hk fun w => op_fa (k := 1) rfl rfl rfl h83
  · intro kk aa hk E
    have h84 : aa.eval (.tmp 84) = Value.pointer (some ⟨w.heap.size + 1 + 1, 1, none⟩) := (E 84 (by kernel_rfl)).trans (by kernel_rfl)
    refine obl_read (ks := [0]) (by kernel_rfl) (by kernel_rfl) rfl hk ⟨?_, trivial⟩
    · intro w' hw; cases hw; exact op_load1M rfl (by decide) rfl h84 s6.r1
  · intro kk aa hk E
    have h81 : aa.eval (.tmp 81) = .slice (some ⟨(w.heap.size + 1), 0, none⟩) sz sz := (E 81 (by kernel_rfl)).trans (by kernel_rfl)
    have h85 : aa.eval (.tmp 85) = iv st := (E 85 (by kernel_rfl)).trans (by kernel_rfl)
    exact obl_pure (by kernel_rfl) rfl hk fun w => op_index (sz := 8) (k := st) (Nat.zero_add _) rfl (.inl ⟨rfl, rfl⟩) rfl h81 h85 rfl (by omega)
  · intro kk aa hk E
    have h7 : aa.eval (.tmp 7) = Value.pointer (some ⟨w.heap.size + 1 + 1, 0, none⟩) := (E 7 (by kernel_rfl)).trans (by kernel_rfl)
    exact obl_pure (by kernel_rfl) rfl hk fun w => op_move rfl rfl h7
  · intro kk aa hk E
    have h77 : aa.eval (.tmp 77) = .map (some b.mb) := (E 77 (by kernel_rfl)).trans (by kernel_rfl)
    have h86 : aa.eval (.tmp 86) = Value.pointer (some ⟨(w.heap.size + 1), st * 8, none⟩) := (E 86 (by kernel_rfl)).trans (by kernel_rfl)
    have h87 : aa.eval (.tmp 87) = Value.pointer (some ⟨w.heap.size + 1 + 1, 0, none⟩) := (E 87 (by kernel_rfl)).trans (by kernel_rfl)
    exact obl_write (ks := [0]) (by kernel_rfl) (by kernel_rfl) hk ⟨⟨1, _, _, by kernel_rfl, rfl, rfl, op_mapUpdate rfl rfl h77 h86 h87 U6.out⟩, trivial⟩
  intro af haf
  simp only [List.take_succ_cons, List.take_zero, finA, Act.put, List.setIfInBounds_toArray, List.set_cons_succ, List.set_cons_zero] at haf
  subst haf
  simp only [List.drop_succ_cons, List.drop_zero]
  have q0 := s6.q0 (es.push { key := .pointer (some ⟨(w.heap.size + 1), st * 8, none⟩), val := .pointer (some ⟨(w.heap.size + 1 + 1), 0, none⟩), born := clk }) (clk + 1)
  have q1 := s6.q1 (es.push { key := .pointer (some ⟨(w.heap.size + 1), st * 8, none⟩), val := .pointer (some ⟨(w.heap.size + 1 + 1), 0, none⟩), born := clk }) (clk + 1)
  generalize hW7 : mapw W6.drew b.mb (es.push { key := .pointer (some ⟨(w.heap.size + 1), st * 8, none⟩), val := .pointer (some ⟨(w.heap.size + 1 + 1), 0, none⟩), born := clk }) (clk + 1) = W7 at q0 q1 ⊢
  have H7 := Lib.hid hW7
  have Q0 := Lib.hid q0
  have Q1 := Lib.hid q1
  clear hW7 s6 q0 q1
  go_wp2
  refine wp_phaseT [false, false, false, false, false, false, false, false, false, false] [[]] [Value.pointer (some ⟨w.heap.size + 1 + 1, 0, none⟩), Value.pointer (some ⟨w.heap.size + 1 + 1, 0, none⟩), Value.pointer (some ⟨w.heap.size + 1 + 1, 0, none⟩), .slice (some ⟨(w.heap.size + 1), 0, none⟩) sz sz, Value.pointer (some ⟨w.heap.size + 1 + 1, 0, none⟩), Value.pointer (some ⟨w.heap.size + 1 + 1, 0, none⟩), Value.pointer (some ⟨w.heap.size + 1 + 1, 1, none⟩), iv st, .slice (some ⟨(w.heap.size + 1), st * 8, none⟩) (sz - st) (sz - st), .slice (some ⟨(w.heap.size + 1), st * 8, none⟩) (sz - st) (sz - st)] [_] 0 10 (by decide) (by kernel_rfl) (by kernel_rfl) (by kernel_rfl) (by kernel_rfl) rfl (by kernel_rfl) (fun h => absurd h (by decide)) (fun h => absurd h (by decide)) rfl rfl ⟨?_, ?_, ?_, ?_, ?_, ?_, ?_, ?_, ?_, ?_, trivial⟩ rfl (by kernel_rfl) ?_
  · intro kk aa hk E
    have h7 : aa.eval (.tmp 7) = Value.pointer (some ⟨w.heap.size + 1 + 1, 0, none⟩) := (E 7 (by kernel_rfl)).trans (by kernel_rfl)
    exact obl_pure (by kernel_rfl) rfl hk fun w => op_move rfl rfl h7
  · intro kk aa hk E
    have h88 : aa.eval (.tmp 88) = Value.pointer (some ⟨w.heap.size + 1 + 1, 0, none⟩) := (E 88 (by kernel_rfl)).trans (by kernel_rfl)
    exact obl_pure (by kernel_rfl) rfl hk fun w => op_nil rfl rfl h88
  · intro kk aa hk E
    have h89 : aa.eval (.tmp 89) = Value.pointer (some ⟨w.heap.size + 1 + 1, 0, none⟩) := (E 89 (by kernel_rfl)).trans (by kernel_rfl)
    exact obl_pure (by kernel_rfl) rfl hk fun w => op_fa (k := 0) rfl rfl rfl h89
  · intro kk aa hk E
    have h90 : aa.eval (.tmp 90) = Value.pointer (some ⟨w.heap.size + 1 + 1, 0, none⟩) := (E 90 (by kernel_rfl)).trans (by kernel_rfl)
    refine obl_read (ks := [0]) (by kernel_rfl) (by kernel_rfl) rfl hk ⟨?_, trivial⟩
    · intro w' hw; cases hw; exact op_load1M rfl (by decide) rfl h90 Q0.out
  · intro kk aa hk E
    have h7 : aa.eval (.tmp 7) = Value.pointer (some ⟨w.heap.size + 1 + 1, 0, none⟩) := (E 7 (by kernel_rfl)).trans (by kernel_rfl)
    exact obl_pure (by kernel_rfl) rfl hk fun w => op_move rfl rfl h7
  · intro kk aa hk E
    have h92 : aa.eval (.tmp 92) = Value.pointer (some ⟨w.heap.size + 1 + 1, 0, none⟩) := (E 92 (by kernel_rfl)).trans (by kernel_rfl)
    exact obl_pure (by kernel_rfl) rfl hk fun w => op_nil rfl rfl h92
  · intro kk aa hk E
    have h93 : aa.eval (.tmp 93) = Value.pointer (some ⟨w.heap.size + 1 + 1, 0, none⟩) := (E 93 (by kernel_rfl)).trans (by kernel_rfl)
    exact obl_pure (by kernel_rfl) rfl hk fun w => op_fa (k := 1) rfl rfl rfl h93
  · intro kk aa hk E
    have h94 : aa.eval (.tmp 94) = Value.pointer (some ⟨w.heap.size + 1 + 1, 1, none⟩) := (E 94 (by kernel_rfl)).trans (by kernel_rfl)
    refine obl_read (ks := [0]) (by kernel_rfl) (by kernel_rfl) rfl hk ⟨?_, trivial⟩
    · intro w' hw; cases hw; exact op_load1M rfl (by decide) rfl h94 Q1.out
  · intro kk aa hk E
    have h91 : aa.eval (.tmp 91) = .slice (some ⟨(w.heap.size + 1), 0, none⟩) sz sz := (E 91 (by kernel_rfl)).trans (by kernel_rfl)
    have h95 : aa.eval (.tmp 95) = iv st := (E 95 (by kernel_rfl)).trans (by kernel_rfl)
    exact obl_pure (by kernel_rfl) rfl hk fun w => op_tail rfl rfl rfl rfl rfl h91 h95 rfl (by omega) (Nat.le_refl _)
  · intro kk aa hk E
    have h96 : aa.eval (.tmp 96) = .slice (some ⟨(w.heap.size + 1), st * 8, none⟩) (sz - st) (sz - st) := (E 96 (by kernel_rfl)).trans (by kernel_rfl)
    exact obl_pure (by kernel_rfl) rfl hk fun w => op_assign rfl rfl h96
  intro af haf
  simp only [List.take_succ_cons, List.take_zero, finA, Act.put, List.setIfInBounds_toArray, List.set_cons_succ, List.set_cons_zero] at haf
  subst haf
  simp only [List.drop_succ_cons, List.drop_zero]
  go_wp2
  show P (.returned (.slice (some ⟨(w.heap.size + 1), st * 8, none⟩) (sz - st) (sz - st))) W7.drew
  obtain ⟨o1, o2, o3⟩ := ahead_fin_os H5.out H6.out H7.out
  have w2 : W2.os = w.os ∧ W2.tape = w.tape ∧ W2.output = w.output := by rw [← H2.out]; exact ⟨rfl, rfl, rfl⟩
  have w4 : W4.os = W2.os ∧ W4.tape = W2.tape ∧ W4.output = W2.output := by rw [← H4.out]; exact ⟨rfl, rfl, rfl⟩
  have w0 : W4.heap = (W2.setRow (w.heap.size + 1) (newA sz N cs)).heap := by rw [← H4.out]; exact setRow_congr rfl _ _
  exact FIN.out _ (ahead_fin H5.out H6.out H7.out w0) (o1.trans (w4.1.trans w2.1)) (o2.trans (w4.2.1.trans w2.2.1)) (o3.trans (w4.2.2.trans w2.2.2))
end Go.Proofs.YtgboboljgcfggaaGreatDoor
namespace Go.Proofs.YtgboboljgcfggaaGreatDoor
open Go.RowKit
def delE (q : Addr) (R : List Rm) (es : Array MapEntry) : Array MapEntry := match rIdx q R with | some j => es.eraseIdxIfInBounds j | none => es
theorem delE_kv {q : Addr} {R : List Rm} {es : Array MapEntry} (hkv : es.toList.map (fun e => (e.key, e.val)) = R.map Rm.kv) : (delE q R es).toList.map (fun e => (e.key, e.val)) = (delR q R).map Rm.kv := by
  unfold delE delR
  cases rIdx q R with
  | none => exact hkv
  | some j => exact kv_erase hkv j
theorem delE_run {b : Bl} {w : World} {g : Gh} (h : Mem b w g) {q : Addr} {v : Value} (hq : w.cell? q = some v) {es : Array MapEntry} {clk : Nat} (hmo : w.heap[b.mb]? = some (.map es clk)) (hkv : es.toList.map (fun e => (e.key, e.val)) = g.R.map Rm.kv) (ty : TypeId) :
    (Builtin.delete_ #[163, 234] ty #[.map (some b.mb), .pointer (some q)]).run Tryz.prog w = .ok (.tuple #[]) (mapw w b.mb (delE q g.R es) clk) := by
  have ks := rooms_keys h (es := es.toList) hkv hq
  have ha := atK_rooms q g.R es.toList hkv
  unfold delE
  cases hj : rIdx q g.R with
  | none => exact delete_no ty (fun k => q == k) hmo ks (ha.trans hj)
  | some j =>
    obtain ⟨r, hr, _⟩ := rIdx_some hj
    have hlen : es.size = g.R.length := by simpa using congrArg List.length hkv
    have hlt : j < g.R.length := by
      rcases Nat.lt_or_ge j g.R.length with h' | h'
      · exact h'
      · rw [List.getElem?_eq_none h'] at hr; cases hr
    exact delete_ptr ty (fun k => q == k) hmo ks (ha.trans hj) (by omega)
theorem del_mem {b : Bl} {w : World} {g : Gh} (h : Mem b w g) (q : Addr) {es : Array MapEntry} {clk : Nat} (hmo : w.heap[b.mb]? = some (.map es clk)) (hkv : es.toList.map (fun e => (e.key, e.val)) = g.R.map Rm.kv) :
    Mem b (mapw w b.mb (delE q g.R es) clk) { g with R := delR q g.R } ∧ Ch w g (mapw w b.mb (delE q g.R es) clk) { g with R := delR q g.R } :=
  h.unroom (w' := mapw w b.mb (delE q g.R es) clk) rfl rfl rfl (mapw_size _ _ _ _) (fun _ hk => mapw_ne _ _ _ _ hk) _ (delR_sub q g.R) ⟨_, _, mapw_at (heap_ltM hmo), delE_kv hkv⟩
theorem kv_rooms {R : List Rm} {es : List MapEntry} (hkv : es.map (fun e => (e.key, e.val)) = R.map Rm.kv) {e : MapEntry} (he : e ∈ es) : ∃ r ∈ R, e.key = .pointer (some ⟨r.ab, r.st * 8, none⟩) := by
  have h1 : (e.key, e.val) ∈ R.map Rm.kv := by rw [← hkv]; exact List.mem_map.2 ⟨e, he, rfl⟩
  obtain ⟨r, hr, h2⟩ := List.mem_map.1 h1
  exact ⟨r, hr, (Prod.mk.inj h2).1.symm⟩
theorem LRd.src {B : Nat} {tag : Nat → Tag} {w : World} {A : Option Addr} {c : Nat} {L : List AV} (h : LRd B tag w A c L) : ∀ a, A = some a → a.block < w.heap.size ∧ ∀ (j : Nat) v, (L.flatMap AV.cs)[j]? = some v → w.cell? (a.add j) = some v := fun a ha => by
  refine ⟨h.hb a ha, fun j v hj => ?_⟩
  have hlt : j < L.length * 8 := by
    rcases Nat.lt_or_ge j (L.length * 8) with h' | h'
    · exact h'
    · rw [List.getElem?_eq_none (by rw [flat8]; exact h')] at hj; cases hj
  have e : j = j / 8 * 8 + j % 8 := by omega
  have hq : j / 8 < L.length := by omega
  have hg : L[j / 8]? = some L[j / 8] := by simp [hq]
  rw [e, flat_atM AV.cs 8 AV.cs_len (Nat.mod_lt _ (by omega)) L _ hg] at hj
  rw [e]
  exact (h.hx a ha _ _ hg _ _ hj).1
theorem ahv_any {b : Bl} {W : World} {g : Gh} (h : Mem b W g) {x : AV} {M0 : Nat} (hm : W.heap[M0]? = some (c8 x)) (hrc : ∃ cs fz, W.heap[b.rb]? = some (.cells cs 165 fz) ∧ cs[9]? = some (.map (some b.mb))) {es : Array MapEntry} {clk : Nat} (hmo : W.heap[b.mb]? = some (.map es clk)) (hkv : es.toList.map (fun e => (e.key, e.val)) = g.R.map Rm.kv)
    {A : Option Addr} {c : Nat} {L : List AV} (hL : LRd b.B g.tag W A c L) : AhV b W x M0 A (L.flatMap AV.cs) es clk := by
  refine ⟨hm, hrc, hmo, fun e he => ?_, hL.src⟩
  obtain ⟨r, hr, e1⟩ := kv_rooms hkv he
  obtain ⟨cur, c1, _⟩ := (h.rm r hr).a
  exact ⟨r.ab, r.st * 8, e1, cur, c1⟩
theorem newA_at {sz N n : Nat} {cs : List Value} (hn : cs.length = n * 8) (hs : N + n = sz) {j : Nat} (hj : j < n * 8) : (newA sz N cs)[N * 8 + j]? = cs[j]? := by
  unfold newA
  have hz : (zc sz).toList.length = sz * 8 := by simp [zc_size]
  have h1 : ((zc sz).toList.take (N * 8)).length = N * 8 := by rw [List.length_take, hz]; omega
  rw [List.getElem?_toArray, List.append_assoc, List.getElem?_append_right (by omega), h1, Nat.add_sub_cancel_left, List.getElem?_append_left (by omega)]
theorem new_fin {b : Bl} {w1 V w' : World} {g : Gh} (hm : Mem b w1 g) (hV : V.heap = w1.heap) (v1 : V.os = w1.os) (v2 : V.tape = w1.tape) (v3 : V.output = w1.output) {n sz st N : Nat} (k1 : sz = 2 * n + 4) (k2 : N = n + 4) (k3 : N = st + 1) {x : AV} {L : List AV} (hLn : L.length = n) (hn : n ≤ 400000000)
    (hx : LRd b.B g.tag w1 x.A x.c x.list) (hL : ∀ y ∈ L, LRd b.B g.tag w1 y.A y.c y.list) {es : Array MapEntry} {clk : Nat} (hmo : w1.heap[b.mb]? = some (.map es clk)) (hkv : es.toList.map (fun e => (e.key, e.val)) = g.R.map Rm.kv)
    (heap : w'.heap = (mapw (st8 (((newR V sz N).setRow V.heap.size (newA sz N (L.flatMap AV.cs))).setCell ⟨V.heap.size + 1, 1, none⟩ (iv st)) V.heap.size (st * 8) x) b.mb (es.push { key := .pointer (some ⟨V.heap.size, st * 8, none⟩), val := .pointer (some ⟨V.heap.size + 1, 0, none⟩), born := clk }) (clk + 1)).heap) (os : w'.os = V.os) (tape : w'.tape = V.tape) (output : w'.output = V.output) :
    ∃ g', Mem b w' g' ∧ Ch w1 g w' g' ∧ g'.S = g.S ∧ g'.sv = g.sv ∧ g'.F = g.F ∧ g'.fv = g.fv ∧ LRd b.B g'.tag w' (some ⟨V.heap.size, st * 8, none⟩) (sz - st) (x :: L) ∧ ∀ c fz, w1.heap[b.rb]? = some (.cells c 165 fz) → w'.heap[b.rb]? = some (.cells c 165 fz) := by
  have hs : V.heap.size = w1.heap.size := by rw [hV]
  have hB := hm.hs
  have hnl : (L.flatMap AV.cs).length = n * 8 := by rw [flat8, hLn]
  have hNs : N + n = sz := by omega
  have k0 : ∀ i, i ≠ V.heap.size → ((newR V sz N).setRow V.heap.size (newA sz N (L.flatMap AV.cs))).heap[i]? = (newR V sz N).heap[i]? := fun i hi => setRow_other _ _ _ _ hi
  have hgr : w1.grownBy ((newR V sz N).setRow V.heap.size (newA sz N (L.flatMap AV.cs))) none := by
    refine ⟨v1, v2, v3, ?_, fun i hi _ => ?_⟩
    · show _ ≤ ((newR V sz N).setRow V.heap.size (newA sz N (L.flatMap AV.cs))).heap.size
      have : ((newR V sz N).setRow V.heap.size (newA sz N (L.flatMap AV.cs))).heap.size = (newR V sz N).heap.size := by simp [World.setRow]
      rw [this, newR_size]
      omega
    · rw [k0 i (by omega), newR_old V sz N (by omega), hV]
  have hab := setRow_heap (newR V sz N) V.heap.size (zc sz) (newA sz N (L.flatMap AV.cs)) 56 (0, 0) (newR_ab V sz N)
  have hro : ((newR V sz N).setRow V.heap.size (newA sz N (L.flatMap AV.cs))).heap[V.heap.size + 1]? = some (.cells #[.slice (some ⟨V.heap.size, 0, none⟩) sz sz, iv ((st + 1 : Nat) : Int)] 236 (0, 0)) := by
    rw [k0 _ (by omega), newR_ro, k3]
  refine ahead_mem hm hgr hro hab (new_size hnl hNs) (by omega) (by omega) (fun h => by omega) (fun h => by omega) (fun r hr => ?_) hx hL (by omega) (by omega) (fun j y hj i v hi => ?_) hmo hkv heap (os.trans v1) (tape.trans v2) (output.trans v3)
  · have q := hm.rm r hr
    obtain ⟨cur, q1, _⟩ := q.a
    have a1 := heap_ltM q1
    have a2 := heap_ltM q.o
    exact ⟨by omega, by omega⟩
  · have hi8 : i < 8 := by
      rcases Nat.lt_or_ge i 8 with h' | h'
      · exact h'
      · rw [List.getElem?_eq_none (by rw [AV.cs_len]; exact h')] at hi; cases hi
    have hj' : j < n := by
      rw [← hLn]
      rcases Nat.lt_or_ge j L.length with h' | h'
      · exact h'
      · rw [List.getElem?_eq_none h'] at hj; cases hj
    rw [Lib.cell_of_heap hab, show (st + 1 + j) * 8 + i = N * 8 + (j * 8 + i) by omega, newA_at hnl hNs (by omega), flat_atM AV.cs 8 AV.cs_len hi8 _ j hj]
    exact hi
def AheadP (b : Bl) (p : Prg) (w : World) (g : Gh) (x : AV) (L : List AV) (steps seed err : Int) (e : Ending) (w' : World) : Prop :=
  ∃ A c g', e = .returned (.slice A (L.length + 1) c) ∧ Mem b w' g' ∧ Ch w g w' g' ∧ RB b p w' g'.sv g'.fv steps seed false err ∧ g'.S = g.S ∧ g'.F = g.F ∧ LRd b.B g'.tag w' A c (x :: L)
theorem AheadP.mk {b : Bl} {p : Prg} {w w1 w' : World} {g g1 g' : Gh} {x : AV} {L : List AV} {steps seed err : Int} {A : Option Addr} {c m : Nat} (hR : RB b p w1 g.sv g.fv steps seed false err) (hc : Ch w g w1 g1) (e1 : g1.S = g.S) (e2 : g1.sv = g.sv) (e3 : g1.F = g.F) (e4 : g1.fv = g.fv) (hm : m = L.length + 1)
    (h : Mem b w' g' ∧ Ch w1 g1 w' g' ∧ g'.S = g1.S ∧ g'.sv = g1.sv ∧ g'.F = g1.F ∧ g'.fv = g1.fv ∧ LRd b.B g'.tag w' A c (x :: L) ∧ ∀ c fz, w1.heap[b.rb]? = some (.cells c 165 fz) → w'.heap[b.rb]? = some (.cells c 165 fz)) :
    AheadP b p w g x L steps seed err (.returned (.slice A m c)) w' := by
  obtain ⟨h1, h2, h3, h4, h5, h6, h7, h8⟩ := h
  subst hm
  refine ⟨A, c, g', rfl, h1, hc.trans h2, ?_, h3.trans e1, h5.trans e3, h7⟩
  rw [h4, h6, e2, e4]
  exact h8 _ _ hR
theorem ahead_any (b : Bl) (p : Prg) (x : AV) (A : Option Addr) (c : Nat) (L : List AV) (w : World) (g : Gh) (steps seed err : Int) (hm : Mem b w g) (hR : RB b p w g.sv g.fv steps seed false err) (hx : LRd b.B g.tag w x.A x.c x.list) (hL : LRd b.B g.tag w A c L) (hl : L.length ≤ 400000000) :
    Calls Tryz.prog 160 #[.pointer (some ⟨b.rb, 0, none⟩), x.v, .slice A L.length c] w (AheadP b p w g x L steps seed err) := by
  obtain ⟨es, clk, hmo, hkv⟩ := hm.mo
  have ma := hm.alloc (c8 x)
  have ga := grown_alloc w (c8 x) none
  have xa := hx.only hm (grown_weak ga (some b.rb))
  have La := hL.only hm (grown_weak ga (some b.rb))
  have Ra := hR.alloc (c8 x)
  have hma : (w.alloc (c8 x)).heap[b.mb]? = some (.map es clk) := (Below.heap_alloc _ _ _ (heap_ltM hmo)).trans hmo
  have hnew : (w.alloc (c8 x)).heap[w.heap.size]? = some (c8 x) := al_newM w (c8 x)
  have hrc : ∃ cs fz, (w.alloc (c8 x)).heap[b.rb]? = some (.cells cs 165 fz) ∧ cs[9]? = some (.map (some b.mb)) := ⟨_, _, Ra, by simp [rcs]⟩
  have c9 : ∀ o k, ((w.alloc o).drewN k).cell? ⟨b.rb, 9, none⟩ = some (.map (some b.mb)) := fun o k => ((hR.alloc o).c 9).trans (by simp [rcs])
  by_cases hn : L.length = 0
  · refine ahead_nil b x w A L.length c (2 * L.length + 4) (L.length + 3) (L.length + 4) (L.flatMap AV.cs) es clk _ hn (by omega) rfl rfl rfl (flat8 L) (flat_one L) (fun e => ⟨hn, hL.h0 e⟩) (ahv_any ma hnew hrc hma hkv La) fun V w' hV o1 o2 o3 heap p1 p2 p3 => ?_
    obtain ⟨g', h⟩ := new_fin ma hV o1 o2 o3 (n := L.length) (st := L.length + 3) rfl rfl rfl rfl (by omega) xa La.hr hma hkv heap p1 p2 p3
    exact AheadP.mk Ra (Ch.grown ga) rfl rfl rfl rfl (by omega) h
  · obtain ⟨y, hy⟩ : ∃ y, L[0]? = some y := ⟨L[0]'(by omega), by simp⟩
    obtain ⟨q, q1, rfl, hq1, hqb, hq0, -⟩ := La.at8 hy
    have hqq : q1 = q := by rw [← hq1]; simp [Addr.add]
    subst hqq
    have mk : ∀ k, Mem b ((w.alloc (c8 x)).drewN k) g := fun k => ma.drewN k
    have LK := fun k => look_rooms (mk k) (q := q1) (es := es) (clk := clk) hq0 hma hkv
    have DL := fun k ty => delE_run (mk k) (q := q1) (es := es) (clk := clk) hq0 hma hkv ty
    have md := fun k => del_mem (mk k) q1 (es := es) (clk := clk) hma hkv
    have ckv : (delE q1 g.R es).toList.map (fun e => (e.key, e.val)) = (delR q1 g.R).map Rm.kv := delE_kv hkv
    have nmb : ∀ {i : Nat} {o : Obj}, (w.alloc (c8 x)).heap[i]? = some o → (∀ e c, o ≠ .map e c) → i ≠ b.mb := fun {i o} h1 h2 e => by subst e; rw [hma] at h1; exact h2 _ _ (Option.some.inj h1).symm
    have Rd : RB b p (mapw (w.alloc (c8 x)) b.mb (delE q1 g.R es) clk) g.sv g.fv steps seed false err := Ra.keep (mapw_ne _ _ _ _ (nmb Ra (by simp)))
    have cells : ∀ p : Addr, p.block < (w.alloc (c8 x)).heap.size → sta b.B g.tag p → (mapw (w.alloc (c8 x)) b.mb (delE q1 g.R es) clk).cell? p = (w.alloc (c8 x)).cell? p := fun p hp hs => by
      refine World.cell?_of_block (w := w.alloc (c8 x)) (mapw_ne _ _ _ _ fun e => ?_)
      have hmt := hm.mt
      have hmB := hm.mbb
      rcases hs with h1 | h1 | ⟨lo, sz, h1, _⟩ | ⟨d, hi, h1, _⟩
      · omega
      all_goals
        rw [e, hmt] at h1; cases h1
    have hsz : (w.alloc (c8 x)).heap.size ≤ (mapw (w.alloc (c8 x)) b.mb (delE q1 g.R es) clk).heap.size := by rw [mapw_size]; exact Nat.le_refl _
    have xd := xa.mono hsz (fun k _ => Tag.le_refl _) cells
    have Ld := La.mono hsz (fun k _ => Tag.le_refl _) cells
    have hmd : (mapw (w.alloc (c8 x)) b.mb (delE q1 g.R es) clk).heap[b.mb]? = some (.map (delE q1 g.R es) clk) := mapw_at (heap_ltM hma)
    have hnd : (mapw (w.alloc (c8 x)) b.mb (delE q1 g.R es) clk).heap[w.heap.size]? = some (c8 x) := (mapw_ne _ _ _ _ (nmb hnew (by unfold c8; simp))).trans hnew
    have hrd : ∃ cs fz, (mapw (w.alloc (c8 x)) b.mb (delE q1 g.R es) clk).heap[b.rb]? = some (.cells cs 165 fz) ∧ cs[9]? = some (.map (some b.mb)) := ⟨_, _, Rd, by simp [rcs]⟩
    have hcd : Ch w g (mapw (w.alloc (c8 x)) b.mb (delE q1 g.R es) clk) { g with R := delR q1 g.R } := (Ch.grown ga).trans (md 0).2
    have m1 : Mem b (mapw (w.alloc (c8 x)) b.mb (delE q1 g.R es) clk) { g with R := delR q1 g.R } := (md 0).1
    have ahv : ∀ k, AhV b (mapw ((w.alloc (c8 x)).drewN k) b.mb (delE q1 g.R es) clk) x w.heap.size (some q1) (L.flatMap AV.cs) (delE q1 g.R es) clk := fun k => ahv_any (md k).1 hnd hrd hmd ckv (LRd.mono (w := mapw (w.alloc (c8 x)) b.mb (delE q1 g.R es) clk) (tag := g.tag) (w' := mapw ((w.alloc (c8 x)).drewN k) b.mb (delE q1 g.R es) clk) (Nat.le_refl _) (fun _ _ => Tag.le_refl _) (fun _ _ _ => rfl) Ld)
    have fin : ∀ V w', V.heap = (mapw (w.alloc (c8 x)) b.mb (delE q1 g.R es) clk).heap → V.os = w.os → V.tape = w.tape → V.output = w.output → w'.heap = (mapw (st8 (((newR V (2 * L.length + 4) (L.length + 4)).setRow V.heap.size (newA (2 * L.length + 4) (L.length + 4) (L.flatMap AV.cs))).setCell ⟨V.heap.size + 1, 1, none⟩ (iv (L.length + 3 : Nat))) V.heap.size ((L.length + 3) * 8) x) b.mb ((delE q1 g.R es).push { key := .pointer (some ⟨V.heap.size, (L.length + 3) * 8, none⟩), val := .pointer (some ⟨V.heap.size + 1, 0, none⟩), born := clk }) (clk + 1)).heap → w'.os = V.os → w'.tape = V.tape → w'.output = V.output →
        AheadP b p w g x L steps seed err (.returned (.slice (some ⟨V.heap.size, (L.length + 3) * 8, none⟩) (2 * L.length + 4 - (L.length + 3)) (2 * L.length + 4 - (L.length + 3)))) w' := fun V w' hV o1 o2 o3 heap p1 p2 p3 => by
      obtain ⟨g', h⟩ := new_fin m1 hV o1 o2 o3 (n := L.length) (st := L.length + 3) rfl rfl rfl rfl (by omega) xd Ld.hr hmd ckv heap p1 p2 p3
      exact AheadP.mk Rd hcd rfl rfl rfl rfl (by omega) h
    cases hj : rIdx q1 g.R with
    | none =>
      have hv : roomV q1 g.R = .pointer none := by unfold roomV; rw [hj]
      rw [hv] at LK
      exact ahead_none b x w q1 L.length c (2 * L.length + 4) (L.length + 3) (L.length + 4) (L.flatMap AV.cs) (delE q1 g.R es) clk _ (by omega) (by omega) rfl rfl rfl (flat8 L) (flat_one L) (fun e => by cases e) c9 LK DL ahv fin
    | some j =>
      obtain ⟨r, hr, hq⟩ := rIdx_some hj
      have hv : roomV q1 g.R = .pointer (some ⟨r.ro, 0, none⟩) := by unfold roomV; rw [hj]; simp only [hr]
      rw [hv] at LK
      have hrR : r ∈ g.R := List.mem_of_getElem? hr
      have rok := ma.rm r hrR
      have hrod : (mapw (w.alloc (c8 x)) b.mb (delE q1 g.R es) clk).heap[r.ro]? = some (.cells #[.slice (some ⟨r.ab, 0, none⟩) r.sz r.sz, iv r.st] 236 (0, 0)) := (mapw_ne _ _ _ _ (nmb rok.o (by simp))).trans rok.o
      obtain ⟨cur, ra1, ra2⟩ := rok.a
      have habd : (mapw (w.alloc (c8 x)) b.mb (delE q1 g.R es) clk).heap[r.ab]? = some (.cells cur 56 (0, 0)) := (mapw_ne _ _ _ _ (nmb ra1 (by simp))).trans ra1
      by_cases hz : r.st = 0
      · refine ahead_zero b x w q1 L.length c (2 * L.length + 4) (L.length + 3) (L.length + 4) r.ro (L.flatMap AV.cs) (delE q1 g.R es) clk _ (by omega) (by omega) rfl rfl rfl (flat8 L) (flat_one L) (fun e => by cases e) c9 LK DL ahv (fun k => ?_) fin
        show (mapw (w.alloc (c8 x)) b.mb (delE q1 g.R es) clk).cell? ⟨r.ro, 1, none⟩ = _
        rw [Lib.cell_of_heap hrod, hz]
        rfl
      · obtain ⟨st, hst⟩ : ∃ st, r.st = st + 1 := ⟨r.st - 1, by omega⟩
        have hlen : r.st + L.length = r.sz := by
          have := hL.he q1 (r.st * 8) (r.sz * 8) rfl (by rw [hq]; exact rok.at_)
          rw [hq] at this
          simp at this
          omega
        have rab : r.ab < w.heap.size := by
          obtain ⟨c0, r1, _⟩ := (hm.rm r hrR).a
          exact heap_ltM r1
        have dis := delR_ne hm.ra hj hr
        refine ahead_room b x w q1 L.length c r.ro r.ab r.sz st (delE q1 g.R es) clk _ r.st hst (by omega) (by omega) (by omega) rok.sz c9 LK DL (fun k => ?_) fun w' heap o1 o2 o3 => ?_
        · refine AhS.heap (W := mapw (w.alloc (c8 x)) b.mb (delE q1 g.R es) clk) ⟨hnd, hrd, hmd, hrod, ⟨cur, habd, ra2⟩, by omega, fun e he => ?_⟩ rfl
          obtain ⟨r', hr', e1⟩ := kv_rooms ckv he
          obtain ⟨cur', c1, _⟩ := (m1.rm r' hr').a
          exact ⟨r'.ab, r'.st * 8, e1, (dis r' hr').1, cur', c1⟩
        · have h := ahead_mem m1 (W := mapw (w.alloc (c8 x)) b.mb (delE q1 g.R es) clk) (World.grownBy.refl _ none) (by rw [← hst]; exact hrod) habd ra2 rok.ab rok.ob (fun _ => by rw [← hst]; exact rok.at_) (fun _ => rok.ot) dis xd Ld.hr (by omega) rok.sz (fun j' y' hj' i v hi => ?_) hmd ckv heap o1 o2 o3
          · obtain ⟨g', h⟩ := h
            exact AheadP.mk Rd hcd rfl rfl rfl rfl (by omega) h
          · have h1 := (Ld.hx q1 rfl j' y' hj' i v hi).1
            have h2 : q1.add (j' * 8 + i) = ⟨r.ab, (st + 1 + j') * 8 + i, none⟩ := by
              rw [hq]
              by_cases e0 : j' * 8 + i = 0
              · have : j' = 0 ∧ i = 0 := by omega
                obtain ⟨rfl, rfl⟩ := this
                simp [Addr.add, hst]
              · rw [fld_add _ _ e0, hst]
                simp only [Addr.mk.injEq, and_true, true_and]
                omega
            rwa [h2] at h1
end Go.Proofs.YtgboboljgcfggaaGreatDoor
namespace Go.Proofs.YtgboboljgcfggaaGreatDoor
open Go.RowKit
set_option maxRecDepth 100000 in
set_option maxHeartbeats 1000000 in
theorem cons_flt (b : Bl) (p : Prg) (op xa xb : Int) (name : T) (w : World) (g : Gh) (steps seed err : Int) (hm : Mem b w g) (hR : RB b p w g.sv g.fv steps seed false err) (hn : g.S.length ≤ 1000000) (h : popK 3 (ers g.S) = none) :
    Calls Tryz.prog 141 #[.pointer (some ⟨b.rb, 0, none⟩), .agg #[iv op, iv xa, iv xb, tv name]] w (EffP b p w g (.error 26) steps err) := by
  have H1 := Lib.hid (flt_any b p w g 3 steps seed err hm hR hn h)
  clear hm hR hn h
  go_enter Tryz.func141, Tryz.ntmps141
  go_wp2_with (go_at_call 138; refine (H1.out _).mono ?_; intro e w1 k1; obtain ⟨rfl, k2⟩ := id k1; have K1 := Lib.hid k1; clear k1 k2)
  exact ⟨rfl, K1.out⟩
set_option maxRecDepth 100000 in
set_option maxHeartbeats 1000000 in
theorem cons_flt1 (b : Bl) (p : Prg) (op xa xb : Int) (name : T) (w : World) (g : Gh) (l : AV) (steps seed err : Int) (hm : Mem b w g) (hR : RB b p w g.sv g.fv steps seed false err) (hn : g.S.length ≤ 1000000) (h : g.S = [l]) (hk : l.kind = 3) :
    Calls Tryz.prog 141 #[.pointer (some ⟨b.rb, 0, none⟩), .agg #[iv op, iv xa, iv xb, tv name]] w (EffP b p w g (.error 26) steps err) := by
  have H1 := Lib.hid (one_any b p w g [] l 3 steps seed err hm hR hn h hk)
  have C2 : ∀ o w1, One b p w g o [] steps seed err w1 → Calls Tryz.prog 145 #[.pointer (some ⟨b.rb, 0, none⟩)] w1 (EffP b p w g (.error 26) steps err) := fun o w1 ⟨_, h1, g2, e1, e2, e3, e4, h2, h3, h4⟩ =>
    (pop_flt b p w1 g2 steps seed false err h2 h4 e1).mono fun _ _ hp => EffP.flt h1 hp
  have H2 := Lib.hid C2
  clear C2 hm hR hn h hk
  have e2 := AV.v.eq_1 l
  rw [e2] at H1
  clear e2
  have hf := fld2
  go_enter Tryz.func141, Tryz.ntmps141
  go_wp2_with (first | (go_at_call 138; refine (H1.out _).mono ?_; rintro e w1 ⟨rfl, k1⟩; have K1 := Lib.hid k1; clear k1) | (go_at_call 145; refine (H2.out _ _ K1.out).mono ?_; intro e w2 k2; obtain ⟨rfl, k3⟩ := id k2; have K2 := Lib.hid k2; clear k2 k3))
  exact ⟨rfl, K2.out⟩
def ConM (b : Bl) (p : Prg) (w : World) (g : Gh) (S : List AV) (steps seed err : Int) (w2 : World) : Prop :=
  w.grownBy w2 (some b.rb) ∧ ∃ g3, g3.S = S ∧ g3.F = g.F ∧ g3.tag = g.tag ∧ Mem b w2 g3 ∧ Ch w g w2 g3 ∧ RB b p w2 g3.sv g3.fv steps seed false err
def ConA (b : Bl) (p : Prg) (w : World) (g : Gh) (S L : List AV) (x : AV) (steps seed err : Int) (A : Option Addr) (c : Nat) (w' : World) : Prop :=
  ∃ g', Mem b w' g' ∧ Ch w g w' g' ∧ RB b p w' g'.sv g'.fv steps seed false err ∧ g'.S = S ∧ g'.F = g.F ∧ LRd b.B g'.tag w' A c (x :: L)
set_option maxRecDepth 100000 in
set_option maxHeartbeats 1000000 in
theorem cons_ok (b : Bl) (p : Prg) (op xa xb : Int) (name : T) (w : World) (g : Gh) (S : List AV) (x l : AV) (steps seed err : Int) (hm : Mem b w g) (hR : RB b p w g.sv g.fv steps seed false err) (hn : g.S.length ≤ 1000000) (h : g.S = S ++ [x] ++ [l]) (hk : l.kind = 3) (hl : l.list.length ≤ 1000000) :
    Calls Tryz.prog 141 #[.pointer (some ⟨b.rb, 0, none⟩), .agg #[iv op, iv xa, iv xb, tv name]] w (EffP b p w g (.ok ⟨ers S ++ [vList (x.er :: ers l.list)], g.F.map Fr.er, seed, false⟩) steps err) := by
  have hlen : g.S.length = S.length + 2 := by rw [h]; simp
  have H1 := Lib.hid (one_any b p w g (S ++ [x]) l 3 steps seed err hm hR hn h hk)
  have hh := hm.sr l (by rw [h]; simp)
  have hx := hm.sr x (by rw [h]; simp)
  have C2 : ∀ o w1, One b p w g o (S ++ [x]) steps seed err w1 → Calls Tryz.prog 145 #[.pointer (some ⟨b.rb, 0, none⟩)] w1 fun e w' => e = .returned x.v ∧ ConM b p w g S steps seed err w' := fun o w1 ⟨_, h1, g2, e1, e2, e3, e4, h2, h3, h4⟩ => by
    refine (pop_mem b p w1 g2 S x steps seed false err h2 h4 e1 (by rw [e1]; simp; omega)).mono ?_
    rintro e w2 ⟨rfl, k1, sv1, k2, k3⟩
    exact ⟨rfl, h1.trans k1, { g2 with S := S, sv := sv1 }, rfl, e2, e4, k3, h3.trans (Ch.retag (Ch.only h2 k1) rfl), k2⟩
  have H2 := Lib.hid C2
  have C3 : ∀ w2 o, ConM b p w g S steps seed err w2 → Calls Tryz.prog 160 #[.pointer (some ⟨b.rb, 0, none⟩), x.v, .slice l.A l.list.length l.c] (w2.alloc o) fun e w' => ∃ A c, e = .returned (.slice A (l.list.length + 1) c) ∧ ConA b p w g S l.list x steps seed err A c w' := fun w2 o ⟨h1, g3, e1, e2, e3, m3, c3, r3⟩ => by
    have gA := grown_alloc w2 o (some b.rb)
    have hx2 := hx.only hm (h1.trans gA)
    have hl2 := hh.only hm (h1.trans gA)
    rw [← e3] at hx2 hl2
    refine (ahead_any b p x l.A l.c l.list (w2.alloc o) g3 steps seed err (m3.alloc o) (r3.alloc o) hx2 hl2 (by omega)).mono ?_
    rintro e w' ⟨A, c, g', rfl, k1, k2, k3, k4, k5, k6⟩
    exact ⟨A, c, rfl, g', k1, (c3.trans (Ch.grown (grown_alloc w2 o none))).trans k2, k3, k4.trans e1, k5.trans e2, k6⟩
  have H3 := Lib.hid C3
  have C4 : ∀ A c w', ConA b p w g S l.list x steps seed err A c w' → Calls Tryz.prog 128 #[.pointer (some ⟨b.rb, 0, none⟩), .agg #[.int .i64 3, .int .i64 0, .slice A (l.list.length + 1) c, .int .i64 0, .string ⟨#[]⟩, .string ⟨#[]⟩, .slice none 0 0, .slice none 0 0]] w' (EffP b p w g (.ok ⟨ers S ++ [vList (x.er :: ers l.list)], g.F.map Fr.er, seed, false⟩) steps err) := fun A c w' ⟨g', k1, k2, k3, k4, k5, k6⟩ => by
    refine (push_any b p (AV.mk 3 0 A c 0 (x :: l.list)) w' g' steps seed false err k1 k3 k6 (by rw [k4]; omega)).mono fun e w2 hp => EffP.push hp k2 ?_
    rw [k4, k5]
    simp [AV.er, vList]
  have H4 := Lib.hid C4
  clear C2 C3 C4 hm hR hn h hk hl hlen hh hx
  have e1 := AV.v.eq_1 l
  have e2 := AV.v.eq_1 x
  rw [e1] at H1
  rw [e2] at H2 H3
  clear e1 e2
  have hf := fld2
  go_enter Tryz.func141, Tryz.ntmps141
  go_wp2_with (first | (go_at_call 138; refine (H1.out _).mono ?_; rintro e w1 ⟨rfl, k1⟩; have K1 := Lib.hid k1; clear k1) | (go_at_call 145; refine (H2.out _ _ K1.out).mono ?_; rintro e w2 ⟨rfl, k2⟩; have K2 := Lib.hid k2; clear k2) | (go_at_call 160; refine (H3.out _ _ K2.out).mono ?_; rintro e w3 ⟨A, c, rfl, k3⟩; have K3 := Lib.hid k3; clear k3) | (go_at_call 128; refine (H4.out _ _ _ K3.out).mono ?_; intro e w4 k4; obtain ⟨rfl, k5⟩ := id k4; have K4 := Lib.hid k4; clear k4 k5))
  exact bodyPost_ret (v := .tuple #[]) (results_none rfl _ _ _) rfl K4.out
theorem cons_any (b : Bl) (p : Prg) (op xa xb : Int) (name : T) (w : World) (g : Gh) (steps seed err : Int) (hm : Mem b w g) (hR : RB b p w g.sv g.fv steps seed false err) (hn : g.S.length ≤ 1000000) (hx : ∀ x ∈ g.S, x.list.length ≤ 1000000) :
    Calls Tryz.prog 141 #[.pointer (some ⟨b.rb, 0, none⟩), .agg #[iv op, iv xa, iv xb, tv name]] w (EffP b p w g (match popK 3 (ers g.S) with
      | none => .error 26
      | some (S1, l) => match unsn S1 with
        | none => .error 26
        | some (S2, v) => .ok ⟨S2 ++ [vList (v :: l.list)], g.F.map Fr.er, seed, false⟩) steps err) := by
  rcases snoc_cases g.S with h | ⟨S', l, h⟩
  · have e : popK 3 (ers g.S) = none := by rw [h]; simp
    rw [e]
    exact cons_flt b p op xa xb name w g steps seed err hm hR hn e
  · by_cases hk : l.kind = 3
    · have e : popK 3 (ers g.S) = some (ers S', l.er) := by rw [h]; simp only [ers_append, ers_cons, ers_nil, popK_snoc]; rw [if_pos (by rw [er_kind]; exact hk)]
      rw [e]
      simp only
      rcases snoc_cases S' with h2 | ⟨S2, x, h2⟩
      · subst h2
        exact cons_flt1 b p op xa xb name w g l steps seed err hm hR hn (by simpa using h) hk
      · subst h2
        have e3 : unsn (ers (S2 ++ [x])) = some (ers S2, x.er) := by simp
        rw [e3]
        simp only
        rw [AV.er_list]
        exact cons_ok b p op xa xb name w g S2 x l steps seed err hm hR hn h hk (hx l (by rw [h]; simp))
    · have e : popK 3 (ers g.S) = none := by rw [h]; simp only [ers_append, ers_cons, ers_nil, popK_snoc]; rw [if_neg (by rw [er_kind]; exact hk)]
      rw [e]
      exact cons_flt b p op xa xb name w g steps seed err hm hR hn e
end Go.Proofs.YtgboboljgcfggaaGreatDoor

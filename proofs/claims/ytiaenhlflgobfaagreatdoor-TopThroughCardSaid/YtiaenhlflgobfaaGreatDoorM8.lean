/- Walks and words: Rgm, Lays, Stx, Fro. -/
import Derived.Test.YtiaenhlflgobfaaGreatDoorApp
import Derived.Test.YtiaenhlflgobfaaGreatDoorWin
import Derived.Test.YtiaenhlflgobfaaGreatDoorFre
import Derived.Test.YtiaenhlflgobfaaGreatDoorM7
import Derived.Maps.RangeRun
import Derived.Shelf.SlGeneric
import Derived.Shelf.SlLaysM
import Derived.Ground.SlgmProg
import Derived.Test.YtiaenhlflgobfaaGreatDoorProg
import Derived.Shelf.SortM.Plain
import Derived.Shelf.SortM.SortNone
import Derived.Lib.SortBridge
import Derived.Lib.RowBridge
import Derived.OwnWalk
import Derived.Maps.RangeWalk
namespace Go.Proofs.YtiaenhlflgobfaaGreatDoor
open Go.RowKit Go.ChangeMaps
def ens (K : List T) : Array MapEntry := (ensK tv 0 (fmap K)).toArray
def lef (K : List T) (seen : Array Nat) : Nat := (leftOf (ens K) seen).size
def IT (w : World) (r mb : Nat) (K : List T) (seen : Array Nat) : Prop := ∃ c0, w.heap[r]? = some (.mapIter (some mb) K.length seen c0) ∧ K.length ≤ c0
theorem ens_len (K : List T) : (ensK tv 0 (fmap K)).length = K.length := by
  have h : ∀ (l : MK T) (j : Nat), (ensK tv j l).length = l.length := by
    intro l
    induction l with
    | nil => intro j; rfl
    | cons p l ih => intro j; rw [ensK, List.length_cons, ih, List.length_cons]
  rw [h]
  simp [fmap]
theorem ens_mem {K : List T} {e : MapEntry} (h : e ∈ ensK tv 0 (fmap K)) : e.born < K.length ∧ ∃ s ∈ K, e.key = tv s ∧ e.val = .bool true := by
  obtain ⟨i, hi⟩ := List.getElem?_of_mem h
  rw [ensK_at] at hi
  obtain ⟨p, hp, rfl⟩ := Option.map_eq_some_iff.1 hi
  unfold fmap at hp
  rw [List.getElem?_map] at hp
  obtain ⟨s, hs, rfl⟩ := Option.map_eq_some_iff.1 hp
  exact ⟨by simpa using (List.getElem?_eq_some_iff.1 hs).1, s, List.mem_of_getElem? hs, rfl, rfl⟩
theorem ens_nodup (K : List T) : ((ensK tv 0 (fmap K)).map (·.born)).Nodup := by
  have h : ∀ (l : MK T) (j : Nat), ((ensK tv j l).map (·.born)).Nodup ∧ ∀ x ∈ (ensK tv j l).map (·.born), j ≤ x := by
    intro l
    induction l with
    | nil => intro j; exact ⟨List.nodup_nil, fun x hx => by cases hx⟩
    | cons p l ih =>
      intro j
      obtain ⟨h1, h2⟩ := ih (j + 1)
      rw [ensK, List.map_cons]
      refine ⟨List.nodup_cons.2 ⟨fun hx => ?_, h1⟩, fun x hx => ?_⟩
      · have := h2 _ hx
        simp at this
        omega
      · rcases List.mem_cons.1 hx with rfl | hx
        · exact Nat.le_refl _
        · have := h2 _ hx
          omega
  exact (h _ 0).1
theorem lef_none (K : List T) : lef K #[] = K.length := by
  unfold lef leftOf ens
  rw [Array.filter_eq_self.2 (fun x _ => by simp)]
  simp [ens_len]
theorem IT.keep {w V : World} {r mb : Nat} {K : List T} {seen : Array Nat} (h : IT w r mb K seen) (hk : V.heap[r]? = w.heap[r]?) : IT V r mb K seen := by
  obtain ⟨c0, h1, h2⟩ := h
  exact ⟨c0, hk.trans h1, h2⟩
theorem IT.lt {w : World} {r mb : Nat} {K : List T} {seen : Array Nat} (h : IT w r mb K seen) : r < w.heap.size := by
  obtain ⟨c0, h1, -⟩ := h
  exact heap_lt h1
theorem range_k {w : World} {t k e : TypeId} {mb : Nat} {K : List T} (ht : Tryz.prog.underlying t = some (.map k e)) (hm : MP tv w mb (fmap K)) :
    (Instr.range t (.map (some mb))).run Tryz.prog w = .ok (.pointer (some ⟨w.heap.size, 0, none⟩)) (w.alloc (.mapIter (some mb) K.length #[] K.length)) ∧ IT (w.alloc (.mapIter (some mb) K.length #[] K.length)) w.heap.size mb K #[] := by
  have hb : w.heap[mb]? = some (.map (ens K) K.length) := by
    have h := hm
    unfold MP at h
    rw [show (fmap K).length = K.length by simp [fmap]] at h
    exact h
  exact ⟨run_range_map w t k e mb (ens K) K.length ht hb, K.length, al_new _ _, Nat.le_refl _⟩
theorem grown_block {w : World} {r : Nat} {o : Obj} : w.grownBy (setBlock w r o) (some r) := by
  refine ⟨rfl, rfl, rfl, by simp [setBlock], fun k hk hne => ?_⟩
  have : k ≠ r := fun e => hne (by rw [e])
  simp [setBlock, Ne.symm this]
theorem next_k {w : World} {ty : TypeId} {r mb : Nat} {K : List T} {seen : Array Nat} (h : IT w r mb K seen) (hm : MP tv w mb (fmap K)) (hne : r ≠ mb) :
    (lef K seen = 0 ∧ (Instr.next (.pointer (some ⟨r, 0, none⟩)) false ty).run Tryz.prog w = .ok (.tuple #[.bool false]) w) ∨
    ∃ s ∈ K, ∃ (b : Nat) (w' : World), (Instr.next (.pointer (some ⟨r, 0, none⟩)) false ty).run Tryz.prog w = .ok (.tuple #[.bool true, tv s, .bool true]) w' ∧ IT w' r mb K (seen.push b) ∧ lef K (seen.push b) < lef K seen ∧ w.grownBy w' (some r) ∧ w'.heap.size = w.heap.size ∧
      (Instr.entry (.pointer (some ⟨r, 0, none⟩))).run Tryz.prog w' = .ok (.tuple #[tv s, .bool true]) w' := by
  obtain ⟨c0, h1, h2⟩ := h
  have hb : w.heap[mb]? = some (.map (ens K) K.length) := by
    have h := hm
    unfold MP at h
    rw [show (fmap K).length = K.length by simp [fmap]] at h
    exact h
  have hold : ∀ x ∈ (ens K).toList, x.born < K.length := fun x hx => (ens_mem (by simpa [ens] using hx)).1
  rcases run_next_at (P := Tryz.prog) w ty r mb K.length c0 seen (ens K) K.length h1 hb hold h2 with ⟨h3, h4⟩ | ⟨e, he, w1, hw, h4⟩
  · exact .inl ⟨h3, h4⟩
  · obtain ⟨hm1, -⟩ := mem_left he
    obtain ⟨-, s, hs, hk, hv⟩ := ens_mem (K := K) (e := e) (by simpa [ens] using hm1)
    rw [hk, hv] at h4
    have G : w.grownBy (setBlock w1 r (.mapIter (some mb) K.length (seen.push e.born) K.length)) (some r) := by
      rcases hw with rfl | rfl
      · exact grown_block
      · exact (World.grownBy.but (gr_drew w) (some r)).trans grown_block
    have hr : (setBlock w1 r (.mapIter (some mb) K.length (seen.push e.born) K.length)).heap[r]? = some (.mapIter (some mb) K.length (seen.push e.born) K.length) := by
      have hl := heap_lt h1
      rcases hw with rfl | rfl <;> simp [setBlock, hl]
    have hb' : (setBlock w1 r (.mapIter (some mb) K.length (seen.push e.born) K.length)).heap[mb]? = some (.map (ens K) K.length) := (G.block mb (heap_lt hb) (fun e => hne (Option.some.inj e).symm)).trans hb
    refine .inr ⟨s, hs, e.born, _, h4, ⟨_, hr, Nat.le_refl _⟩, left_shrinks _ _ e he, G, by rcases hw with rfl | rfl <;> simp [setBlock], ?_⟩
    have h5 := run_entry_at (P := Tryz.prog) _ r mb K.length seen (ens K) K.length e hr hb' hm1 (by simpa [ens] using ens_nodup K)
    rw [hk, hv] at h5
    exact h5
section
variable {w : World} {ops : Array Oper} {rest : List Oper} {o : Oper} {a : Act} {Q : Exit → Act → World → Prop}
theorem wpList_range_k (hg : o.guard = none) (m : Operand) (t : TypeId) (hop : o.op = Op.range t m) (k e : TypeId) (ht : Tryz.prog.underlying t = some (.map k e)) {mb : Nat} {K : List T} (hm : a.eval m = .map (some mb)) (hp : MP tv w mb (fmap K))
    (h : ∀ w', IT w' w.heap.size mb K #[] → Gr w w' → w'.heap.size = w.heap.size + 1 → wpList Tryz.prog ops Q rest (a.put o.dst (.pointer (some ⟨w.heap.size, 0, none⟩))) w') : wpList Tryz.prog ops Q (o :: rest) a w := by
  refine wpList_plain hg fun K' hK' => ?_
  obtain ⟨h1, h2⟩ := range_k ht hp
  unfold Oper.wp execOp
  simp only [hop, Sem.run_bind, Sem.run_pure, Result.andThen_ok, hm, h1]
  exact hK' _ _ (h _ h2 (gr_al _ _) (by simp))
theorem wpList_next_k (hg : o.guard = none) (it : Operand) (hop : o.op = Op.next it false) {r mb : Nat} {K : List T} {seen : Array Nat} (hit : a.eval it = .pointer (some ⟨r, 0, none⟩)) (hI : IT w r mb K seen) (hp : MP tv w mb (fmap K)) (hne : r ≠ mb)
    (hDone : lef K seen = 0 → wpList Tryz.prog ops Q rest (a.put o.dst (.tuple #[.bool false])) w)
    (hMore : ∀ s ∈ K, ∀ (b : Nat) (w' : World), IT w' r mb K (seen.push b) → lef K (seen.push b) < lef K seen → w.grownBy w' (some r) → w'.heap.size = w.heap.size → (Instr.entry (.pointer (some ⟨r, 0, none⟩))).run Tryz.prog w' = .ok (.tuple #[tv s, .bool true]) w' → wpList Tryz.prog ops Q rest (a.put o.dst (.tuple #[.bool true, tv s, .bool true])) w') :
    wpList Tryz.prog ops Q (o :: rest) a w := by
  refine wpList_plain hg fun K' hK' => ?_
  unfold Oper.wp execOp
  rcases next_k (ty := o.type) hI hp hne with ⟨h1, h2⟩ | ⟨s, hs, b, w', h1, h2, h3, h4, h5, h6⟩
  · simp only [hop, Sem.run_bind, Sem.run_pure, Result.andThen_ok, hit, h2]
    exact hK' _ _ (hDone h1)
  · simp only [hop, Sem.run_bind, Sem.run_pure, Result.andThen_ok, hit, h1]
    exact hK' _ _ (hMore s hs b w' h2 h3 h4 h5 h6)
end
end Go.Proofs.YtiaenhlflgobfaaGreatDoor
namespace Go.Proofs
open Go.Shelf
def Tryz.sortS_ren : Go.Shelf.Ren := ⟨fun | 6 => 184 | 8 => 198 | 9 => 212 | 19 => 223 | 20 => 224 | 21 => 254 | 22 => 255 | 23 => 256 | 24 => 257 | 25 => 258 | 26 => 259 | 27 => 98 | 28 => 260 | 29 => 261 | 36 => 283 | 31 => 263 | 32 => 264 | 37 => 284 | 38 => 285 | 39 => 144 | 41 => 292 | n => n, fun | 27 => 37 | 29 => 9 | 3 => 3 | 32 => 174 | 26 => 37 | 0 => 0 | 44 => 293 | 46 => 295 | 4 => 4 | 36 => 287 | 35 => 286 | 41 => 116 | 5 => 5 | 9 => 9 | 53 => 322 | 57 => 326 | 63 => 344 | 64 => 345 | n => n, fun | n => n⟩
theorem Tryz.sortS : Go.Proofs.SlLaysM.n6 Tryz.prog Tryz.sortS_ren := {
  mixed := by kernel_rfl
  f6 := ⟨Tryz.f184.name, by decide, Tryz.func184.trans (congrArg some (by kernel_rfl))⟩
  f8 := Tryz.func198.trans (congrArg some (by kernel_rfl))
  f9 := ⟨Tryz.f212.name, by decide, Tryz.func212.trans (congrArg some (by kernel_rfl))⟩
  f19 := Tryz.func223.trans (congrArg some (by kernel_rfl))
  f20 := Tryz.func224.trans (congrArg some (by kernel_rfl))
  f21 := ⟨Tryz.f254.name, by decide, Tryz.func254.trans (congrArg some (by kernel_rfl))⟩
  f22 := ⟨Tryz.f255.name, by decide, Tryz.func255.trans (congrArg some (by kernel_rfl))⟩
  f23 := ⟨Tryz.f256.name, by decide, Tryz.func256.trans (congrArg some (by kernel_rfl))⟩
  f24 := ⟨Tryz.f257.name, by decide, Tryz.func257.trans (congrArg some (by kernel_rfl))⟩
  f25 := ⟨Tryz.f258.name, by decide, Tryz.func258.trans (congrArg some (by kernel_rfl))⟩
  f26 := ⟨Tryz.f259.name, by decide, Tryz.func259.trans (congrArg some (by kernel_rfl))⟩
  f27 := ⟨Tryz.f98.name, by decide, Tryz.func98.trans (congrArg some (by kernel_rfl))⟩
  f28 := ⟨Tryz.f260.name, by decide, Tryz.func260.trans (congrArg some (by kernel_rfl))⟩
  f29 := ⟨Tryz.f261.name, by decide, Tryz.func261.trans (congrArg some (by kernel_rfl))⟩
  f31 := Tryz.func263.trans (congrArg some (by kernel_rfl))
  f32 := Tryz.func264.trans (congrArg some (by kernel_rfl))
  f36 := ⟨Tryz.f283.name, by decide, Tryz.func283.trans (congrArg some (by kernel_rfl))⟩
  f37 := ⟨Tryz.f284.name, by decide, Tryz.func284.trans (congrArg some (by kernel_rfl))⟩
  f38 := ⟨Tryz.f285.name, by decide, Tryz.func285.trans (congrArg some (by kernel_rfl))⟩
  f39 := ⟨Tryz.f144.name, by decide, Tryz.func144.trans (congrArg some (by kernel_rfl))⟩
  f41 := ⟨Tryz.f292.name, by decide, Tryz.func292.trans (congrArg some (by kernel_rfl))⟩
  t0 := Tryz.underlying0
  a0 := Tryz.isAgg0
  z0 := Tryz.sizeOf0
  v0 := Tryz.zeroValue0
  t3 := Tryz.underlying3
  a3 := Tryz.isAgg3
  z3 := Tryz.sizeOf3
  v3 := Tryz.zeroValue3
  t4 := Tryz.underlying4
  a4 := Tryz.isAgg4
  z4 := Tryz.sizeOf4
  v4 := Tryz.zeroValue4
  t5 := Tryz.underlying5
  a5 := Tryz.isAgg5
  z5 := Tryz.sizeOf5
  v5 := Tryz.zeroValue5
  t9 := Tryz.underlying9
  a9 := Tryz.isAgg9
  z9 := Tryz.sizeOf9
  v9 := Tryz.zeroValue9
  t26 := Tryz.underlying37
  a26 := Tryz.isAgg37
  z26 := Tryz.sizeOf37
  v26 := Tryz.zeroValue37
  t27 := Tryz.underlying37
  a27 := Tryz.isAgg37
  z27 := Tryz.sizeOf37
  v27 := Tryz.zeroValue37
  t29 := Tryz.underlying9
  a29 := Tryz.isAgg9
  z29 := Tryz.sizeOf9
  v29 := Tryz.zeroValue9
  t32 := Tryz.underlying174
  a32 := Tryz.isAgg174
  z32 := Tryz.sizeOf174
  v32 := Tryz.zeroValue174
  t35 := Tryz.underlying286
  a35 := Tryz.isAgg286
  z35 := Tryz.sizeOf286
  v35 := Tryz.zeroValue286
  t36 := Tryz.underlying287
  a36 := Tryz.isAgg287
  z36 := Tryz.sizeOf287
  v36 := Tryz.zeroValue287
  t41 := Tryz.underlying116
  a41 := Tryz.isAgg116
  z41 := Tryz.sizeOf116
  v41 := Tryz.zeroValue116
  t44 := Tryz.underlying293
  a44 := Tryz.isAgg293
  z44 := Tryz.sizeOf293
  v44 := Tryz.zeroValue293
  t46 := Tryz.underlying295
  a46 := Tryz.isAgg295
  z46 := Tryz.sizeOf295
  v46 := Tryz.zeroValue295
  t53 := Tryz.underlying322
  a53 := Tryz.isAgg322
  z53 := Tryz.sizeOf322
  v53 := Tryz.zeroValue322
  t57 := Tryz.underlying326
  a57 := Tryz.isAgg326
  z57 := Tryz.sizeOf326
  v57 := Tryz.zeroValue326
  t63 := Tryz.underlying344
  a63 := Tryz.isAgg344
  z63 := Tryz.sizeOf344
  v63 := Tryz.zeroValue344
  t64 := Tryz.underlying345
  a64 := Tryz.isAgg345
  z64 := Tryz.sizeOf345
  v64 := Tryz.zeroValue345 }
end Go.Proofs
namespace Go.Proofs.YtiaenhlflgobfaaGreatDoor
open Go.RowKit Go.Shelf Go.Sort
def srt (L : List T) : List T := L.mergeSort fun x y => decide (x ≤ y)
theorem srt_len (L : List T) : (srt L).length = L.length := by simp [srt]
theorem flatS (L : List T) : L.flatMap scs = L.map tv := by
  induction L with
  | nil => rfl
  | cons x L ih => rw [List.flatMap_cons, ih]; rfl
theorem OR.holdsS {w : World} {base g cap : Nat} {L : List T} (h : OR 9 1 scs w base (.slice (some ⟨g, 0, none⟩) L.length cap) L) : Holds encStr w g 0 L.toArray := by
  have hf := flatS L
  intro j hj
  have hj' : j < L.length := by simpa using hj
  refine ⟨?_, ?_⟩
  · have h2 := h
    unfold OR at h2
    rw [hf] at h2
    rw [Nat.zero_add, World.ownsRow.cellAt h2 j (by omega)]
    simp [hj', getElem!_pos]
  · rw [Nat.zero_add]; exact World.ownsRow.frozenAt h j
theorem orSortedS {w : World} {B g cap : Nat} {L : List T} (h : OR 9 1 scs w B (.slice (some ⟨g, 0, none⟩) L.length cap) L) (M : List T) (hl : M.length = L.length) (n : Nat) (os : Array Obj) :
    OR 9 1 scs (grow (putRow encStr (Sort.ahead w n) g 0 M.toArray) os) B (.slice (some ⟨g, 0, none⟩) L.length cap) M ∧ w.grownBy (grow (putRow encStr (Sort.ahead w n) g 0 M.toArray) os) (some g) := by
  have hf := flatS M
  rcases h.2 with ⟨h', _⟩ | ⟨g', cap', cur, h', hb, hg, hnc, hcm, hcs, htake⟩
  · simp at h'
  · simp only [Value.slice.injEq, Option.some.injEq, Addr.mk.injEq, and_true, true_and] at h'
    obtain ⟨rfl, rfl⟩ := h'
    have hlt := heap_lt hg
    have hsz : (putRow encStr (Sort.ahead w n) g 0 M.toArray).heap.size = w.heap.size := by simp [putRow, mapBlock, Sort.ahead]
    have hat : (grow (putRow encStr (Sort.ahead w n) g 0 M.toArray) os).heap[g]? = some (.cells (putCells encStr 0 M.toArray cur) 9 (0, 0)) := by
      rw [heap_grow_old _ _ (by rw [hsz]; exact hlt)]
      simp only [putRow, mapBlock, Sort.ahead, Array.getElem?_modify, if_true, hg, Option.map_some]
      rfl
    refine ⟨⟨by rw [hf]; simp, .inr ⟨g, cap, _, by rw [hl], hb, hat, by omega, hcm, by simp [putCells]; omega, ?_⟩⟩, ⟨rfl, rfl, rfl, ?_, fun k hk hne => ?_⟩⟩
    · rw [hf]
      apply List.ext_getElem?
      intro j
      rw [List.getElem?_take]
      by_cases hj : j < M.length * 1
      · rw [if_pos hj]
        have hjc : j < cur.size := by omega
        have : j < M.length := by omega
        simp [putCells, hjc, this]
      · rw [if_neg hj, List.getElem?_eq_none (by simp; omega)]
    · simp only [grow, Array.size_append, hsz]; omega
    · rw [heap_grow_old _ _ (by rw [hsz]; exact hk)]
      have hne' : g ≠ k := fun e => hne (by rw [e])
      simp [putRow, mapBlock, Sort.ahead, Array.getElem?_modify, hne']
theorem sortS_any {w : World} {B : Nat} {v : Value} {L : List T} (ho : OR 9 1 scs w B v L) (hl : L.length ≤ 1000000) : Calls Tryz.prog 184 #[v] w fun e w' => e = .returned (.tuple #[]) ∧ OR 9 1 scs w' B v (srt L) ∧ w.grownBy w' v.ownBlock := by
  by_cases hL : L = []
  · subst hL
    obtain ⟨A, c, rfl, hr⟩ := ho.form scs_len
    have hS := AnyM.slices_Sort_string_none Tryz.sortS A c w
    change Calls Tryz.prog 184 _ _ _ at hS
    refine hS.mono ?_
    rintro e w' ⟨rfl, rfl⟩
    exact ⟨rfl, by simpa [srt] using ho, World.grownBy.refl _ _⟩
  · obtain ⟨g, cap, rfl, hg1⟩ := ho.someR hL
    have hg2 := (ho.lt g rfl).2
    have hS := AnyM.slices_Sort_string Tryz.sortS g 0 cap L w ho.holdsS hg2 (by omega)
    change Calls Tryz.prog 184 _ _ _ at hS
    refine hS.mono ?_
    rintro e w' ⟨rfl, n, os, rfl⟩
    obtain ⟨h1, h2⟩ := orSortedS ho (srt L) (srt_len L) n os
    exact ⟨rfl, h1, h2⟩
end Go.Proofs.YtiaenhlflgobfaaGreatDoor
namespace Go.Proofs.YtiaenhlflgobfaaGreatDoor
open Go.RowKit
mutual
theorem fr_len (B K : List T) : ∀ e : PE, (e.fr B K).length ≤ K.length + (nd e).length
  | .mk k n m i d s => by
    rw [nd_eq, PE.fr]
    have hs := frs_len B K k n m 0 s
    have h1 : (PE.mk k n m i d s).sub = s := rfl
    rw [h1, List.length_cons]
    split
    · split
      · omega
      · unfold addK
        split
        · omega
        · simp
    · omega
theorem frs_len (B K : List T) (k : Int) (n m : T) (i : Nat) : ∀ l : List PE, (frs B k n m i K l).length ≤ K.length + (l.flatMap nd).length
  | [] => by rw [frs_nil]; omega
  | x :: l => by
    rw [frs_cons, List.flatMap_cons, List.length_append]
    have h1 := fr_len (B ++ bnd k n m i) K x
    have h2 := frs_len B (x.fr (B ++ bnd k n m i) K) k n m (i + 1) l
    omega
end
theorem ckE_zero {e : PE} (h : ckE e = 0) : (nd e).length ≤ 400 ∧ ∀ q ∈ nd e, ckN q = 0 := by
  unfold ckE at h
  split at h
  · cases h
  · rename_i h1
    unfold limE at h1
    simp only [Bool.or_eq_true, decide_eq_true_eq, not_or, Nat.not_lt] at h1
    refine ⟨by unfold nd; rw [List.length_map]; exact h1.1, fun q hq => ?_⟩
    unfold nd at hq
    obtain ⟨p, hp, rfl⟩ := List.mem_map.1 hq
    exact fe_zero.1 h _ (List.mem_map.2 ⟨p, hp, rfl⟩)
theorem len_k {w : World} {mb : Nat} {K : List T} (hm : MP tv w mb (fmap K)) (ty : TypeId) : (Builtin.len_ #[188] ty #[.map (some mb)]).run Tryz.prog w = .ok (iv K.length) w := by
  have hb : w.heap[mb]? = some (.map (ens K) K.length) := by
    have h := hm
    unfold MP at h
    rw [show (fmap K).length = K.length by simp [fmap]] at h
    exact h
  simp [Builtin.len_, run_underlying Tryz.underlying188, MapKept.run_getObj_map hb, goInt, Result.andThen, ens, ens_len]
section
variable {w : World} {ops : Array Oper} {rest : List Oper} {o : Oper} {a : Act} {Q : Exit → Act → World → Prop}
theorem wpList_len_k (hg : o.guard = none) (m : Operand) (hop : o.op = Op.call { callee := Callee.builtin Builtin.len, args := #[m], argTypes := #[188] }) {mb : Nat} {K : List T} (hm : a.eval m = .map (some mb)) (hp : MP tv w mb (fmap K))
    (h : wpList Tryz.prog ops Q rest (a.put o.dst (iv K.length)) w) : wpList Tryz.prog ops Q (o :: rest) a w := by
  refine wpList_plain hg fun K' hK' => ?_
  unfold Oper.wp
  simp [execOp, hop, resolve, invoke, builtin, hm, len_k hp o.type, Result.andThen]
  exact hK' _ _ h
end
theorem IT.seen {w : World} {r mb : Nat} {K : List T} {seen : Array Nat} (h : IT w r mb K seen) : w.iterSeen r = seen := by
  obtain ⟨c0, h1, -⟩ := h
  unfold World.iterSeen
  rw [h1]
set_option maxRecDepth 100000 in
set_option maxHeartbeats 4000000 in
attribute [local irreducible] Calls in
theorem free_any (x : Ex) (w : World) (hx : x.Rd w) (h0 : ckE x.er = 0) : Calls Tryz.prog 137 #[x.v] w fun e w' => (∃ Aq n c, e = .returned (.slice Aq n c) ∧ (n = 0 ↔ x.er.fr [] [] = [])) ∧ Gr w w' := by
  have GX := Lib.hid (gr_al w (.cells #[iv x.kind, tv x.name, tv x.more, iv x.int, iv x.den, .slice x.A x.sub.length x.c] 43))
  have CK := Lib.hid (fun V (g : Gr w V) => show Calls Tryz.prog 85 #[x.v] V (fun e w' => e = .returned (iv 0) ∧ Gr V w') from by have h := checkExpr_any x V (hx.gr g); rw [h0] at h; exact h)
  have CB := Lib.hid (fun V (g : Gr (w.alloc (.cells #[iv x.kind, tv x.name, tv x.more, iv x.int, iv x.den, .slice x.A x.sub.length x.c] 43)) V) => ex_box6 x w V g)
  obtain ⟨hn, hv⟩ := ckE_zero h0
  have AF := Lib.hid (fun V mb (g : Gr w V) (hmb : w.heap.size ≤ mb) (hm : MP tv V mb (fmap [])) => addFree_any x w V none 0 [] mb [] hx g hmb hv (by simp; omega) ⟨⟨Nat.le_refl _, by omega, fun _ => rfl, .inl rfl⟩, fun s hs => (by cases hs)⟩ (fun a h => (by cases h)) hm ⟨fun p hp => (by cases hp), List.nodup_nil⟩)
  have FL := Lib.hid (show (x.er.fr [] []).length ≤ 400 from by have h := fr_len [] [] x.er; simp at h; omega)
  clear hx h0 hn hv
  unfold AFE at AF
  generalize x.er.fr [] [] = FK at *
  obtain ⟨c0, c1, c2, c3, c4, c5⟩ := CB.out _ (gr_refl _)
  unfold Ex.v at *
  obtain ⟨W, hW⟩ : ∃ W, w.alloc (.cells #[iv x.kind, tv x.name, tv x.more, iv x.int, iv x.den, .slice x.A x.sub.length x.c] 43) = W := ⟨_, rfl⟩
  rw [hW] at GX CB c0 c1 c2 c3 c4 c5
  have WS := Lib.hid (show W.heap.size = w.heap.size + 1 from by rw [← hW]; simp)
  go_enter Tryz.func137, Tryz.ntmps137
  go_upto_region 3 with (go_at_call 85; refine (CK.out _ GX.out).mono ?_; rintro e w1 ⟨rfl, g1⟩; have G1 := Lib.hid g1; clear g1)
  clear hW c0 c1 c2 c3 c4 c5
  have hmm := @run_makeMap Tryz.prog
  obtain ⟨c0, c1, c2, c3, c4, c5⟩ := CB.out _ (G1.out.trans (gr_al w1 (.map #[] 0)))
  have M1 := Lib.hid (MP.made tv w1)
  have GM := Lib.hid (G1.out.trans (gr_al w1 (.map #[] 0)))
  have L1 := Lib.hid (show w.heap.size ≤ w1.heap.size by have := G1.out.size; have := WS.out; omega)
  have AFF := Lib.hid (AF.out _ _ (GX.out.trans GM.out) L1.out M1.out)
  go_upto_region 5 with (go_at_call 183; refine AFF.out.mono ?_; rintro e w2 ⟨⟨v2, rfl⟩, g2, m2, l2⟩; have G2 := Lib.hid (And.intro g2 m2); clear g2 m2 l2)
  clear hmm c0 c1 c2 c3 c4 c5
  have GG := Lib.hid (show Gr w w2 from grown_new (GX.out.trans GM.out) G2.out.1 (fun k h => by cases h; exact L1.out))
  have M2 := Lib.hid G2.out.2
  have LM := Lib.hid (And.intro L1.out G2.out.2.lt)
  clear G2 AFF GM M1 G1 AF CB CK GX
  generalize w1.heap.size = mb at *
  obtain ⟨i0, hi, hz0, hz1, hz2⟩ := info_parts (P := Tryz.prog) (e := 9) (z := .string ⟨#[]⟩) (size := 1) (bytes := 16) (by kernel_rfl)
  have HI := Lib.hid (And.intro hi (And.intro hz0 (And.intro hz1 hz2)))
  clear hi hz0 hz1 hz2 L1 WS
  go_upto_region 6 with (first
    | (at_len; refine wpList_len_k rfl (.tmp 13) rfl rfl M2.out ?_)
    | (at_make; refine wpList_make_own _ rfl _ _ _ rfl w2.heap.size 9 i0 (.string ⟨#[]⟩) 1 Tryz.underlying37 HI.out.1 HI.out.2.1 HI.out.2.2.1 .i64 .i64 _ FK.length rfl rfl rfl (by have := FL.out; rw [HI.out.2.2.2]; omega) (by have := FL.out; unfold maxLen; omega) (Nat.le_refl _) ?_; intro w3 o3 g3; have O3 := Lib.hid (show OR 9 1 scs w3 w2.heap.size (.slice (some ⟨w2.heap.size, 0, none⟩) 0 FK.length) ([] : List T) from o3); have G3 := Lib.hid (show Gr w2 w3 from g3); clear o3 g3))
  go_wp2_with (at_range; refine wpList_range_k rfl (.tmp 16) 188 rfl 9 4 Tryz.underlying188 (mb := mb) (K := FK) rfl (show MP tv w3 mb (fmap FK) from gr_h G3.out M2.out) ?_; intro w4 i4 g4 s4; have I4 := Lib.hid i4; have G4 := Lib.hid g4; have S4 := Lib.hid s4; clear i4 g4 s4; go_frame)
  have MW := Lib.hid (show MP tv w4 mb (fmap FK) from gr_h G4.out (gr_h G3.out M2.out))
  have O4 := Lib.hid (O3.out.gr G4.out)
  have GW := Lib.hid ((GG.out.trans G3.out).trans G4.out)
  have LR := Lib.hid (show w2.heap.size < w3.heap.size ∧ mb < w2.heap.size ∧ w.heap.size ≤ mb from ⟨(O3.out.lt _ rfl).2, LM.out.2, LM.out.1⟩)
  generalize w3.heap.size = r at *
  generalize w2.heap.size = B0 at *
  clear O3 G3 G4 S4 GG M2 LM
  go_loopw [4, 5] (fun l _ V => ∃ (Aq : Option Addr) (n c : Nat), l = .slice Aq n c ∧ Hid (∃ L : List T, L.length = n ∧ OR 9 1 scs V B0 (.slice Aq n c) L ∧ Gr w V ∧ MP tv V mb (fmap FK) ∧ IT V r mb FK (V.iterSeen r) ∧ n + lef FK (V.iterSeen r) ≤ FK.length ∧ (n = 0 → lef FK (V.iterSeen r) = FK.length) ∧ r < V.heap.size ∧ ∀ q, (Value.slice Aq n c).ownBlock = some q → q ≠ r)) (fun _ _ V => lef FK (V.iterSeen r))
  case atStart =>
    refine ⟨_, _, _, rfl, Lib.hid ⟨[], rfl, O4.out, GW.out, MW.out, by rw [I4.out.seen]; exact I4.out, ?_, ?_, I4.out.lt, ?_⟩⟩
    · rw [I4.out.seen, lef_none]; omega
    · intro _; rw [I4.out.seen, lef_none]
    · intro q hq
      have := LR.out.1
      have hq := Option.some.inj hq
      dsimp only at hq
      omega
  case round =>
    obtain ⟨Aq, n, c, rfl, HL⟩ := hrel
    obtain ⟨L, hl, ho, hg, hm, hi, hle, h0, hr, hq⟩ := HL.out
    have NE := Lib.hid (show r ≠ mb by have := LR.out; omega)
    have OX := Lib.hid ho
    have GR := Lib.hid hg
    have MX := Lib.hid hm
    have IX := Lib.hid hi
    have LX := Lib.hid (And.intro hl (And.intro hle h0))
    have QX := Lib.hid (And.intro hr hq)
    clear HL ho hg hm hi hle h0 hr hq hl
    go_wp2_with (at_next; refine wpList_next_k rfl (.tmp 17) rfl rfl IX.out MX.out NE.out ?_ ?_)
    · intro hd
      have HD := Lib.hid hd
      clear hd
      have SO := Lib.hid (sortS_any OX.out (by have := LX.out; have := FL.out; omega))
      go_wp2_with (go_at_call 184; refine SO.out.mono ?_; rintro e w7 ⟨rfl, o7, g7⟩; have O7 := Lib.hid o7; have G7 := Lib.hid (show Gr w w7 from OR.grow GR.out OX.out (by have := LR.out; omega) g7); clear o7 g7)
      all_goals go_wp2
      all_goals (first | go_end0 | refine bodyPost_ret (results_none rfl _ _ _) rfl ?_ | go_ret)
      all_goals exact ⟨⟨_, _, _, rfl, by
        obtain ⟨-, h2, h3⟩ := LX.out
        have h4 := HD.out
        constructor
        · intro e
          have := h3 e
          exact List.eq_nil_of_length_eq_zero (by omega)
        · intro e
          rw [e] at h2
          simp at h2
          omega⟩, G7.out⟩
    · intro s hs b w5 i5 l5 g5 z5 e5
      have I5 := Lib.hid i5
      have M5 := Lib.hid (show MP tv w5 mb (fmap FK) from MX.out.keep (g5.block mb MX.out.lt (fun e => NE.out (Option.some.inj e).symm)))
      have O5 := Lib.hid (show OR 9 1 scs w5 B0 (.slice Aq n c) L from OX.out.kept g5 (by
        cases hv : (Value.slice Aq n c).ownBlock with
        | none => exact .inl rfl
        | some q => exact .inr (fun e => QX.out.2 q hv (Option.some.inj e))))
      have G5 := Lib.hid (show Gr w w5 from grown_new GR.out g5 (fun k hk => by cases hk; have := LR.out; omega))
      have L5 := Lib.hid l5
      have Z5 := Lib.hid (show r < w5.heap.size by rw [z5]; exact QX.out.1)
      clear i5 l5 g5 z5 hs
      go_wp2_with (at_builtin; refine wpList_app elS rfl (.tmp 22) (.tmp 24) rfl B0 (v := .slice Aq n c) (L := L) rfl (by first | exact O5.out | exact O5.out.alloc _) (A := some ⟨_, 0, none⟩) (M := [s]) (m := 1) (c := 1) rfl rfl (rd_cells (t := 9) elS.hn (al_new _ _)) (by have := LX.out; have := FL.out; simp; omega) (by have := Z5.out; have := LR.out; simp; omega) ?_; intro v7 w7 o7 g7 b7; have O7 := Lib.hid o7; have G7 := Lib.hid g7; have B7 := Lib.hid b7; clear o7 g7 b7)
      all_goals go_wp2
      have OA := O5.out.alloc (.cells #[tv s] 9)
      have hb := OA.lt
      have M6 : MP tv (w5.alloc (.cells #[tv s] 9)) mb (fmap FK) := gr_h (gr_al _ _) M5.out
      have M7 : MP tv w7 mb (fmap FK) := M6.keep (G7.out.block mb M6.lt (fun e => by have := (hb mb e.symm).1; have := LR.out; omega))
      have I6 : IT (w5.alloc (.cells #[tv s] 9)) r mb FK ((wr.iterSeen r).push b) := by
        obtain ⟨c0, h1, h2⟩ := I5.out
        exact ⟨c0, gr_h (gr_al _ _) h1, h2⟩
      have I7 : IT w7 r mb FK ((wr.iterSeen r).push b) := I6.keep (G7.out.block r I6.lt (fun e => QX.out.2 r e.symm rfl))
      have G8 : Gr w w7 := OR.grow (G5.out.trans (gr_al _ _)) OA (by have := LR.out; omega) G7.out
      obtain ⟨A', c', ev, -⟩ := O7.out.form scs_len
      obtain ⟨x1, x2, x3⟩ := LX.out
      have x4 := L5.out
      have x5 : (L ++ [s]).length = n + 1 := by simp [x1]
      rw [x5] at ev
      refine ⟨⟨A', n + 1, c', ev, Lib.hid ⟨L ++ [s], x5, by rw [← ev]; exact O7.out, G8, M7, by rw [I7.seen]; exact I7, by rw [I7.seen]; omega, fun h => by omega, I7.lt, fun q hq => ?_⟩⟩, by rw [I7.seen]; exact x4⟩
      rw [← ev] at hq
      rcases B7.out with h | h
      · exact QX.out.2 q (h.symm.trans hq)
      · have h2 := Option.some.inj (h.symm.trans hq)
        have h3 : (w5.alloc (.cells #[tv s] 9)).heap.size = w5.heap.size + 1 := by simp
        have := Z5.out
        omega
end Go.Proofs.YtiaenhlflgobfaaGreatDoor

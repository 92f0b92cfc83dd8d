/- Words: Link of the reference. -/
import Derived.Test.YtgboboljgcfggaaDoorBlo
import Derived.Test.YtgboboljgcfggaaDoorM7
namespace Go.Proofs.YtgboboljgcfggaaDoor
open Go.RowKit Go.Maps
attribute [local go_sem] Oper.semAt_some

theorem results_pt {fn : Func} {p q : Tmp} (h : fn.results = #[.cell p 29, .tmp q]) (tmps : Array Value) (w : World) (a : Addr) (x y u : Value) (hp : tmps.getD p undef = .pointer (some a)) (hq : tmps.getD q undef = u) (h0 : w.cell? a = some x) (h1 : w.cell? ⟨a.block, a.off + 1, none⟩ = some y) : (results fn tmps).run Tryd.prog w = .ok (.tuple #[.agg #[x, y], u]) w := by
  have ha := Tryd.isAgg29
  have hz := Tryd.sizeOf29
  have hp' : tmps[p]?.getD undef = .pointer (some a) := by simpa using hp
  have hq' : tmps[q]?.getD undef = u := by simpa using hq
  clear hp hq
  simp only [results, h]
  simp [Sem.run_bind, hp', hq', asAddr, go_sem, ha, hz, loadVar, h0, h1]
theorem startsOf_congr {b b' : T × Int → Int} {r : List (T × Int)} (h : ∀ n ∈ r, b n = b' n) : startsOf b r = startsOf b' r := by
  have key : ∀ (r : List (T × Int)) (l : List Stt), (∀ n ∈ r, b n = b' n) → r.foldl (fun l n => insS l (stOf b n)) l = r.foldl (fun l n => insS l (stOf b' n)) l := by
    intro r
    induction r with
    | nil => intro l _; rfl
    | cons n r ih =>
      intro l h
      simp only [List.foldl_cons]
      rw [show stOf b n = stOf b' n from by unfold stOf; rw [h n (by simp)]]
      exact ih _ (fun m hm => h m (by simp [hm]))
  exact key r [] h
theorem rootN_app {L : List Cod} {K e : List Sp} {n : T × Int} {s : Sp} (h : findC (pls L) 0 n.1 n.2 = some s) (hs : s ∈ K) : rootN L (K ++ e) n = rootN L K n := by
  unfold rootN
  rw [h]
  simp only
  rw [List.idxOf_append, if_pos hs]
theorem rootN_of {L : List Cod} {K : List Sp} {n : T × Int} {s : Sp} (h : findC (pls L) 0 n.1 n.2 = some s) : rootN L K n = K.idxOf s := by
  unfold rootN
  rw [h]
theorem startsOf_snoc (b : T × Int → Int) (r : List (T × Int)) (n : T × Int) : startsOf b (r ++ [n]) = insS (startsOf b r) (stOf b n) := by
  unfold startsOf
  rw [List.foldl_append]
  rfl
/-- The starts while the roots get numbers. -/
theorem starts_step {L : List Cod} {R : List Nam} {K : List Sp} {i : Nat} {n : Nam} {s : Sp} (hr : rootsK (pls L) [] ((R.take i).map Nam.pr) = some K) (hn : R[i]? = some n) (hf : findC (pls L) 0 n.pack n.id = some s) :
    rootsK (pls L) [] ((R.take (i + 1)).map Nam.pr) = some (addS K s) ∧ insS (startsOf (rootN L K) ((R.take i).map Nam.pr)) ⟨n.pack, n.id, (addS K s).idxOf s⟩ = startsOf (rootN L (addS K s)) ((R.take (i + 1)).map Nam.pr) := by
  have e : (R.take (i + 1)).map Nam.pr = (R.take i).map Nam.pr ++ [n.pr] := by rw [List.take_add_one, hn, List.map_append]; rfl
  obtain ⟨q1, -, -⟩ := rootsK_mem _ _ _ hr
  obtain ⟨x, hx⟩ := addS_pre K s
  refine ⟨?_, ?_⟩
  · rw [e, rootsK_snoc, hr]
    simp only [Option.bind_some]
    rw [show findC (pls L) 0 n.pr.1 n.pr.2 = some s from hf]
    rfl
  · rw [e, startsOf_snoc]
    have h1 : stOf (rootN L (addS K s)) n.pr = ⟨n.pack, n.id, (addS K s).idxOf s⟩ := by
      unfold stOf
      rw [rootN_of (show findC (pls L) 0 n.pr.1 n.pr.2 = some s from hf)]
      rfl
    rw [h1]
    congr 1
    refine startsOf_congr fun m hm => ?_
    obtain ⟨t, h2, h3⟩ := q1 m hm
    rw [hx]
    exact (rootN_app h2 h3).symm
theorem starts_fin {L : List Cod} {R : List Nam} {K e : List Sp} (hr : rootsK (pls L) [] (R.map Nam.pr) = some K) : startsOf (rootN L K) (R.map Nam.pr) = startsOf (rootN L (K ++ e)) (R.map Nam.pr) := by
  obtain ⟨q1, -, -⟩ := rootsK_mem _ _ _ hr
  refine startsOf_congr fun m hm => ?_
  obtain ⟨t, h2, h3⟩ := q1 m hm
  exact (rootN_app h2 h3).symm
/-- What Link answers, by its four ways. -/
theorem linkV_codes {L : List Cod} {R : List Nam} (h : errL L ≠ 0) : linkV L R = (errL L, [], []) := by unfold linkV; rw [if_pos h]
theorem linkV_root {L : List Cod} {R : List Nam} (h : errL L = 0) {n : Nam} (hn : n ∈ R) (hf : findC (pls L) 0 n.pack n.id = none) : linkV L R = (8, [], []) := by
  unfold linkV
  rw [if_neg (by simpa using h), rootsK_none (pls L) (n.pack, n.id) hf _ _ (List.mem_map.2 ⟨n, hn, rfl⟩)]
theorem linkV_ref {L : List Cod} {R : List Nam} {K0 : List Sp} (h : errL L = 0) (hr : rootsK (pls L) [] (R.map Nam.pr) = some K0) (hb : bfs (pls L) (fuelL L) 0 K0 = some none) : linkV L R = (21, [], []) := by
  unfold linkV
  rw [if_neg (by simpa using h), hr]
  simp only [hb]
theorem linkV_end {L : List Cod} {R : List Nam} {K0 K : List Sp} (h : errL L = 0) (hr : rootsK (pls L) [] (R.map Nam.pr) = some K0) (hb : bfs (pls L) (fuelL L) 0 K0 = some (some K)) {q : Int} (hq : errQ (progB (pls L) K) (startsOf (rootN L K) (R.map Nam.pr)) = q) : linkV L R = if q ≠ 0 then (q, [], []) else (0, progB (pls L) K, startsOf (rootN L K) (R.map Nam.pr)) := by
  unfold linkV
  rw [if_neg (by simpa using h), hr]
  simp only [hb, hq]
/-- What ref Link leaves. -/
def RlP (L : List Cod) (R : List Nam) (w : World) (e : Ending) (w' : World) : Prop := ∃ X : Prg, e = .returned (.tuple #[X.v, iv (linkV L R).1]) ∧ X.Rd w' ∧ X.bs.map Blk.pb = (linkV L R).2.1 ∧ X.ss = (linkV L R).2.2 ∧ Gr w w'
theorem rlP_err {L : List Cod} {R : List Nam} {w w' : World} {q : Int} (h : linkV L R = (q, [], [])) (g : Gr w w') : RlP L R w (.returned (.tuple #[.agg #[.slice none 0 0, .slice none 0 0], iv q])) w' :=
  ⟨nilX, by rw [h]; rfl, nilX_rd w', by rw [h]; rfl, by rw [h]; rfl, g⟩
/-- While the roots get numbers. -/
structure RlS (w : World) (b8 : Nat) (As : Option Addr) (cs : Nat) (ss : List Stt) (A7 : Option Addr) (K : List Sp) (W : World) : Prop where
  gr : Gr w W
  p4 : W.heap[w.heap.size]? = some (.cells #[.slice none 0 0, .slice none 0 0] 29 (0, 0))
  p8 : W.heap[b8]? = some (.cells #[.slice none 0 0, .slice As ss.length cs] 29 (0, 0))
  s : RD 3 Stt.cs W As ss
  c : ss.length ≤ cs ∧ cs ≤ 9223372036854775807 ∧ (As = none → cs = 0)
  r : RD 2 Sp.cs W A7 K
theorem isSl_cells {W : World} {k : Nat} {A1 A2 : Option Addr} {n1 n2 c1 c2 : Nat} {t : TypeId} (h : W.heap[k]? = some (.cells #[.slice A1 n1 c1, .slice A2 n2 c2] t (0, 0))) : ∀ a : Addr, a.block = k → ∀ v, W.cell? a = some v → isSl v := cells_of h (fun i v hv => by
  rcases i with _ | _ | i
  · simp at hv; subst hv; exact ⟨_, _, _, rfl⟩
  · simp at hv; subst hv; exact ⟨_, _, _, rfl⟩
  · simp at hv)
theorem not_isSl_iv (n : Int) : ¬ isSl (iv n) := fun ⟨_, _, _, e⟩ => by cases e
section
variable {w W W' W1 : World} {b8 cs cs' : Nat} {As As' A7 A7' : Option Addr} {ss ss' : List Stt} {K K' : List Sp}
theorem RlS.go (h : RlS w b8 As cs ss A7 K W) (g : Gr W W') : RlS w b8 As cs ss A7 K W' := ⟨h.gr.trans g, gr_h g h.p4, gr_h g h.p8, h.s.gr g, h.c, h.r.gr g⟩
theorem RlS.num (h : RlS w b8 As cs ss A7 K W) (g : Gr W W') (r' : RD 2 Sp.cs W' A7' K') : RlS w b8 As cs ss A7' K' W' := ⟨h.gr.trans g, gr_h g h.p4, gr_h g h.p8, h.s.gr g, h.c, r'⟩
theorem RlS.start (h : RlS w b8 As cs ss A7 K W) (hb : w.heap.size < b8) (g : Gr W W') (r' : RD 3 Stt.cs W' As' ss') (c' : ss'.length ≤ cs' ∧ cs' ≤ 9223372036854775807 ∧ (As' = none → cs' = 0)) : RlS w b8 As' cs' ss' A7 K (W'.setCell ⟨b8, 1, none⟩ (.slice As' ss'.length cs')) := by
  have h' := h.go g
  have gs := grown_set (w := W') b8 1 (.slice As' ss'.length cs')
  refine ⟨gr_own h'.gr (by omega) gs, (Below.heap_setCell _ _ _ _ (by show w.heap.size ≠ b8; omega)).trans h'.p4, ?_, ?_, c', ?_⟩
  · have h1 := h'.p8
    simp [World.setCell, Array.getElem?_modify, h1]
  · exact rd_put isSl r' (isSl_cells h'.p8) (fun x => ⟨1, iv x.id, rfl, not_isSl_iv _⟩) gs
  · exact rd_put isSl h'.r (isSl_cells h'.p8) (fun x => ⟨1, iv x.block, rfl, not_isSl_iv _⟩) gs
end
/-- While the blocks are put together. -/
structure R2S (w : World) (b8 B : Nat) (v0 : Value) (done : List Blk) (As : Option Addr) (cs : Nat) (ss : List Stt) (A7 : Option Addr) (K : List Sp) (W : World) : Prop where
  gr : Gr w W
  p4 : W.heap[w.heap.size]? = some (.cells #[.slice none 0 0, .slice none 0 0] 29 (0, 0))
  p8 : W.heap[b8]? = some (.cells #[v0, .slice As ss.length cs] 29 (0, 0))
  o : OR 61 3 Blk.cs W B v0 done
  ins : ∀ b ∈ done, RD 4 Ins.cs W b.A b.ins ∧ ∀ a, b.A = some a → B ≤ a.block ∧ a.block < W.heap.size ∧ some a.block ≠ v0.ownBlock
  s : RD 3 Stt.cs W As ss
  sl : ss ≠ [] → ∀ a, As = some a → a.block < B ∧ a.block ≠ b8
  r : RD 2 Sp.cs W A7 K
  rl : K ≠ [] → ∀ a, A7 = some a → a.block < W.heap.size ∧ some a.block ≠ v0.ownBlock ∧ a.block ≠ b8
  hB : w.heap.size < b8 ∧ b8 < B ∧ B ≤ W.heap.size
theorem rd_lt {α : Type} {n : Nat} {cs : α → List Value} {W : World} {A : Option Addr} {L : List α} (h : RD n cs W A L) (hL : L ≠ []) : ∀ a, A = some a → a.block < W.heap.size := fun a ha => by
  rcases h with h | ⟨a', e, hb, -⟩
  · exact absurd h hL
  · rw [ha] at e; cases e; exact hb
theorem rd_ne {α : Type} {n k : Nat} {cs : α → List Value} {W : World} {A : Option Addr} {L : List α} (P : Value → Prop) (h : RD n cs W A L) (hL : L ≠ []) (hk : ∀ a : Addr, a.block = k → ∀ v, W.cell? a = some v → P v) (hx : ∀ x, ∃ (i : Nat) (v : Value), (cs x)[i]? = some v ∧ ¬ P v) : ∀ a, A = some a → a.block ≠ k := fun a ha e => by
  rcases h with h | ⟨a', e', hb, hc⟩
  · exact hL h
  · rw [ha] at e'
    cases e'
    obtain ⟨x, hx0⟩ : ∃ x, L[0]? = some x := by
      cases L with
      | nil => exact absurd rfl hL
      | cons x L => exact ⟨x, rfl⟩
    obtain ⟨i, v, hi, hp⟩ := hx x
    exact hp (hk _ (by rw [add_block]; exact e) v (hc 0 x hx0 i v hi))
section
variable {w W W' W1 V : World} {b8 B cs : Nat} {v0 v' : Value} {done : List Blk} {As A7 A7' : Option Addr} {ss : List Stt} {K K' : List Sp}
theorem RlS.two (h : RlS w b8 As cs ss A7 K W) (hb : w.heap.size < b8) : R2S w b8 W.heap.size (.slice none 0 0) [] As cs ss A7 K W :=
  ⟨h.gr, h.p4, h.p8, OR.nil, (fun b hb => by cases hb), h.s, fun hs a ha => ⟨rd_lt h.s hs a ha, rd_ne isSl h.s hs (isSl_cells h.p8) (fun x => ⟨1, iv x.id, rfl, not_isSl_iv _⟩) a ha⟩, h.r, fun hk a ha => ⟨rd_lt h.r hk a ha, (fun e => by cases e), rd_ne isSl h.r hk (isSl_cells h.p8) (fun x => ⟨1, iv x.block, rfl, not_isSl_iv _⟩) a ha⟩, hb, heap_lt h.p8, Nat.le_refl _⟩
theorem R2S.go (h : R2S w b8 B v0 done As cs ss A7 K W) (g : Gr W W') : R2S w b8 B v0 done As cs ss A7 K W' :=
  ⟨h.gr.trans g, gr_h g h.p4, gr_h g h.p8, h.o.gr g, fun b hb => ⟨(h.ins b hb).1.gr g, fun a ha => ⟨((h.ins b hb).2 a ha).1, Nat.lt_of_lt_of_le ((h.ins b hb).2 a ha).2.1 g.size, ((h.ins b hb).2 a ha).2.2⟩⟩, h.s.gr g, h.sl, h.r.gr g, fun hk a ha => ⟨Nat.lt_of_lt_of_le (h.rl hk a ha).1 g.size, (h.rl hk a ha).2⟩, h.hB.1, h.hB.2.1, Nat.le_trans h.hB.2.2 g.size⟩
theorem R2S.num (h : R2S w b8 B v0 done As cs ss A7 K W) (g : Gr W W') (r' : RD 2 Sp.cs W' A7' K') (hn : A7' = A7 ∨ ∀ a, A7' = some a → W.heap.size ≤ a.block) (hk0 : K ≠ []) : R2S w b8 B v0 done As cs ss A7' K' W' := by
  have h' := h.go g
  refine ⟨h'.gr, h'.p4, h'.p8, h'.o, h'.ins, h'.s, h'.sl, r', fun hk a ha => ?_, h'.hB⟩
  rcases hn with rfl | hn
  · exact h'.rl hk0 a ha
  · have h1 := hn a ha
    have h2 := heap_lt h.p8
    exact ⟨rd_lt r' hk a ha, fun e => by have := (h.o.lt _ e.symm).2; omega, by omega⟩
/-- A block more; it is stored. -/
theorem R2S.put (h : R2S w b8 B v0 done As cs ss A7 K W) {b : Blk} (o' : OR 61 3 Blk.cs W' B v' (done ++ [b])) (g' : W.grownBy W' v0.ownBlock) (hv : v'.ownBlock = v0.ownBlock ∨ v'.ownBlock = some W.heap.size)
    (hb : RD 4 Ins.cs W b.A b.ins) (ha : ∀ a, b.A = some a → B ≤ a.block ∧ a.block < W.heap.size ∧ some a.block ≠ v0.ownBlock) : R2S w b8 B v' (done ++ [b]) As cs ss A7 K (W'.setCell ⟨b8, 0, none⟩ v') := by
  obtain ⟨q1, q2, q3⟩ := h.hB
  have own : ∀ j, v0.ownBlock = some j → B ≤ j := fun j hj => (h.o.lt j hj).1
  have st : ∀ j, j < B → W'.heap[j]? = W.heap[j]? := fun j hj => g'.block j (by omega) (fun e => by have := own j e.symm; omega)
  have sz : W.heap.size ≤ (W'.setCell ⟨b8, 0, none⟩ v').heap.size := by have := g'.size; simpa [World.setCell] using this
  have gs := grown_set (w := W') b8 0 v'
  have rdk : ∀ (A : Option Addr) (M : List Ins), RD 4 Ins.cs W A M → (∀ a, A = some a → B ≤ a.block ∧ some a.block ≠ v0.ownBlock) → RD 4 Ins.cs (W'.setCell ⟨b8, 0, none⟩ v') A M := fun A M hR hA =>
    (hR.but g' (fun a e => (hA a e).2)).but gs (fun a e e2 => by have := (hA a e).1; have := Option.some.inj e2; omega)
  have nov : ∀ a : Addr, a.block < W.heap.size → some a.block ≠ v0.ownBlock → some a.block ≠ v'.ownBlock := fun a h1 h2 e => by
    rcases hv with h3 | h3
    · exact h2 (e.trans h3)
    · have := Option.some.inj (e.trans h3); omega
  refine ⟨⟨g'.os.trans h.gr.os, g'.tape.trans h.gr.tape, g'.output.trans h.gr.output, Nat.le_trans h.gr.size sz, fun j hj hn => ?_⟩, ?_, ?_, ?_, fun x hx => ?_, ?_, h.sl, ?_, fun hk a e => ?_, q1, q2, by omega⟩
  · have hjw := h.gr.size
    exact (Below.heap_setCell _ _ _ _ (by show j ≠ b8; omega)).trans ((st j (by omega)).trans (h.gr.block j hj hn))
  · exact (Below.heap_setCell _ _ _ _ (by show w.heap.size ≠ b8; omega)).trans ((st _ (by omega)).trans h.p4)
  · have h1 := (st _ q2).trans h.p8
    simp [World.setCell, Array.getElem?_modify, h1]
  · refine o'.kept gs ?_
    cases hq : v'.ownBlock with
    | none => exact .inl rfl
    | some j => right; intro e; cases e; have := (o'.lt _ hq).1; omega
  · rcases List.mem_append.1 hx with hx | hx
    · obtain ⟨h1, h2⟩ := h.ins x hx
      exact ⟨rdk _ _ h1 (fun a e => ⟨(h2 a e).1, (h2 a e).2.2⟩), fun a e => ⟨(h2 a e).1, Nat.lt_of_lt_of_le (h2 a e).2.1 sz, nov a (h2 a e).2.1 (h2 a e).2.2⟩⟩
    · simp at hx
      subst hx
      exact ⟨rdk _ _ hb (fun a e => ⟨(ha a e).1, (ha a e).2.2⟩), fun a e => ⟨(ha a e).1, Nat.lt_of_lt_of_le (ha a e).2.1 sz, nov a (ha a e).2.1 (ha a e).2.2⟩⟩
  · by_cases hs : ss = []
    · exact .inl hs
    · exact (h.s.but g' (fun a e e2 => by have := own _ e2.symm; have := (h.sl hs a e).1; omega)).but gs (fun a e e2 => (h.sl hs a e).2 (Option.some.inj e2))
  · by_cases hk : K = []
    · exact .inl hk
    · exact (h.r.but g' (fun a e e2 => (h.rl hk a e).2.1 e2)).but gs (fun a e e2 => (h.rl hk a e).2.2 (Option.some.inj e2))
  · have h1 := h.rl hk a e
    exact ⟨Nat.lt_of_lt_of_le h1.1 sz, nov a h1.1 h1.2.1, h1.2.2⟩
theorem R2S.rd {n : Nat} (h : R2S w b8 B (.slice A7' done.length n) done As cs ss A7 K W) : (⟨A7', n, done, As, cs, ss⟩ : Prg).Rd W := by
  obtain ⟨A, c, e, hr⟩ := h.o.form elB.hn
  cases e
  exact ⟨hr, fun b hb => (h.ins b hb).1, h.s⟩
end
/-- The blocks that are put together, as the program has them. -/
structure Rb2 (L : List Cod) (K0 : List Sp) (i : Nat) (K : List Sp) (done : List Blk) : Prop where
  kn : Kn (pls L) K
  p : ∃ e, K = K0 ++ e
  le : i ≤ K.length
  e : done.map Blk.pb = (K.take i).map (blkP (pls L) K)
  c : ∀ s ∈ K.take i, ∀ x ∈ (blkAt (pls L) s).ins, ∀ t, tgt (pls L) s x = some (some t) → t ∈ K
  b : bfs (pls L) (fuelL L) 0 K0 = bfs (pls L) (fuelL L - i) i K
theorem Rb2.nil {L : List Cod} {K0 : List Sp} (h : Kn (pls L) K0) : Rb2 L K0 0 K0 [] := ⟨h, ⟨[], by simp⟩, Nat.zero_le _, rfl, (fun s hs => by simp at hs), rfl⟩
theorem Rb2.lt {L : List Cod} {K0 K : List Sp} {i : Nat} {done : List Blk} (h : Rb2 L K0 i K done) : i < fuelL L := by
  have h1 := h.le
  have h2 := h.kn.len
  unfold fuelL
  omega
theorem Rb2.step {L : List Cod} {K0 K K' : List Sp} {i : Nat} {done : List Blk} {s : Sp} {b : Blk} (h : Rb2 L K0 i K done) (cs : CsOk (pls L)) (hs : K[i]? = some s) (ha : addAll K ((blkAt (pls L) s).ins.filterMap (tgt (pls L) s)) = some K') (hb : b.pb = ⟨(blkAt (pls L) s).cap, (blkAt (pls L) s).param, (blkAt (pls L) s).ins.map (relab (pls L) K' s)⟩) : Rb2 L K0 (i + 1) K' (done ++ [b]) := by
  obtain ⟨e, he⟩ := addAll_pre _ _ _ ha
  obtain ⟨e0, he0⟩ := h.p
  have hi := (List.getElem?_eq_some_iff.1 hs).1
  have ht : K'.take (i + 1) = K.take i ++ [s] := by
    rw [he, List.take_append_of_le_length (by omega), List.take_add_one, hs]
    rfl
  have hlt := h.lt
  refine ⟨h.kn.step cs (List.mem_of_getElem? hs) ha, ⟨e0 ++ e, by rw [he, he0, List.append_assoc]⟩, by rw [he, List.length_append]; omega, ?_, ?_, ?_⟩
  · rw [ht, List.map_append, List.map_append, h.e]
    congr 1
    · refine List.map_congr_left fun t htm => ?_
      unfold blkP
      congr 1
      refine List.map_congr_left fun x hx => ?_
      rw [he]
      exact (relab_app (fun u hu => h.c t htm x hx u hu)).symm
    · simp [hb, blkP]
  · intro t htm x hx u hu
    rw [ht] at htm
    rcases List.mem_append.1 htm with h1 | h1
    · rw [he, List.mem_append]
      exact .inl (h.c t h1 x hx u hu)
    · simp at h1
      subst h1
      exact ((addAll_mem _ _ _ ha).1 u).2 (.inr (List.mem_filterMap.2 ⟨x, hx, hu⟩))
  · rw [h.b, show fuelL L - i = (fuelL L - (i + 1)) + 1 from by omega]
    exact bfs_step hs ha
theorem Rb2.bad {L : List Cod} {K0 K : List Sp} {i : Nat} {done : List Blk} {s : Sp} (h : Rb2 L K0 i K done) (hs : K[i]? = some s) (ha : addAll K ((blkAt (pls L) s).ins.filterMap (tgt (pls L) s)) = none) : bfs (pls L) (fuelL L) 0 K0 = some none := by
  have hlt := h.lt
  rw [h.b, show fuelL L - i = (fuelL L - (i + 1)) + 1 from by omega]
  exact bfs_bad hs ha
theorem Rb2.fin {L : List Cod} {K0 K : List Sp} {i : Nat} {done : List Blk} (h : Rb2 L K0 i K done) (hi : K.length = i) : bfs (pls L) (fuelL L) 0 K0 = some (some K) ∧ done.map Blk.pb = progB (pls L) K := by
  have hlt := h.lt
  refine ⟨?_, ?_⟩
  · rw [h.b, show fuelL L - i = (fuelL L - (i + 1)) + 1 from by omega]
    exact bfs_end (List.getElem?_eq_none (by omega))
  · have h1 := h.e
    rw [List.take_of_length_le (by omega)] at h1
    exact h1
end Go.Proofs.YtgboboljgcfggaaDoor

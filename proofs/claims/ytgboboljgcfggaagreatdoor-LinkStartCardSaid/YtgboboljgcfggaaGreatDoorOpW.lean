/- A program that came in, and what its rows weigh. -/
import Derived.Test.YtgboboljgcfggaaGreatDoorM7
namespace Go.Proofs.YtgboboljgcfggaaGreatDoor
open Go.ChangeShapes Go.WideShapes Go.ChangeAt Go.RowKit Go.Joins Go.Deep

section
variable {H : Type} {enc : TypeId × Value → H} {P : Program} {W : World} {base : Nat} {spare : Nat → Bool} {held : Bool}
/-- A slice of records that came in, with what its reading holds. -/
theorem open_recs_w {α : Type} [Inhabited α] {t e : TypeId} {n : Nat} {cs : α → List Value} {ok : α → DataW H → Prop} (ht : P.underlying t = some (.slice e)) (hn : P.cellsOf e = n) (h0 : 0 < n)
    (hr : ∀ (k : Nat) (vs : List Value) (y : DataW H × List MemPlace), DataW.trod enc P W base spare held k e vs = some y → vs.length = n → ∃ x : α, vs = cs x ∧ ok x y.1)
    {fuel : Nat} {v : Value} {x : DataW H × List MemPlace} (h : DataW.trod enc P W base spare held fuel t [v] = some x) :
    ∃ (A : Option Addr) (c : Nat) (L : List α), v = .slice A L.length c ∧ L.length ≤ 9223372036854775807 ∧ RD n cs W A L ∧ ((L = [] ∧ x.1 = .nil) ∨ ∃ es sp, x.1 = .slice es sp ∧ L.length = es.length ∧ ∀ z ∈ L, ∃ y ∈ es, ok z y) := by
  rcases open_slice ht h with ⟨e1, e2⟩ | ⟨a, len, cap, m, k, D, Pl, e1, hb, hl, hm, hmm, ex, hx⟩
  · have e1 : v = .slice none 0 0 := by simpa using e1
    exact ⟨none, 0, [], e1, by simp, .inl rfl, .inl ⟨rfl, by rw [e2]⟩⟩
  · have e1 : v = .slice (some a) len cap := by simpa using e1
    have hlm : len ≤ m := by rw [hmm]; split <;> omega
    have hm' : cap ≤ 9223372036854775807 := by unfold maxLen at hm; omega
    rw [hn] at hx
    obtain ⟨X, hX⟩ := choose_lt (α := α) (n := m) (p := fun i x => (∀ j v, (cs x)[j]? = some v → W.cell? (a.add (i * n + j)) = some v) ∧ (cs x).length = n ∧ ok x (D i)) (fun i hi => by
      obtain ⟨cs', h1, h2⟩ := hx i hi
      obtain ⟨_, hlen, hcell⟩ := World.cells?_some h1
      obtain ⟨x, rfl, hok⟩ := hr k cs' _ h2 hlen
      refine ⟨x, fun j v hj => ?_, hlen, hok⟩
      have hjn : j < n := by
        rcases Nat.lt_or_ge j n with h' | h'
        · exact h'
        · rw [List.getElem?_eq_none (by omega)] at hj; cases hj
      rw [← add_add', hcell j hjn]
      exact hj)
    refine ⟨some a, cap, (List.range len).map X, by simpa using e1, by simp; omega, ?_, .inr ⟨_, _, by rw [ex], by simp, fun z hz => ?_⟩⟩
    · rcases Nat.eq_zero_or_pos len with h9 | h9
      · left; subst h9; simp
      · refine .inr ⟨a, rfl, ?_, fun j y hj i v hi => ?_⟩
        · obtain ⟨h1, h2, _⟩ := hX 0 (by omega)
          have h3 := h1 0 _ (List.getElem?_eq_getElem (by omega))
          have := World.block_lt_of_cell? W _ h3
          rwa [add_block] at this
        · rw [List.getElem?_map] at hj
          by_cases hjl : j < len
          · rw [List.getElem?_range hjl] at hj
            simp only [Option.map_some, Option.some.injEq] at hj
            subst hj
            exact (hX j (by omega)).1 i v hi
          · rw [List.getElem?_eq_none (by simp; omega)] at hj; simp at hj
    · obtain ⟨i, hi, rfl⟩ := List.mem_map.1 hz
      rw [List.mem_range] at hi
      exact ⟨D i, List.mem_map.2 ⟨i, List.mem_range.2 hi, rfl⟩, (hX i (by omega)).2.2⟩
theorem weights_all {e : TypeId} {y : DataW H} {n : Nat} : ∀ {es : List (DataW H)}, y ∈ es → n ∈ y.weights P e → n ∈ DataW.weightsAll P e es
  | [], h, _ => by cases h
  | z :: es, h, hn => by
    rw [DataW.weightsAll, List.mem_append]
    rcases List.mem_cons.1 h with rfl | h1
    · exact .inl hn
    · exact .inr (weights_all h1 hn)
end
section
variable {H : Type} {enc : TypeId × Value → H} {W : World} {base : Nat} {spare : Nat → Bool} {held : Bool}
/-- What the reading of a block says of its row. -/
def BlkW (W : World) (x : Blk) (y : DataW H) : Prop := BlkOk W x ∧ ∃ y0 y1 y2, y = .agg [y0, y1, y2] ∧ ((x.ins = [] ∧ y2 = .nil) ∨ ∃ es sp, y2 = .slice es sp ∧ x.ins.length = es.length)
set_option maxRecDepth 100000 in
theorem read_blk_w (k : Nat) (vs : List Value) (y : DataW H × List MemPlace) (h : DataW.trod enc Tryz.prog W base spare held k 69 vs = some y) (hl : vs.length = 3) : ∃ x : Blk, vs = x.cs ∧ BlkW W x y.1 := by
  obtain ⟨y0, y1, y2, n, ey, _, h0, h1, h2⟩ := trod_struct3 Tryz.underlying69 h
  obtain ⟨a, b, c, rfl⟩ := list3 hl
  have c3 : Tryz.prog.cellsOf 3 = 1 := by kernel_rfl
  have c4 : Tryz.prog.cellsOf 4 = 1 := by kernel_rfl
  have cL : Tryz.prog.cellsOf 67 = 1 := by kernel_rfl
  simp only [c3, c4, cL, List.drop_zero, List.drop_succ_cons, List.take_succ_cons, List.take_zero] at h0 h1 h2
  obtain ⟨n0, e0, _⟩ := DataW.trod_int Tryz.underlying3 h0
  obtain ⟨q, e1, _⟩ := DataW.trod_bool Tryz.underlying4 h1
  obtain ⟨A, cc, L, e2, hl2, hrd, hok⟩ := open_recs_w (ok := fun (x : Ins) (_ : DataW H) => x.name.length ≤ 9223372036854775807) Tryz.underlying67 (show Tryz.prog.cellsOf 71 = 4 by kernel_rfl) (by decide) (fun k vs y h hl => read_ins k vs y h hl) h2
  simp only [List.cons.injEq, and_true] at e0 e1
  subst e0; subst e1; subst e2
  refine ⟨⟨n0, q, A, cc, L⟩, rfl, ⟨hrd, hl2, ?_⟩, y0.1, y1.1, y2.1, by rw [ey], ?_⟩
  · rcases hok with ⟨h3, -⟩ | ⟨es, sp, -, -, h3⟩
    · intro i hi; rw [show L = [] from h3] at hi; cases hi
    · intro i hi
      obtain ⟨-, -, h4⟩ := h3 i hi
      exact h4
  · rcases hok with ⟨h3, h4⟩ | ⟨es, sp, h3, h4, -⟩
    · exact .inl ⟨h3, h4⟩
    · exact .inr ⟨es, sp, h3, h4⟩
set_option maxRecDepth 100000 in
/-- A program that came in, each row of instructions within what a process holds. -/
theorem open_prg_w {r : Reach} {b0 : Nat} {v : Value} {d : DataW H} {ps : List MemPlace} (hv : Value.okWide Tryz.prog W r b0 26 v) (h : DataW.Trod enc Tryz.prog W base spare held 26 v d ps) (hw : (d.weights Tryz.prog 26).all (· ≤ reachBytes) = true) : ∃ p : Prg, v = p.v ∧ p.Rd W ∧ p.Len ∧ ∀ b ∈ p.bs, b.ins.length ≤ 10000000000000 := by
  obtain ⟨v0, v1, y0, y1, n, rfl, ed, _, h0, h1⟩ := open_agg2 Tryz.underlying26 (by kernel_rfl) (by kernel_rfl) hv h
  obtain ⟨A, c, L, rfl, hl, hrd, hok⟩ := open_recs_w (ok := BlkW (H := H) W) Tryz.underlying23 (show Tryz.prog.cellsOf 69 = 3 by kernel_rfl) (by decide) (fun k vs y h hl => read_blk_w k vs y h hl) h0
  obtain ⟨A', c', L', rfl, hl', hrd', hok'⟩ := open_recs (ok := fun x : Stt => x.pack.length ≤ 9223372036854775807) Tryz.underlying24 (show Tryz.prog.cellsOf 79 = 3 by kernel_rfl) (by decide) (fun k vs y h hl => read_stt k vs y h hl) h1
  have hB : ∀ b ∈ L, ∃ y : DataW H, BlkW W b y ∧ ∃ es sp, y0.1 = .slice es sp ∧ y ∈ es := fun b hb => by
    rcases hok with ⟨h3, -⟩ | ⟨es, sp, h3, -, h4⟩
    · rw [h3] at hb; cases hb
    · obtain ⟨y, h5, h6⟩ := h4 b hb
      exact ⟨y, h6, es, sp, h3, h5⟩
  refine ⟨⟨A, c, L, A', c', L'⟩, rfl, ⟨hrd, fun x hx => by obtain ⟨y, h6, -⟩ := hB x hx; exact h6.1.1, hrd'⟩, ⟨hl, hl', fun b hb => ?_, fun b hb => ?_, hok'⟩, fun b hb => ?_⟩
  all_goals obtain ⟨y, ⟨h6, z0, z1, z2, h7, h8⟩, es, sp, h9, h10⟩ := hB b hb
  · exact h6.2.1
  · exact h6.2.2
  · rcases h8 with ⟨h8, -⟩ | ⟨es2, sp2, h8, h11⟩
    · rw [h8]; simp
    · have hb40 : Tryz.prog.bytesOf 71 = 40 := by kernel_rfl
      have hm : (es2.length + sp2.length) * 40 ∈ d.weights Tryz.prog 26 := by
        rw [ed, DataW.weights, Tryz.underlying26]
        simp only [List.map_cons, List.map_nil, DataW.weightsEach, List.mem_append]
        left
        rw [h9, DataW.weights, Tryz.underlying23]
        simp only [List.mem_cons, List.mem_append]
        right; left
        refine weights_all h10 ?_
        rw [h7, DataW.weights, Tryz.underlying69]
        simp only [List.map_cons, List.map_nil, DataW.weightsEach, List.mem_append]
        right; right; left
        rw [h8, DataW.weights, Tryz.underlying67]
        simp only [List.mem_cons, hb40]
        exact .inl (by simp)
      have h12 := List.all_eq_true.1 hw _ hm
      simp only [decide_eq_true_eq] at h12
      have e : reachBytes = 140737488351232 := by decide
      rw [e] at h12
      omega
set_option maxRecDepth 100000 in
/-- A name that came in. -/
theorem open_name {r : Reach} {b0 : Nat} {v : Value} {d : DataW H} {ps : List MemPlace} (hv : Value.okWide Tryz.prog W r b0 33 v) (h : DataW.Trod enc Tryz.prog W base spare held 33 v d ps) : ∃ (t : T) (n : Int), v = .agg #[tv t, iv n] ∧ t.length ≤ 9223372036854775807 := by
  obtain ⟨v0, v1, y0, y1, n, rfl, _, _, h0, h1⟩ := open_agg2 Tryz.underlying33 (by kernel_rfl) (by kernel_rfl) hv h
  obtain ⟨s, e0, _, hs⟩ := DataW.trod_string Tryz.underlying9 h0
  obtain ⟨n1, e1, _⟩ := DataW.trod_int Tryz.underlying3 h1
  simp only [List.cons.injEq, and_true] at e0 e1
  subst e0; subst e1
  refine ⟨s.data.toList, n1, rfl, ?_⟩
  have : s.data.toList.length = s.size := Array.length_toList
  rw [this]
  unfold maxLen at hs
  omega
end
end Go.Proofs.YtgboboljgcfggaaGreatDoor

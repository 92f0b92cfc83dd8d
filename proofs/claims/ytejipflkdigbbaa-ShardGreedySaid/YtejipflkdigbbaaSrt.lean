/- Walks: slices.Clone, slices.SortFunc and slices.Sort at rows of numbers of the call's own. -/
import Derived.Test.YtejipflkdigbbaaLays
import Derived.Test.YtejipflkdigbbaaOrd
import Derived.Lib.SortBridge
import Derived.Lib.RowBridge
namespace Go.Proofs.Ytejipflkdigbbaa
open Go.RowKit Go.Shelf Go.Sort

theorem sw_size (w : World) (g n : Nat) (d : Array Int) (os : Array Obj) : w.heap.size ≤ (sortWorld iv w g 0 n d os).heap.size := by
  simp [sortWorld, grow, putRow, mapBlock, Sort.ahead]
theorem sw_other (w : World) (g n : Nat) (d : Array Int) (os : Array Obj) {k : Nat} (hk : k < w.heap.size) (hne : k ≠ g) : (sortWorld iv w g 0 n d os).heap[k]? = w.heap[k]? := by
  unfold sortWorld
  rw [heap_grow_old _ _ (by simpa [putRow, mapBlock, Sort.ahead] using hk)]
  simp [putRow, mapBlock, Sort.ahead, Array.getElem?_modify, Ne.symm hne]
theorem sw_rd {w : World} {g n : Nat} {d0 d : Array Int} (os : Array Obj) (hg : g < w.heap.size) (hH : Holds iv w g 0 d0) (hs : d.size = d0.size) : RD iv (sortWorld iv w g 0 n d os) (some ⟨g, 0, none⟩) d.toList := by
  have h1 : Holds iv (putRow iv (Sort.ahead w n) g 0 d) g 0 d := holds_putRow iv (Sort.ahead w n) g 0 d0 d hH hs
  have h2 : Holds iv (sortWorld iv w g 0 n d os) g 0 d := holds_grow iv _ os g 0 d (by simpa [putRow, mapBlock, Sort.ahead] using hg) h1
  refine .inr ⟨_, rfl, ?_, fun j x hj => ?_⟩
  · have := sw_size w g n d os
    show g < _
    omega
  · have hj' : j < d.size := by
      rcases Nat.lt_or_ge j d.size with h | h
      · exact h
      · rw [List.getElem?_eq_none (by simpa using h)] at hj; cases hj
    have h := (h2 j hj').1
    have e : ((⟨g, 0, none⟩ : Addr).add j) = ⟨g, 0 + j, none⟩ := by
      unfold Addr.add
      split
      · rename_i h0; subst h0; rfl
      · rfl
    rw [e, h]
    have : d[j]! = x := by
      rw [getElem!_pos _ j hj']
      have h3 : d.toList[j]? = some d[j] := by simp [hj']
      rw [h3] at hj
      exact Option.some.inj hj
    rw [this]
theorem sw_below {W w : World} {B g n : Nat} {d : Array Int} {os : Array Obj} (hb : Below B W w) (hB : B ≤ g) (hs : B ≤ w.heap.size) : Below B W (sortWorld iv w g 0 n d os) :=
  hb.trans ⟨rfl, rfl, rfl, sw_size w g n d os, fun k hk => sw_other w g n d os (by omega) (by omega)⟩

/-- A row of the call's own holds its numbers. -/
theorem OT.holds {w : World} {base g cap : Nat} {L : List Int} (h : OT w base (.slice (some ⟨g, 0, none⟩) L.length cap) L) : Holds iv w g 0 L.toArray := by
  intro j hj
  have hj' : j < L.length := by simpa using hj
  refine ⟨?_, ?_⟩
  · rw [Nat.zero_add, World.ownsRow.cellAt h j (by omega)]
    simp [hj', getElem!_pos]
  · rw [Nat.zero_add]; exact World.ownsRow.frozenAt h j
theorem OT.inBlock {w : World} {base : Nat} {v : Value} {L : List Int} (h : OT w base v L) (hne : L ≠ []) : ∃ g cap, v = .slice (some ⟨g, 0, none⟩) L.length cap ∧ base ≤ g ∧ g < w.heap.size ∧ L.length ≤ cap := by
  obtain ⟨A, c, rfl, hc, -, hn⟩ := h.form
  rcases h.2 with ⟨e, hl⟩ | ⟨g, cap, cur, e, hg, rest⟩
  · exact absurd (List.eq_nil_of_length_eq_zero hl) hne
  · have h2 := World.ownsRow.lt h g (by rw [e]; rfl)
    exact ⟨g, cap, e, h2.1, h2.2, by cases e; exact hc⟩

set_option maxHeartbeats 1000000 in
theorem clone_any (A : Option Addr) (c : Nat) (L : List Int) (w : World) (hA : RD iv w A L) (hl : L.length ≤ 1000) : Calls Try.prog 40 #[.slice A L.length c] w (OwnPost L w) := by
  cases A with
  | none =>
    have hL : L = [] := by
      rcases hA with rfl | ⟨a, e, _⟩
      · rfl
      · cases e
    subst hL
    have hq := fun w => Lib.run_eql_slice_nil (P := Try.prog) w 22 3 none 0 c 0 0 Try.underlying22
    simp only [Option.isNone_none] at hq
    go_enter Try.func40, Try.ntmps40
    go_wp2
    go_ret
    exact ⟨_, rfl, OT.nil _ _, Below.refl _ _⟩
  | some a =>
    have hq := fun w => Lib.run_eql_slice_nil (P := Try.prog) w 22 3 (some a) L.length c 0 0 Try.underlying22
    simp only [Option.isNone_some] at hq
    have o1 := ot_empty w (Nat.le_refl _)
    have b1 : Below w.heap.size w (w.alloc (.cells #[] 3)) := (Below.refl _ _).alloc (Nat.le_refl _) _
    go_enter Try.func40, Try.ntmps40
    go_wp2_with (at_builtin; refine wpList_app _ rfl (.tmp 5) (.tmp 6) rfl w.heap.size (v := .slice (some ⟨w.heap.size, 0, none⟩) 0 0) rfl o1 (M := L) rfl rfl (hA.below b1) (by simp; omega) (by simp) ?_; intro v2 w2 o2 g2 l2; have b2 := ot_below b1 o1 g2)
    go_ret
    rw [List.nil_append] at o2
    exact ⟨_, rfl, o2, b2⟩

/-- The comparison of Least: 'cmp.Compare(b, a)'. -/
def cfD (x y : Int) : Int := Lib.compareInt y x
theorem ltD (x y : Int) : ltOf cfD x y = decide (y < x) := by
  unfold ltOf cfD Lib.compareInt
  by_cases h1 : y < x
  · simp [h1]
  · by_cases h2 : x < y <;> simp [h1, h2]
theorem swoD : SWO (ltOf cfD) where
  irrefl x := by rw [ltD]; simp
  trans x y z h1 h2 := by rw [ltD] at *; simp at *; omega
  ntrans x y z h1 h2 := by rw [ltD] at *; simp at *; omega
theorem totD (x y : Int) (h1 : ltOf cfD x y = false) (h2 : ltOf cfD y x = false) : x = y := by rw [ltD] at *; simp at *; omega
theorem geD : (fun x y : Int => !ltOf cfD y x) = fun x y => decide (y ≤ x) := by
  funext x y
  rw [ltD]
  by_cases h : y ≤ x
  · have h' : ¬ x < y := by omega
    simp [h, h']
  · have h' : x < y := by omega
    simp [h, h']
theorem compare_any (x y : Int) (W : World) : Calls Try.prog 33 #[.int .i64 x, .int .i64 y] W fun e w' => e = .returned (.int .i64 (Lib.compareInt x y)) ∧ w' = W := by
  have h := AnyG.cmp_Compare_int Try.cmpL x y W
  change Calls Try.prog 33 _ _ _ at h
  exact h
set_option maxHeartbeats 1000000 in
theorem closure42 (x y : Int) (W : World) : Calls Try.prog 42 #[.int .i64 x, .int .i64 y] W fun e w' => e = .returned (.int .i64 (cfD x y)) ∧ ∃ q, w' = W.drewN q := by
  have hcon := compare_any y x W
  unfold cfD
  generalize Lib.compareInt y x = r at hcon ⊢
  go_enter Try.func42, Try.ntmps42
  go_wp2_with (go_at_call 33; refine hcon.mono ?_; rintro e w' ⟨rfl, rfl⟩)
  go_ret
  exact ⟨rfl, 0, rfl⟩
theorem cmpReads42 (blk off size : Nat) (w : World) : CmpReads Try.prog 42 #[] (Value.int .i64) cfD blk off size w := fun _ _ _ _ x y => closure42 x y _

/-- Numbers in descending order. -/
def dsc (L : List Int) : List Int := L.mergeSort fun x y => decide (y ≤ x)
theorem dsc_len (L : List Int) : (dsc L).length = L.length := by simp [dsc]
/-- slices.SortFunc, at a row of the call's own. -/
def SortPost (v : Value) (M : List Int) (W : World) (B : Nat) (e : Ending) (w' : World) : Prop :=
  e = .returned (.tuple #[]) ∧ (∃ A c, v = .slice A M.length c ∧ RD iv w' A M ∧ M.length ≤ c) ∧ Below B W w'
theorem sortFunc_any {W w : World} {v : Value} {L : List Int} (hb : Below W.heap.size W w) (ho : OT w W.heap.size v L) (hl : L.length ≤ 1000) : Calls Try.prog 41 #[v, .func (.func 42) #[] #[]] w (SortPost v (dsc L) W W.heap.size) := by
  by_cases hL : L = []
  · subst hL
    obtain ⟨A, c, rfl, hc, hr, -⟩ := ho.form
    have hS := AnyF.slices_SortFunc_none (P := Try.prog) (ρ := Try.sortF_ren) { Try.sortF with } A c (.func (.func 42) #[] #[]) w
    change Calls Try.prog 41 _ _ _ at hS
    refine hS.mono ?_
    rintro e w' ⟨rfl, rfl⟩
    exact ⟨rfl, ⟨A, c, by simp [dsc], .inl (by simp [dsc]), by simp [dsc]⟩, hb⟩
  · obtain ⟨g, cap, rfl, hg1, hg2, hc⟩ := ho.inBlock hL
    have hH := ho.holds
    have eg : ∀ args w, (callFunc 42 args).run Try.prog w = .ok (.enter 42 args) w := enters_of Try.func42 (by kernel_rfl) rfl
    have hS := Any.slices_SortFunc_total Try.sortF (Value.int .i64) (fun _ => rfl) cfD swoD 42 #[] g 0 cap L.toArray w eg (cmpReads42 g 0 L.toArray.size w).lays hH hg2 (by simp; omega) totD
    rw [geD] at hS
    change Calls Try.prog 41 _ _ _ at hS
    simp only [List.size_toArray] at hS
    refine hS.mono ?_
    rintro e w' ⟨rfl, n, os, rfl⟩
    have hs : (dsc L).toArray.size = L.toArray.size := by simp [dsc_len]
    refine ⟨rfl, ⟨some ⟨g, 0, none⟩, cap, by rw [dsc_len], ?_, by rw [dsc_len]; exact hc⟩, sw_below hb hg1 hb.size⟩
    have := sw_rd (n := n) os hg2 hH hs
    exact this
end Go.Proofs.Ytejipflkdigbbaa

/- Memory: a program gets a second block. -/
import Derived.Test.YtdfllhmkgphcmaaDoorLtR
import Derived.Test.YtdfllhmkgphcmaaDoorLtF
namespace Go.Proofs.YtdfllhmkgphcmaaDoor
open Go.RowKit

theorem RD.but {α : Type} {n : Nat} {cs : α → List Value} {w w' : World} {A : Option Addr} {L : List α} {row : Option Nat} (h : RD n cs w A L) (hg : w.grownBy w' row) (hne : ∀ a, A = Option.some a → Option.some a.block ≠ row) : RD n cs w' A L := by
  rcases h with rfl | ⟨a, e, hb, hc⟩
  · exact .inl rfl
  · refine .inr ⟨a, e, Nat.lt_of_lt_of_le hb hg.size, fun j x hx i v hv => hg.cell (hc j x hx i v hv) ?_⟩
    rw [add_block]
    exact hne a e
/-- The program with a second block. -/
def fnP (A : Option Addr) (cA : Nat) (b1 b2 : Blk) (B2 : Nat) : Prg := ⟨A, cA, [b1, b2], some ⟨B2, 0, none⟩, 1, [⟨[109], 1, 0⟩]⟩
theorem fnP_len {A : Option Addr} {cA B2 : Nat} {b1 b2 : Blk} (h1 : b1.ins.length ≤ 100) (h2 : b2.ins.length ≤ 100) (n1 : ∀ x ∈ b1.ins, x.name.length ≤ 100) (n2 : ∀ x ∈ b2.ins, x.name.length ≤ 100) : LenP (fnP A cA b1 b2 B2) ∧ ∀ b ∈ (fnP A cA b1 b2 B2).bs, b.ins.length ≤ 9223372036854775807 := by
  have hb : ∀ b ∈ [b1, b2], b.ins.length ≤ 100 ∧ ∀ x ∈ b.ins, x.name.length ≤ 100 := by
    intro b hb
    simp only [List.mem_cons, List.not_mem_nil, or_false] at hb
    rcases hb with rfl | rfl
    · exact ⟨h1, n1⟩
    · exact ⟨h2, n2⟩
  refine ⟨⟨by simp [fnP], by simp [fnP], fun b h => ?_, fun b h x hx => ?_, fun s hs => ?_⟩, fun b h => ?_⟩
  · have := (hb b h).1; omega
  · have := (hb b h).2 x hx; omega
  · simp only [fnP, List.mem_singleton] at hs; subst hs; simp
  · have := (hb b h).1; omega
theorem fn_result (A1 A2 A : Option Addr) (c1 c2 cA B2 : Nat) (l : List Int) (arg : Int) (k : Nat) (want : Int) (w : World) (hl : l.length ≤ 10) (hk : k ≤ l.length) (hr : ∀ n ∈ l, -999999999 ≤ n ∧ n ≤ 999999999) (ha : -999999999 ≤ arg ∧ arg ≤ 999999999) (hw : (l ++ [arg])[k]? = some want)
    (hp : (fnP A cA ⟨0, false, A1, c1, fnL l arg⟩ ⟨l.length, true, A2, c2, fnK k⟩ B2).Rd w) :
    Calls Tryd.prog 20 #[(fnP A cA ⟨0, false, A1, c1, fnL l arg⟩ ⟨l.length, true, A2, c2, fnK k⟩ B2).v] w fun e w' => w.grownBy w' none ∧ ∃ (M : AM) (x : AV), e = .returned (.tuple #[M.v, x.v, .bool true]) ∧ x.kind = 1 ∧ x.int = want := by
  obtain ⟨m, r1, r2, r3⟩ := fn_run A1 A2 c1 c2 l arg k want hl hw
  have nmL : ∀ x ∈ fnL l arg, x.name.length ≤ 100 := by
    intro i hi
    simp only [fnL, List.mem_append, fnB, List.mem_flatMap, List.mem_cons, List.not_mem_nil, or_false, fnD, fnE] at hi
    rcases hi with ((⟨n, hn, rfl | rfl⟩ | rfl) | hi) | rfl | rfl | rfl
    · exact Nat.zero_le _
    · exact Nat.zero_le _
    · exact Nat.zero_le _
    · split at hi
      · cases hi
      · simp only [List.mem_singleton] at hi
        subst hi
        exact Nat.zero_le _
    · exact Nat.zero_le _
    · exact Nat.zero_le _
    · exact Nat.zero_le _
  have nmK : ∀ x ∈ fnK k, x.name.length ≤ 100 := by
    intro i hi
    simp only [fnK, List.mem_cons, List.not_mem_nil, or_false] at hi
    rcases hi with rfl | rfl <;> exact Nat.zero_le _
  obtain ⟨k1, k2⟩ := fnP_len (A := A) (cA := cA) (B2 := B2) (b1 := ⟨0, false, A1, c1, fnL l arg⟩) (b2 := ⟨l.length, true, A2, c2, fnK k⟩) (by have := fnL_len l arg hl; show (fnL l arg).length ≤ 100; omega) (by simp [fnK]) nmL nmK
  refine (result_ok _ ⟨[109], 1, 0⟩ [] w m [] (vInt want) rfl (fn_ck A1 A2 c1 c2 l arg k A _ cA 1 hl (by omega) hr ha) hp k1 k2 r1 r2 r3 (by rw [r3]; simp)).mono ?_
  rintro e w' ⟨g, M, S', x, rfl, -, hm, -, hx, -⟩
  obtain ⟨e1, e2⟩ := er_vInt hx
  exact ⟨g, M, x, rfl, e1, e2⟩
/-- Memory behind the append, and behind the store. -/
theorem fn_mem {g cc n B1 B2 k : Nat} {CL : List Ins} {w w2 w4 w5 : World} {v5 : Value} (hw : w.grownBy w2 none) (hg : g < w2.heap.size) (hR : PlO (some ⟨g, 0, none⟩) cc CL B1 B2 w2 w4)
    (h1 : OR 43 3 Blk.cs w5 w2.heap.size v5 ([⟨0, false, some ⟨g, 0, none⟩, cc, CL⟩] ++ [⟨n, true, some ⟨w4.heap.size + 1, 0, none⟩, 2, fnK k⟩]))
    {bx ix kx : Obj} (hbx : bx = .cells #[.slice (some ⟨B1, 0, none⟩) 1 1, .slice (some ⟨B2, 0, none⟩) 1 1] 25) (hix : ix = .cells ((fnK k).flatMap Ins.cs).toArray 45)
    (h2 : (((w4.alloc bx).alloc ix).alloc kx).grownBy w5 (some B1)) (h3 : v5.ownBlock = some B1 ∨ v5.ownBlock = some (((w4.alloc bx).alloc ix).alloc kx).heap.size) :
    (w5.cell? ⟨w4.heap.size, 0, none⟩ = some (.slice (some ⟨B1, 0, none⟩) 1 1) ∧ w5.cell? ⟨w4.heap.size, 1, none⟩ = some (.slice (some ⟨B2, 0, none⟩) 1 1) ∧ w5.frozen? ⟨w4.heap.size, 0, none⟩ = false) ∧
    ∃ A' c', v5 = .slice A' 2 c' ∧ (fnP A' c' ⟨0, false, some ⟨g, 0, none⟩, cc, CL⟩ ⟨n, true, some ⟨w4.heap.size + 1, 0, none⟩, 2, fnK k⟩ B2).Rd (w5.setCell ⟨w4.heap.size, 0, none⟩ v5) ∧
      (w5.setCell ⟨w4.heap.size, 0, none⟩ v5).cell? ⟨w4.heap.size, 0, none⟩ = some v5 ∧ (w5.setCell ⟨w4.heap.size, 0, none⟩ v5).cell? ⟨w4.heap.size, 1, none⟩ = some (.slice (some ⟨B2, 0, none⟩) 1 1) ∧ w.grownBy (w5.setCell ⟨w4.heap.size, 0, none⟩ v5) none := by
  obtain ⟨b1l, b1u⟩ := hR.b.lt B1 rfl
  have b2u : B2 < w4.heap.size := by
    rcases hR.p.s with h | ⟨a, e, hb, -⟩
    · simp [plP] at h
    · simp [plP] at e; rw [← e] at hb; exact hb
  have hsz := hR.gr.size
  have G4 : w4.grownBy (((w4.alloc bx).alloc ix).alloc kx) none := ((World.grownBy_alloc w4 _ none).trans (World.grownBy_alloc _ _ none)).trans (World.grownBy_alloc _ _ none)
  have G45 : w4.grownBy w5 (some B1) := (World.grownBy.but G4 _).trans h2
  have hW : (((w4.alloc bx).alloc ix).alloc kx).heap.size = w4.heap.size + 3 := by simp
  have kb0 : (((w4.alloc bx).alloc ix).alloc kx).heap[w4.heap.size]? = some bx := (Below.heap_alloc _ _ _ (by simp; omega)).trans ((Below.heap_alloc _ _ _ (by simp)).trans (al_new w4 _))
  have ki0 : (((w4.alloc bx).alloc ix).alloc kx).heap[w4.heap.size + 1]? = some ix := (Below.heap_alloc _ _ _ (by simp)).trans (al_at _ _ (by simp))
  have kb : w5.heap[w4.heap.size]? = some bx := (h2.block _ (by rw [hW]; omega) (by simp; omega)).trans kb0
  have ki : w5.heap[w4.heap.size + 1]? = some ix := (h2.block _ (by rw [hW]; omega) (by simp; omega)).trans ki0
  subst hbx
  have c0 : w5.cell? ⟨w4.heap.size, 0, none⟩ = some (.slice (some ⟨B1, 0, none⟩) 1 1) := by rw [Lib.cell_of_heap kb]; rfl
  have c1 : w5.cell? ⟨w4.heap.size, 1, none⟩ = some (.slice (some ⟨B2, 0, none⟩) 1 1) := by rw [Lib.cell_of_heap kb]; rfl
  have cf : w5.frozen? ⟨w4.heap.size, 0, none⟩ = false := by simp [World.frozen?, kb]
  have G6 : w5.grownBy (w5.setCell ⟨w4.heap.size, 0, none⟩ v5) (some w4.heap.size) := grown_set _ _ _
  have nb : v5.ownBlock ≠ some w4.heap.size := by
    rcases h3 with h3 | h3 <;> rw [h3] <;> simp <;> omega
  have o6 := h1.kept G6 (.inr nb)
  have h1' := h1.form Blk.cs_len'
  obtain ⟨A', c', e5, -⟩ := h1'
  have o7 := o6
  rw [e5] at o7
  obtain ⟨A2, c2, e6, r6⟩ := o7.form Blk.cs_len'
  cases e6
  have e5' : v5 = .slice A' 2 c' := e5
  have stay : ∀ {α : Type} {n : Nat} {cs : α → List Value} {A : Option Addr} {L : List α}, RD n cs w4 A L → (∀ a, A = some a → a.block ≠ B1) → RD n cs (w5.setCell ⟨w4.heap.size, 0, none⟩ v5) A L := by
    intro α n cs A L h hne
    have hlt : ∀ a, A = some a → L ≠ [] → a.block < w4.heap.size := by
      intro a ea hL
      rcases h with rfl | ⟨a', e', hb', -⟩
      · exact absurd rfl hL
      · rw [ea] at e'; cases e'; exact hb'
    by_cases hL : L = []
    · exact .inl hL
    · exact (h.but G45 fun a ea e => hne a ea (by simpa using e)).but G6 fun a ea e => by
        have := hlt a ea hL
        simp only [Option.some.injEq] at e
        omega
  refine ⟨⟨c0, c1, cf⟩, A', c', e5', ⟨by rw [← e5] at r6; exact r6, ?_, ?_⟩, ?_, ?_, ?_⟩
  · intro x hx
    simp only [fnP, List.mem_cons, List.not_mem_nil, or_false] at hx
    rcases hx with rfl | rfl
    · exact stay (hR.p.i ⟨0, false, some ⟨g, 0, none⟩, cc, CL⟩ (by simp [plP])) fun a ea => by cases ea; show g ≠ B1; omega
    · refine rd_cells Ins.cs_len (t := 45) ?_
      rw [Below.heap_setCell _ _ _ _ (by show w4.heap.size + 1 ≠ w4.heap.size; omega), ki, hix]
  · exact stay hR.p.s fun a ea => by cases ea; exact fun e => hR.ne e.symm
  · exact World.cell?_setCell_same _ _ _ c0
  · rw [show (w5.setCell ⟨w4.heap.size, 0, none⟩ v5).cell? ⟨w4.heap.size, 1, none⟩ = w5.cell? ⟨w4.heap.size, 1, none⟩ from World.cell?_setCell_other _ _ _ _ (by simp)]
    exact c1
  · refine hw.trans ⟨G6.os.trans (G45.os.trans hR.gr.os), G6.tape.trans (G45.tape.trans hR.gr.tape), G6.output.trans (G45.output.trans hR.gr.output), Nat.le_trans hsz (Nat.le_trans G45.size G6.size), fun q hq _ => ?_⟩
    rw [G6.block q (Nat.lt_of_lt_of_le hq (Nat.le_trans hsz G45.size)) (by simp; omega), G45.block q (by omega) (by simp; omega)]
    exact hR.gr.block q hq (by simp)
end Go.Proofs.YtdfllhmkgphcmaaDoor

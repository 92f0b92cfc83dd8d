/- Walk of Merge: the sums are checked. -/
import Derived.Test.YtgenloemohcpcaaRMerge2
namespace Go.Proofs.Ytgenloemohcpcaa
open Go.RowKit

/-- Sums that lie one behind the other in block g. -/
def SS (w : World) (g : Nat) (S : List SR) : Prop := ∀ j (h : j < S.length), w.cell? ⟨g, j * 2, none⟩ = some (.slice S[j].A S[j].L.length S[j].c) ∧ w.cell? ⟨g, j * 2 + 1, none⟩ = some (.slice S[j].B S[j].M.length S[j].d)
theorem SS.below {w w' : World} {g : Nat} {S : List SR} (h : SS w g S) (hb : Below w.heap.size w w') (hg : g < w.heap.size) : SS w' g S := fun j hj =>
  ⟨(hb.cell (p := ⟨g, j * 2, none⟩) hg).trans (h j hj).1, (hb.cell (p := ⟨g, j * 2 + 1, none⟩) hg).trans (h j hj).2⟩
theorem ss_new (w : World) (b l r : SR) : SS (w.alloc (.cells #[.slice b.A b.L.length b.c, .slice b.B b.M.length b.d, .slice l.A l.L.length l.c, .slice l.B l.M.length l.d, .slice r.A r.L.length r.c, .slice r.B r.M.length r.d] 24)) w.heap.size [b, l, r] := by
  intro j hj
  have h0 := fun i => World.cell?_alloc_new w #[.slice b.A b.L.length b.c, .slice b.B b.M.length b.d, .slice l.A l.L.length l.c, .slice l.B l.M.length l.d, .slice r.A r.L.length r.c, .slice r.B r.M.length r.d] 24 i
  match j, hj with
  | 0, _ => exact ⟨h0 0, h0 1⟩
  | 1, _ => exact ⟨h0 2, h0 3⟩
  | 2, _ => exact ⟨h0 4, h0 5⟩

theorem mErr_at {b l r : SR} {k : Nat} (hk : k < [b, l, r].length) (h : ∀ s ∈ [b, l, r].take k, chk s.L s.M = 0) (he : chk [b, l, r][k].L [b, l, r][k].M ≠ 0) :
    mErr b.p l.p r.p = chk [b, l, r][k].L [b, l, r][k].M ∧ mSum b.p l.p r.p = ([], []) := by
  match k, hk with
  | 0, _ => exact mErr1 he
  | 1, _ => exact mErr2 (h b (by simp)) he
  | 2, _ => exact mErr3 (h b (by simp)) (h l (by simp)) he
theorem mErr_all {b l r : SR} (h : ∀ s ∈ [b, l, r], chk s.L s.M = 0) : mErr b.p l.p r.p = 0 := (mErr0 (h b (by simp)) (h l (by simp)) (h r (by simp))).1

theorem Box.mem {w0 w : World} {b l r : SR} (h : Box w0 w b l r) {s : SR} (hs : s ∈ [b, l, r]) : s.Rd w := by
  simp only [List.mem_cons, List.not_mem_nil, or_false] at hs
  rcases hs with rfl | rfl | rfl
  · exact h.rb
  · exact h.rl
  · exact h.rr

/-- The state while the sums are checked. -/
structure ChkSt (w0 w : World) (b l r : SR) (k : Nat) : Prop where
  box : Box w0 w b l r
  ss : SS w (w0.heap.size + 1 + 1 + 1 + 1) [b, l, r]
  lt : w0.heap.size + 1 + 1 + 1 + 1 < w.heap.size
  ok : ∀ s ∈ [b, l, r].take k, chk s.L s.M = 0
theorem ChkSt.next {w0 w w' : World} {b l r : SR} {k : Nat} (h : ChkSt w0 w b l r k) (hb : Below w.heap.size w w') (hk : k < [b, l, r].length) (h0 : chk [b, l, r][k].L [b, l, r][k].M = 0) : ChkSt w0 w' b l r (k + 1) :=
  ⟨h.box.below hb, h.ss.below hb h.lt, Nat.lt_of_lt_of_le h.lt hb.size, fun s hs => by
    rw [List.take_succ_eq_append_getElem hk, List.mem_append, List.mem_singleton] at hs
    rcases hs with hs | rfl
    · exact h.ok s hs
    · exact h0⟩

theorem chk_start (w : World) (b l r : SR) (hb : b.Rd w) (hl : l.Rd w) (hr : r.Rd w) : ChkSt w (((((w.alloc (.cells #[.slice b.A b.L.length b.c, .slice b.B b.M.length b.d] 24)).alloc (.cells #[.slice l.A l.L.length l.c, .slice l.B l.M.length l.d] 24)).alloc
    (.cells #[.slice r.A r.L.length r.c, .slice r.B r.M.length r.d] 24)).alloc (.cells #[.slice none 0 0, .slice none 0 0] 24)).alloc
    (.cells #[.slice b.A b.L.length b.c, .slice b.B b.M.length b.d, .slice l.A l.L.length l.c, .slice l.B l.M.length l.d, .slice r.A r.L.length r.c, .slice r.B r.M.length r.d] 24)) b l r 0 := by
  refine ⟨(box_start w b l r hb hl hr).below ((Below.refl _ _).alloc (Nat.le_refl _) _), ?_, by simp, by simp⟩
  have := ss_new ((((w.alloc (.cells #[.slice b.A b.L.length b.c, .slice b.B b.M.length b.d] 24)).alloc (.cells #[.slice l.A l.L.length l.c, .slice l.B l.M.length l.d] 24)).alloc
    (.cells #[.slice r.A r.L.length r.c, .slice r.B r.M.length r.d] 24)).alloc (.cells #[.slice none 0 0, .slice none 0 0] 24)) b l r
  simpa using this

set_option maxRecDepth 100000 in
set_option maxHeartbeats 2000000 in
theorem merge_err (b l r : SR) (w : World) (hb : b.Rd w) (hl : l.Rd w) (hr : r.Rd w) (h1 : mErr b.p l.p r.p ≠ 0) : Calls Try.prog 12 #[b.val, l.val, r.val] w (MergePost b.p l.p r.p w) := by
  have st := chk_start w b l r hb hl hr
  have ST := Lib.hid st
  have H1 := Lib.hid h1
  clear hb hl hr h1 st
  unfold SR.val
  go_enter Try.func12, Try.ntmps12
  go_wp2_with fail
  go_loopw [9, 10, 21] (fun _ _ i wr => ∃ k : Nat, k ≤ 3 ∧ i = .int .i64 k ∧ ChkSt w wr b l r k) (fun _ _ i _ => 3 - (intOf i).toNat)
  case atStart => exact ⟨0, by omega, rfl, ST.out⟩
  case round =>
    clear ST
    obtain ⟨k, hk, rfl, st⟩ := hrel
    by_cases hlt : k < 3
    · have hk3 : k < [b, l, r].length := hlt
      have hrd := st.box.mem (List.getElem_mem hk3)
      obtain ⟨c0, c1⟩ := st.ss k hk3
      by_cases h0 : chk [b, l, r][k].L [b, l, r][k].M = 0
      · have t0 : (chk [b, l, r][k].L [b, l, r][k].M != 0) = false := by simpa using h0
        have NX := Lib.hid fun w' hb => st.next (w' := w') hb hk3 h0
        clear st h0 H1
        generalize [b, l, r][k] = s at *
        go_wp2_with fail
        refine (check_any s.A s.B s.c s.d s.L s.M _ (hrd.a.alloc _) (hrd.b.alloc _) (by have := hrd.la; omega) hrd.lb).mono ?_
        rintro e w1 ⟨rfl, k1⟩
        have K1 := Lib.hid k1
        clear k1
        go_wp2_with fail
        go_roundw
        case rel => exact ⟨k + 1, by omega, by go_num, NX.out _ (((Below.refl _ _).alloc (Nat.le_refl _) _).trans (K1.out.mono (by simp)))⟩
        case measure => simp [intOf]; omega
      · have t0 : (chk [b, l, r][k].L [b, l, r][k].M != 0) = true := by simpa using h0
        have e1 := mErr_at hk3 st.ok h0
        have E1 := Lib.hid e1
        clear h0 H1 e1
        generalize [b, l, r][k] = s at *
        have BX := Lib.hid st.box
        clear st
        go_wp2_with fail
        refine (check_any s.A s.B s.c s.d s.L s.M _ (hrd.a.alloc _) (hrd.b.alloc _) (by have := hrd.la; omega) hrd.lb).mono ?_
        rintro e w1 ⟨rfl, k1⟩
        have bx1 := BX.out.below (((Below.refl _ _).alloc (Nat.le_refl _) _).trans (k1.mono (by simp)))
        have p0 := bx1.b3.c0
        have p1 := bx1.b3.c1
        have p2 := bx1.b3.f0 0
        have p3 := bx1.b3.f0 1
        have BX1 := Lib.hid bx1
        clear k1 bx1 BX
        go_wp2_with fail
        obtain ⟨g0, g1, g2, _⟩ := box_ret BX1.out (.slice none 0 0) (.slice none 0 0)
        generalize (w1.setCell { block := w.heap.size + 1 + 1 + 1, off := 0 } (Value.slice none 0 0)).setCell { block := w.heap.size + 1 + 1 + 1, off := 1 } (Value.slice none 0 0) = w9 at *
        refine bodyPost_ret (v := .tuple #[sr0.val, .int .i64 (chk s.L s.M)]) (by simp [results, Try.results12, go_sem, g0, g1, sr0, SR.val]) rfl ⟨sr0, ?_, sr0_rd _, ?_, g2⟩
        · rw [E1.out.1]
        · rw [E1.out.2]; rfl
    · have := st.ok
      rw [List.take_of_length_le (by simp; omega)] at this
      exact absurd (mErr_all this) H1.out
end Go.Proofs.Ytgenloemohcpcaa

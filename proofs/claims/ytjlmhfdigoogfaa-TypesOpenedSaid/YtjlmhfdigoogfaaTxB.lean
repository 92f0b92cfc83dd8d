/- Walks: the beginnings of texts (90, 91, 92, 106, 113, 115). -/
import Derived.Test.YtjlmhfdigoogfaaTxP
namespace Go.Proofs.Ytjlmhfdigoogfaa
open Go.RowKit

theorem ext_take (l : T) (n : Nat) : (⟨l.toArray⟩ : ByteArray).extract 0 n = ⟨(l.take n).toArray⟩ := by
  apply ByteArray.ext
  simp [ByteArray.data_extract]
theorem ext_drop (l : T) (a : Nat) : (⟨l.toArray⟩ : ByteArray).extract a l.length = ⟨(l.drop a).toArray⟩ := by
  apply ByteArray.ext
  simp [ByteArray.data_extract, List.take_of_length_le]
theorem pre_take (p s : T) : p.isPrefixOf s = (((⟨s.toArray⟩ : ByteArray).extract 0 p.length).toList == p) := by
  rw [Bool.eq_iff_iff, List.isPrefixOf_iff_prefix, List.prefix_iff_eq_take, beq_iff_eq, ext_take, ByteArray.toList_eq]
  exact ⟨fun h => h.symm, fun h => h.symm⟩
theorem pre_short {p s : T} (h : ¬ p.length ≤ s.length) : p.isPrefixOf s = false := by
  rw [Bool.eq_false_iff]
  intro h2
  have := (List.isPrefixOf_iff_prefix.1 h2).length_le
  omega
theorem cut_yes {p s : T} (h : p.isPrefixOf s = true) : cut p s = some (s.drop p.length) := by unfold cut; rw [if_pos h]
theorem cut_no {p s : T} (h : p.isPrefixOf s = false) : cut p s = none := by unfold cut; rw [if_neg (by rw [h]; decide)]
theorem pre_le {p s : T} (h : p.isPrefixOf s = true) : p.length ≤ s.length := (List.isPrefixOf_iff_prefix.1 h).length_le
set_option maxRecDepth 100000 in
set_option maxHeartbeats 1000000 in
theorem hp_any (s p : T) (w : World) : Calls Try.prog 115 #[tv s, tv p] w fun e w' => e = .returned (.bool (p.isPrefixOf s)) ∧ w' = w := by
  by_cases h : p.length ≤ s.length
  · go_enter Try.func115, Try.ntmps115
    go_wp2
    go_ret
    refine ⟨?_, rfl⟩
    rw [pre_take]
    rfl
  · go_enter Try.func115, Try.ntmps115
    go_wp2
    go_ret
    refine ⟨?_, rfl⟩
    rw [pre_short h]
    rfl
set_option maxRecDepth 100000 in
set_option maxHeartbeats 1000000 in
theorem rbegins_any (s p : T) (w : World) : Calls Try.prog 92 #[tv s, tv p] w fun e w' => e = .returned (.bool (p.isPrefixOf s)) ∧ w' = w := by
  by_cases h : p.length ≤ s.length
  · go_enter Try.func92, Try.ntmps92
    go_wp2
    go_ret
    refine ⟨?_, rfl⟩
    rw [pre_take]
    rfl
  · go_enter Try.func92, Try.ntmps92
    go_wp2
    go_ret
    refine ⟨?_, rfl⟩
    rw [pre_short h]
    rfl
set_option maxRecDepth 100000 in
set_option maxHeartbeats 1000000 in
theorem cutl_any (s p : T) (w : World) : Calls Try.prog 113 #[tv s, tv p] w fun e w' => e = .returned (.tuple #[tv ((cut p s).getD s), .bool (cut p s).isSome]) ∧ w' = w := by
  have H := Lib.hid (hp_any s p w)
  cases hb : p.isPrefixOf s with
  | true =>
    have hle := pre_le hb
    rw [cut_yes hb]
    rw [hb] at H
    clear hb
    go_enter Try.func113, Try.ntmps113
    go_wp2_with (go_at_call 115; refine H.out.mono ?_; rintro e w1 ⟨rfl, rfl⟩)
    go_ret2
    refine ⟨?_, rfl⟩
    show Ending.returned (.tuple #[.string ((⟨s.toArray⟩ : ByteArray).extract _ _), _]) = _
    rw [ext_drop]
    rfl
  | false =>
    rw [cut_no hb]
    rw [hb] at H
    clear hb
    go_enter Try.func113, Try.ntmps113
    go_wp2_with (go_at_call 115; refine H.out.mono ?_; rintro e w1 ⟨rfl, rfl⟩)
    go_ret2
    exact ⟨rfl, rfl⟩
set_option maxRecDepth 100000 in
set_option maxHeartbeats 1000000 in
theorem cutp_any (s p : T) (w : World) : Calls Try.prog 106 #[tv s, tv p] w fun e w' => e = .returned (.tuple #[tv ((cut p s).getD s), .bool (cut p s).isSome]) ∧ w' = w := by
  have H := Lib.hid (cutl_any s p w)
  generalize cut p s = q at *
  go_enter Try.func106, Try.ntmps106
  go_wp2_with (go_at_call 113; refine H.out.mono ?_; rintro e w1 ⟨rfl, rfl⟩)
  go_ret2
  exact ⟨rfl, rfl⟩
/-- A reader in memory: what is left, and how many types were begun. -/
def RS (w0 : World) (rp : Nat) (s : T) (c : Int) (w : World) : Prop := w.heap[rp]? = some (.cells #[tv s, iv c] 106 (0, 0)) ∧ w0.grownBy w (some rp)
theorem rs_cells {rp : Nat} {s : T} {c : Int} {w : World} (h : w.heap[rp]? = some (.cells #[tv s, iv c] 106 (0, 0))) : (w.cell? ⟨rp, 0, none⟩ = some (tv s) ∧ w.cell? ⟨rp, 1, none⟩ = some (iv c)) ∧ ∀ j, w.frozen? ⟨rp, j, none⟩ = false := by
  refine ⟨⟨?_, ?_⟩, fun j => ?_⟩
  · rw [Lib.cell_of_heap h]; rfl
  · rw [Lib.cell_of_heap h]; rfl
  · simp [World.frozen?, h]
set_option maxRecDepth 100000 in
set_option maxHeartbeats 1000000 in
theorem begins_any (rp : Nat) (s p : T) (c : Int) (w : World) (hr : w.heap[rp]? = some (.cells #[tv s, iv c] 106 (0, 0))) : Calls Try.prog 90 #[.pointer (some ⟨rp, 0, none⟩), tv p] w fun e w' => e = .returned (.bool (cut p s).isSome) ∧ RS w rp ((cut p s).getD s) c w' := by
  have H := Lib.hid (cutp_any s p w)
  obtain ⟨⟨r0, r1⟩, rf⟩ := rs_cells hr
  have HR := Lib.hid hr
  clear hr
  generalize cut p s = q at *
  go_enter Try.func90, Try.ntmps90
  go_wp2_with (go_at_call 106; refine H.out.mono ?_; rintro e w1 ⟨rfl, rfl⟩)
  go_ret
  exact ⟨rfl, by have := HR.out; simp [World.setCell, Array.getElem?_modify, this], grown_set _ _ _⟩
/-- The panic of a reader. -/
def gup : List PanicEntry := [{ v := .iface 121 (.agg #[]), recovered := false }]
set_option maxRecDepth 100000 in
set_option maxHeartbeats 1000000 in
theorem expect_any (rp : Nat) (s p : T) (c : Int) (w : World) (hr : w.heap[rp]? = some (.cells #[tv s, iv c] 106 (0, 0))) : Calls Try.prog 91 #[.pointer (some ⟨rp, 0, none⟩), tv p] w fun e w' => RS w rp ((cut p s).getD s) c w' ∧ e = if (cut p s).isSome then .returned (.tuple #[]) else .panicked gup := by
  have H := Lib.hid (begins_any rp s p c w hr)
  clear hr
  unfold gup
  generalize cut p s = q at *
  cases q with
  | some r =>
    simp only [Option.isSome_some, Option.getD_some] at H
    go_enter Try.func91, Try.ntmps91
    go_wp2_with (go_at_call 90; refine H.out.mono ?_; rintro e w1 ⟨rfl, h1⟩)
    exact ⟨rfl, _, results_none rfl _ _ _, h1, rfl⟩
  | none =>
    simp only [Option.isSome_none, Option.getD_none] at H
    go_enter Try.func91, Try.ntmps91
    go_wp2_with (go_at_call 90; refine H.out.mono ?_; rintro e w1 ⟨rfl, h1⟩)
    exact ⟨rfl, h1, rfl⟩
end Go.Proofs.Ytjlmhfdigoogfaa

/- Walks of the reference's insert and without. -/
import Derived.Test.YtgenloemohcpcaaOf
namespace Go.Proofs.Ytgenloemohcpcaa
open Go.RowKit

/-- A call that hands back a list of texts in new memory. -/
def TxtPost (L : List T) (w : World) (e : Ending) (w' : World) : Prop := ∃ A c, e = .returned (.slice A L.length c) ∧ L.length ≤ c ∧ RD w' A L ∧ Below w.heap.size w w'

theorem ot_below {W w w' : World} {v : Value} {L : List T} (hb : Below W.heap.size W w) (ho : OT w W.heap.size v L) (hg : w.grownBy w' v.ownBlock) : Below W.heap.size W w' :=
  hb.grown hg hb.size fun k hk => (World.ownsRow.lt ho k hk).1

set_option maxRecDepth 100000 in
set_option maxHeartbeats 1000000 in
theorem insert_any (A : Option Addr) (c : Nat) (L : List T) (x : T) (w : World) (hA : RD w A L) (hc : L.length ≤ c) (hl : L.length ≤ 10000) :
    Calls Try.prog 47 #[.slice A L.length c, tv x] w (TxtPost (ins x L) w) := by
  go_enter Try.func47, Try.ntmps47
  go_wp2
  go_loop [5] (fun i => ∃ k : Nat, k ≤ L.length ∧ i = .int .i64 k ∧ Hid (∀ y ∈ L.take k, y < x)) (fun i => L.length - (intOf i).toNat)
  case atStart => exact ⟨0, Nat.zero_le _, rfl, by simp [Hid]⟩
  case round =>
    obtain ⟨k, hk, rfl, ht⟩ := hrel
    by_cases hgo : ∃ h : k < L.length, L[k] < x
    · obtain ⟨hlt, hx⟩ := hgo
      obtain ⟨a, rfl, hab, hac⟩ := hA.at hlt
      have hb : Op.bytesLess L[k] x = true := by rw [bytesLess_eq]; simpa using hx
      have hn : ∀ y ∈ L.take (k + 1), y < x := by
        intro y hy
        rw [List.take_succ_eq_append_getElem hlt, List.mem_append, List.mem_singleton] at hy
        rcases hy with hy | rfl
        · exact ht.out y hy
        · exact hx
      have HN := Lib.hid hn
      clear hn hx
      go_wp2
      go_round
      case rel => exact ⟨k + 1, by omega, by go_num, HN.out⟩
      case measure => simp [intOf]; omega
    · have hi : ins x L = L.take k ++ [x] ++ L.drop k := by
        rw [ins_eq x L k hk ht.out (fun h hx => hgo ⟨h, hx⟩)]
        simp
      have HI := Lib.hid hi
      clear hi
      have o1 := ot_empty w (Nat.le_refl _)
      have b1 : Below w.heap.size w (w.alloc (.cells #[] 9)) := (Below.refl _ _).alloc (Nat.le_refl _) _
      have hs1 := fun W => run_head A L.length c (k : Int) k rfl (by omega) W
      have hs2 := fun W => run_cut A L.length c (k : Int) k rfl hk W
      by_cases hlt : k < L.length
      · obtain ⟨a, e, hab, hac⟩ := hA.at hlt
        have hb : Op.bytesLess L[k] x = false := by
          rw [bytesLess_eq]
          simp only [decide_eq_false_iff_not]
          exact fun hx => hgo ⟨hlt, hx⟩
        clear hgo
        subst e
        go_wp2_with (first
          | (at_builtin; refine wpList_app _ rfl (.tmp 21) (.tmp 24) rfl w.heap.size (v := .slice (some ⟨w.heap.size, 0, none⟩) 0 0) rfl o1 (M := L.take k) (by simp; omega) rfl ((hA.below b1).take k) (by simp; omega) (by simp) ?_; intro v2 w2 o2 g2 l2; have b2 := ot_below b1 o1 g2)
          | (at_builtin; refine wpList_app _ rfl (.tmp 26) (.tmp 28) rfl w.heap.size (v := v2) rfl (o2.alloc _) (M := [x]) rfl rfl (rd_one w2 x 9) (by simp; omega) (by have := b2.size; simp; omega) ?_; intro v3 w3 o3 g3 l3; have b3 := ot_below (b2.alloc b2.size _) (o2.alloc _) g3)
          | (at_builtin; refine wpList_app _ rfl (.tmp 30) (.tmp 33) rfl w.heap.size (v := v3) rfl o3 (M := L.drop k) (by simp) rfl ((hA.below b3).cutA k c hc) (by simp; omega) b3.size ?_; intro v4 w4 o4 g4 l4; have b4 := ot_below b3 o3 g4))
        go_ret
        rw [List.nil_append, ← HI.out] at o4
        obtain ⟨A', c', e', hc', hr', _⟩ := o4.form
        subst e'
        exact ⟨A', c', rfl, hc', hr', b4⟩
      · clear hgo
        go_wp2_with (first
          | (at_builtin; refine wpList_app _ rfl (.tmp 21) (.tmp 24) rfl w.heap.size (v := .slice (some ⟨w.heap.size, 0, none⟩) 0 0) rfl o1 (M := L.take k) (by simp; omega) rfl ((hA.below b1).take k) (by simp; omega) (by simp) ?_; intro v2 w2 o2 g2 l2; have b2 := ot_below b1 o1 g2)
          | (at_builtin; refine wpList_app _ rfl (.tmp 26) (.tmp 28) rfl w.heap.size (v := v2) rfl (o2.alloc _) (M := [x]) rfl rfl (rd_one w2 x 9) (by simp; omega) (by have := b2.size; simp; omega) ?_; intro v3 w3 o3 g3 l3; have b3 := ot_below (b2.alloc b2.size _) (o2.alloc _) g3)
          | (at_builtin; refine wpList_app _ rfl (.tmp 30) (.tmp 33) rfl w.heap.size (v := v3) rfl o3 (M := L.drop k) (by simp) rfl ((hA.below b3).cutA k c hc) (by simp; omega) b3.size ?_; intro v4 w4 o4 g4 l4; have b4 := ot_below b3 o3 g4))
        go_ret
        rw [List.nil_append, ← HI.out] at o4
        obtain ⟨A', c', e', hc', hr', _⟩ := o4.form
        subst e'
        exact ⟨A', c', rfl, hc', hr', b4⟩

/-- What 'without' hands back: the list without the text, and whether it was there. -/
def WoPost (L : List T) (x : T) (w : World) (e : Ending) (w' : World) : Prop :=
  ∃ A c, e = .returned (.tuple #[.slice A (L.erase x).length c, .bool (hasB L x)]) ∧ (L.erase x).length ≤ c ∧ RD w' A (L.erase x) ∧ Below w.heap.size w w'

set_option maxRecDepth 100000 in
set_option maxHeartbeats 1000000 in
theorem without_any (A : Option Addr) (c : Nat) (L : List T) (x : T) (w : World) (hA : RD w A L) (hc : L.length ≤ c) (hl : L.length ≤ 10000) :
    Calls Try.prog 46 #[.slice A L.length c, tv x] w (WoPost L x w) := by
  go_enter Try.func46, Try.ntmps46
  go_wp2
  go_loop [6] (fun i => ∃ k : Nat, k ≤ L.length ∧ i = .int .i64 k ∧ Hid (x ∉ L.take k)) (fun i => L.length - (intOf i).toNat)
  case atStart => exact ⟨0, Nat.zero_le _, rfl, by simp [Hid]⟩
  case round =>
    obtain ⟨k, hk, rfl, ht⟩ := hrel
    by_cases hlt : k < L.length
    · obtain ⟨a, rfl, hab, hac⟩ := hA.at hlt
      by_cases e : L[k] = x
      · have he : (L[k] == x) = true := by simp [e]
        have h1 := erase_eq L k hlt ht.out e
        have h2 : hasB L x = true := hasB_yes (by rw [← e]; exact List.getElem_mem hlt)
        have H1 := Lib.hid h1
        have H2 := Lib.hid h2
        have o1 := ot_empty w (Nat.le_refl _)
        have b1 : Below w.heap.size w (w.alloc (.cells #[] 9)) := (Below.refl _ _).alloc (Nat.le_refl _) _
        have hs1 := fun W => run_head (some a) L.length c (k : Int) k rfl (by omega) W
        have hs2 := fun W => run_cut (some a) L.length c ((k : Int) + 1) (k + 1) (by omega) hlt W
        clear e h1 h2
        go_wp2_with (first
          | (at_builtin; refine wpList_app _ rfl (.tmp 20) (.tmp 23) rfl w.heap.size (v := .slice (some ⟨w.heap.size, 0, none⟩) 0 0) rfl o1 (M := L.take k) (by simp; omega) rfl ((hA.below b1).take k) (by simp; omega) (by simp) ?_; intro v2 w2 o2 g2 l2; have b2 := ot_below b1 o1 g2)
          | (at_builtin; refine wpList_app _ rfl (.tmp 25) (.tmp 29) rfl w.heap.size (v := v2) rfl o2 (M := L.drop (k + 1)) (by simp) rfl ((hA.below b2).cutA (k + 1) c hc) (by simp; omega) b2.size ?_; intro v4 w4 o4 g4 l4; have b4 := ot_below b2 o2 g4))
        go_ret2
        rw [List.nil_append, ← H1.out] at o4
        obtain ⟨A', c', e', hc', hr', _⟩ := o4.form
        subst e'
        exact ⟨A', c', by rw [H2.out]; rfl, hc', hr', b4⟩
      · have he : (L[k] == x) = false := by simpa using e
        have HE := Lib.hid e
        clear e
        go_wp2
        go_round
        case rel =>
          refine ⟨k + 1, by omega, by go_num, ?_⟩
          show x ∉ L.take (k + 1)
          rw [List.take_succ_eq_append_getElem hlt]
          simp only [List.mem_append, List.mem_singleton, not_or]
          exact ⟨ht.out, fun e => HE.out e.symm⟩
        case measure => simp [intOf]; omega
    · have h := ht.out
      rw [List.take_of_length_le (by omega)] at h
      have H := Lib.hid h
      clear h
      go_wp2
      go_ret2
      refine ⟨A, c, ?_, ?_, ?_, Below.refl _ _⟩
      · rw [hasB_no H.out, List.erase_of_not_mem H.out]; rfl
      · rw [List.erase_of_not_mem H.out]; exact hc
      · rw [List.erase_of_not_mem H.out]; exact hA
end Go.Proofs.Ytgenloemohcpcaa

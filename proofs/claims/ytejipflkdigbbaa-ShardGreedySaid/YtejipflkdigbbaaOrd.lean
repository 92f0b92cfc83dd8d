/- Walks: the reference's insert and order. -/
import Derived.Test.YtejipflkdigbbaaSpn
import Derived.Test.YtejipflkdigbbaaPure4
import Derived.Deep.Cut
namespace Go.Proofs.Ytejipflkdigbbaa
open Go.RowKit

/-- A call that hands back a list of numbers in new memory. -/
def IntPost (L : List Int) (w : World) (e : Ending) (w' : World) : Prop := ∃ A c, e = .returned (.slice A L.length c) ∧ L.length ≤ c ∧ RD iv w' A L ∧ Below w.heap.size w w'

set_option maxRecDepth 100000 in
set_option maxHeartbeats 1000000 in
theorem insert_any (A : Option Addr) (c : Nat) (L : List Int) (x : Int) (w : World) (hA : RD iv w A L) (hc : L.length ≤ c) (hl : L.length ≤ 10000) :
    Calls Try.prog 39 #[.slice A L.length c, iv x] w (OwnPost (ins x L) w) := by
  go_enter Try.func39, Try.ntmps39
  go_wp2
  go_loop [5] (fun i => ∃ k : Nat, k ≤ L.length ∧ i = .int .i64 k ∧ Hid (∀ y ∈ L.take k, y < x)) (fun i => L.length - (intOf i).toNat)
  case atStart => exact ⟨0, Nat.zero_le _, rfl, by simp [Hid]⟩
  case round =>
    obtain ⟨k, hk, rfl, ht⟩ := hrel
    by_cases hgo : ∃ h : k < L.length, L[k] < x
    · obtain ⟨hlt, hx⟩ := hgo
      obtain ⟨a, rfl, hab, hac⟩ := hA.at hlt
      have hn : ∀ y ∈ L.take (k + 1), y < x := by
        intro y hy
        rw [List.take_succ_eq_append_getElem hlt, List.mem_append, List.mem_singleton] at hy
        rcases hy with hy | rfl
        · exact ht.out y hy
        · exact hx
      have HN := Lib.hid hn
      clear hn
      generalize L[k] = y at *
      go_wp2
      go_round
      case rel => exact ⟨k + 1, by omega, by go_num, HN.out⟩
      case measure => simp [intOf]; omega
    · have hi : ins x L = L.take k ++ [x] ++ L.drop k := by
        rw [ins_eq x L k hk ht.out (fun h hx => hgo ⟨h, hx⟩)]
        simp
      have HI := Lib.hid hi
      clear hi
      have o1 := ot_empty w (Nat.le_refl _)
      have b1 : Below w.heap.size w (w.alloc (.cells #[] 3)) := (Below.refl _ _).alloc (Nat.le_refl _) _
      have hs1 := fun W => run_head A L.length c (k : Int) k rfl (by omega) W
      have hs2 := fun W => run_cut A L.length c (k : Int) k rfl hk W
      by_cases hlt : k < L.length
      · obtain ⟨a, e, hab, hac⟩ := hA.at hlt
        have hb : ¬ L[k] < x := fun hx => hgo ⟨hlt, hx⟩
        clear hgo
        subst e
        generalize L[k] = y at *
        go_wp2_with (first
          | (at_builtin; refine wpList_app _ rfl (.tmp 21) (.tmp 24) rfl w.heap.size (v := .slice (some ⟨w.heap.size, 0, none⟩) 0 0) rfl o1 (M := L.take k) (by simp; omega) rfl ((hA.below b1).take k) (by simp; omega) (by simp) ?_; intro v2 w2 o2 g2 l2; have b2 := ot_below b1 o1 g2)
          | (at_builtin; refine wpList_app _ rfl (.tmp 26) (.tmp 28) rfl w.heap.size (v := v2) rfl (o2.alloc _) (M := [x]) rfl rfl (rd_one w2 x 3) (by simp; omega) (by have := b2.size; simp; omega) ?_; intro v3 w3 o3 g3 l3; have b3 := ot_below (b2.alloc b2.size _) (o2.alloc _) g3)
          | (at_builtin; refine wpList_app _ rfl (.tmp 30) (.tmp 33) rfl w.heap.size (v := v3) rfl o3 (M := L.drop k) (by simp) rfl ((hA.below b3).cutA k c hc) (by simp; omega) b3.size ?_; intro v4 w4 o4 g4 l4; have b4 := ot_below b3 o3 g4))
        go_ret
        rw [List.nil_append, ← HI.out] at o4
        exact ⟨_, rfl, o4, b4⟩
      · clear hgo
        go_wp2_with (first
          | (at_builtin; refine wpList_app _ rfl (.tmp 21) (.tmp 24) rfl w.heap.size (v := .slice (some ⟨w.heap.size, 0, none⟩) 0 0) rfl o1 (M := L.take k) (by simp; omega) rfl ((hA.below b1).take k) (by simp; omega) (by simp) ?_; intro v2 w2 o2 g2 l2; have b2 := ot_below b1 o1 g2)
          | (at_builtin; refine wpList_app _ rfl (.tmp 26) (.tmp 28) rfl w.heap.size (v := v2) rfl (o2.alloc _) (M := [x]) rfl rfl (rd_one w2 x 3) (by simp; omega) (by have := b2.size; simp; omega) ?_; intro v3 w3 o3 g3 l3; have b3 := ot_below (b2.alloc b2.size _) (o2.alloc _) g3)
          | (at_builtin; refine wpList_app _ rfl (.tmp 30) (.tmp 33) rfl w.heap.size (v := v3) rfl o3 (M := L.drop k) (by simp) rfl ((hA.below b3).cutA k c hc) (by simp; omega) b3.size ?_; intro v4 w4 o4 g4 l4; have b4 := ot_below b3 o3 g4))
        go_ret
        rw [List.nil_append, ← HI.out] at o4
        exact ⟨_, rfl, o4, b4⟩

theorem OT.mono {w : World} {base base' : Nat} {v : Value} {L : List Int} (h : OT w base v L) (hb : base' ≤ base) : OT w base' v L :=
  ⟨h.1, h.2.imp id (fun ⟨g, cap, cur, e, hg, rest⟩ => ⟨g, cap, cur, e, Nat.le_trans hb hg, rest⟩)⟩
theorem cst_at {w : World} {A : Option Addr} {C : List Int} (hA : RD iv w A C) {i : Int} (h0 : 0 ≤ i) (h1 : i < C.length) : ∃ a, A = some a ∧ a.block < w.heap.size ∧ w.cell? (a.add i.toNat) = some (.int .i64 (cst C i)) := costs_at hA (by omega)

set_option maxRecDepth 100000 in
set_option maxHeartbeats 4000000 in
theorem order_any (A : Option Addr) (c : Nat) (C : List Int) (w : World) (hA : RD iv w A C) (hC : C.length ≤ 1000) : Calls Try.prog 37 #[.slice A C.length c] w (OwnPost (ord C) w) := by
  have HA := Lib.hid hA
  clear hA
  go_enter Try.func37, Try.ntmps37
  go_wp2
  go_loopw [3, 4] (fun v i wr => ∃ r : Nat, r ≤ C.length ∧ i = .int .i64 r ∧ Hid (OT wr w.heap.size v (ordU C r)) ∧ Hid (Below w.heap.size w wr)) (fun _ i _ => C.length - (intOf i).toNat)
  case atStart => exact ⟨0, Nat.zero_le _, rfl, Lib.hid (ot_empty _ (Nat.le_refl _)), Lib.hid ((Below.refl _ _).alloc (Nat.le_refl _) _)⟩
  case round =>
    obtain ⟨r, hr, rfl, HO, HBE⟩ := hrel
    by_cases hlt : r < C.length
    · have HA2 := Lib.hid (HA.out.below HBE.out)
      have ML : Hid (∀ y ∈ ordU C r, 0 ≤ y ∧ y < r) := Lib.hid (fun y hy => ordU_mem hy)
      have hln := ordU_len C r
      have NX : Hid (ordU C (r + 1) = oins C r (ordU C r)) := Lib.hid rfl
      obtain ⟨B, cb, rfl, hcb, hrb, -⟩ := HO.out.form
      have HRB := Lib.hid hrb
      obtain ⟨ai, eA, habi, haci⟩ := cst_at HA2.out (i := (r : Int)) (by omega) (by omega)
      subst eA
      simp only [Int.toNat_natCast] at haci
      generalize ordU C r = L at *
      have HLN := Lib.hid hln
      have hL : L.length ≤ 1000 := by omega
      clear hrb hln
      go_wp2
      go_loopw [5] (fun i w2 => ∃ k n : Nat, k ≤ L.length ∧ i = .int .i64 k ∧ Hid (∀ y ∈ L.take k, cst C r ≤ cst C y) ∧ w2 = wr.drewN n) (fun i _ => L.length - (intOf i).toNat)
      case atStart => exact ⟨0, 0, Nat.zero_le _, rfl, by simp [Hid], rfl⟩
      case round =>
        obtain ⟨k, n, hk, rfl, ht, rfl⟩ := hrel
        by_cases hgo : ∃ h : k < L.length, cst C r ≤ cst C L[k]
        · obtain ⟨hlt2, hx⟩ := hgo
          obtain ⟨a2, rfl, hab2, hac2⟩ := HRB.out.at hlt2
          have hm := ML.out _ (List.getElem_mem hlt2)
          obtain ⟨a3, e3, hab3, hac3⟩ := cst_at HA2.out hm.1 (by omega)
          obtain rfl : a3 = ai := by injection e3; exact Eq.symm ‹_›
          clear e3
          have HN : Hid (∀ y ∈ L.take (k + 1), cst C r ≤ cst C y) := Lib.hid (by
            intro y hy
            rw [List.take_succ_eq_append_getElem hlt2, List.mem_append, List.mem_singleton] at hy
            rcases hy with hy | rfl
            · exact ht.out y hy
            · exact hx)
          generalize L[k] = y at *
          obtain ⟨j, rfl⟩ : ∃ j : Nat, y = j := ⟨y.toNat, by omega⟩
          simp only [Int.toNat_natCast] at hac3
          generalize cst C (j : Int) = cj at *
          generalize cst C (r : Int) = cr at *
          have t1 : decide ((k : Int) < (L.length : Int)) = true := by simp; omega
          have t2 : (0 : Int) ≤ (k : Int) := by omega
          have t3 : (k : Int) < (L.length : Int) := by omega
          have t4 : (0 : Int) ≤ (j : Int) := by omega
          have t5 : (j : Int) < (C.length : Int) := by omega
          have t6 : (0 : Int) ≤ (r : Int) := by omega
          have t7 : (r : Int) < (C.length : Int) := by omega
          go_wp2
          go_quiet (fail)
          go_wp2
          go_roundw
          case rel => exact ⟨k + 1, _, by omega, by go_num, HN, rfl⟩
          case measure => simp [intOf]; omega
        · have HI : Hid (oins C r L = [] ++ L.take k ++ [(r : Int)] ++ L.drop k) := Lib.hid (by rw [oins_eq C r L k hk ht.out (fun h hx => hgo ⟨h, hx⟩)]; simp)
          by_cases hlt2 : k < L.length
          · have hx : ¬ cst C r ≤ cst C L[k] := fun hx => hgo ⟨hlt2, hx⟩
            clear hgo
            obtain ⟨a2, eB, hab2, hac2⟩ := HRB.out.at hlt2
            have hm := ML.out _ (List.getElem_mem hlt2)
            obtain ⟨a3, e3, hab3, hac3⟩ := cst_at HA2.out hm.1 (by omega)
            obtain rfl : a3 = ai := by injection e3; exact Eq.symm ‹_›
            clear e3
            subst eB
            generalize L[k] = y at *
            obtain ⟨j, rfl⟩ : ∃ j : Nat, y = j := ⟨y.toNat, by omega⟩
            simp only [Int.toNat_natCast] at hac3
            generalize cst C (j : Int) = cj at *
            generalize cst C (r : Int) = cr at *
            have t1 : decide ((k : Int) < (L.length : Int)) = true := by simp; omega
            have t2 : (0 : Int) ≤ (k : Int) := by omega
            have t3 : (k : Int) < (L.length : Int) := by omega
            have t4 : (0 : Int) ≤ (j : Int) := by omega
            have t5 : (j : Int) < (C.length : Int) := by omega
            have t6 : (0 : Int) ≤ (r : Int) := by omega
            have t7 : (r : Int) < (C.length : Int) := by omega
            have t8 : decide (cr ≤ cj) = false := by simpa using hx
            go_wp2
            go_quiet (fail)
            go_upto_region 8 with (fail)
            rw [World.drewN_drewN]
            have hbW := below_drewN HBE.out (n + nq)
            have hrW : RD iv (wr.drewN (n + nq)) _ L := HRB.out.drewN _
            generalize wr.drewN (n + nq) = W2 at *
            have hs1 := fun W => run_head (some a2) L.length cb (k : Int) k rfl (by omega) W
            have hs2 := fun W => run_cut (some a2) L.length cb (k : Int) k rfl hk W
            have o1 := ot_empty W2 (Nat.le_refl _)
            have b1 : Below W2.heap.size W2 (W2.alloc (.cells #[] 3)) := (Below.refl _ _).alloc (Nat.le_refl _) _
            go_wp2_with (first
              | (at_builtin; refine wpList_app _ rfl (.tmp 34) (.tmp 37) rfl W2.heap.size (v := .slice (some ⟨W2.heap.size, 0, none⟩) 0 0) rfl o1 (M := L.take k) (by simp; omega) rfl ((hrW.below b1).take k) (by simp; omega) b1.size ?_; intro v2 w2 o2 g2 l2; have b2 := ot_below b1 o1 g2)
              | (at_builtin; refine wpList_app _ rfl (.tmp 39) (.tmp 41) rfl W2.heap.size (v := v2) rfl (o2.alloc _) (M := [(r : Int)]) rfl rfl (rd_one w2 r 3) (by simp; omega) (by have := b2.size; simp; omega) ?_; intro v3 w3 o3 g3 l3; have b3 := ot_below (b2.alloc b2.size _) (o2.alloc _) g3)
              | (at_builtin; refine wpList_app _ rfl (.tmp 43) (.tmp 46) rfl W2.heap.size (v := v3) rfl o3 (M := L.drop k) (by simp) rfl ((hrW.below b3).cutA k cb hcb) (by simp; omega) b3.size ?_; intro v4 w4 o4 g4 l4; have b4 := ot_below b3 o3 g4))
            rw [← HI.out, ← NX.out] at o4
            have HO4 := Lib.hid (o4.mono hbW.size)
            have HB4 := Lib.hid (hbW.trans (b4.mono hbW.size))
            clear o1 b1 o2 g2 l2 b2 o3 g3 l3 b3 o4 g4 l4 b4
            go_wp2_with fail
            go_roundw
            case rel => exact ⟨r + 1, by omega, by go_num, HO4, HB4⟩
            case measure => simp [intOf]; omega
          · clear hgo
            have t1 : decide ((k : Int) < (L.length : Int)) = false := by simp; omega
            go_wp2
            go_quiet (fail)
            go_upto_region 8 with (fail)
            rw [World.drewN_drewN]
            have hbW := below_drewN HBE.out (n + nq)
            have hrW : RD iv (wr.drewN (n + nq)) _ L := HRB.out.drewN _
            generalize wr.drewN (n + nq) = W2 at *
            have hs1 := fun W => run_head B L.length cb (k : Int) k rfl (by omega) W
            have hs2 := fun W => run_cut B L.length cb (k : Int) k rfl hk W
            have o1 := ot_empty W2 (Nat.le_refl _)
            have b1 : Below W2.heap.size W2 (W2.alloc (.cells #[] 3)) := (Below.refl _ _).alloc (Nat.le_refl _) _
            go_wp2_with (first
              | (at_builtin; refine wpList_app _ rfl (.tmp 34) (.tmp 37) rfl W2.heap.size (v := .slice (some ⟨W2.heap.size, 0, none⟩) 0 0) rfl o1 (M := L.take k) (by simp; omega) rfl ((hrW.below b1).take k) (by simp; omega) b1.size ?_; intro v2 w2 o2 g2 l2; have b2 := ot_below b1 o1 g2)
              | (at_builtin; refine wpList_app _ rfl (.tmp 39) (.tmp 41) rfl W2.heap.size (v := v2) rfl (o2.alloc _) (M := [(r : Int)]) rfl rfl (rd_one w2 r 3) (by simp; omega) (by have := b2.size; simp; omega) ?_; intro v3 w3 o3 g3 l3; have b3 := ot_below (b2.alloc b2.size _) (o2.alloc _) g3)
              | (at_builtin; refine wpList_app _ rfl (.tmp 43) (.tmp 46) rfl W2.heap.size (v := v3) rfl o3 (M := L.drop k) (by simp) rfl ((hrW.below b3).cutA k cb hcb) (by simp; omega) b3.size ?_; intro v4 w4 o4 g4 l4; have b4 := ot_below b3 o3 g4))
            rw [← HI.out, ← NX.out] at o4
            have HO4 := Lib.hid (o4.mono hbW.size)
            have HB4 := Lib.hid (hbW.trans (b4.mono hbW.size))
            clear o1 b1 o2 g2 l2 b2 o3 g3 l3 b3 o4 g4 l4 b4
            go_wp2_with fail
            go_roundw
            case rel => exact ⟨r + 1, by omega, by go_num, HO4, HB4⟩
            case measure => simp [intOf]; omega
    · have e : Hid (ordU C r = ord C) := Lib.hid (by unfold ord; rw [show r = C.length by omega])
      go_wp2
      go_ret
      exact ⟨_, rfl, by have h := HO.out; rw [e.out] at h; exact h, HBE.out⟩
end Go.Proofs.Ytejipflkdigbbaa

/- Walk: the law's sums. -/
import Derived.Test.YtejipflkdigbbaaGrp
import Derived.Test.YtejipflkdigbbaaOrd
namespace Go.Proofs.Ytejipflkdigbbaa
open Go.RowKit

def srt (L : List Int) : List Int := L.foldl (fun out x => ins x out) []
theorem ins_len (x : Int) (l : List Int) : (ins x l).length = l.length + 1 := by rw [(ins_perm x l).length_eq]; rfl
theorem srt_take {L : List Int} {r : Nat} (h : r < L.length) : srt (L.take (r + 1)) = ins L[r] (srt (L.take r)) := by
  unfold srt; rw [List.take_succ_eq_append_getElem h, List.foldl_append]; rfl
theorem srt_len (L : List Int) : (srt L).length = L.length := by
  unfold srt
  suffices ∀ (L M : List Int), (L.foldl (fun out x => ins x out) M).length = L.length + M.length by simpa using this L []
  intro L
  induction L with
  | nil => intro M; simp
  | cons x L ih => intro M; rw [List.foldl_cons, ih, ins_len, List.length_cons]; omega
/-- What the law's sums hands back. -/
def SmsPost (L : List Int) (w : World) (e : Ending) (w' : World) : Prop := ∃ v, e = .returned (.tuple #[v, .bool true]) ∧ OT w' w.heap.size v L ∧ Below w.heap.size w w'

set_option maxRecDepth 100000 in
set_option maxHeartbeats 4000000 in
theorem sums23_any (A B : Option Addr) (c d : Nat) (C : List Int) (R : List Row) (w : World) (hA : RD iv w A C) (hB : Rws w B R) (hR : R.length ≤ 1000) (hF : Fit C R) :
    Calls Try.prog 23 #[.slice A C.length c, .slice B R.length d] w (SmsPost (srt (sums C (lls R))) w) := by
  have FT := Lib.hid hF
  have HA := Lib.hid hA
  have HB := Lib.hid hB
  have hsl : (sums C (lls R)).length = R.length := by simp [sums, lls]
  have HSL := Lib.hid hsl
  have hCn := hF.n
  clear hA hB hF hsl
  go_enter Try.func23, Try.ntmps23
  go_wp2
  go_loopw [6, 17] (fun v i wr => ∃ r : Nat, r ≤ R.length ∧ i = .int .i64 r ∧ Hid (OT wr w.heap.size v (srt ((sums C (lls R)).take r))) ∧ Hid (Below w.heap.size w wr)) (fun _ i _ => R.length - (intOf i).toNat)
  case atStart => exact ⟨0, Nat.zero_le _, rfl, Lib.hid (ot_empty _ (Nat.le_refl _)), Lib.hid ((Below.refl _ _).alloc (Nat.le_refl _) _)⟩
  case round =>
    obtain ⟨r, hr, rfl, HO, HBE⟩ := hrel
    have HB2 := HB.out.below HBE.out
    have HA2 := Lib.hid (HA.out.below HBE.out)
    by_cases hlt : r < R.length
    · obtain ⟨a, rfl, hab, hac⟩ := HB2.a.at hlt
      have hrow := HB2.r R[r] (List.getElem_mem hlt)
      have G : Hid (srt ((sums C (lls R)).take (r + 1)) = ins (psum C R[r].L) (srt ((sums C (lls R)).take r))) := Lib.hid (by rw [srt_take (by rw [HSL.out]; exact hlt)]; simp [sums, lls])
      have I1 := Lib.hid (FT.out.i R[r] (List.getElem_mem hlt))
      have I2 := FT.out.l R[r] (List.getElem_mem hlt)
      have hol : (srt ((sums C (lls R)).take r)).length = r := by rw [srt_len, List.length_take, HSL.out]; omega
      generalize srt ((sums C (lls R)).take r) = L at *
      have HOL := Lib.hid hol
      have hL : L.length ≤ 1000 := by omega
      clear hol
      generalize R[r] = row at *
      obtain ⟨ra, rc, rl⟩ := row
      have ROW := Lib.hid hrow.a
      simp only [Row.val] at hac ROW I1 I2 G
      clear hrow HB2
      obtain ⟨B', cb, rfl, hcb, hrb, -⟩ := HO.out.form
      have HRB := Lib.hid hrb
      clear hrb
      go_wp2
      go_loop [9, 23] (fun s i => ∃ k : Nat, k ≤ rl.length ∧ i = .int .i64 k ∧ s = .int .i64 (psum C (rl.take k))) (fun _ i => rl.length - (intOf i).toNat)
      case atStart => exact ⟨0, Nat.zero_le _, rfl, by simp [psum]⟩
      case round =>
        obtain ⟨k, hk, rfl, rfl⟩ := hrel
        have b1 := psum_bd FT.out.c (rl.take k)
        have b2 : (rl.take k).length ≤ 1000 := by simp; omega
        by_cases hlt2 : k < rl.length
        · obtain ⟨a2, rfl, hab2, hac2⟩ := ROW.out.at hlt2
          have hi := I1.out _ (List.getElem_mem hlt2)
          obtain ⟨a3, rfl, hab3, hac3⟩ := costs_at HA2.out (show rl[k].toNat < C.length by omega)
          have b3 := getD_bd FT.out.c rl[k].toNat
          have S1 := Lib.hid (psum_take (C := C) hlt2)
          generalize rl[k] = x at *
          obtain ⟨j, rfl⟩ : ∃ j : Nat, x = j := ⟨x.toNat, by omega⟩
          simp only [Int.toNat_natCast] at hac3 b3 S1
          generalize C.getD j 0 = v at *
          generalize psum C (rl.take k) = z at *
          have t1 : decide ((j : Int) < 0) = false := by simp
          have t2 : decide ((C.length : Int) ≤ (j : Int)) = false := by simp; omega
          go_wp2
          go_round
          case rel => exact ⟨k + 1, by omega, by go_num, by rw [S1.out]⟩
          case measure => simp [intOf]; omega
        · have e : Hid (psum C (rl.take k) = psum C rl) := Lib.hid (by rw [List.take_of_length_le (by omega)])
          rw [e.out]
          rw [e.out] at b1
          generalize psum C rl = z at *
          go_wp2
          go_loop [12] (fun i => ∃ m : Nat, m ≤ L.length ∧ i = .int .i64 m ∧ Hid (∀ y ∈ L.take m, y < z)) (fun i => L.length - (intOf i).toNat)
          case atStart => exact ⟨0, Nat.zero_le _, rfl, by simp [Hid]⟩
          case round =>
            obtain ⟨m, hm, rfl, ht⟩ := hrel
            by_cases hgo : ∃ h : m < L.length, L[m] < z
            · obtain ⟨hlt3, hx⟩ := hgo
              obtain ⟨a4, rfl, hab4, hac4⟩ := HRB.out.at hlt3
              have HN : Hid (∀ y ∈ L.take (m + 1), y < z) := Lib.hid (by
                intro y hy
                rw [List.take_succ_eq_append_getElem hlt3, List.mem_append, List.mem_singleton] at hy
                rcases hy with hy | rfl
                · exact ht.out y hy
                · exact hx)
              generalize L[m] = y at *
              go_wp2
              go_round
              case rel => exact ⟨m + 1, by omega, by go_num, HN.out⟩
              case measure => simp [intOf]; omega
            · have HI : Hid (ins z L = [] ++ L.take m ++ [z] ++ L.drop m) := Lib.hid (by
                rw [ins_eq z L m hm ht.out (fun h hx => hgo ⟨h, hx⟩)]
                simp)
              have hs1 := fun W => run_head B' L.length cb (m : Int) m rfl (by omega) W
              have hs2 := fun W => run_cut B' L.length cb (m : Int) m rfl hm W
              have o1 := ot_empty wr (Nat.le_refl _)
              have b1' : Below wr.heap.size wr (wr.alloc (.cells #[] 3)) := (Below.refl _ _).alloc (Nat.le_refl _) _
              by_cases hlt3 : m < L.length
              · obtain ⟨a4, e4, hab4, hac4⟩ := HRB.out.at hlt3
                have hb : ¬ L[m] < z := fun hx => hgo ⟨hlt3, hx⟩
                clear hgo
                subst e4
                generalize L[m] = y at *
                go_wp2_with (first
                  | (at_builtin; refine wpList_app _ rfl (.tmp 57) (.tmp 60) rfl wr.heap.size (v := .slice (some ⟨wr.heap.size, 0, none⟩) 0 0) rfl o1 (M := L.take m) (by simp; omega) rfl ((HRB.out.below b1').take m) (by simp; omega) b1'.size ?_; intro v2 w2 o2 g2 l2; have b2' := ot_below b1' o1 g2)
                  | (at_builtin; refine wpList_app _ rfl (.tmp 62) (.tmp 64) rfl wr.heap.size (v := v2) rfl (o2.alloc _) (M := [z]) rfl rfl (rd_one w2 z 3) (by simp; omega) (by have := b2'.size; simp; omega) ?_; intro v3 w3 o3 g3 l3; have b3' := ot_below (b2'.alloc b2'.size _) (o2.alloc _) g3)
                  | (at_builtin; refine wpList_app _ rfl (.tmp 66) (.tmp 69) rfl wr.heap.size (v := v3) rfl o3 (M := L.drop m) (by simp) rfl ((HRB.out.below b3').cutA m cb hcb) (by simp; omega) b3'.size ?_; intro v4 w4 o4 g4 l4; have b4' := ot_below b3' o3 g4))
                rw [← HI.out, ← G.out] at o4
                have HO4 := Lib.hid (o4.mono HBE.out.size)
                have HB4 := Lib.hid (HBE.out.trans (b4'.mono HBE.out.size))
                clear o1 b1' o2 g2 l2 b2' o3 g3 l3 b3' o4 g4 l4 b4'
                go_wp2_with fail
                go_roundw
                case rel => exact ⟨r + 1, by omega, by go_num, HO4, HB4⟩
                case measure => simp [intOf]; omega
              · clear hgo
                go_wp2_with (first
                  | (at_builtin; refine wpList_app _ rfl (.tmp 57) (.tmp 60) rfl wr.heap.size (v := .slice (some ⟨wr.heap.size, 0, none⟩) 0 0) rfl o1 (M := L.take m) (by simp; omega) rfl ((HRB.out.below b1').take m) (by simp; omega) b1'.size ?_; intro v2 w2 o2 g2 l2; have b2' := ot_below b1' o1 g2)
                  | (at_builtin; refine wpList_app _ rfl (.tmp 62) (.tmp 64) rfl wr.heap.size (v := v2) rfl (o2.alloc _) (M := [z]) rfl rfl (rd_one w2 z 3) (by simp; omega) (by have := b2'.size; simp; omega) ?_; intro v3 w3 o3 g3 l3; have b3' := ot_below (b2'.alloc b2'.size _) (o2.alloc _) g3)
                  | (at_builtin; refine wpList_app _ rfl (.tmp 66) (.tmp 69) rfl wr.heap.size (v := v3) rfl o3 (M := L.drop m) (by simp) rfl ((HRB.out.below b3').cutA m cb hcb) (by simp; omega) b3'.size ?_; intro v4 w4 o4 g4 l4; have b4' := ot_below b3' o3 g4))
                rw [← HI.out, ← G.out] at o4
                have HO4 := Lib.hid (o4.mono HBE.out.size)
                have HB4 := Lib.hid (HBE.out.trans (b4'.mono HBE.out.size))
                clear o1 b1' o2 g2 l2 b2' o3 g3 l3 b3' o4 g4 l4 b4'
                go_wp2_with fail
                go_roundw
                case rel => exact ⟨r + 1, by omega, by go_num, HO4, HB4⟩
                case measure => simp [intOf]; omega
    · go_wp2
      go_ret2
      refine ⟨_, rfl, ?_, HBE.out⟩
      have h := HO.out
      rw [List.take_of_length_le (by rw [HSL.out]; omega)] at h
      exact h
end Go.Proofs.Ytejipflkdigbbaa

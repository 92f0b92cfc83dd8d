/- Walk: the closure place, where costs are left. -/
import Derived.Test.YtejipflkdigbbaaDiv
import Derived.Deep.RegionHeld3
import Derived.Deep.Cut
namespace Go.Proofs.Ytejipflkdigbbaa
open Go.RowKit Go.Shelf

theorem step_app {w : World} {ops : Array Oper} {o : Oper} {a : Act} {K : Act → World → Prop} {Q : Exit → Act → World → Prop} {E : Prop} (hgd : o.guard = none) (s x : Operand)
    (ho : o.op = .call { callee := .builtin .append, args := #[s, x], argTypes := #[22, 22] }) (base : Nat) {v : Value} {L : List Int} (hs : a.eval s = v) (hown : OT w base v L)
    {A : Option Addr} {M : List Int} {m c : Nat} (hm : M.length = m) (hx : a.eval x = .slice A m c) (hr : RD iv w A M) (hsz : L.length + M.length ≤ 1000000) (hb : base ≤ w.heap.size)
    (h : ∀ v' w', OT w' base v' (L ++ M) → w.grownBy w' v.ownBlock → K (a.put o.dst v') w') : if Region.wanted o (yielded ops a.tmps) = true then Oper.wp Try.prog o a w K Q else E := by
  have hw : Region.wanted o (yielded ops a.tmps) = true := by simp [Region.wanted, hgd]
  rw [if_pos hw]
  subst hm
  obtain ⟨v', w', hrun, h2, h3, -⟩ := run_app w o.type base hown c hr hsz hb
  unfold Oper.wp execOp
  simp only [ho, resolve, invoke, builtin, Sem.run_bind, Sem.run_pure, Result.andThen_ok, List.map_toArray, List.map_cons, List.map_nil, hs, hx, hrun]
  exact h v' w' h2 h3
theorem flat_take {x : Int} {S : List Int} {n k : Nat} {r : List Int} (h : k < wys S n) : ((opts x S n).take (k + 1)).flatMap (leaves n r) = ((opts x S n).take k).flatMap (leaves n r) ++ leaves n r (opt x S k) := by
  rw [opts_take h, List.flatMap_append]; simp

theorem ot_rd0 {w : World} {base g cap : Nat} {L : List Int} (h : OT w base (.slice (some ⟨g, 0, none⟩) L.length cap) L) : RD iv w (some ⟨g, 0, none⟩) L := by
  obtain ⟨A, c, e, hc, hr, -⟩ := h.form
  cases e
  exact hr
/-- What place is asked for, from an index on. -/
def PlaceAt (X : List Nat) (l : Nat) (J : List (List Int) → World → Prop) (A : Option Addr) (c : Nat) (C : List Int) (n D Y Q : Nat) (i : Nat) : Prop :=
  ∀ (pre : List (List Int)) (S : List Int) (B : Option Addr) (d : Nat) (W : World), Cap A c C n D Y Q l W → J pre W → RD iv W B S → (∀ b, B = some b → b.block ∉ X) → (∀ x ∈ X, x < W.heap.size) → Bnd (C.drop i) S n →
    Calls Try.prog 52 #[.int .i64 (i : Nat), .slice B S.length d, .pointer (some ⟨D, 0, none⟩), .pointer (some ⟨Y, 0, none⟩), .pointer (some ⟨Q, 0, none⟩), .pointer (some ⟨D + 1, 0, none⟩)] W (PlacePost X J pre (leaves n (C.drop i) S) W)

set_option maxRecDepth 100000 in
set_option maxHeartbeats 4000000 in
theorem place_step {X : List Nat} {l m : Nat} {J : List (List Int) → World → Prop} (R : Rng X l m J) (A : Option Addr) (c : Nat) (C : List Int) (n D Y Q : Nat) (hX : D ∉ X ∧ D + 1 ∉ X ∧ Y ∉ X ∧ Q ∉ X) (hAX : C ≠ [] → ∀ a, A = some a → a.block ∉ X) (hCl : C.length ≤ 1000)
    (i : Nat) (hi : i < C.length) (ih : PlaceAt X l J A c C n D Y Q (i + 1)) : PlaceAt X l J A c C n D Y Q i := by
  intro pre S B d W hc hJ hB hBX hXW hb
  have ed : C.drop i = C[i] :: C.drop (i + 1) := (List.getElem_cons_drop hi).symm
  have hS := hb.sl
  have hn := hb.n2
  have hn1 := hb.n1
  have LV : Hid (leaves n (C.drop i) S = (opts C[i] S n).flatMap (leaves n (C.drop (i + 1)))) := Lib.hid (by rw [ed]; rfl)
  rw [ed] at hb
  have hx := hb.c C[i] (List.Mem.head _)
  have HBD := Lib.hid hb
  have IH := Lib.hid ih
  have HC := Lib.hid hc
  have HJ := Lib.hid hJ
  have HB := Lib.hid hB
  have HAX := Lib.hid hAX
  have HBX := Lib.hid hBX
  have HXW := Lib.hid hXW
  have HX := Lib.hid hX
  have RR := Lib.hid R
  have CI : Hid (∀ W, Cap A c C n D Y Q l W → ∃ a, A = some a ∧ W.cell? (a.add i) = some (.int .i64 C[i])) := Lib.hid (fun W h => by obtain ⟨a, e, -, h2⟩ := h.r.at hi; exact ⟨a, e, h2⟩)
  have c1 := cell_h hc.d
  have c2 := cell_h hc.y
  have c3 := cell_h hc.q
  have c4 := cell_h hc.e
  have t1 : ((i : Int) == (C.length : Int)) = false := by simp; omega
  clear hb ih hc hJ hB hAX hBX hXW hX ed R
  generalize C[i] = x at *
  go_enter Try.func52, Try.ntmps52
  go_wp2_with fail
  go_loopw [20] (fun v wr => ∃ k : Nat, k ≤ S.length ∧ v = .int .i64 k ∧ Hid (J (pre ++ ((opts x S n).take k).flatMap (leaves n (C.drop (i + 1)))) wr) ∧ Hid (KP X W wr)) (fun v _ => S.length - (intOf v).toNat)
  case atStart => exact ⟨0, Nat.zero_le _, rfl, Lib.hid (by simpa using HJ.out), Lib.hid (KP.refl _ _)⟩
  case round =>
    obtain ⟨k, hk, rfl, HJ2, HK2⟩ := hrel
    have HC2 := Lib.hid (HC.out.kp HK2.out HX.out HAX.out)
    have HB2 := HB.out.kp HK2.out (fun _ => HBX.out)
    have HXr : Hid (∀ x ∈ X, x < wr.heap.size) := Lib.hid (fun y hy => Nat.lt_of_lt_of_le (HXW.out y hy) HK2.out.size)
    clear c1 c2 c3 c4
    by_cases hlt : k < S.length
    · have hw : k < wys S n := by unfold wys; split <;> omega
      have hSne : S ≠ [] := fun h => by subst h; simp at hlt
      have NB := Lib.hid (HBD.out.next hw)
      have FT := Lib.hid (flat_take (x := x) (r := C.drop (i + 1)) hw)
      have HOPT : Hid (opt x S k = S.set k (S.getD k 0 + x)) := Lib.hid (by unfold opt; rw [if_pos hlt])
      have HLN : Hid ((opt x S k).length = S.length) := Lib.hid (by rw [opt_len, if_pos hlt])
      have sb : S.getD k 0 ∈ S := by simp [List.getD_eq_getElem?_getD, hlt]
      have sbd := HBD.out.s _ sb
      simp only [List.length_cons] at sbd
      go_wp2_with (go_at_call 40; refine (clone_any B d S _ HB2 (by omega)).mono ?_; rintro e w2 ⟨v2, rfl, o2, b2⟩)
      obtain ⟨g, cap, rfl, hg1, hg2, hcap⟩ := o2.inBlock hSne
      obtain ⟨m11, m12⟩ := o2.at hlt
      have hs2 := o2.set k (S.getD k 0 + x)
      have HC3 := Lib.hid (HC2.out.kp (KP.of b2) HX.out HAX.out)
      obtain ⟨a, rfl, hac⟩ := CI.out _ HC3.out
      have c1 := cell_h HC3.out.d
      have B2 := Lib.hid b2
      have z1 : (0 : Int) ≤ (k : Int) := by omega
      have z2 : (k : Int) < (S.length : Int) := by omega
      have z3 : (0 : Int) ≤ (i : Int) := by omega
      have z4 : (i : Int) < (C.length : Int) := by omega
      generalize S.getD k 0 = y at *
      clear b2
      go_upto_region 7 with (fail)
      go_region
      go_upto_region 8 with (fail)
      have BW := Lib.hid (below_drewN (B2.out.setCell (p := ⟨g, k, none⟩) hg1 (.int .i64 (y + x))) 1)
      have HRN : Hid (RD iv (w2.setCell ⟨g, k, none⟩ (.int .i64 (y + x))).drew (some ⟨g, 0, none⟩) (opt x S k)) := Lib.hid (by rw [HOPT.out]; exact ot_rd hs2.1 (by simp))
      replace BW : Hid (Below wr.heap.size wr (w2.setCell ⟨g, k, none⟩ (.int .i64 (y + x))).drew) := BW
      generalize (w2.setCell ⟨g, k, none⟩ (.int .i64 (y + x))).drew = W3 at *
      have HC4 := Lib.hid (HC2.out.kp (KP.of BW.out) HX.out HAX.out)
      have HJ4 := Lib.hid (RR.out.keep _ _ _ HJ2.out BW.out)
      have ic := IH.out _ (opt x S k) (some ⟨g, 0, none⟩) cap W3 HC4.out HJ4.out HRN.out (fun b hb => by cases hb; intro hx'; have := HXr.out _ hx'; simp at this; omega) (fun y hy => Nat.lt_of_lt_of_le (HXr.out y hy) BW.out.size) NB.out
      rw [HLN.out, show ((i + 1 : Nat) : Int) = (i : Int) + 1 by omega] at ic
      have IC := Lib.hid ic
      clear ic hs2 o2 m11 m12 hac c1 B2 HC3 HRN
      have c3 := cell_h HC4.out.q
      go_wp2_with (go_at_call 52; refine IC.out.mono ?_; rintro e w4 ⟨rfl, j4, k4⟩)
      have J5 : Hid (J (pre ++ ((opts x S n).take (k + 1)).flatMap (leaves n (C.drop (i + 1)))) w4) := Lib.hid (by rw [FT.out, ← List.append_assoc]; exact j4)
      have K5 := Lib.hid ((HK2.out.trans (KP.of BW.out)).trans k4)
      clear j4 k4
      go_roundw
      case rel => exact ⟨k + 1, by omega, by go_num, J5, K5⟩
      case measure => simp [intOf]; omega
    · obtain rfl : k = S.length := by omega
      have c4 := cell_h HC2.out.e
      by_cases hSn : S.length < n
      · have hw : S.length < wys S n := by unfold wys; rw [if_pos hSn]; omega
        have NB := Lib.hid (HBD.out.next hw)
        have EO : opt x S S.length = S ++ [x] := by unfold opt; rw [if_neg (by omega)]
        have FT := Lib.hid (flat_take (x := x) (r := C.drop (i + 1)) hw)
        rw [EO] at NB FT
        have ELV : Hid (leaves n (C.drop i) S = ((opts x S n).take (S.length + 1)).flatMap (leaves n (C.drop (i + 1)))) := Lib.hid (by rw [List.take_of_length_le (by rw [opts_len]; unfold wys; rw [if_pos hSn]; exact Nat.le_refl _)]; exact LV.out)
        obtain ⟨a, rfl, hac⟩ := CI.out _ HC2.out
        have c1 := cell_h HC2.out.d
        have c3 := cell_h HC2.out.q
        have HB2H := Lib.hid HB2
        have HSK : Hid (∀ W', KP X wr W' → W'.cell? ⟨Q, 0, none⟩ = some (.func (.func 52) #[] #[.pointer (some ⟨D, 0, none⟩), .pointer (some ⟨Y, 0, none⟩), .pointer (some ⟨Q, 0, none⟩), .pointer (some ⟨D + 1, 0, none⟩)]) ∧ W'.cell? ⟨D, 0, none⟩ = some (.slice (some a) C.length c) ∧ W'.cell? (a.add i) = some (.int .i64 x)) := Lib.hid (fun W' h => by
          have h2 := HC2.out.kp h HX.out HAX.out
          obtain ⟨a', e, h3⟩ := CI.out _ h2
          cases e
          exact ⟨cell_h h2.q, cell_h h2.d, h3⟩)
        have z3 : (0 : Int) ≤ (i : Int) := by omega
        have z4 : (i : Int) < (C.length : Int) := by omega
        have z5 : IntKind.i64.wrap ((i : Int) + 1) = (i : Int) + 1 := IntWalk.i64_in _ (by omega)
        have r0 : RD iv wr.drew B S := HB2.drewN 1
        have r1 : RD iv (wr.alloc (.cells #[.int .i64 x] 3)).drew B S := (HB2.alloc _).drewN 1
        have D2 : Hid (Below wr.heap.size wr (wr.alloc (.cells #[.int .i64 x] 3)).drew) := Lib.hid (below_drewN ((Below.refl _ _).alloc (Nat.le_refl _) _) 1)
        have R2 : Hid (RD iv (wr.alloc (.cells #[.int .i64 x] 3)).drew (some ⟨wr.heap.size, 0, none⟩) [x]) := Lib.hid ((rd_one wr x 3).drewN 1)
        have hS100 : S.length ≤ 1000 := by omega
        have hsz1 : S.length + [x].length ≤ 1000000 := by simp; omega
        have HLN2 := Lib.hid (show (S ++ [x]).length = S.length + 1 by simp)
        clear HB2 EO
        go_upto_region 12 with (fail)
        have D1 : Hid (Below wr.heap.size wr wr.drew) := Lib.hid (below_drewN (Below.refl _ _) 1)
        go_region_held3 (fun w' => w'.cell? ⟨Q, 0, none⟩ = some (.func (.func 52) #[] #[.pointer (some ⟨D, 0, none⟩), .pointer (some ⟨Y, 0, none⟩), .pointer (some ⟨Q, 0, none⟩), .pointer (some ⟨D + 1, 0, none⟩)]) ∧ w'.cell? ⟨D, 0, none⟩ = some (.slice (some a) C.length c) ∧ w'.cell? (a.add i) = some (.int .i64 x))
          (first | exact HSK.out _ (KP.of D1.out) | exact HSK.out _ KF | exact HSK.out _ (KP.of KB) | exact HSK.out _ (KP.of (KA.alloc KA.size _)) | exact HSK.out _ (KP.of KA) | exact HSK.out _ (KP.of D2.out) | exact HSK.out _ (KP.of (D1.out.alloc D1.out.size _)))
          (first
            | (go_at_call 40; (with_reducible refine Calls.mono (clone_any B d S _ (by assumption) hS100) ?_); rintro e wa ⟨va, rfl, oa, ka⟩; have KA : Below wr.heap.size wr wa := (by first | exact D1.out.trans ka | exact D2.out.trans (ka.mono D2.out.size)); have OA : OT wa wr.heap.size va S := oa.mono (by first | exact D1.out.size | exact D2.out.size); have OA' := OA.alloc (.cells #[.int .i64 x] 3); have RX' := rd_one wa x 3; (try (have RX := R2.out.below ka)); have kz := KA.size; have kz' : wr.heap.size ≤ (wa.alloc (.cells #[.int .i64 x] 3)).heap.size := (by simp; omega); clear oa ka)
            | (refine step_app (by rfl) (.tmp 50) (.tmp 55) (by rfl) wr.heap.size (by rfl) (by assumption) (M := [x]) (m := 1) (c := 1) (by rfl) (by rfl) (by assumption) hsz1 (by assumption) ?_; intro vb wb ob gb; have KB : Below wr.heap.size wr wb := (by first | exact ot_below KA OA gb | exact ot_below (KA.alloc KA.size _) OA' gb); obtain ⟨g, cap, rfl, hg1, hg2, hcap⟩ := ob.inBlock (by simp); have HC4 := Lib.hid (HC2.out.kp (KP.of KB) HX.out HAX.out); have HJ4 := Lib.hid (RR.out.keep _ _ _ HJ2.out KB); have rN : RD iv wb (some ⟨g, 0, none⟩) (S ++ [x]) := ot_rd0 ob; have ic := IH.out _ (S ++ [x]) (some ⟨g, 0, none⟩) cap wb HC4.out HJ4.out rN (fun b hb => by cases hb; intro hx'; have := HXr.out _ hx'; simp at this; omega) (fun y hy => Nat.lt_of_lt_of_le (HXr.out y hy) KB.size) NB.out; rw [HLN2.out, show ((i + 1 : Nat) : Int) = (i : Int) + 1 by omega] at ic; have IC := Lib.hid ic; rw [HLN2.out]; clear ic ob gb rN; try clear RX; clear RX' OA OA')
            | (go_at_call 52; refine Calls.mono IC.out ?_; rintro e wf ⟨rfl, jf, kf⟩; have KF : KP X wr wf := (KP.of KB).trans kf))
        all_goals have FIN : Hid (J (pre ++ leaves n (C.drop i) S) wf) := Lib.hid (by rw [ELV.out, FT.out, ← List.append_assoc]; exact jf)
        all_goals have KFF := Lib.hid (HK2.out.trans KF)
        all_goals clear jf KF
        all_goals go_wp2
        all_goals go_ret
        all_goals exact ⟨rfl, FIN.out, KFF.out⟩
      · have FIN : Hid (J (pre ++ leaves n (C.drop i) S) wr) := Lib.hid (by
          have h := HJ2.out
          rw [List.take_of_length_le (by rw [opts_len]; unfold wys; rw [if_neg hSn]; exact Nat.le_refl _)] at h
          rw [LV.out]; exact h)
        go_wp2
        go_ret
        exact ⟨rfl, FIN.out, HK2.out⟩

theorem place_any {X : List Nat} {l m : Nat} {J : List (List Int) → World → Prop} (R : Rng X l m J) (A : Option Addr) (c : Nat) (C : List Int) (n D Y Q : Nat) (hX : D ∉ X ∧ D + 1 ∉ X ∧ Y ∉ X ∧ Q ∉ X) (hAX : C ≠ [] → ∀ a, A = some a → a.block ∉ X) (hCl : C.length ≤ 1000) :
    ∀ (k i : Nat), i + k = C.length → PlaceAt X l J A c C n D Y Q i
  | 0, i, hk => by
    intro pre S B d W hc hJ hB _ _ hb
    obtain rfl : i = C.length := by omega
    rw [List.drop_eq_nil_of_le (Nat.le_refl _)] at hb ⊢
    exact place_leaf R A c C n D Y Q pre S B d W hc hJ hB hb
  | k + 1, i, hk => place_step R A c C n D Y Q hX hAX hCl i (by omega) (place_any R A c C n D Y Q hX hAX hCl k (i + 1) (by omega))
end Go.Proofs.Ytejipflkdigbbaa

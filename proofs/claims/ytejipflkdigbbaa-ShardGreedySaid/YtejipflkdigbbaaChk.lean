/- Walks: Contains, Check, the reference's Check. -/
import Derived.Test.YtejipflkdigbbaaSmallA
import Derived.Test.YtejipflkdigbbaaPure2
import Derived.OwnWalk
import Derived.Laws.OwnMore
namespace Go.Proofs.Ytejipflkdigbbaa
open Go.RowKit

def IdxPost (S : List Bool) (w : World) (e : Ending) (w' : World) : Prop := ∃ n : Int, e = .returned (.int .i64 n) ∧ Hid (decide (0 ≤ n) = S.contains false) ∧ w = w'
set_option maxHeartbeats 1000000 in
theorem index_any (A : Option Addr) (c : Nat) (S : List Bool) (w : World) (hA : RD bv w A S) (hl : S.length ≤ 1000) : Calls Try.prog 45 #[.slice A S.length c, .bool false] w (IdxPost S w) := by
  go_enter Try.func45, Try.ntmps45
  go_wp2
  go_loop [8] (fun i => ∃ k : Nat, k ≤ S.length ∧ i = .int .i64 k ∧ Hid (false ∉ S.take k)) (fun i => S.length - (intOf i).toNat)
  case atStart => exact ⟨0, Nat.zero_le _, rfl, by simp [Hid]⟩
  case round =>
    obtain ⟨k, hk, rfl, ht⟩ := hrel
    by_cases hlt : k < S.length
    · obtain ⟨a, rfl, hab, hac⟩ := hA.at hlt
      cases hx : S[k] with
      | true =>
        have HN : Hid (false ∉ S.take (k + 1)) := Lib.hid (by rw [List.take_succ_eq_append_getElem hlt, hx]; simpa using ht.out)
        rw [hx] at hac
        clear hx
        go_wp2
        go_round
        case rel => exact ⟨k + 1, by omega, by go_num, HN⟩
        case measure => simp [intOf]; omega
      | false =>
        have G : Hid (S.contains false = true) := Lib.hid (by simp; rw [← hx]; exact List.getElem_mem hlt)
        rw [hx] at hac
        clear hx
        go_wp2
        go_ret
        exact ⟨_, rfl, Lib.hid (by rw [G.out]; simp), rfl⟩
    · have G : Hid (S.contains false = false) := Lib.hid (by have := ht.out; rw [List.take_of_length_le (by omega)] at this; simpa using this)
      go_wp2
      go_ret
      exact ⟨-1, rfl, Lib.hid (by rw [G.out]; simp), rfl⟩
set_option maxHeartbeats 1000000 in
theorem contains_any (A : Option Addr) (c : Nat) (S : List Bool) (w : World) (hA : RD bv w A S) (hl : S.length ≤ 1000) : Calls Try.prog 28 #[.slice A S.length c, .bool false] w fun e w' => e = .returned (.bool (S.contains false)) ∧ w = w' := by
  go_enter Try.func28, Try.ntmps28
  go_wp2_with (go_at_call 45; refine (index_any A c S _ hA hl).mono ?_; rintro e w' ⟨n, rfl, hn, rfl⟩)
  go_ret
  exact ⟨ret_bool hn.out, rfl⟩

theorem info4 : (Try.prog.info? 4).map (fun i => (i.zero, i.size, i.bytes)) = some (some (.bool false), 1, 1) := by kernel_rfl
/-- A row of truth values of the call's own, in block g. -/
def OB (w : World) (base g : Nat) (S : List Bool) : Prop := w.ownsRow base 4 1 (.slice (some ⟨g, 0, none⟩) S.length S.length) S.length (S.map bv)
theorem OB.at {w : World} {base g : Nat} {S : List Bool} (h : OB w base g S) {j : Nat} (hj : j < S.length) : w.cell? ⟨g, j, none⟩ = some (.bool (S.getD j false)) ∧ w.frozen? ⟨g, j, none⟩ = false := by
  refine ⟨?_, World.ownsRow.frozenAt h j⟩
  rw [World.ownsRow.cellAt h j (by omega)]
  simp [List.getElem?_map, List.getElem?_eq_getElem hj, List.getD_eq_getElem?_getD]
theorem OB.set {w : World} {base g : Nat} {S : List Bool} (h : OB w base g S) (j : Nat) : OB (w.setCell ⟨g, j, none⟩ (.bool true)) base g (S.set j true) ∧ w.grownBy (w.setCell ⟨g, j, none⟩ (.bool true)) (some g) := by
  have := World.ownsRow.stored h j (.bool true)
  refine ⟨?_, this.2⟩
  unfold OB
  rw [List.length_set, List.map_set]
  exact this.1
theorem OB.ge {w : World} {base g : Nat} {S : List Bool} (h : OB w base g S) : base ≤ g ∧ g < w.heap.size := World.ownsRow.lt h g rfl
theorem OB.rd {w : World} {base g : Nat} {S : List Bool} (h : OB w base g S) : RD bv w (some ⟨g, 0, none⟩) S :=
  .inr ⟨_, rfl, h.ge.2, fun j x hj => by exact World.ownsRow.cells h rfl j (bv x) (by simp [hj])⟩
theorem made_bools (n : Nat) : (madeCells (Value.bool false).cells (n * 1)).toList = (List.replicate n false).map bv := by
  simp only [List.map_replicate]
  apply List.eq_replicate_iff.2
  constructor
  · simp [madeCells]
  · intro b hb
    simp only [madeCells, Value.cells] at hb
    simp [Nat.mod_one] at hb
    exact hb.2.symm
theorem count_rep (n : Nat) : (List.replicate n false).count true = 0 := by simp [List.count_replicate]
theorem set_below {W w : World} {g : Nat} {S : List Bool} (hb : Below W.heap.size W w) (h : OB w W.heap.size g S) (j : Nat) (u : Value) : Below W.heap.size W (w.setCell ⟨g, j, none⟩ u) :=
  hb.setCell (p := ⟨g, j, none⟩) h.ge.1 u
theorem fin_zero (S : List Bool) : fin (0, S) = if S.contains false then 8 else 0 := by simp [fin]
theorem ck_at {C : List Int} {l : List (List Int)} (h : cc C = 0) : ck C l = fin (ckPs C.length (l.drop 0) (List.replicate C.length false)) := by unfold ck; rw [if_neg (by simpa using h)]; rfl
theorem ck1_a {n : Nat} {p : Option Int} {i : Int} {S : List Bool} (h : i < 0 ∨ (n : Int) ≤ i) : ck1 n p i S = 2 := by unfold ck1; rw [if_pos h]
theorem ck1_b {n : Nat} {q i : Int} {S : List Bool} (h : ¬ (i < 0 ∨ (n : Int) ≤ i)) (h2 : i ≤ q) : ck1 n (some q) i S = 10 := by unfold ck1; rw [if_neg h, if_pos (by simpa using h2)]
theorem ck1_c {n : Nat} {p : Option Int} {i : Int} {S : List Bool} (h : ¬ (i < 0 ∨ (n : Int) ≤ i)) (h2 : ∀ q, p = some q → ¬ i ≤ q) (h3 : S.getD i.toNat false = true) : ck1 n p i S = 7 := by
  unfold ck1; rw [if_neg h, if_neg (by cases p with | none => simp | some q => simpa using h2 q rfl), if_pos h3]
theorem ck1_d {n : Nat} {p : Option Int} {i : Int} {S : List Bool} (h : ¬ (i < 0 ∨ (n : Int) ≤ i)) (h2 : ∀ q, p = some q → ¬ i ≤ q) (h3 : S.getD i.toNat false = false) : ck1 n p i S = 0 := by
  unfold ck1; rw [if_neg h, if_neg (by cases p with | none => simp | some q => simpa using h2 q rfl), if_neg (by simpa using h3)]

set_option maxRecDepth 100000 in
set_option maxHeartbeats 4000000 in
theorem check_any (A B : Option Addr) (c d : Nat) (C : List Int) (R : List Row) (w : World) (hA : RD iv w A C) (hB : Rws w B R) (hR : R.length ≤ 9223372036854775807) :
    Calls Try.prog 14 #[.slice A C.length c, .slice B R.length d] w fun e w' => e = .returned (.int .i64 (ck C (lls R))) ∧ Below w.heap.size w w' := by
  by_cases h0 : cc C = 0
  · have q0 : (cc C != 0) = false := by simpa using h0
    have hC : C.length ≤ 1000 := (cc_zero.1 h0).1
    have G0 := Lib.hid (ck_at (l := lls R) h0)
    have hll : (lls R).length = R.length := by simp [lls]
    have HLL := Lib.hid hll
    obtain ⟨i0, hi, hz0, hz1, hz2⟩ := info_parts info4
    clear h0 hll
    go_enter Try.func14, Try.ntmps14
    go_wp2_with (first | (go_at_call 27; refine (checkCosts_any A c C _ hA).mono ?_; rintro e w' ⟨rfl, rfl⟩) | (refine wpList_make_full _ rfl _ _ 43 rfl w.heap.size 4 i0 (.bool false) 1 Try.underlying43 hi hz0 hz1 .i64 .i64 _ _ C.length rfl rfl rfl rfl (by rw [hz2]; omega) (by unfold maxLen; omega) (Nat.le_refl _) ?_; intro w1 hown hgrow))
    rw [made_bools] at hown
    have hob : OB w1 w.heap.size w.heap.size (List.replicate C.length false) := by unfold OB; simpa using hown
    have hb1 : Below w.heap.size w w1 := (Below.refl _ _).grown hgrow (Nat.le_refl _) (fun k hk => by cases hk)
    have HO := Lib.hid hob
    have HB1 := Lib.hid hb1
    have HA := Lib.hid hA
    have HB := Lib.hid hB
    clear hown hob hb1 hgrow hA hB hi hz0 hz1 hz2
    go_loopw [21] (fun i wr => ∃ (r : Nat) (S : List Bool), r ≤ R.length ∧ i = .int .i64 r ∧ S.length = C.length ∧ Hid (OB wr w.heap.size w.heap.size S) ∧ Hid (Below w.heap.size w wr) ∧ Hid (ck C (lls R) = fin (ckPs C.length ((lls R).drop r) S))) (fun i _ => R.length - (intOf i).toNat)
    case atStart => exact ⟨0, _, Nat.zero_le _, rfl, by simp, HO, HB1, G0⟩
    case round =>
      obtain ⟨r, S, hr, rfl, hS, HO2, HB2, G⟩ := hrel
      clear HO HB1 G0
      by_cases hlt : r < R.length
      · have HRr := HB.out.below HB2.out
        obtain ⟨a, rfl, hab, hac⟩ := HRr.a.at hlt
        have hrow := HB.out.r R[r] (List.getElem_mem hlt)
        have hac0 := hac
        have G1 : Hid (ck C (lls R) = fin (ckJ C.length (prv (R[r]).L 0) ((R[r]).L.drop 0) ((lls R).drop (r + 1)) S)) := Lib.hid (by rw [G.out, ckPs_step (by rw [HLL.out]; exact hlt)]; simp [lls, prv])
        have HAC : Hid (∀ w2, Below w.heap.size w w2 → w2.cell? (a.add r) = some (Row.val R[r])) := Lib.hid (fun w2 hb => ((HB.out.below hb).a.at hlt).elim (fun a' h => by obtain ⟨e, -, h⟩ := h; cases e; exact h))
        generalize R[r] = row at *
        obtain ⟨ra, rc, rl⟩ := row
        have ROW := Lib.hid hrow.a
        have hrl := hrow.l
        simp only [Row.val] at hac HAC ROW hrl G1
        clear hrow HRr hac0 G
        have cB := HAC.out _ HB2.out
        go_wp2
        go_loopw [27] (fun i w2 => ∃ (k : Nat) (S : List Bool), k ≤ rl.length ∧ i = .int .i64 k ∧ S.length = C.length ∧ Hid (OB w2 w.heap.size w.heap.size S) ∧ Hid (Below w.heap.size w w2) ∧ Hid (ck C (lls R) = fin (ckJ C.length (prv rl k) (rl.drop k) ((lls R).drop (r + 1)) S))) (fun i _ => rl.length - (intOf i).toNat)
        case atStart => exact ⟨0, S, Nat.zero_le _, rfl, hS, HO2, HB2, G1⟩
        case round =>
          obtain ⟨k, S2, hk, rfl, hS2, HO3, HB3, G2⟩ := hrel
          clear HO2 HB2 G1 hac cB
          have cB := HAC.out _ HB3.out
          have HS2 := Lib.hid hS2
          have HMC : S2.count true ≤ 1000 := by have := count_le S2; omega
          clear hS hS2
          by_cases hlt2 : k < rl.length
          · obtain ⟨a2, rfl, hab2, hac2⟩ := (ROW.out.below HB3.out).at hlt2
            by_cases h1 : rl[k] < 0 ∨ (C.length : Int) ≤ rl[k]
            · have E := Lib.hid (G2.out.trans (ckJ_bad hlt2 (ck1_a h1) (by simp)))
              clear G2
              generalize rl[k] = x at *
              by_cases h2 : x < 0
              · clear h1
                go_wp2
                go_ret
                exact ⟨ret_int E.out.symm, HB3.out⟩
              · have h3 : (C.length : Int) ≤ x := by omega
                clear h1
                go_wp2
                go_ret
                exact ⟨ret_int E.out.symm, HB3.out⟩
            · have j1 : 0 ≤ rl[k] := by omega
              have j2 : rl[k] < (C.length : Int) := by omega
              have hjn : rl[k].toNat < S2.length := by have := HS2.out; omega
              obtain ⟨m1, m2⟩ := HO3.out.at hjn
              have KEY : ∀ (p : Option Int), p = prv rl k → (∀ q, p = some q → ¬ rl[k] ≤ q) → (S2.getD rl[k].toNat false = true → ck C (lls R) = 7) ∧ (S2.getD rl[k].toNat false = false → ck C (lls R) = fin (ckJ C.length (prv rl (k + 1)) (rl.drop (k + 1)) ((lls R).drop (r + 1)) (S2.set rl[k].toNat true))) := fun p hp hq => by
                subst hp
                exact ⟨fun h => G2.out.trans (ckJ_bad hlt2 (ck1_c h1 hq h) (by simp)), fun h => G2.out.trans (congrArg fin (ckJ_go hlt2 (ck1_d h1 hq h)))⟩
              have KEY := Lib.hid KEY
              by_cases h0 : 0 < k
              · obtain ⟨a3, e3, hab3, hac3⟩ := (ROW.out.below HB3.out).at (show k - 1 < rl.length by omega)
                obtain rfl : a3 = a2 := by injection e3; exact Eq.symm ‹_›
                clear e3
                by_cases h2 : rl[k] ≤ rl[k - 1]
                · have E := Lib.hid (G2.out.trans (ckJ_bad hlt2 (show ck1 C.length (prv rl k) rl[k] S2 = 10 by rw [prv_pos hlt2 h0]; exact ck1_b h1 h2) (by simp)))
                  clear G2 KEY h1
                  generalize rl[k] = x at *
                  generalize rl[k - 1] = y at *
                  go_wp2
                  go_ret
                  exact ⟨ret_int E.out.symm, HB3.out⟩
                · have K2 := Lib.hid (KEY.out _ rfl (fun q hq => by rw [prv_pos hlt2 h0] at hq; cases hq; exact h2))
                  clear G2 KEY h1
                  generalize rl[k - 1] = y at *
                  generalize rl[k] = x at *
                  obtain ⟨j, rfl⟩ : ∃ j : Nat, x = j := ⟨x.toNat, by omega⟩
                  simp only [Int.toNat_natCast] at m1 m2 hjn K2
                  cases hm : S2.getD j false with
                  | true =>
                    have E := Lib.hid (K2.out.1 hm)
                    rw [hm] at m1
                    clear hm K2
                    go_wp2
                    go_ret
                    exact ⟨ret_int E.out.symm, HB3.out⟩
                  | false =>
                    have G3 := Lib.hid (K2.out.2 hm)
                    have CS := Lib.hid (count_set hjn hm)
                    rw [hm] at m1
                    clear hm K2
                    go_wp2
                    go_roundw
                    case rel => exact ⟨k + 1, S2.set j true, by omega, by go_num, by simp only [List.length_set]; exact HS2.out, Lib.hid (HO3.out.set j).1, Lib.hid (set_below HB3.out HO3.out j _), G3⟩
                    case measure => simp [intOf]; omega
              · obtain rfl : k = 0 := by omega
                rw [add_zero'] at hac2
                have K2 := Lib.hid (KEY.out none rfl (fun q hq => by cases hq))
                clear G2 KEY h1
                generalize rl[0] = x at *
                obtain ⟨j, rfl⟩ : ∃ j : Nat, x = j := ⟨x.toNat, by omega⟩
                simp only [Int.toNat_natCast] at m1 m2 hjn K2
                cases hm : S2.getD j false with
                | true =>
                  have E := Lib.hid (K2.out.1 hm)
                  rw [hm] at m1
                  clear hm K2
                  go_wp2
                  go_ret
                  exact ⟨ret_int E.out.symm, HB3.out⟩
                | false =>
                  have G3 := Lib.hid (K2.out.2 hm)
                  have CS := Lib.hid (count_set hjn hm)
                  rw [hm] at m1
                  clear hm K2
                  go_wp2
                  go_roundw
                  case rel => exact ⟨0 + 1, S2.set j true, by omega, by go_num, by simp only [List.length_set]; exact HS2.out, Lib.hid (HO3.out.set j).1, Lib.hid (set_below HB3.out HO3.out j _), G3⟩
                  case measure => simp [intOf]; omega
          · have G3 := Lib.hid (G2.out.trans (congrArg fin (ckJ_end (show rl.length ≤ k by omega))))
            clear G2
            go_wp2
            go_roundw
            case rel => exact ⟨r + 1, S2, by omega, by go_num, HS2.out, HO3, HB3, G3⟩
            case measure => simp [intOf]; omega
      · have G3 := Lib.hid (G.out.trans (congrArg fin (ckPs_end (show (lls R).length ≤ r by rw [HLL.out]; omega))))
        clear G
        have hrd := HO2.out.rd
        have HSl := Lib.hid hS
        have hS1 : S.length ≤ 1000 := by omega
        rw [← hS]
        clear hS
        cases hc : S.contains false with
        | true =>
          have E := Lib.hid (show ck C (lls R) = 8 from G3.out.trans (by rw [fin_zero, if_pos hc]))
          go_wp2_with (go_at_call 28; refine (contains_any _ _ S _ hrd hS1).mono ?_; rintro e w' ⟨rfl, rfl⟩; rw [hc])
          go_ret
          exact ⟨ret_int E.out.symm, HB2.out⟩
        | false =>
          have E := Lib.hid (show ck C (lls R) = 0 from G3.out.trans (by rw [fin_zero, if_neg (by rw [hc]; simp)]))
          go_wp2_with (go_at_call 28; refine (contains_any _ _ S _ hrd hS1).mono ?_; rintro e w' ⟨rfl, rfl⟩; rw [hc])
          go_ret
          exact ⟨ret_int E.out.symm, HB2.out⟩
  · have q0 : (cc C != 0) = true := by simpa using h0
    have G := Lib.hid (show ck C (lls R) = cc C by unfold ck; rw [if_pos h0])
    clear h0
    go_enter Try.func14, Try.ntmps14
    go_wp2_with (go_at_call 27; refine (checkCosts_any A c C _ hA).mono ?_; rintro e w' ⟨rfl, rfl⟩)
    go_ret
    exact ⟨ret_int G.out.symm, Below.refl _ _⟩

set_option maxRecDepth 100000 in
set_option maxHeartbeats 4000000 in
theorem rcheck_any (A B : Option Addr) (c d : Nat) (C : List Int) (R : List Row) (w : World) (hA : RD iv w A C) (hB : Rws w B R) (hR : R.length ≤ 9223372036854775807) :
    Calls Try.prog 15 #[.slice A C.length c, .slice B R.length d] w fun e w' => e = .returned (.int .i64 (ck C (lls R))) ∧ Below w.heap.size w w' := by
  by_cases h0 : cc C = 0
  · have q0 : (cc C != 0) = false := by simpa using h0
    have hC : C.length ≤ 1000 := (cc_zero.1 h0).1
    have G0 := Lib.hid (ck_at (l := lls R) h0)
    have hll : (lls R).length = R.length := by simp [lls]
    have HLL := Lib.hid hll
    obtain ⟨i0, hi, hz0, hz1, hz2⟩ := info_parts info4
    clear h0 hll
    go_enter Try.func15, Try.ntmps15
    go_wp2_with (first | (go_at_call 29; refine (valid_any A c C _ hA).mono ?_; rintro e w' ⟨rfl, rfl⟩) | (refine wpList_make_full _ rfl _ _ 43 rfl w.heap.size 4 i0 (.bool false) 1 Try.underlying43 hi hz0 hz1 .i64 .i64 _ _ C.length rfl rfl rfl rfl (by rw [hz2]; omega) (by unfold maxLen; omega) (Nat.le_refl _) ?_; intro w1 hown hgrow))
    rw [made_bools] at hown
    have hob : OB w1 w.heap.size w.heap.size (List.replicate C.length false) := by unfold OB; simpa using hown
    have hb1 : Below w.heap.size w w1 := (Below.refl _ _).grown hgrow (Nat.le_refl _) (fun k hk => by cases hk)
    have HO := Lib.hid hob
    have HB1 := Lib.hid hb1
    have HA := Lib.hid hA
    have HB := Lib.hid hB
    clear hown hob hb1 hgrow hA hB hi hz0 hz1 hz2
    go_loopw [8, 7] (fun i m wr => ∃ (r : Nat) (S : List Bool), r ≤ R.length ∧ i = .int .i64 r ∧ S.length = C.length ∧ Hid (OB wr w.heap.size w.heap.size S) ∧ Hid (Below w.heap.size w wr) ∧ Hid (ck C (lls R) = fin (ckPs C.length ((lls R).drop r) S)) ∧ m = .int .i64 (S.count true : Nat)) (fun i _ _ => R.length - (intOf i).toNat)
    case atStart => exact ⟨0, _, Nat.zero_le _, rfl, by simp, HO, HB1, G0, by rw [count_rep]; rfl⟩
    case round =>
      obtain ⟨r, S, hr, rfl, hS, HO2, HB2, G, rfl⟩ := hrel
      clear HO HB1 G0
      by_cases hlt : r < R.length
      · have HRr := HB.out.below HB2.out
        obtain ⟨a, rfl, hab, hac⟩ := HRr.a.at hlt
        have hrow := HB.out.r R[r] (List.getElem_mem hlt)
        have hac0 := hac
        have G1 : Hid (ck C (lls R) = fin (ckJ C.length (prv (R[r]).L 0) ((R[r]).L.drop 0) ((lls R).drop (r + 1)) S)) := Lib.hid (by rw [G.out, ckPs_step (by rw [HLL.out]; exact hlt)]; simp [lls, prv])
        have HAC : Hid (∀ w2, Below w.heap.size w w2 → w2.cell? (a.add r) = some (Row.val R[r])) := Lib.hid (fun w2 hb => ((HB.out.below hb).a.at hlt).elim (fun a' h => by obtain ⟨e, -, h⟩ := h; cases e; exact h))
        generalize R[r] = row at *
        obtain ⟨ra, rc, rl⟩ := row
        have ROW := Lib.hid hrow.a
        have hrl := hrow.l
        simp only [Row.val] at hac HAC ROW hrl G1
        clear hrow HRr hac0 G
        have cB := HAC.out _ HB2.out
        go_wp2
        go_loopw [9, 7] (fun i m w2 => ∃ (k : Nat) (S : List Bool), k ≤ rl.length ∧ i = .int .i64 k ∧ S.length = C.length ∧ Hid (OB w2 w.heap.size w.heap.size S) ∧ Hid (Below w.heap.size w w2) ∧ Hid (ck C (lls R) = fin (ckJ C.length (prv rl k) (rl.drop k) ((lls R).drop (r + 1)) S)) ∧ m = .int .i64 (S.count true : Nat)) (fun i _ _ => rl.length - (intOf i).toNat)
        case atStart => exact ⟨0, S, Nat.zero_le _, rfl, hS, HO2, HB2, G1, rfl⟩
        case round =>
          obtain ⟨k, S2, hk, rfl, hS2, HO3, HB3, G2, rfl⟩ := hrel
          clear HO2 HB2 G1 hac cB
          have cB := HAC.out _ HB3.out
          have HS2 := Lib.hid hS2
          have HMC : S2.count true ≤ 1000 := by have := count_le S2; omega
          clear hS hS2
          by_cases hlt2 : k < rl.length
          · obtain ⟨a2, rfl, hab2, hac2⟩ := (ROW.out.below HB3.out).at hlt2
            by_cases h1 : rl[k] < 0 ∨ (C.length : Int) ≤ rl[k]
            · have E := Lib.hid (G2.out.trans (ckJ_bad hlt2 (ck1_a h1) (by simp)))
              clear G2
              generalize rl[k] = x at *
              by_cases h2 : x < 0
              · clear h1
                go_wp2
                go_ret
                exact ⟨ret_int E.out.symm, HB3.out⟩
              · have h3 : (C.length : Int) ≤ x := by omega
                clear h1
                go_wp2
                go_ret
                exact ⟨ret_int E.out.symm, HB3.out⟩
            · have j1 : 0 ≤ rl[k] := by omega
              have j2 : rl[k] < (C.length : Int) := by omega
              have hjn : rl[k].toNat < S2.length := by have := HS2.out; omega
              obtain ⟨m1, m2⟩ := HO3.out.at hjn
              have KEY : ∀ (p : Option Int), p = prv rl k → (∀ q, p = some q → ¬ rl[k] ≤ q) → (S2.getD rl[k].toNat false = true → ck C (lls R) = 7) ∧ (S2.getD rl[k].toNat false = false → ck C (lls R) = fin (ckJ C.length (prv rl (k + 1)) (rl.drop (k + 1)) ((lls R).drop (r + 1)) (S2.set rl[k].toNat true))) := fun p hp hq => by
                subst hp
                exact ⟨fun h => G2.out.trans (ckJ_bad hlt2 (ck1_c h1 hq h) (by simp)), fun h => G2.out.trans (congrArg fin (ckJ_go hlt2 (ck1_d h1 hq h)))⟩
              have KEY := Lib.hid KEY
              by_cases h0 : 0 < k
              · obtain ⟨a3, e3, hab3, hac3⟩ := (ROW.out.below HB3.out).at (show k - 1 < rl.length by omega)
                obtain rfl : a3 = a2 := by injection e3; exact Eq.symm ‹_›
                clear e3
                by_cases h2 : rl[k] ≤ rl[k - 1]
                · have E := Lib.hid (G2.out.trans (ckJ_bad hlt2 (show ck1 C.length (prv rl k) rl[k] S2 = 10 by rw [prv_pos hlt2 h0]; exact ck1_b h1 h2) (by simp)))
                  clear G2 KEY h1
                  generalize rl[k] = x at *
                  generalize rl[k - 1] = y at *
                  go_wp2
                  go_ret
                  exact ⟨ret_int E.out.symm, HB3.out⟩
                · have K2 := Lib.hid (KEY.out _ rfl (fun q hq => by rw [prv_pos hlt2 h0] at hq; cases hq; exact h2))
                  clear G2 KEY h1
                  generalize rl[k - 1] = y at *
                  generalize rl[k] = x at *
                  obtain ⟨j, rfl⟩ : ∃ j : Nat, x = j := ⟨x.toNat, by omega⟩
                  simp only [Int.toNat_natCast] at m1 m2 hjn K2
                  cases hm : S2.getD j false with
                  | true =>
                    have E := Lib.hid (K2.out.1 hm)
                    rw [hm] at m1
                    clear hm K2
                    go_wp2
                    go_ret
                    exact ⟨ret_int E.out.symm, HB3.out⟩
                  | false =>
                    have G3 := Lib.hid (K2.out.2 hm)
                    have CS := Lib.hid (count_set hjn hm)
                    rw [hm] at m1
                    clear hm K2
                    go_wp2
                    go_roundw
                    case rel => exact ⟨k + 1, S2.set j true, by omega, by go_num, by simp only [List.length_set]; exact HS2.out, Lib.hid (HO3.out.set j).1, Lib.hid (set_below HB3.out HO3.out j _), G3, by rw [CS.out]; go_num⟩
                    case measure => simp [intOf]; omega
              · obtain rfl : k = 0 := by omega
                rw [add_zero'] at hac2
                have K2 := Lib.hid (KEY.out none rfl (fun q hq => by cases hq))
                clear G2 KEY h1
                generalize rl[0] = x at *
                obtain ⟨j, rfl⟩ : ∃ j : Nat, x = j := ⟨x.toNat, by omega⟩
                simp only [Int.toNat_natCast] at m1 m2 hjn K2
                cases hm : S2.getD j false with
                | true =>
                  have E := Lib.hid (K2.out.1 hm)
                  rw [hm] at m1
                  clear hm K2
                  go_wp2
                  go_ret
                  exact ⟨ret_int E.out.symm, HB3.out⟩
                | false =>
                  have G3 := Lib.hid (K2.out.2 hm)
                  have CS := Lib.hid (count_set hjn hm)
                  rw [hm] at m1
                  clear hm K2
                  go_wp2
                  go_roundw
                  case rel => exact ⟨0 + 1, S2.set j true, by omega, by go_num, by simp only [List.length_set]; exact HS2.out, Lib.hid (HO3.out.set j).1, Lib.hid (set_below HB3.out HO3.out j _), G3, by rw [CS.out]; go_num⟩
                  case measure => simp [intOf]; omega
          · have G3 := Lib.hid (G2.out.trans (congrArg fin (ckJ_end (show rl.length ≤ k by omega))))
            clear G2
            go_wp2
            go_roundw
            case rel => exact ⟨r + 1, S2, by omega, by go_num, HS2.out, HO3, HB3, G3, rfl⟩
            case measure => simp [intOf]; omega
      · have G3 := Lib.hid (G.out.trans (congrArg fin (ckPs_end (show (lls R).length ≤ r by rw [HLL.out]; omega))))
        clear G
        have HF := Lib.hid (G3.out.trans (by rw [fin_zero, all_met]))
        rw [← hS] at hC
        by_cases hc : S.count true < S.length
        · have E : Hid (ck C (lls R) = 8) := Lib.hid (by rw [HF.out]; simp [hc])
          rw [hS] at hc
          clear G3 HF hS
          go_wp2
          go_ret
          exact ⟨ret_int E.out.symm, HB2.out⟩
        · have E : Hid (ck C (lls R) = 0) := Lib.hid (by rw [HF.out]; simp [hc])
          rw [hS] at hc
          clear G3 HF hS
          go_wp2
          go_ret
          exact ⟨ret_int E.out.symm, HB2.out⟩
  · have q0 : (cc C != 0) = true := by simpa using h0
    have G := Lib.hid (show ck C (lls R) = cc C by unfold ck; rw [if_pos h0])
    clear h0
    go_enter Try.func15, Try.ntmps15
    go_wp2_with (go_at_call 29; refine (valid_any A c C _ hA).mono ?_; rintro e w' ⟨rfl, rfl⟩)
    go_ret
    exact ⟨ret_int G.out.symm, Below.refl _ _⟩

end Go.Proofs.Ytejipflkdigbbaa

/- The walks and the words of the family link, part 2: LabB, LabC, LabD, CoC, CoD, CoE, CoS, Mpk, PlA, Cmp. -/
import Derived.Test.YtgboboljgcfggaaGreatDoorM1
import Derived.RangeFuncNested
import Derived.RangeFuncBound
import Derived.RangeFuncCalls
import Derived.RangeFuncLeaves
import Derived.Shelf.Abstract
import Derived.Shelf.RegionOpen
import Derived.WalkKit
import Derived.OwnWalkIn
import Derived.TacticsInMore
import Derived.LoopNIn
import Derived.LoopIn
import Derived.Lib.Builder
import Derived.MapKept
import Derived.Maps.Keyed
import Derived.Laws.Cover1
import Derived.Sort.Walk0
import Derived.Deep.RegionWith
import Derived.WalkLawsBesides
import Derived.WalkSpells
namespace Go.Proofs.YtgboboljgcfggaaGreatDoor
open Go.RowKit

theorem ext_take (l : T) (n : Nat) : (⟨l.toArray⟩ : ByteArray).extract 0 n = ⟨(l.take n).toArray⟩ := by
  apply ByteArray.ext
  simp [ByteArray.data_extract]
theorem ext_drop (l : T) (a : Nat) : (⟨l.toArray⟩ : ByteArray).extract a l.length = ⟨(l.drop a).toArray⟩ := by
  apply ByteArray.ext
  simp [ByteArray.data_extract, List.take_of_length_le]
/-- Where the first slash stands, or the length. -/
def cutN (s : T) : Nat := (s.takeWhile (fun c => c != 47)).length
theorem cutN_le (s : T) : cutN s ≤ s.length := by
  unfold cutN
  exact (List.takeWhile_sublist _).length_le
theorem cutN_eq : ∀ (s : T) (k : Nat), k ≤ s.length → (∀ c ∈ s.take k, (c != 47) = true) → (∀ h : k < s.length, (s[k] != 47) = false) → cutN s = k
  | [], k, hk, _, _ => by simp at hk; subst hk; rfl
  | c :: s, 0, _, _, h2 => by
    have := h2 (by simp)
    simp at this
    subst this
    rfl
  | c :: s, k + 1, hk, h1, h2 => by
    have hc := h1 c (by simp)
    have ih := cutN_eq s k (by simpa using hk) (fun x hx => h1 x (by simp [hx])) (fun h => h2 (by simpa using h))
    unfold cutN at ih ⊢
    simp only [List.takeWhile_cons, hc, if_true, List.length_cons, ih]
def lenOf : Value → Nat | .string s => s.size | _ => 0
def wd20 (s : T) : Bool := wd s && decide (s.length ≤ 20)
/-- Words with slashes between them. -/
def labR (s : T) : Bool := if _h : cutN s < s.length then wd20 (s.take (cutN s)) && labR (s.drop (cutN s + 1)) else wd20 s
termination_by s.length
decreasing_by simp; omega
theorem labR_cut {s : T} (h : cutN s < s.length) : labR s = (wd20 (s.take (cutN s)) && labR (s.drop (cutN s + 1))) := by rw [labR, dif_pos h]
theorem labR_end {s : T} (h : ¬ cutN s < s.length) : labR s = wd20 s := by rw [labR, dif_neg h]
def lab (s : T) : Bool := decide (s.length ≤ 90) && labR s

set_option maxRecDepth 100000 in
set_option maxHeartbeats 2000000 in
theorem rword_any (s : T) (m : Int) (w : World) (hs : s.length ≤ 9223372036854775807) : Calls Tryz.prog 90 #[tv s, .int .i64 m] w fun e w' => e = .returned (.bool (wd s && decide ((s.length : Int) ≤ m))) ∧ w' = w := by
  by_cases h0 : s = []
  · subst h0
    have e0 : (wd [] && decide ((([] : T).length : Int) ≤ m)) = false := rfl
    rw [e0]
    go_enter Tryz.func90, Tryz.ntmps90
    go_wp2
    go_ret
    exact ⟨rfl, rfl⟩
  have hpos : 0 < s.length := List.length_pos_iff.2 h0
  by_cases h24 : m < (s.length : Int)
  · have e0 : (wd s && decide ((s.length : Int) ≤ m)) = false := by
      have : decide ((s.length : Int) ≤ m) = false := by simp; omega
      rw [this, Bool.and_false]
    rw [e0]
    have t2 : decide ((s.length : Int) < 1) = false := by simp; omega
    clear e0 h0
    go_enter Tryz.func90, Tryz.ntmps90
    go_wp2
    go_ret
    exact ⟨rfl, rfl⟩
  · have e0 : (wd s && decide ((s.length : Int) ≤ m)) = wd s := by
      have : decide ((s.length : Int) ≤ m) = true := by simp; omega
      rw [this, Bool.and_true]
    rw [e0]
    have t2 : decide ((s.length : Int) < 1) = false := by simp; omega
    have t3 : decide (m < (s.length : Int)) = false := by simp; omega
    obtain ⟨d, hd⟩ : ∃ d, ({ data := s.toArray } : ByteArray)[0]'hpos = d := ⟨_, rfl⟩
    have HD : Hid (s[0] = d) := Lib.hid hd
    have LE := fun W => rletter_any (d.toNat : Int) W
    cases hl : isL (d.toNat : Int) with
    | false =>
      rw [hl] at LE
      have hw : wd s = false := wd_first hpos (by unfold bL; rw [HD.out]; exact hl)
      rw [hw]
      have HLE := Lib.hid LE
      clear e0 h0 hw hl LE
      go_enter Tryz.func90, Tryz.ntmps90
      go_wp2_with (go_at_call 111; refine (HLE.out _).mono ?_; rintro e w1 ⟨rfl, rfl⟩)
      go_ret
      exact ⟨rfl, rfl⟩
    | true =>
      rw [hl] at LE
      have HLE := Lib.hid LE
      have HF : Hid (bL s[0] = true) := Lib.hid (by unfold bL; rw [HD.out]; exact hl)
      clear e0 h0 hl LE
      go_enter Tryz.func90, Tryz.ntmps90
      go_wp2_with (go_at_call 111; refine (HLE.out _).mono ?_; rintro e w1 ⟨rfl, rfl⟩)
      clear hd HD HLE
      go_loop [5] (fun i => ∃ k : Nat, k ≤ s.length ∧ i = .int .i64 k ∧ Hid (∀ c ∈ s.take k, (bL c || bD c) = true)) (fun i => s.length - (intOf i).toNat)
      case atStart => exact ⟨0, Nat.zero_le _, rfl, by simp [Hid]⟩
      case round =>
        obtain ⟨k, hk, rfl, HA⟩ := hrel
        by_cases hlt : k < s.length
        · obtain ⟨d, hd⟩ : ∃ d, ({ data := s.toArray } : ByteArray)[k]'hlt = d := ⟨_, rfl⟩
          have HD : Hid (s[k] = d) := Lib.hid hd
          have LE := fun W => rletter_any (d.toNat : Int) W
          have DI := fun W => rdigit_any (d.toNat : Int) W
          have N1 := fun h => Lib.hid (all_snoc hlt HA.out h)
          have W1 : Hid ((bL s[k] || bD s[k]) = false → wd s = false) := Lib.hid (wd_bad hlt)
          rw [HD.out] at N1 W1
          unfold bL bD at N1 W1
          have HDI := Lib.hid DI
          have t6 : (k : Int) < (s.length : Int) := by omega
          cases hl : isL (d.toNat : Int) with
          | true =>
            rw [hl] at LE
            have HLE := Lib.hid LE
            have HN := N1 (by rw [hl]; rfl)
            clear N1 W1 hl LE DI HA
            go_wp2_with (go_at_call 111; refine (HLE.out _).mono ?_; rintro e w1 ⟨rfl, rfl⟩)
            go_round
            case rel => exact ⟨k + 1, by omega, by go_num, HN⟩
            case measure => simp [intOf]; omega
          | false =>
            rw [hl] at LE
            have HLE := Lib.hid LE
            cases hdg : isD (d.toNat : Int) with
            | true =>
              rw [hdg] at HDI
              have HN := N1 (by rw [hl, hdg]; rfl)
              clear N1 W1 hl hdg LE DI HA
              go_wp2_with (first | (go_at_call 111; refine (HLE.out _).mono ?_; rintro e w1 ⟨rfl, rfl⟩) | (go_at_call 112; refine (HDI.out _).mono ?_; rintro e w1 ⟨rfl, rfl⟩))
              go_round
              case rel => exact ⟨k + 1, by omega, by go_num, HN⟩
              case measure => simp [intOf]; omega
            | false =>
              rw [hdg] at HDI
              have HW := Lib.hid (W1.out (by rw [hl, hdg]; rfl))
              clear N1 W1 hl hdg LE DI HA
              go_wp2_with (first | (go_at_call 111; refine (HLE.out _).mono ?_; rintro e w1 ⟨rfl, rfl⟩) | (go_at_call 112; refine (HDI.out _).mono ?_; rintro e w1 ⟨rfl, rfl⟩))
              go_ret
              exact ⟨by rw [HW.out]; rfl, rfl⟩
        · have HW : Hid (wd s = true) := Lib.hid (wd_good hpos HF.out (fun c hc => HA.out c (by rw [List.take_of_length_le (by omega)]; exact hc)))
          have t6 : ¬ (k : Int) < (s.length : Int) := by omega
          go_wp2
          go_ret
          exact ⟨by rw [HW.out]; rfl, rfl⟩

set_option maxRecDepth 100000 in
set_option maxHeartbeats 2000000 in
theorem slash_any (s : T) (w : World) (hs : s.length ≤ 9223372036854775807) : Calls Tryz.prog 89 #[tv s] w fun e w' => e = .returned (.int .i64 (cutN s)) ∧ w' = w := by
  go_enter Tryz.func89, Tryz.ntmps89
  go_wp2
  go_loop [3] (fun i => ∃ k : Nat, k ≤ s.length ∧ i = .int .i64 k ∧ Hid (∀ c ∈ s.take k, (c != 47) = true)) (fun i => s.length - (intOf i).toNat)
  case atStart => exact ⟨0, Nat.zero_le _, rfl, by simp [Hid]⟩
  case round =>
    obtain ⟨k, hk, rfl, HA⟩ := hrel
    by_cases hlt : k < s.length
    · obtain ⟨d, hd⟩ : ∃ d, ({ data := s.toArray } : ByteArray)[k]'hlt = d := ⟨_, rfl⟩
      have HD : Hid (s[k] = d) := Lib.hid hd
      have t6 : (k : Int) < (s.length : Int) := by omega
      by_cases h47 : d = 47
      · have HC : Hid (cutN s = k) := Lib.hid (cutN_eq s k hk HA.out (fun h => by rw [HD.out, h47]; rfl))
        have t7 : ((d.toNat : Int) != 47) = false := by subst h47; rfl
        clear HA h47
        go_wp2
        go_ret
        exact ⟨by rw [HC.out]; rfl, rfl⟩
      · have t7 : ((d.toNat : Int) != 47) = true := by
          simp
          intro e
          have e' : d.toNat = 47 := by omega
          exact h47 (UInt8.toNat_inj.1 e')
        have HN : Hid (∀ c ∈ s.take (k + 1), (c != 47) = true) := Lib.hid (by
          intro c hc
          rw [List.take_succ_eq_append_getElem hlt, List.mem_append, List.mem_singleton] at hc
          rcases hc with hc | rfl
          · exact HA.out c hc
          · rw [HD.out]; simpa using h47)
        clear HA h47
        go_wp2
        go_round
        case rel => exact ⟨k + 1, by omega, by go_num, HN⟩
        case measure => simp [intOf]; omega
    · have HC : Hid (cutN s = k) := Lib.hid (cutN_eq s k hk HA.out (fun h => absurd h hlt))
      have t6 : decide ((k : Int) < (s.length : Int)) = false := by simp; omega
      go_wp2
      go_ret
      exact ⟨by rw [HC.out]; rfl, rfl⟩

set_option maxRecDepth 100000 in
set_option maxHeartbeats 2000000 in
theorem rLabel_any (s : T) (w : World) (hs : s.length ≤ 9223372036854775807) : Calls Tryz.prog 59 #[tv s] w fun e w' => e = .returned (.bool (lab s)) ∧ w' = w := by
  by_cases h90 : 90 < s.length
  · have e0 : lab s = false := by
      have : decide (s.length ≤ 90) = false := by simp; omega
      simp [lab, this]
    rw [e0]
    go_enter Tryz.func59, Tryz.ntmps59
    go_wp2
    go_ret
    exact ⟨rfl, rfl⟩
  · have e0 : lab s = labR s := by
      have : decide (s.length ≤ 90) = true := by simp; omega
      simp [lab, this]
    rw [e0]
    have hl0 : s.length ≤ 90 := by omega
    go_enter Tryz.func59, Tryz.ntmps59
    go_wp2_with (go_at_call 89; refine (slash_any s _ hs).mono ?_; rintro e w1 ⟨rfl, rfl⟩)
    go_loop [0, 3] (fun a b => ∃ (q : T) (n : Nat), a = tv q ∧ b = .int .i64 n ∧ Hid (n = cutN q) ∧ q.length ≤ 90 ∧ Hid (labR s = labR q)) (fun a _ => lenOf a)
    case atStart => exact ⟨s, _, rfl, rfl, Lib.hid rfl, hl0, Lib.hid rfl⟩
    case round =>
      obtain ⟨q, n, rfl, rfl, EN, hq, EL⟩ := hrel
      have hnq : n ≤ q.length := by rw [EN.out]; exact cutN_le q
      have SL := fun (u : T) (hu : u.length ≤ 90) W => slash_any u W (by omega)
      have WD := fun (u : T) (hu : u.length ≤ 90) W => rword_any u 20 W (by omega)
      have HSL := Lib.hid SL
      have HWD := Lib.hid WD
      clear SL WD
      by_cases hlt : n < q.length
      · have t1 : (n : Int) < (q.length : Int) := by omega
        have e1 := ext_take q n
        have e2 := ext_drop q (n + 1)
        have l1 : (q.take n).length ≤ 90 := by simp; omega
        have l2 : (q.drop (n + 1)).length ≤ 90 := by simp; omega
        have l3 : Hid ((q.drop (n + 1)).length < q.length) := Lib.hid (by simp; omega)
        have LQ : Hid (labR s = (wd20 (q.take n) && labR (q.drop (n + 1)))) := Lib.hid (by rw [EL.out, labR_cut (by rw [← EN.out]; exact hlt), ← EN.out])
        have WQ : Hid ((wd (q.take n) && decide (((q.take n).length : Int) ≤ 20)) = wd20 (q.take n)) := Lib.hid (by unfold wd20; congr 1; simp only [decide_eq_decide]; omega)
        obtain ⟨u, hu⟩ : ∃ u, q.take n = u := ⟨_, rfl⟩
        obtain ⟨v, hv⟩ : ∃ v, q.drop (n + 1) = v := ⟨_, rfl⟩
        rw [hu] at e1 l1 LQ WQ
        rw [hv] at e2 l2 l3 LQ
        have W2 := fun W => HWD.out u l1 W
        rw [WQ.out] at W2
        have S2 := fun W => HSL.out v l2 W
        have HS2 := Lib.hid S2
        clear hu hv S2 HSL HWD EN
        cases hw : wd20 u with
        | false =>
          rw [hw] at W2
          have HW2 := Lib.hid W2
          have HL : Hid (labR s = false) := Lib.hid (by rw [LQ.out, hw]; rfl)
          clear W2 hw
          go_wp2_with (go_at_call 90; refine (HW2.out _).mono ?_; rintro e w1 ⟨rfl, rfl⟩)
          go_ret
          exact ⟨by rw [HL.out]; rfl, rfl⟩
        | true =>
          rw [hw] at W2
          have HW2 := Lib.hid W2
          have HL : Hid (labR s = labR v) := Lib.hid (by rw [LQ.out, hw]; rfl)
          clear W2 hw
          go_wp2_with (first | (go_at_call 90; refine (HW2.out _).mono ?_; rintro e w1 ⟨rfl, rfl⟩) | (go_at_call 89; refine (HS2.out _).mono ?_; rintro e w1 ⟨rfl, rfl⟩))
          go_round
          case rel => exact ⟨v, _, rfl, rfl, Lib.hid rfl, l2, HL⟩
          case measure => have := l3.out; simp [lenOf, ByteArray.size]; omega
      · have t1 : ¬ (n : Int) < (q.length : Int) := by omega
        have WQ : Hid ((wd q && decide ((q.length : Int) ≤ 20)) = wd20 q) := Lib.hid (by unfold wd20; congr 1; simp only [decide_eq_decide]; omega)
        have HL : Hid (labR s = wd20 q) := Lib.hid (by rw [EL.out, labR_end (by rw [← EN.out]; exact hlt)])
        have W2 := fun W => HWD.out q hq W
        rw [WQ.out] at W2
        have HW2 := Lib.hid W2
        clear W2 EN
        generalize wd20 q = r at *
        go_wp2_with (go_at_call 90; refine (HW2.out _).mono ?_; rintro e w1 ⟨rfl, rfl⟩)
        go_ret
        exact ⟨by rw [HL.out]; rfl, rfl⟩
end Go.Proofs.YtgboboljgcfggaaGreatDoor
namespace Go.Proofs.YtgboboljgcfggaaGreatDoor
open Go.RowKit Go.Shelf
attribute [local go_sem] Oper.semAt_some

theorem index_cut : ∀ q : T, Lib.indexByte q 47 = if cutN q < q.length then (cutN q : Int) else -1
  | [] => by simp [Lib.indexByte, cutN]
  | c :: q => by
    have ih := index_cut q
    by_cases h : c = 47
    · subst h
      simp [Lib.indexByte, cutN]
    · have e1 : cutN (c :: q) = cutN q + 1 := by
        unfold cutN
        have : (c != 47) = true := by simpa using h
        simp [this]
      have e2 : (c == 47) = false := by simpa using h
      have e3 : (c :: q).length = q.length + 1 := rfl
      rw [e1, e3, Lib.indexByte, e2, ih]
      by_cases h2 : cutN q < q.length
      · have a1 : (if cutN q < q.length then (cutN q : Int) else -1) = cutN q := if_pos h2
        have a2 : (if cutN q + 1 < q.length + 1 then ((cutN q + 1 : Nat) : Int) else -1) = ((cutN q + 1 : Nat) : Int) := if_pos (by omega)
        have a3 : ((cutN q : Int) == -1) = false := by rw [beq_eq_false_iff_ne]; omega
        rw [a1, a2, a3]
        simp
      · have a1 : (if cutN q < q.length then (cutN q : Int) else -1) = -1 := if_neg h2
        have a2 : (if cutN q + 1 < q.length + 1 then ((cutN q + 1 : Nat) : Int) else -1) = -1 := if_neg (by omega)
        rw [a1, a2]
        rfl
/-- One of two outcomes. -/
def Fin2 (b : Bool) (J Js : World → Prop) (W : World) : Prop := if b = true then J W else Js W
theorem Fin2.yes {b : Bool} {J Js : World → Prop} {W : World} (h : Fin2 b J Js W) (hb : b = true) : J W := by unfold Fin2 at h; rwa [if_pos hb] at h
theorem Fin2.no {b : Bool} {J Js : World → Prop} {W : World} (h : Fin2 b J Js W) (hb : b = false) : Js W := by unfold Fin2 at h; rwa [if_neg (by simp [hb])] at h
theorem fin2_no {b : Bool} {J Js : World → Prop} {W : World} (h : Js W) (hb : b = false) : Fin2 b J Js W := by unfold Fin2; rwa [if_neg (by simp [hb])]
theorem fin2_yes {b : Bool} {J Js : World → Prop} {W : World} (h : J W) (hb : b = true) : Fin2 b J Js W := by unfold Fin2; rwa [if_pos hb]
/-- The length of the text in a box. -/
def lenAt (g : Nat) (W : World) : Nat :=
  match W.cell? ⟨g, 0, none⟩ with
  | some v => lenOf v
  | _ => 0
theorem lenAt_eq {g : Nat} {W : World} {q : T} (h : W.heap[g]? = some (.cells #[tv q] 9 (0, 0))) : lenAt g W = q.length := by
  have := Lib.cell_of_heap h 0
  simp [lenAt, this, lenOf, ByteArray.size]

set_option maxRecDepth 100000 in
set_option maxHeartbeats 4000000 in
theorem split_in (n : Nat) (hn : 1 ≤ n) (l g gp gz : Nat) (hgp : gp ≠ g) (hgz : gz ≠ g) (J Js : World → Prop)
    (hJ : ∀ A u, J A → J (A.setCell ⟨g, 0, none⟩ u))
    (hY : ∀ (x : T) W, J W → x.length ≤ 90 → YieldAt Fence.wide (n - 1) Tryz.prog l #[tv x] W fun e W' => e = .returned (.bool (wd20 x)) ∧ Fin2 (wd20 x) J Js W' ∧ W'.heap[g]? = W.heap[g]? ∧ W'.heap[gp]? = W.heap[gp]? ∧ W'.heap[gz]? = W.heap[gz]?)
    (s : T) (hs : s.length ≤ 90) (W : World) (hg : W.heap[g]? = some (.cells #[tv s] 9 (0, 0))) (hp : W.heap[gp]? = some (.cells #[.string ⟨#[47]⟩] 9 (0, 0))) (hz : W.heap[gz]? = some (.cells #[.int .i64 0] 3 (0, 0))) (h0 : J W) :
    CallsIn Fence.wide n Tryz.prog 149 #[.func (.yield l) #[] #[], .pointer (some ⟨gp, 0, none⟩), .pointer (some ⟨g, 0, none⟩), .pointer (some ⟨gz, 0, none⟩)] W fun e W' => (∃ r, e = .returned r) ∧ Fin2 (labR s) J Js W' := by
  have cp := Lib.cell_of_heap hp 0
  simp only [List.getElem?_toArray, List.getElem?_cons_zero] at cp
  refine callsIn_of_wp Tryz.func149 rfl trivial ?_ rfl
  simp only [Tryz.ntmps149, List.size_toArray, List.length_cons, List.length_nil, Nat.reduceAdd, Nat.reduceSub, Array.replicate_succ, Array.replicate_zero, List.push_toArray, List.append_toArray, List.nil_append, List.cons_append]
  gi_wp2
  clear cp
  gi_loopw [7, 8] (fun _ _ wr => ∃ q : T, Hid (wr.heap[g]? = some (.cells #[tv q] 9 (0, 0))) ∧ Hid (wr.heap[gp]? = some (.cells #[.string ⟨#[47]⟩] 9 (0, 0))) ∧ Hid (wr.heap[gz]? = some (.cells #[.int .i64 0] 3 (0, 0))) ∧ q.length ≤ 90 ∧ Hid (labR s = labR q) ∧ Hid (J wr)) (fun _ _ wr => lenAt g wr)
  case atStart => exact ⟨s, Lib.hid hg, Lib.hid hp, Lib.hid hz, hs, Lib.hid rfl, Lib.hid h0⟩
  case round =>
    obtain ⟨q, hu, hp2, hz2, hq, EL, hJs⟩ := hrel
    have hc := Lib.cell_of_heap hu.out 0
    have hf := Lib.frozen_of_heap hu.out 0
    have cp := Lib.cell_of_heap hp2.out 0
    have cz := Lib.cell_of_heap hz2.out 0
    simp only [List.getElem?_toArray, List.getElem?_cons_zero] at hc cp cz
    have IX := fun W => strIndex1_any ⟨q.toArray⟩ 47 W
    have ei : Lib.indexByte (ByteArray.mk q.toArray).data.toList 47 = if cutN q < q.length then (cutN q : Int) else -1 := index_cut q
    rw [ei] at IX
    clear ei
    by_cases h : cutN q < q.length
    · rw [if_pos h] at IX
      have LQ : Hid (labR s = (wd20 (q.take (cutN q)) && labR (q.drop (cutN q + 1)))) := Lib.hid (by rw [EL.out, labR_cut h])
      have HIX := Lib.hid IX
      have e1 := ext_take q (cutN q)
      have e2 := ext_drop q (cutN q + 1)
      have l1 : (q.take (cutN q)).length ≤ 90 := by simp; omega
      have l2 : (q.drop (cutN q + 1)).length ≤ 90 := by simp; omega
      have l3 : Hid ((q.drop (cutN q + 1)).length < q.length) := Lib.hid (by simp; omega)
      obtain ⟨fn, tmps, assign, body, hy, hR⟩ := hY (q.take (cutN q)) wr hJs.out l1
      obtain ⟨u, hu1⟩ : ∃ u, q.take (cutN q) = u := ⟨_, rfl⟩
      obtain ⟨v, hv1⟩ : ∃ v, q.drop (cutN q + 1) = v := ⟨_, rfl⟩
      rw [hu1] at e1 LQ hy hR
      rw [hv1] at e2 LQ l2 l3
      clear hu1 hv1 IX l1
      generalize cutN q = k at *
      have t1 : ¬ (k : Int) < 0 := by omega
      gi_wp2_with (refine ⟨trivial, ?_⟩; gi_at_call 107; refine (callsIn_wide.2 (HIX.out _)).mono ?_; rintro e w1 ⟨rfl, rfl⟩)
      refine hR.mono ?_
      rintro e W3 ⟨rfl, hJ3, k1, k2, k3⟩
      cases hw : wd20 u with
      | false =>
        have FN : Hid (Fin2 (labR s) J Js W3) := Lib.hid (fin2_no (hJ3.no hw) (by rw [LQ.out, hw]; rfl))
        clear hJ3 hw
        gi_wp2
        first | go_end0 | refine bodyPost_ret (results_none rfl _ _ _) rfl ?_
        exact ⟨⟨_, rfl⟩, FN.out⟩
      | true =>
        replace hJ3 := hJ3.yes hw
        have HL : Hid (labR s = labR v) := Lib.hid (by rw [LQ.out, hw]; rfl)
        have u3 := k1.trans hu.out
        have p3 := k2.trans hp2.out
        have z3 := k3.trans hz2.out
        have hc3 := Lib.cell_of_heap u3 0
        have hf3 := Lib.frozen_of_heap u3 0
        have cp3 := Lib.cell_of_heap p3 0
        simp only [List.getElem?_toArray, List.getElem?_cons_zero] at hc3 cp3
        have hn3 : Hid ((W3.setCell ⟨g, 0, none⟩ (tv v)).heap[g]? = some (.cells #[tv v] 9 (0, 0))) := Lib.hid (by simp [World.setCell, Array.getElem?_modify, u3])
        have hp4 : Hid ((W3.setCell ⟨g, 0, none⟩ (tv v)).heap[gp]? = some (.cells #[.string ⟨#[47]⟩] 9 (0, 0))) := Lib.hid ((Below.heap_setCell _ _ _ _ hgp).trans p3)
        have hz4 : Hid ((W3.setCell ⟨g, 0, none⟩ (tv v)).heap[gz]? = some (.cells #[.int .i64 0] 3 (0, 0))) := Lib.hid ((Below.heap_setCell _ _ _ _ hgz).trans z3)
        have HJ4 := Lib.hid (hJ _ (tv v) hJ3)
        have t5 : k ≤ 90 := by omega
        clear hJ3 hw k1 k2 k3 u3 p3 z3 hc cp cz hf
        gi_wp2
        go_roundw
        case rel => exact ⟨v, hn3, hp4, hz4, l2, HL, HJ4⟩
        case measure => rw [lenAt_eq hn3.out, lenAt_eq hu.out]; exact l3.out
    · rw [if_neg h] at IX
      have HIX := Lib.hid IX
      have LQ : Hid (labR s = wd20 q) := Lib.hid (by rw [EL.out, labR_end h])
      obtain ⟨fn, tmps, assign, body, hy, hR⟩ := hY q wr hJs.out hq
      clear IX
      gi_wp2_with (refine ⟨trivial, ?_⟩; gi_at_call 107; refine (callsIn_wide.2 (HIX.out _)).mono ?_; rintro e w1 ⟨rfl, rfl⟩)
      refine hR.mono ?_
      rintro e W3 ⟨rfl, hJ3, k1, k2, k3⟩
      have FN : Hid (Fin2 (labR s) J Js W3) := Lib.hid (by rw [LQ.out]; exact hJ3)
      clear hJ3
      gi_wp2
      go_end0
      exact ⟨⟨_, rfl⟩, FN.out⟩
end Go.Proofs.YtgboboljgcfggaaGreatDoor
namespace Go.Proofs.YtgboboljgcfggaaGreatDoor
open Go.RowKit Go.Shelf
attribute [local go_sem] Oper.semAt_some

/-- A range over a closure starts: its record and the block for deferred calls lie behind the world. -/
theorem range_start {P : Program} {n : Nat} {g : Operand} {ps : Array Tmp} {assign body : Code} {Q : Exit → Act → World → Prop} {a : Act} {w : World} {gf : Nat} {lb : Array Value}
    (hg : a.eval g = .func (.func gf) #[] lb) (eg : ∀ args w, (callFunc gf args).run P w = .ok (.enter gf args) w)
    (h : ∀ fn, CallsIn Fence.wide (n - 1) P gf (#[.func (.yield (w.heap.size + 1)) #[] #[]] ++ lb)
      ((w.alloc (.deferred (some []))).alloc (.loop { state := .ready, pending := none, fn, tmps := a.tmps, params := ps, assign, body, defers := w.heap.size }))
      (rangePost Fence.wide n P (w.heap.size + 1) Q { a with defers := { target := .collected w.heap.size, args := #[] } :: a.defers })) :
    (Code.rangeFunc g ps assign body).wpIn Fence.wide n P Q a w := by
  refine wpIn_rangeFunc ?_
  intro fn _
  obtain ⟨W1, hW1⟩ : ∃ W1, (w.alloc (.deferred (some []))).alloc (.loop { state := .ready, pending := none, fn, tmps := a.tmps, params := ps, assign, body, defers := w.heap.size }) = W1 := ⟨_, rfl⟩
  refine ⟨w.heap.size + 1, [{ target := .collected w.heap.size, args := #[] }], W1, { target := .fn (.func gf) lb, args := #[.func (.yield (w.heap.size + 1)) #[] #[]] }, W1, gf,
    #[.func (.yield (w.heap.size + 1)) #[] #[]] ++ lb, W1, ?_, ?_, fun _ _ => trivial, ?_, fun h => (by cases h), ?_⟩
  · rw [← hW1]; exact run_enterLoop_outer _ _ _ _ _
  · simp only [resolve, hg]
    simp [go_sem]
  · simp [invoke, go_sem, eg]
  · rw [← hW1]; exact h fn

set_option maxRecDepth 100000 in
theorem splitSeq_any (s p : ByteArray) (w : World) :
    Calls Tryz.prog 85 #[.string s, .string p] w fun e w' => e = .returned (.func (.func 149) #[] #[.pointer (some ⟨w.heap.size + 1, 0, none⟩), .pointer (some ⟨w.heap.size, 0, none⟩), .pointer (some ⟨w.heap.size + 1 + 1, 0, none⟩)]) ∧ w' = ((w.alloc (.cells #[.string s] 9)).alloc (.cells #[.string p] 9)).alloc (.cells #[.int .i64 0] 3) := by
  have hmf : ∀ (fn : Fn) (first cap : Array Value) (w : World), (Instr.makeFunc fn first cap).run Tryz.prog w = .ok (.func fn first cap) w := fun _ _ _ _ => rfl
  go_enter Tryz.func85, Tryz.ntmps85
  go_wp2
  go_ret
  exact ⟨rfl, rfl⟩

/-- Between two rounds of Label's loop. -/
structure LJ (w : World) (L : Nat) (r : Loop) (W : World) : Prop where
  res : W.heap[w.heap.size]? = some (.cells #[.bool false] 4 (0, 0))
  l : W.heap[L + 1]? = some (.loop r)
  d : W.heap[L]? = some (.deferred (some []))
  be : Below w.heap.size w W
theorem LJ.set {w : World} {L : Nat} {r : Loop} {W : World} (h : LJ w L r W) (hL : w.heap.size + 4 ≤ L) (u : Value) : LJ w L r (W.setCell ⟨w.heap.size + 1, 0, none⟩ u) := by
  have ht : ∀ i, i ≠ w.heap.size + 1 → (W.setCell ⟨w.heap.size + 1, 0, none⟩ u).heap[i]? = W.heap[i]? := fun i hi => Below.heap_setCell _ _ _ _ (fun e => hi (by simpa using e))
  exact ⟨(ht _ (by omega)).trans h.res, (ht _ (by omega)).trans h.l, (ht _ (by omega)).trans h.d, h.be.setCell (p := ⟨w.heap.size + 1, 0, none⟩) (by show w.heap.size ≤ w.heap.size + 1; omega) _⟩
theorem LJ.put {w : World} {L : Nat} {r : Loop} {W : World} (h : LJ w L r W) (hL : w.heap.size + 4 ≤ L) (r' : Loop) : LJ w L r' (W.putObj (L + 1) (.loop r')) := by
  have ht : ∀ i, i ≠ L + 1 → (W.putObj (L + 1) (.loop r')).heap[i]? = W.heap[i]? := fun i hi => World.putObj_heap_other (by omega)
  exact ⟨(ht _ (by omega)).trans h.res, World.putObj_heap_same (Array.getElem?_eq_some_iff.1 h.l).1, (ht _ (by omega)).trans h.d, h.be.trans ⟨rfl, rfl, rfl, by simp [World.putObj], fun k hk => ht k (by omega)⟩⟩

theorem LJ.store {w : World} {L : Nat} {r : Loop} {W : World} (h : LJ w L r W) (hL : w.heap.size + 4 ≤ L) : LJ w L r (W.setCell ⟨w.heap.size, 0, none⟩ (.bool false)) := by
  have ht : ∀ i, i ≠ w.heap.size → (W.setCell ⟨w.heap.size, 0, none⟩ (.bool false)).heap[i]? = W.heap[i]? := fun i hi => Below.heap_setCell _ _ _ _ (fun e => hi (by simpa using e))
  refine ⟨?_, (ht _ (by omega)).trans h.l, (ht _ (by omega)).trans h.d, h.be.setCell (p := ⟨w.heap.size, 0, none⟩) (Nat.le_refl _) _⟩
  simp [World.setCell, Array.getElem?_modify, h.res]
theorem LJ.below {w : World} {L : Nat} {r : Loop} {W W' : World} (h : LJ w L r W) (hb : Below W.heap.size W W') : LJ w L r W' :=
  ⟨(hb.block _ (Array.getElem?_eq_some_iff.1 h.res).1).trans h.res, (hb.block _ (Array.getElem?_eq_some_iff.1 h.l).1).trans h.l, (hb.block _ (Array.getElem?_eq_some_iff.1 h.d).1).trans h.d, h.be.trans (hb.mono h.be.size)⟩
theorem results_cell1 {fn : Func} {p : Tmp} {ty : TypeId} (h : fn.results = #[.cell p ty]) (tmps : Array Value) (P : Program) (w : World) :
    (results fn tmps).run P w = ((asAddr (tmps.getD p undef)).run P w).andThen fun a w₁ => (loadVar ty a).run P w₁ := by
  simp only [results, h]
  simp [Sem.run_bind]
theorem results_bool {fn : Func} {p : Tmp} (h : fn.results = #[.cell p 4]) (tmps : Array Value) (w : World) (a : Addr) (v : Value) (hp : tmps.getD p undef = .pointer (some a)) (hc : w.cell? a = some v) : (results fn tmps).run Tryz.prog w = .ok v w := by
  have ha := Tryz.isAgg4
  rw [results_cell1 h, hp]
  simp [go_sem, ha, loadVar, hc]
theorem al4 (w : World) (a b c d : Obj) : ((((w.alloc a).alloc b).alloc c).alloc d).heap[w.heap.size]? = some a ∧ ((((w.alloc a).alloc b).alloc c).alloc d).heap[w.heap.size + 1]? = some b ∧ ((((w.alloc a).alloc b).alloc c).alloc d).heap[w.heap.size + 2]? = some c ∧ ((((w.alloc a).alloc b).alloc c).alloc d).heap[w.heap.size + 3]? = some d := by
  have h1 := World.alloc_heap_new w a
  have h2 := World.alloc_heap_new (w.alloc a) b
  have h3 := World.alloc_heap_new ((w.alloc a).alloc b) c
  have h4 := World.alloc_heap_new (((w.alloc a).alloc b).alloc c) d
  simp only [World.size_alloc] at h2 h3 h4
  refine ⟨?_, ?_, ?_, h4⟩
  · exact (((Below.heap_alloc _ _ _ (by simp; omega)).trans (Below.heap_alloc _ _ _ (by simp; omega))).trans (Below.heap_alloc _ _ _ (by simp))).trans h1
  · exact ((Below.heap_alloc _ _ _ (by simp)).trans (Below.heap_alloc _ _ _ (by simp))).trans h2
  · exact (Below.heap_alloc _ _ _ (by simp)).trans h3

set_option maxRecDepth 100000 in
set_option maxHeartbeats 4000000 in
theorem label_any (s : T) (w : World) (hs : s.length ≤ 9223372036854775807) : Calls Tryz.prog 52 #[tv s] w fun e w' => e = .returned (.bool (lab s)) ∧ Below w.heap.size w w' := by
  by_cases h90 : 90 < s.length
  · have e0 : lab s = false := by
      have : decide (s.length ≤ 90) = false := by simp; omega
      simp [lab, this]
    rw [e0]
    have t90 : (90 : Int) < (s.length : Int) := by omega
    refine (callsIn_wide (n := 5)).1 ?_
    refine callsIn_of_wp_marks Tryz.func52 rfl trivial ?_ rfl
    simp only [Tryz.ntmps52, List.size_toArray, List.length_cons, List.length_nil, Nat.reduceAdd, Nat.reduceSub, Array.replicate_succ, Array.replicate_zero, List.push_toArray, List.append_toArray, List.nil_append, List.cons_append]
    gi_wp2
    refine ⟨_, results_bool rfl _ _ ⟨w.heap.size, 0, none⟩ (.bool false) rfl (by simp), rfl, (Below.refl _ _).alloc (Nat.le_refl _) _⟩
  · have e0 : lab s = labR s := by
      have : decide (s.length ≤ 90) = true := by simp; omega
      simp [lab, this]
    rw [e0]
    have t90 : ¬ (90 : Int) < (s.length : Int) := by omega
    refine (callsIn_wide (n := 5)).1 ?_
    refine callsIn_of_wp_marks Tryz.func52 rfl trivial ?_ rfl
    simp only [Tryz.ntmps52, List.size_toArray, List.length_cons, List.length_nil, Nat.reduceAdd, Nat.reduceSub, Array.replicate_succ, Array.replicate_zero, List.push_toArray, List.append_toArray, List.nil_append, List.cons_append]
    gi_wp2_with (refine ⟨trivial, ?_⟩; gi_at_call 85; refine (callsIn_wide.2 (splitSeq_any _ _ _)).mono ?_; rintro e w' ⟨rfl, rfl⟩)
    obtain ⟨W0, hW0⟩ : ∃ W0, (((w.alloc (.cells #[.bool false] 4)).alloc (.cells #[tv s] 9)).alloc (.cells #[.string ⟨#[47]⟩] 9)).alloc (.cells #[.int .i64 0] 3) = W0 := ⟨_, rfl⟩
    have s0 : W0.heap.size = w.heap.size + 4 := by rw [← hW0]; simp
    obtain ⟨r0, g0, p0, z0⟩ : W0.heap[w.heap.size]? = some (.cells #[.bool false] 4 (0, 0)) ∧ W0.heap[w.heap.size + 1]? = some (.cells #[tv s] 9 (0, 0)) ∧ W0.heap[w.heap.size + 2]? = some (.cells #[.string ⟨#[47]⟩] 9 (0, 0)) ∧ W0.heap[w.heap.size + 3]? = some (.cells #[.int .i64 0] 3 (0, 0)) := by rw [← hW0]; exact al4 _ _ _ _ _
    have b0 : Below w.heap.size w W0 := by rw [← hW0]; exact ((((Below.refl _ w).alloc (Nat.le_refl _) _).alloc (by simp) _).alloc (by simp; omega) _).alloc (by simp; omega) _
    rw [hW0]
    have hD : w.heap.size + 4 ≤ W0.heap.size := by omega
    clear hW0 s0
    refine range_start (gf := 149) (lb := #[.pointer (some ⟨w.heap.size + 2, 0, none⟩), .pointer (some ⟨w.heap.size + 1, 0, none⟩), .pointer (some ⟨w.heap.size + 3, 0, none⟩)]) rfl (enters_of Tryz.func149 (by kernel_rfl) rfl) ?_
    intro fn
    generalize hr : ({ state := .ready, pending := none, fn := fn, tmps := _, params := _, assign := _, body := _, defers := W0.heap.size } : Loop) = r
    obtain ⟨W1, hW1⟩ : ∃ W1, (W0.alloc (.deferred (some []))).alloc (.loop r) = W1 := ⟨_, rfl⟩
    have ho : ∀ k, k < W0.heap.size → W1.heap[k]? = W0.heap[k]? := fun k hk => by rw [← hW1]; exact (Below.heap_alloc _ _ _ (by simp; omega)).trans (Below.heap_alloc _ _ _ hk)
    have j0 : LJ w W0.heap.size r W1 := by
      refine ⟨(ho _ (by omega)).trans r0, ?_, ?_, ?_⟩
      · rw [← hW1]; have := World.alloc_heap_new (W0.alloc (.deferred (some []))) (.loop r); rwa [World.size_alloc] at this
      · rw [← hW1]; exact (Below.heap_alloc _ _ _ (by simp)).trans (World.alloc_heap_new W0 _)
      · rw [← hW1]; exact (b0.alloc (by omega) _).alloc (by simp; omega) _
    have g1 := (ho _ (by omega)).trans g0
    have p1 := (ho _ (by omega)).trans p0
    have z1 := (ho _ (by omega)).trans z0
    rw [hW1]
    clear hW1 ho
    refine (split_in 4 (by omega) (W0.heap.size + 1) (w.heap.size + 1) (w.heap.size + 2) (w.heap.size + 3) (by omega) (by omega) (LJ w W0.heap.size r) (LJ w W0.heap.size { r with state := .done, pending := some .ret }) (fun A u hA => hA.set hD u) ?_ s (by omega) W1 g1 p1 z1 j0).mono ?_
    · intro x W hj hx
      have hy := run_yield (P := Tryz.prog) (args := #[tv x]) hj.l (by rw [← hr]; rfl)
      rw [← hr] at hy
      refine ⟨_, _, _, _, hy, roundIn_of_wpIn trivial ?_⟩
      clear hy
      simp only [List.zip_toArray, List.zip_cons_cons, List.zip_nil_right, List.foldl_toArray, List.foldl_cons, List.foldl_nil, List.setIfInBounds_toArray, List.set_cons_succ, List.set_cons_zero]
      gi_wp2
      refine ⟨_, run_beginRound hj.l (by rw [← hr]), ?_⟩
      have hj2 := hj.put hD { r with state := .busy }
      have hg2 : ∀ k, k ≠ W0.heap.size + 1 → (W.putObj (W0.heap.size + 1) (.loop { r with state := .busy })).heap[k]? = W.heap[k]? := fun k hk => World.putObj_heap_other (by omega)
      generalize W.putObj (W0.heap.size + 1) (.loop { r with state := .busy }) = W2 at *
      have HJ2 := Lib.hid hj2
      have HG2 := Lib.hid hg2
      clear hj2 hg2
      by_cases h20 : 20 < x.length
      · have t1 : (20 : Int) < (x.length : Int) := by omega
        have c1 := Lib.cell_of_heap HJ2.out.res 0
        have f1 := Lib.frozen_of_heap HJ2.out.res 0
        simp only [List.getElem?_toArray, List.getElem?_cons_zero] at c1
        have hw : wd20 x = false := by
          unfold wd20
          have : decide (x.length ≤ 20) = false := by simp; omega
          rw [this, Bool.and_false]
        have HW := Lib.hid hw
        clear hw
        gi_wp2_with (refine ⟨trivial, ?_⟩)
        have hj3 := HJ2.out.store hD
        have hend := run_endRound (P := Tryz.prog) (some .ret) hj3.l
        refine ⟨_, _, hend, by rw [HW.out]; rfl, fin2_no (hj3.put hD _) HW.out, ?_, ?_, ?_⟩
        all_goals (rw [World.putObj_heap_other (by omega), Below.heap_setCell _ _ _ _ (by show _ ≠ w.heap.size; omega), HG2.out _ (by omega)])
      · have t1 : ¬ (20 : Int) < (x.length : Int) := by omega
        have WA := fun W => word_any x W (by omega)
        have hw : (wd x && decide (x.length ≤ 24)) = wd20 x := by
          unfold wd20
          have h1 : decide (x.length ≤ 24) = true := by simp; omega
          have h2 : decide (x.length ≤ 20) = true := by simp; omega
          rw [h1, h2]
        rw [hw] at WA
        have HWA := Lib.hid WA
        clear WA hw
        cases hb : wd20 x with
        | false =>
          rw [hb] at HWA
          gi_wp2_with (refine ⟨trivial, ?_⟩; gi_at_call 86; refine (CallsIn.inRound _ (callsIn_wide.2 (HWA.out _))).mono ?_; rintro e W3 ⟨rfl, k3⟩; have HJ3 := Lib.hid (HJ2.out.below k3); have K3 := Lib.hid k3; have c1 := Lib.cell_of_heap HJ3.out.res 0; have f1 := Lib.frozen_of_heap HJ3.out.res 0; simp only [List.getElem?_toArray, List.getElem?_cons_zero] at c1; clear k3)
          have hj3 := HJ3.out.store hD
          have hend := run_endRound (P := Tryz.prog) (some .ret) hj3.l
          have kb : ∀ k, k < W2.heap.size → k ≠ w.heap.size → k ≠ W0.heap.size + 1 → ((W3.setCell ⟨w.heap.size, 0, none⟩ (.bool false)).putObj (W0.heap.size + 1) (.loop { { { r with state := .busy } with state := .done } with pending := some .ret })).heap[k]? = W.heap[k]? := fun k h1 h2 h3 => by
            rw [World.putObj_heap_other (by omega), Below.heap_setCell _ _ _ _ (by show _ ≠ w.heap.size; omega), K3.out.block _ h1, HG2.out _ h3]
          have hlt := (Array.getElem?_eq_some_iff.1 HJ2.out.l).1
          refine ⟨_, _, hend, rfl, fin2_no (hj3.put hD _) rfl, kb _ (by omega) (by omega) (by omega), kb _ (by omega) (by omega) (by omega), kb _ (by omega) (by omega) (by omega)⟩
        | true =>
          rw [hb] at HWA
          gi_wp2_with (refine ⟨trivial, ?_⟩; gi_at_call 86; refine (CallsIn.inRound _ (callsIn_wide.2 (HWA.out _))).mono ?_; rintro e W3 ⟨rfl, k3⟩; have HJ3 := Lib.hid (HJ2.out.below k3); have K3 := Lib.hid k3; clear k3)
          have hj3 := HJ3.out
          have hend := run_endRound (P := Tryz.prog) none hj3.l
          have hrr : ({ { r with state := .busy } with state := if (none : Option Code).isNone = true then .ready else .done, pending := none } : Loop) = r := by rw [← hr]; rfl
          rw [hrr] at hend
          have kb : ∀ k, k < W2.heap.size → k ≠ W0.heap.size + 1 → (W3.putObj (W0.heap.size + 1) (.loop r)).heap[k]? = W.heap[k]? := fun k h1 h3 => by
            rw [World.putObj_heap_other (by omega), K3.out.block _ h1, HG2.out _ h3]
          have hlt := (Array.getElem?_eq_some_iff.1 HJ2.out.l).1
          refine ⟨_, _, hend, rfl, fin2_yes (hj3.put hD _) rfl, kb _ (by omega) (by omega), kb _ (by omega) (by omega), kb _ (by omega) (by omega)⟩
    · rintro e W2 ⟨⟨v', rfl⟩, hj⟩
      cases hl : labR s with
      | true =>
        have hj1 := hj.yes hl
        have HL := Lib.hid hl
        have hend := run_endLoop (P := Tryz.prog) hj1.l (by rw [← hr]; simp)
        have hp : r.pending = none := by rw [← hr]
        rw [hp] at hend
        have hj4 := hj1.put hD { r with state := .exhausted, pending := none }
        refine ⟨none, _, hend, ?_⟩
        generalize W2.putObj (W0.heap.size + 1) _ = W3 at *
        have HJ4 := Lib.hid hj4
        have c1 := Lib.cell_of_heap HJ4.out.res 0
        have f1 := Lib.frozen_of_heap HJ4.out.res 0
        simp only [List.getElem?_toArray, List.getElem?_cons_zero] at c1
        clear hj4 hp hj1 hj hl
        gi_wp2
        have hd : (W3.setCell ⟨w.heap.size, 0, none⟩ (.bool true)).heap[W0.heap.size]? = some (.deferred (some [])) := (Below.heap_setCell _ _ _ _ (by show _ ≠ w.heap.size; omega)).trans HJ4.out.d
        refine ⟨by simp, .inl ⟨_, _, rfl, run_takeDeferred hd, ?_⟩⟩
        refine ⟨_, results_bool rfl _ _ ⟨w.heap.size, 0, none⟩ (.bool true) rfl ?_, by rw [HL.out], ?_⟩
        · have h1 : ((W3.setCell ⟨w.heap.size, 0, none⟩ (.bool true)).putObj W0.heap.size (.deferred none)).heap[w.heap.size]? = some (.cells #[.bool true] 4 (0, 0)) := by
            rw [World.putObj_heap_other (by omega)]
            simp [World.setCell, Array.getElem?_modify, HJ4.out.res]
          simpa using Lib.cell_of_heap h1 0
        · exact (HJ4.out.be.setCell (p := ⟨w.heap.size, 0, none⟩) (Nat.le_refl _) _).trans ⟨rfl, rfl, rfl, by simp, fun k hk => World.putObj_heap_other (by omega)⟩
      | false =>
        have hj1 := hj.no hl
        have hend := run_endLoop (P := Tryz.prog) hj1.l (by simp)
        have hj4 := hj1.put hD { r with state := .exhausted, pending := some .ret }
        refine ⟨some .ret, _, hend, ?_⟩
        have HJ4 := Lib.hid hj4
        have HL := Lib.hid hl
        gi_wp2
        refine ⟨by simp, .inl ⟨_, _, rfl, run_takeDeferred HJ4.out.d, ?_⟩⟩
        refine ⟨_, results_bool rfl _ _ ⟨w.heap.size, 0, none⟩ (.bool false) rfl ?_, by rw [HL.out], ?_⟩
        · have h1 := (World.putObj_heap_other (o := .deferred none) (show w.heap.size ≠ W0.heap.size by omega)).trans HJ4.out.res
          simpa using Lib.cell_of_heap h1 0
        · exact HJ4.out.be.trans ⟨rfl, rfl, rfl, by simp, fun k hk => World.putObj_heap_other (by omega)⟩
end Go.Proofs.YtgboboljgcfggaaGreatDoor
namespace Go.Proofs.YtgboboljgcfggaaGreatDoor
open Go.RowKit

/-- The error of an instruction of a code, by what it has: g a reference to a declaration, o an operation, l whether its name is a label. -/
def ckB8 (K A B Nm G O L R : Bool) (a b : Int) (name : T) : Int :=
  if K = false then 9
  else if (!A && a != 0) || (!B && b != 0) || (!Nm && name != []) then 1
  else if (G && !L) || (O && !nmOk name) then 6
  else if R = false then 2 else 0
/-- The error of an instruction of a code. -/
def ckI8 (bs : List Blk) (nb : Nat) (op a b : Int) (name : T) : Int := ckB8 (fK op) (fA op) (fB op) (fN8 op) (op == 4) (op == 10) (lab name) (inR8 bs nb op a b) a b name
/-- The kinds of instructions of a code. -/
theorem shapes8 (op : Int) : fK op = false ∨ (fK op = true ∧ fA op = true ∧ fB op = false ∧ fN8 op = false ∧ (op == 4) = false ∧ (op == 10) = false) ∨ (fK op = true ∧ fA op = false ∧ fB op = false ∧ fN8 op = false ∧ (op == 4) = false ∧ (op == 10) = false) ∨ op = 4 ∨ op = 10 ∨ op = 16 := by
  rcases op_split op with rfl | rfl | rfl | rfl | rfl | rfl | rfl | rfl | rfl | rfl | rfl | rfl | rfl | rfl | rfl | rfl | ⟨h1, h2, h3, h4, h5, h6, h7, h8, h9, h10, h11, h12, h13, h14, h15, h16⟩
  rotate_right
  · exact .inl (by simp [fK, fA, *])
  all_goals decide
theorem fK_iff (op : Int) : (fK op = false) = (op < 1 ∨ 16 < op) := by
  rcases op_split op with rfl | rfl | rfl | rfl | rfl | rfl | rfl | rfl | rfl | rfl | rfl | rfl | rfl | rfl | rfl | rfl | ⟨h1, h2, h3, h4, h5, h6, h7, h8, h9, h10, h11, h12, h13, h14, h15, h16⟩
  rotate_right
  · have : fK op = false := by simp [fK, fA, *]
    simp at h1 h2 h3 h4 h5 h6 h7 h8 h9 h10 h11 h12 h13 h14 h15 h16
    simp only [this, eq_self, true_iff, eq_iff_iff]
    omega
  all_goals simp [fK, fA]
theorem box3 {w : World} {c0 c1 c2 d0 d1 d2 e0 e1 e2 e3 : Value} {t0 t1 t2 : TypeId} {W : World} (h : Below (((w.alloc (.cells #[c0, c1, c2] t0)).alloc (.cells #[d0, d1, d2] t1)).alloc (.cells #[e0, e1, e2, e3] t2)).heap.size (((w.alloc (.cells #[c0, c1, c2] t0)).alloc (.cells #[d0, d1, d2] t1)).alloc (.cells #[e0, e1, e2, e3] t2)) W) :
    (W.cell? ⟨w.heap.size, 0, none⟩ = some c0 ∧ W.cell? ⟨w.heap.size, 1, none⟩ = some c1 ∧ W.cell? ⟨w.heap.size, 2, none⟩ = some c2) ∧ (W.cell? ⟨w.heap.size + 1, 0, none⟩ = some d0 ∧ W.cell? ⟨w.heap.size + 1, 1, none⟩ = some d1 ∧ W.cell? ⟨w.heap.size + 1, 2, none⟩ = some d2) ∧ W.cell? ⟨w.heap.size + 1 + 1, 0, none⟩ = some e0 ∧ W.cell? ⟨w.heap.size + 1 + 1, 1, none⟩ = some e1 ∧ W.cell? ⟨w.heap.size + 1 + 1, 2, none⟩ = some e2 ∧ W.cell? ⟨w.heap.size + 1 + 1, 3, none⟩ = some e3 := by
  have k0 : W.heap[w.heap.size]? = some (.cells #[c0, c1, c2] t0 (0, 0)) := (h.block _ (by simp; omega)).trans ((Below.heap_alloc _ _ _ (by simp; omega)).trans ((Below.heap_alloc _ _ _ (by simp)).trans (World.alloc_heap_new w _)))
  have k1 : W.heap[w.heap.size + 1]? = some (.cells #[d0, d1, d2] t1 (0, 0)) := (h.block _ (by simp)).trans ((Below.heap_alloc _ _ _ (by simp)).trans (by rw [show w.heap.size + 1 = (w.alloc (.cells #[c0, c1, c2] t0)).heap.size from by simp]; exact World.alloc_heap_new _ _))
  have k2 : W.heap[w.heap.size + 1 + 1]? = some (.cells #[e0, e1, e2, e3] t2 (0, 0)) := (h.block _ (by simp)).trans (by rw [show w.heap.size + 1 + 1 = ((w.alloc (.cells #[c0, c1, c2] t0)).alloc (.cells #[d0, d1, d2] t1)).heap.size from by simp]; exact World.alloc_heap_new _ _)
  refine ⟨⟨?_, ?_, ?_⟩, ⟨?_, ?_, ?_⟩, ?_, ?_, ?_, ?_⟩
  iterate 3 rw [Lib.cell_of_heap k0]; rfl
  iterate 3 rw [Lib.cell_of_heap k1]; rfl
  iterate 4 rw [Lib.cell_of_heap k2]; rfl
set_option maxRecDepth 100000 in
set_option maxHeartbeats 8000000 in
theorem checkInstr8_any (p : Cod) (x : Blk) (op a b : Int) (name : T) (w : World) (hp : p.Rd w) (hnl : name.length ≤ 9223372036854775807) :
    Calls Tryz.prog 116 #[p.v, x.v, (Ins.mk op a b name).v] w fun e w' => e = .returned (.int .i64 (ckI8 p.bs x.ins.length op a b name)) ∧ Below w.heap.size w w' := by
  have PL := fun (W : World) (hb : Below w.heap.size w W) => inRange8_any p x op a b name W (hp.below hb)
  have FI := fun W => fields8_any op W
  have LB := fun W => label_any name W hnl
  have CT := fun (ch : UInt8) (W : World) => contains1_any ⟨#[43, 45, 42, 61, 60]⟩ ch W
  simp only [nmOk_one] at CT
  have HCT := Lib.hid CT
  have BX := Lib.hid (fun V (h : Below (((w.alloc (.cells #[.string ⟨p.label.toArray⟩, .slice p.bA p.bs.length p.bc, .slice p.dA p.ds.length p.dc] 65)).alloc (.cells #[.int .i64 x.cap, .bool x.param, .slice x.A x.ins.length x.c] 69)).alloc (.cells #[.int .i64 op, .int .i64 a, .int .i64 b, .string ⟨name.toArray⟩] 71)).heap.size (((w.alloc (.cells #[.string ⟨p.label.toArray⟩, .slice p.bA p.bs.length p.bc, .slice p.dA p.ds.length p.dc] 65)).alloc (.cells #[.int .i64 x.cap, .bool x.param, .slice x.A x.ins.length x.c] 69)).alloc (.cells #[.int .i64 op, .int .i64 a, .int .i64 b, .string ⟨name.toArray⟩] 71)) V) => box3 (W := V) h)
  clear CT
  unfold Cod.v Blk.v Ins.v at PL
  unfold Cod.v Blk.v Ins.v
  simp only [] at PL ⊢
  unfold ckI8
  generalize inR8 p.bs x.ins.length op a b = R at *
  generalize lab name = L at *
  rcases shapes8 op with hK | ⟨hK, hA, hB, hN, h4, h10⟩ | ⟨hK, hA, hB, hN, h4, h10⟩ | rfl | rfl | rfl
  · rw [hK] at FI ⊢
    have hs : ckB8 false (fA op) (fB op) (fN8 op) (op == 4) (op == 10) L R a b name = 9 := rfl
    rw [hs]
    clear hs
    have HPL := Lib.hid PL
    have HFI := Lib.hid FI
    have HLB := Lib.hid LB
    clear PL FI LB hp
    go_enter Tryz.func116, Tryz.ntmps116
    go_wp2_with (first | (go_at_call 152; refine (HFI.out _).mono ?_; rintro e w1 ⟨rfl, rfl⟩) | (go_at_call 83; refine (HCTc.out _).mono ?_; rintro e w3 ⟨rfl, rfl⟩) | (go_at_call 153; refine (HPL.out _ (bel3 _ _ _ _)).mono ?_; rintro e w2 ⟨rfl, k2⟩))
    go_ret
    first | exact ⟨rfl, bel3 _ _ _ _⟩ | exact ⟨rfl, (bel3 w _ _ _).trans (k2.mono (bel3 w _ _ _).size)⟩
  · -- sA
    rw [hK, hA, hB, hN, h4, h10]
    rw [hA, hB, hN, hK] at FI
    clear hK hA hB hN
    have HPL := Lib.hid PL
    have HFI := Lib.hid FI
    have HLB := Lib.hid LB
    clear PL FI LB hp
    by_cases qb' : b = 0
    rotate_right
    · have qb : (b != 0) = true := by simpa using qb'
      have hs : ckB8 true true false false false false L R a b name = 1 := by simp [ckB8, qb']
      rw [hs]
      clear hs
      go_enter Tryz.func116, Tryz.ntmps116
      go_wp2_with (first | (go_at_call 152; refine (HFI.out _).mono ?_; rintro e w1 ⟨rfl, rfl⟩) | (go_at_call 83; refine (HCTc.out _).mono ?_; rintro e w3 ⟨rfl, rfl⟩) | (go_at_call 153; refine (HPL.out _ (bel3 _ _ _ _)).mono ?_; rintro e w2 ⟨rfl, k2⟩))
      go_ret
      first | exact ⟨rfl, bel3 _ _ _ _⟩ | exact ⟨rfl, (bel3 w _ _ _).trans (k2.mono (bel3 w _ _ _).size)⟩
    subst qb'
    have qb : ((0 : Int) != 0) = false := rfl
    by_cases qn' : name = []
    rotate_right
    · have qn : (name != []) = true := by simpa using qn'
      have qn2 : name.isEmpty = false := by simpa using qn'
      have hs : ckB8 true true false false false false L R a 0 name = 1 := by simp [ckB8, qn']
      rw [hs]
      clear hs
      go_enter Tryz.func116, Tryz.ntmps116
      go_wp2_with (first | (go_at_call 152; refine (HFI.out _).mono ?_; rintro e w1 ⟨rfl, rfl⟩) | (go_at_call 83; refine (HCTc.out _).mono ?_; rintro e w3 ⟨rfl, rfl⟩) | (go_at_call 153; refine (HPL.out _ (bel3 _ _ _ _)).mono ?_; rintro e w2 ⟨rfl, k2⟩))
      go_ret
      first | exact ⟨rfl, bel3 _ _ _ _⟩ | exact ⟨rfl, (bel3 w _ _ _).trans (k2.mono (bel3 w _ _ _).size)⟩
    subst qn'
    have qn : (([] : T) != []) = false := rfl
    cases R with
    | false =>
      have hs : ckB8 true true false false false false L false a 0 [] = 2 := by simp [ckB8]
      rw [hs]
      clear hs
      go_enter Tryz.func116, Tryz.ntmps116
      go_wp2_with (first | (go_at_call 152; refine (HFI.out _).mono ?_; rintro e w1 ⟨rfl, rfl⟩) | (go_at_call 83; refine (HCTc.out _).mono ?_; rintro e w3 ⟨rfl, rfl⟩) | (go_at_call 153; refine (HPL.out _ (bel3 _ _ _ _)).mono ?_; rintro e w2 ⟨rfl, k2⟩))
      go_ret
      first | exact ⟨rfl, bel3 _ _ _ _⟩ | exact ⟨rfl, (bel3 w _ _ _).trans (k2.mono (bel3 w _ _ _).size)⟩
    | true =>
      have hs : ckB8 true true false false false false L true a 0 [] = 0 := by simp [ckB8]
      rw [hs]
      clear hs
      go_enter Tryz.func116, Tryz.ntmps116
      go_wp2_with (first | (go_at_call 152; refine (HFI.out _).mono ?_; rintro e w1 ⟨rfl, rfl⟩) | (go_at_call 83; refine (HCTc.out _).mono ?_; rintro e w3 ⟨rfl, rfl⟩) | (go_at_call 153; refine (HPL.out _ (bel3 _ _ _ _)).mono ?_; rintro e w2 ⟨rfl, k2⟩))
      go_ret
      first | exact ⟨rfl, bel3 _ _ _ _⟩ | exact ⟨rfl, (bel3 w _ _ _).trans (k2.mono (bel3 w _ _ _).size)⟩
  · -- s0
    rw [hK, hA, hB, hN, h4, h10]
    rw [hA, hB, hN, hK] at FI
    clear hK hA hB hN
    have HPL := Lib.hid PL
    have HFI := Lib.hid FI
    have HLB := Lib.hid LB
    clear PL FI LB hp
    by_cases qa' : a = 0
    rotate_right
    · have qa : (a != 0) = true := by simpa using qa'
      have hs : ckB8 true false false false false false L R a b name = 1 := by simp [ckB8, qa']
      rw [hs]
      clear hs
      go_enter Tryz.func116, Tryz.ntmps116
      go_wp2_with (first | (go_at_call 152; refine (HFI.out _).mono ?_; rintro e w1 ⟨rfl, rfl⟩) | (go_at_call 83; refine (HCTc.out _).mono ?_; rintro e w3 ⟨rfl, rfl⟩) | (go_at_call 153; refine (HPL.out _ (bel3 _ _ _ _)).mono ?_; rintro e w2 ⟨rfl, k2⟩))
      go_ret
      first | exact ⟨rfl, bel3 _ _ _ _⟩ | exact ⟨rfl, (bel3 w _ _ _).trans (k2.mono (bel3 w _ _ _).size)⟩
    subst qa'
    have qa : ((0 : Int) != 0) = false := rfl
    by_cases qb' : b = 0
    rotate_right
    · have qb : (b != 0) = true := by simpa using qb'
      have hs : ckB8 true false false false false false L R 0 b name = 1 := by simp [ckB8, qb']
      rw [hs]
      clear hs
      go_enter Tryz.func116, Tryz.ntmps116
      go_wp2_with (first | (go_at_call 152; refine (HFI.out _).mono ?_; rintro e w1 ⟨rfl, rfl⟩) | (go_at_call 83; refine (HCTc.out _).mono ?_; rintro e w3 ⟨rfl, rfl⟩) | (go_at_call 153; refine (HPL.out _ (bel3 _ _ _ _)).mono ?_; rintro e w2 ⟨rfl, k2⟩))
      go_ret
      first | exact ⟨rfl, bel3 _ _ _ _⟩ | exact ⟨rfl, (bel3 w _ _ _).trans (k2.mono (bel3 w _ _ _).size)⟩
    subst qb'
    have qb : ((0 : Int) != 0) = false := rfl
    by_cases qn' : name = []
    rotate_right
    · have qn : (name != []) = true := by simpa using qn'
      have qn2 : name.isEmpty = false := by simpa using qn'
      have hs : ckB8 true false false false false false L R 0 0 name = 1 := by simp [ckB8, qn']
      rw [hs]
      clear hs
      go_enter Tryz.func116, Tryz.ntmps116
      go_wp2_with (first | (go_at_call 152; refine (HFI.out _).mono ?_; rintro e w1 ⟨rfl, rfl⟩) | (go_at_call 83; refine (HCTc.out _).mono ?_; rintro e w3 ⟨rfl, rfl⟩) | (go_at_call 153; refine (HPL.out _ (bel3 _ _ _ _)).mono ?_; rintro e w2 ⟨rfl, k2⟩))
      go_ret
      first | exact ⟨rfl, bel3 _ _ _ _⟩ | exact ⟨rfl, (bel3 w _ _ _).trans (k2.mono (bel3 w _ _ _).size)⟩
    subst qn'
    have qn : (([] : T) != []) = false := rfl
    cases R with
    | false =>
      have hs : ckB8 true false false false false false L false 0 0 [] = 2 := by simp [ckB8]
      rw [hs]
      clear hs
      go_enter Tryz.func116, Tryz.ntmps116
      go_wp2_with (first | (go_at_call 152; refine (HFI.out _).mono ?_; rintro e w1 ⟨rfl, rfl⟩) | (go_at_call 83; refine (HCTc.out _).mono ?_; rintro e w3 ⟨rfl, rfl⟩) | (go_at_call 153; refine (HPL.out _ (bel3 _ _ _ _)).mono ?_; rintro e w2 ⟨rfl, k2⟩))
      go_ret
      first | exact ⟨rfl, bel3 _ _ _ _⟩ | exact ⟨rfl, (bel3 w _ _ _).trans (k2.mono (bel3 w _ _ _).size)⟩
    | true =>
      have hs : ckB8 true false false false false false L true 0 0 [] = 0 := by simp [ckB8]
      rw [hs]
      clear hs
      go_enter Tryz.func116, Tryz.ntmps116
      go_wp2_with (first | (go_at_call 152; refine (HFI.out _).mono ?_; rintro e w1 ⟨rfl, rfl⟩) | (go_at_call 83; refine (HCTc.out _).mono ?_; rintro e w3 ⟨rfl, rfl⟩) | (go_at_call 153; refine (HPL.out _ (bel3 _ _ _ _)).mono ?_; rintro e w2 ⟨rfl, k2⟩))
      go_ret
      first | exact ⟨rfl, bel3 _ _ _ _⟩ | exact ⟨rfl, (bel3 w _ _ _).trans (k2.mono (bel3 w _ _ _).size)⟩
  · -- s4
    rw [show fK 4 = true from rfl, show fA 4 = true from rfl, show fB 4 = false from rfl, show fN8 4 = true from rfl, show ((4 : Int) == 4) = true from rfl, show ((4 : Int) == 10) = false from rfl]
    rw [show fA 4 = true from rfl, show fB 4 = false from rfl, show fN8 4 = true from rfl, show fK 4 = true from rfl] at FI
    have HPL := Lib.hid PL
    have HFI := Lib.hid FI
    have HLB := Lib.hid LB
    clear PL FI LB hp
    by_cases qb' : b = 0
    rotate_right
    · have qb : (b != 0) = true := by simpa using qb'
      have hs : ckB8 true true false true true false L R a b name = 1 := by simp [ckB8, qb']
      rw [hs]
      clear hs
      go_enter Tryz.func116, Tryz.ntmps116
      go_wp2_with (first | (go_at_call 152; refine (HFI.out _).mono ?_; rintro e w1 ⟨rfl, rfl⟩) | (go_at_call 83; refine (HCTc.out _).mono ?_; rintro e w3 ⟨rfl, rfl⟩) | (go_at_call 153; refine (HPL.out _ (bel3 _ _ _ _)).mono ?_; rintro e w2 ⟨rfl, k2⟩))
      go_ret
      first | exact ⟨rfl, bel3 _ _ _ _⟩ | exact ⟨rfl, (bel3 w _ _ _).trans (k2.mono (bel3 w _ _ _).size)⟩
    subst qb'
    have qb : ((0 : Int) != 0) = false := rfl
    cases L with
    | false =>
      have hs : ckB8 true true false true true false false R a 0 name = 6 := by simp [ckB8]
      rw [hs]
      clear hs
      go_enter Tryz.func116, Tryz.ntmps116
      go_wp2_with (first | (go_at_call 152; refine (HFI.out _).mono ?_; rintro e w1 ⟨rfl, rfl⟩) | (go_at_call 52; refine (HLB.out _).mono ?_; rintro e w4 ⟨rfl, k4⟩; have K4 := Lib.hid ((bel3 w _ _ _).trans (k4.mono (bel3 w _ _ _).size)); obtain ⟨⟨y0, y1, y2⟩, ⟨z0, z1, z2⟩, t0, t1, t2, t3⟩ := BX.out _ k4; clear k4) | (go_at_call 153; refine (HPL.out _ K4.out).mono ?_; rintro e w2 ⟨rfl, k2⟩; have K5 := Lib.hid (K4.out.trans (k2.mono K4.out.size))))
      go_ret
      first | exact ⟨rfl, K5.out⟩ | exact ⟨rfl, K4.out⟩
    | true =>
      cases R with
      | false =>
        have hs : ckB8 true true false true true false true false a 0 name = 2 := by simp [ckB8]
        rw [hs]
        clear hs
        go_enter Tryz.func116, Tryz.ntmps116
        go_wp2_with (first | (go_at_call 152; refine (HFI.out _).mono ?_; rintro e w1 ⟨rfl, rfl⟩) | (go_at_call 52; refine (HLB.out _).mono ?_; rintro e w4 ⟨rfl, k4⟩; have K4 := Lib.hid ((bel3 w _ _ _).trans (k4.mono (bel3 w _ _ _).size)); obtain ⟨⟨y0, y1, y2⟩, ⟨z0, z1, z2⟩, t0, t1, t2, t3⟩ := BX.out _ k4; clear k4) | (go_at_call 153; refine (HPL.out _ K4.out).mono ?_; rintro e w2 ⟨rfl, k2⟩; have K5 := Lib.hid (K4.out.trans (k2.mono K4.out.size))))
        go_ret
        first | exact ⟨rfl, K5.out⟩ | exact ⟨rfl, K4.out⟩
      | true =>
        have hs : ckB8 true true false true true false true true a 0 name = 0 := by simp [ckB8]
        rw [hs]
        clear hs
        go_enter Tryz.func116, Tryz.ntmps116
        go_wp2_with (first | (go_at_call 152; refine (HFI.out _).mono ?_; rintro e w1 ⟨rfl, rfl⟩) | (go_at_call 52; refine (HLB.out _).mono ?_; rintro e w4 ⟨rfl, k4⟩; have K4 := Lib.hid ((bel3 w _ _ _).trans (k4.mono (bel3 w _ _ _).size)); obtain ⟨⟨y0, y1, y2⟩, ⟨z0, z1, z2⟩, t0, t1, t2, t3⟩ := BX.out _ k4; clear k4) | (go_at_call 153; refine (HPL.out _ K4.out).mono ?_; rintro e w2 ⟨rfl, k2⟩; have K5 := Lib.hid (K4.out.trans (k2.mono K4.out.size))))
        go_ret
        first | exact ⟨rfl, K5.out⟩ | exact ⟨rfl, K4.out⟩
  · -- s10
    rw [show fK 10 = true from rfl, show fA 10 = false from rfl, show fB 10 = false from rfl, show fN8 10 = true from rfl, show ((10 : Int) == 4) = false from rfl, show ((10 : Int) == 10) = true from rfl]
    rw [show fA 10 = false from rfl, show fB 10 = false from rfl, show fN8 10 = true from rfl, show fK 10 = true from rfl] at FI
    have HPL := Lib.hid PL
    have HFI := Lib.hid FI
    have HLB := Lib.hid LB
    clear PL FI LB hp
    by_cases qa' : a = 0
    rotate_right
    · have qa : (a != 0) = true := by simpa using qa'
      have hs : ckB8 true false false true false true L R a b name = 1 := by simp [ckB8, qa']
      rw [hs]
      clear hs
      go_enter Tryz.func116, Tryz.ntmps116
      go_wp2_with (first | (go_at_call 152; refine (HFI.out _).mono ?_; rintro e w1 ⟨rfl, rfl⟩) | (go_at_call 83; refine (HCTc.out _).mono ?_; rintro e w3 ⟨rfl, rfl⟩) | (go_at_call 153; refine (HPL.out _ (bel3 _ _ _ _)).mono ?_; rintro e w2 ⟨rfl, k2⟩))
      go_ret
      first | exact ⟨rfl, bel3 _ _ _ _⟩ | exact ⟨rfl, (bel3 w _ _ _).trans (k2.mono (bel3 w _ _ _).size)⟩
    subst qa'
    have qa : ((0 : Int) != 0) = false := rfl
    by_cases qb' : b = 0
    rotate_right
    · have qb : (b != 0) = true := by simpa using qb'
      have hs : ckB8 true false false true false true L R 0 b name = 1 := by simp [ckB8, qb']
      rw [hs]
      clear hs
      go_enter Tryz.func116, Tryz.ntmps116
      go_wp2_with (first | (go_at_call 152; refine (HFI.out _).mono ?_; rintro e w1 ⟨rfl, rfl⟩) | (go_at_call 83; refine (HCTc.out _).mono ?_; rintro e w3 ⟨rfl, rfl⟩) | (go_at_call 153; refine (HPL.out _ (bel3 _ _ _ _)).mono ?_; rintro e w2 ⟨rfl, k2⟩))
      go_ret
      first | exact ⟨rfl, bel3 _ _ _ _⟩ | exact ⟨rfl, (bel3 w _ _ _).trans (k2.mono (bel3 w _ _ _).size)⟩
    subst qb'
    have qb : ((0 : Int) != 0) = false := rfl
    by_cases ql' : name.length = 1
    rotate_right
    · have ql : ((name.length : Int) != 1) = true := by simp; omega
      have hno : nmOk name = false := nmOk_len ql'
      have zn : (name.length : Int) ≤ 9223372036854775807 := by omega
      have hs : ckB8 true false false true false true L R 0 0 name = 6 := by simp [ckB8, hno]
      rw [hs]
      clear hs
      go_enter Tryz.func116, Tryz.ntmps116
      go_wp2_with (first | (go_at_call 152; refine (HFI.out _).mono ?_; rintro e w1 ⟨rfl, rfl⟩) | (go_at_call 83; refine (HCTc.out _).mono ?_; rintro e w3 ⟨rfl, rfl⟩) | (go_at_call 153; refine (HPL.out _ (bel3 _ _ _ _)).mono ?_; rintro e w2 ⟨rfl, k2⟩))
      go_ret
      first | exact ⟨rfl, bel3 _ _ _ _⟩ | exact ⟨rfl, (bel3 w _ _ _).trans (k2.mono (bel3 w _ _ _).size)⟩
    obtain ⟨ch, rfl⟩ := List.length_eq_one_iff.1 ql'
    have HCTc := Lib.hid (HCT.out ch)
    cases hno : nmOk [ch] with
    | false =>
      rw [hno] at HCTc
      have hs : ckB8 true false false true false true L R 0 0 [ch] = 6 := by simp [ckB8, hno]
      rw [hs]
      clear hs
      go_enter Tryz.func116, Tryz.ntmps116
      go_wp2_with (first | (go_at_call 152; refine (HFI.out _).mono ?_; rintro e w1 ⟨rfl, rfl⟩) | (go_at_call 83; refine (HCTc.out _).mono ?_; rintro e w3 ⟨rfl, rfl⟩) | (go_at_call 153; refine (HPL.out _ (bel3 _ _ _ _)).mono ?_; rintro e w2 ⟨rfl, k2⟩))
      go_ret
      first | exact ⟨rfl, bel3 _ _ _ _⟩ | exact ⟨rfl, (bel3 w _ _ _).trans (k2.mono (bel3 w _ _ _).size)⟩
    | true =>
      rw [hno] at HCTc
      cases R with
      | false =>
        have hs : ckB8 true false false true false true L false 0 0 [ch] = 2 := by simp [ckB8, hno]
        rw [hs]
        clear hs
        go_enter Tryz.func116, Tryz.ntmps116
        go_wp2_with (first | (go_at_call 152; refine (HFI.out _).mono ?_; rintro e w1 ⟨rfl, rfl⟩) | (go_at_call 83; refine (HCTc.out _).mono ?_; rintro e w3 ⟨rfl, rfl⟩) | (go_at_call 153; refine (HPL.out _ (bel3 _ _ _ _)).mono ?_; rintro e w2 ⟨rfl, k2⟩))
        go_ret
        first | exact ⟨rfl, bel3 _ _ _ _⟩ | exact ⟨rfl, (bel3 w _ _ _).trans (k2.mono (bel3 w _ _ _).size)⟩
      | true =>
        have hs : ckB8 true false false true false true L true 0 0 [ch] = 0 := by simp [ckB8, hno]
        rw [hs]
        clear hs
        go_enter Tryz.func116, Tryz.ntmps116
        go_wp2_with (first | (go_at_call 152; refine (HFI.out _).mono ?_; rintro e w1 ⟨rfl, rfl⟩) | (go_at_call 83; refine (HCTc.out _).mono ?_; rintro e w3 ⟨rfl, rfl⟩) | (go_at_call 153; refine (HPL.out _ (bel3 _ _ _ _)).mono ?_; rintro e w2 ⟨rfl, k2⟩))
        go_ret
        first | exact ⟨rfl, bel3 _ _ _ _⟩ | exact ⟨rfl, (bel3 w _ _ _).trans (k2.mono (bel3 w _ _ _).size)⟩
  · -- s16
    rw [show fK 16 = true from rfl, show fA 16 = true from rfl, show fB 16 = true from rfl, show fN8 16 = false from rfl, show ((16 : Int) == 4) = false from rfl, show ((16 : Int) == 10) = false from rfl]
    rw [show fA 16 = true from rfl, show fB 16 = true from rfl, show fN8 16 = false from rfl, show fK 16 = true from rfl] at FI
    have HPL := Lib.hid PL
    have HFI := Lib.hid FI
    have HLB := Lib.hid LB
    clear PL FI LB hp
    by_cases qn' : name = []
    rotate_right
    · have qn : (name != []) = true := by simpa using qn'
      have qn2 : name.isEmpty = false := by simpa using qn'
      have hs : ckB8 true true true false false false L R a b name = 1 := by simp [ckB8, qn']
      rw [hs]
      clear hs
      go_enter Tryz.func116, Tryz.ntmps116
      go_wp2_with (first | (go_at_call 152; refine (HFI.out _).mono ?_; rintro e w1 ⟨rfl, rfl⟩) | (go_at_call 83; refine (HCTc.out _).mono ?_; rintro e w3 ⟨rfl, rfl⟩) | (go_at_call 153; refine (HPL.out _ (bel3 _ _ _ _)).mono ?_; rintro e w2 ⟨rfl, k2⟩))
      go_ret
      first | exact ⟨rfl, bel3 _ _ _ _⟩ | exact ⟨rfl, (bel3 w _ _ _).trans (k2.mono (bel3 w _ _ _).size)⟩
    subst qn'
    have qn : (([] : T) != []) = false := rfl
    cases R with
    | false =>
      have hs : ckB8 true true true false false false L false a b [] = 2 := by simp [ckB8]
      rw [hs]
      clear hs
      go_enter Tryz.func116, Tryz.ntmps116
      go_wp2_with (first | (go_at_call 152; refine (HFI.out _).mono ?_; rintro e w1 ⟨rfl, rfl⟩) | (go_at_call 83; refine (HCTc.out _).mono ?_; rintro e w3 ⟨rfl, rfl⟩) | (go_at_call 153; refine (HPL.out _ (bel3 _ _ _ _)).mono ?_; rintro e w2 ⟨rfl, k2⟩))
      go_ret
      first | exact ⟨rfl, bel3 _ _ _ _⟩ | exact ⟨rfl, (bel3 w _ _ _).trans (k2.mono (bel3 w _ _ _).size)⟩
    | true =>
      have hs : ckB8 true true true false false false L true a b [] = 0 := by simp [ckB8]
      rw [hs]
      clear hs
      go_enter Tryz.func116, Tryz.ntmps116
      go_wp2_with (first | (go_at_call 152; refine (HFI.out _).mono ?_; rintro e w1 ⟨rfl, rfl⟩) | (go_at_call 83; refine (HCTc.out _).mono ?_; rintro e w3 ⟨rfl, rfl⟩) | (go_at_call 153; refine (HPL.out _ (bel3 _ _ _ _)).mono ?_; rintro e w2 ⟨rfl, k2⟩))
      go_ret
      first | exact ⟨rfl, bel3 _ _ _ _⟩ | exact ⟨rfl, (bel3 w _ _ _).trans (k2.mono (bel3 w _ _ _).size)⟩
end Go.Proofs.YtgboboljgcfggaaGreatDoor
namespace Go.Proofs.YtgboboljgcfggaaGreatDoor
open Go.RowKit

/-- The names of operations, in a list. -/
def opNames : List T := [[43], [45], [42], [61], [60]]
theorem opNames_mem (t : T) : decide (t ∈ opNames) = nmOk t := by
  unfold opNames nmOk
  rw [Bool.eq_iff_iff]
  simp [or_assoc]
theorem names_rd (w : World) : RD 1 (fun t : T => [tv t]) (w.alloc (.cells #[.string ⟨#[43]⟩, .string ⟨#[45]⟩, .string ⟨#[42]⟩, .string ⟨#[61]⟩, .string ⟨#[60]⟩] 9)) (some ⟨w.heap.size, 0, none⟩) opNames := by
  refine .inr ⟨_, rfl, by simp, fun j x hx i v hv => ?_⟩
  have hh := World.alloc_heap_new w (.cells #[.string ⟨#[43]⟩, .string ⟨#[45]⟩, .string ⟨#[42]⟩, .string ⟨#[61]⟩, .string ⟨#[60]⟩] 9)
  obtain ⟨rfl, rfl⟩ : i = 0 ∧ v = tv x := by
    cases i with
    | zero => simpa using hv.symm
    | succ i => simp at hv
  have ha : (⟨w.heap.size, 0, none⟩ : Addr).add (j * 1 + 0) = ⟨w.heap.size, j, none⟩ := by
    rw [Nat.mul_one, Nat.add_zero]
    by_cases h : j = 0
    · subst h; rfl
    · rw [fld_add _ _ h, Nat.zero_add]
  rw [ha, Lib.cell_of_heap hh]
  match j, hx with
  | 0, hx => cases hx; rfl
  | 1, hx => cases hx; rfl
  | 2, hx => cases hx; rfl
  | 3, hx => cases hx; rfl
  | 4, hx => cases hx; rfl
  | j + 5, hx => simp [opNames] at hx
end Go.Proofs.YtgboboljgcfggaaGreatDoor
namespace Go.Proofs.YtgboboljgcfggaaGreatDoor
open Go.RowKit

/-- The first error. -/
def fe8 : List Int → Int
  | [] => 0
  | x :: l => if x = 0 then fe8 l else x
theorem fe8_snoc (l : List Int) (x : Int) (h : fe8 l = 0) : fe8 (l ++ [x]) = x := by
  induction l with
  | nil => by_cases hx : x = 0 <;> simp [fe8, hx]
  | cons y l ih =>
    by_cases hy : y = 0
    · simp only [List.cons_append, fe8, if_pos hy] at h ⊢
      exact ih h
    · simp only [fe8, if_neg hy] at h
      exact absurd h hy
theorem fe8_app (l m : List Int) (h : fe8 l ≠ 0) : fe8 (l ++ m) = fe8 l := by
  induction l with
  | nil => exact absurd rfl h
  | cons y l ih =>
    by_cases hy : y = 0
    · simp only [List.cons_append, fe8, if_pos hy] at h ⊢
      exact ih h
    · simp only [List.cons_append, fe8, if_neg hy]
theorem fe8_at {L : List Int} {k : Nat} (hk : k < L.length) (h0 : fe8 (L.take k) = 0) : (L[k] ≠ 0 → fe8 L = L[k]) ∧ (L[k] = 0 → fe8 (L.take (k + 1)) = 0) := by
  have h1 := fe8_snoc (L.take k) L[k] h0
  rw [← List.take_succ_eq_append_getElem hk] at h1
  refine ⟨fun h => ?_, fun h => h1.trans h⟩
  have h2 := fe8_app (L.take (k + 1)) (L.drop (k + 1)) (by rw [h1]; exact h)
  rw [List.take_append_drop] at h2
  exact h2.trans h1
def errI8 (bs : List Blk) (b : Blk) : List Int := b.ins.map fun x => ckI8 bs b.ins.length x.op x.a x.b x.name
/-- The last instruction's kind. -/
def lastOp (l : List Ins) : Int := match l.getLast? with | some x => x.op | none => 0
theorem lastOp_at {l : List Ins} (h : 0 < l.length) : lastOp l = (l[l.length - 1]).op := by
  unfold lastOp
  rw [List.getLast?_eq_getElem?, List.getElem?_eq_getElem (by omega)]
/-- The error of a block of a code. -/
def errB8 (bs : List Blk) (b : Blk) : Int := if b.cap < 0 ∨ 400 < b.cap then 2 else if lastOp b.ins ≠ 7 then 1 else fe8 (errI8 bs b)
theorem errI8_at (bs : List Blk) (b : Blk) {k : Nat} (h : k < b.ins.length) : (errI8 bs b)[k]'(by unfold errI8; rw [List.length_map]; exact h) = ckI8 bs b.ins.length b.ins[k].op b.ins[k].a b.ins[k].b b.ins[k].name := by simp [errI8]
theorem cells3 {W : World} {k : Nat} {a b c : Value} {t : TypeId} (h : W.heap[k]? = some (.cells #[a, b, c] t (0, 0))) : W.cell? ⟨k, 0, none⟩ = some a ∧ W.cell? ⟨k, 1, none⟩ = some b ∧ W.cell? ⟨k, 2, none⟩ = some c :=
  ⟨by rw [Lib.cell_of_heap h]; rfl, by rw [Lib.cell_of_heap h]; rfl, by rw [Lib.cell_of_heap h]; rfl⟩
attribute [local irreducible] Calls in
set_option maxRecDepth 100000 in
set_option maxHeartbeats 4000000 in
theorem checkBlock8_any (p : Cod) (b : Blk) (w : World) (hp : p.Rd w) (hb : RD 4 Ins.cs w b.A b.ins) (hl : b.ins.length ≤ 9223372036854775807) (hn : ∀ x ∈ b.ins, x.name.length ≤ 9223372036854775807) :
    Calls Tryz.prog 95 #[p.v, b.v] w fun e w' => e = .returned (.int .i64 (errB8 p.bs b)) ∧ Gr w w' := by
  obtain ⟨n, hnl⟩ : ∃ n, b.ins.length = n := ⟨_, rfl⟩
  obtain ⟨Ad, hA⟩ : ∃ A, b.A = A := ⟨_, rfl⟩
  have HB := Lib.hid (fun V (g : Gr w V) => show RD 4 Ins.cs V Ad b.ins from by rw [← hA]; exact hb.gr g)
  have CI := Lib.hid (fun V (g : Gr w V) (x : Ins) (hx : x ∈ b.ins) => show Calls Tryz.prog 116 #[.agg #[.string ⟨p.label.toArray⟩, .slice p.bA p.bs.length p.bc, .slice p.dA p.ds.length p.dc], .agg #[.int .i64 b.cap, .bool b.param, .slice Ad n b.c], .agg #[.int .i64 x.op, .int .i64 x.a, .int .i64 x.b, .string ⟨x.name.toArray⟩]] V (fun e w' => e = .returned (.int .i64 (ckI8 p.bs n x.op x.a x.b x.name)) ∧ Below V.heap.size V w') from by
    have h := checkInstr8_any p b x.op x.a x.b x.name V (hp.below (below_of g)) (hn x hx)
    unfold Cod.v Blk.v Ins.v at h
    simp only [hnl, hA] at h
    exact h)
  have GW := Lib.hid (show Gr w ((w.alloc (.cells #[.string ⟨p.label.toArray⟩, .slice p.bA p.bs.length p.bc, .slice p.dA p.ds.length p.dc] 65)).alloc (.cells #[.int .i64 b.cap, .bool b.param, .slice Ad n b.c] 69)) from (gr_al _ _).trans (gr_al _ _))
  have HX := Lib.hid (fun V (g : Gr ((w.alloc (.cells #[.string ⟨p.label.toArray⟩, .slice p.bA p.bs.length p.bc, .slice p.dA p.ds.length p.dc] 65)).alloc (.cells #[.int .i64 b.cap, .bool b.param, .slice Ad n b.c] 69)) V) => cells3 (gr_h g (show ((w.alloc (.cells #[.string ⟨p.label.toArray⟩, .slice p.bA p.bs.length p.bc, .slice p.dA p.ds.length p.dc] 65)).alloc (.cells #[.int .i64 b.cap, .bool b.param, .slice Ad n b.c] 69)).heap[w.heap.size + 1]? = some (.cells #[.int .i64 b.cap, .bool b.param, .slice Ad n b.c] 69 (0, 0)) from al_at _ _ (by simp))))
  have HY := Lib.hid (fun V (g : Gr ((w.alloc (.cells #[.string ⟨p.label.toArray⟩, .slice p.bA p.bs.length p.bc, .slice p.dA p.ds.length p.dc] 65)).alloc (.cells #[.int .i64 b.cap, .bool b.param, .slice Ad n b.c] 69)) V) => cells3 (gr_h g (gr_h (gr_al _ _) (al_new w (.cells #[.string ⟨p.label.toArray⟩, .slice p.bA p.bs.length p.bc, .slice p.dA p.ds.length p.dc] 65)))))
  have HAI := Lib.hid (fun (k : Nat) (x : Ins) (hk : b.ins[k]? = some x) => show (errI8 p.bs b)[k]? = some (ckI8 p.bs n x.op x.a x.b x.name) from by unfold errI8; rw [List.getElem?_map, hk, hnl]; rfl)
  have EB := Lib.hid (show errB8 p.bs b = if b.cap < 0 ∨ 400 < b.cap then 2 else if lastOp b.ins ≠ 7 then 1 else fe8 (errI8 p.bs b) from rfl)
  have EL := Lib.hid (show (errI8 p.bs b).length = n from by unfold errI8; rw [List.length_map, hnl])
  obtain ⟨E, hE⟩ : ∃ E, errI8 p.bs b = E := ⟨_, rfl⟩
  simp only [hE] at HAI EB EL
  obtain ⟨r, hr⟩ : ∃ r, errB8 p.bs b = r := ⟨_, rfl⟩
  rw [hr] at EB ⊢
  unfold Cod.v Blk.v
  rw [hnl] at hl ⊢
  rw [hA]
  have HNL := Lib.hid hnl
  clear hp hb hn hE hr hA hnl
  by_cases hc : b.cap < 0 ∨ 400 < b.cap
  · have e2 := EB.out
    rw [if_pos hc] at e2
    subst e2
    clear CI HX HY HB HAI
    by_cases hc0 : b.cap < 0
    · go_enter Tryz.func95, Tryz.ntmps95
      go_wp2
      go_ret
      exact ⟨rfl, GW.out⟩
    · have hc1 : 400 < b.cap := hc.resolve_left hc0
      go_enter Tryz.func95, Tryz.ntmps95
      go_wp2
      go_ret
      exact ⟨rfl, GW.out⟩
  · have hc0 : ¬ b.cap < 0 := fun h => hc (.inl h)
    have hc1 : ¬ 400 < b.cap := fun h => hc (.inr h)
    by_cases h0 : n = 0
    · have e1 := EB.out
      rw [if_neg hc, show b.ins = [] from List.eq_nil_of_length_eq_zero (HNL.out.trans h0), if_pos (by decide)] at e1
      subst e1
      subst h0
      clear CI HX HY HB HAI hc
      go_enter Tryz.func95, Tryz.ntmps95
      go_wp2
      go_ret
      exact ⟨rfl, GW.out⟩
    · have hla : b.ins.length - 1 < b.ins.length := by have := HNL.out; omega
      obtain ⟨a, a1, eA, ha, hab, y0, -⟩ := (HB.out _ GW.out).ins hla
      obtain rfl := eA
      have elo := lastOp_at (l := b.ins) (by have := HNL.out; omega)
      obtain ⟨lo, hlo⟩ : ∃ z, (b.ins[b.ins.length - 1]).op = z := ⟨_, rfl⟩
      rw [hlo] at elo y0
      rw [HNL.out] at ha
      have e3 := EB.out
      rw [if_neg hc, elo] at e3
      have hnz : ((n : Int) == 0) = false := by simpa using h0
      have hI : ((n : Int) - 1) = ((n - 1 : Nat) : Int) := by omega
      have hlt1 : ((n - 1 : Nat) : Int) < (n : Int) := by omega
      clear elo hlo hc hla
      by_cases h7 : lo = 7
      · rw [if_neg (by simp [h7])] at e3
        subst h7
        have E3 := Lib.hid e3
        clear e3 h0
        go_enter Tryz.func95, Tryz.ntmps95
        go_wp2
        clear ha hab y0 hI hlt1 hnz
        go_loopw [35] (fun i V => ∃ k : Nat, k ≤ n ∧ i = .int .i64 k ∧ Hid (Gr ((w.alloc (.cells #[.string ⟨p.label.toArray⟩, .slice p.bA p.bs.length p.bc, .slice p.dA p.ds.length p.dc] 65)).alloc (.cells #[.int .i64 b.cap, .bool b.param, .slice (some a) n b.c] 69)) V ∧ fe8 (E.take k) = 0)) (fun i _ => n - (intOf i).toNat)
        case atStart => exact ⟨0, Nat.zero_le _, rfl, Lib.hid ⟨gr_refl _, rfl⟩⟩
        case round =>
          obtain ⟨k, hk, rfl, HK⟩ := hrel
          obtain ⟨gk, hfe⟩ := HK.out
          have GK := Lib.hid gk
          have FE := Lib.hid hfe
          clear gk hfe HK
          by_cases hlt : k < n
          · obtain ⟨a2, a3, eA2, ha, hab, y0, y1, y2, y3⟩ := (HB.out _ (GW.out.trans GK.out)).ins (k := k) (by rw [HNL.out]; exact hlt)
            obtain rfl := Option.some.inj eA2
            obtain ⟨x, hx⟩ : ∃ x, b.ins[k]'(by rw [HNL.out]; exact hlt) = x := ⟨_, rfl⟩
            have HXI := Lib.hid (show b.ins[k]? = some x from by rw [List.getElem?_eq_getElem (by rw [HNL.out]; exact hlt), hx])
            rw [hx] at y0 y1 y2 y3
            obtain ⟨z, hz⟩ : ∃ z, ckI8 p.bs n x.op x.a x.b x.name = z := ⟨_, rfl⟩
            have CX := Lib.hid (fun V (g : Gr wr V) => CI.out V ((GW.out.trans GK.out).trans g) x (List.mem_of_getElem? HXI.out))
            simp only [hz] at CX
            have FA := Lib.hid (show (z ≠ 0 → fe8 E = z) ∧ (z = 0 → fe8 (E.take (k + 1)) = 0) from by
              obtain ⟨hk9, h9⟩ := List.getElem?_eq_some_iff.1 (HAI.out k x HXI.out)
              have h8 := fe8_at hk9 FE.out
              rw [h9, hz] at h8
              exact h8)
            have KX := Lib.hid (fun V (g : Gr wr V) => HX.out V (GK.out.trans g))
            have KY := Lib.hid (fun V (g : Gr wr V) => HY.out V (GK.out.trans g))
            clear hx hz eA2
            go_upto_region 8 with (fail)
            have HI := Lib.hid (fun V (g : Gr (wr.alloc (.cells #[.int .i64 x.op, .int .i64 x.a, .int .i64 x.b, .string ⟨x.name.toArray⟩] 71)) V) => Lib.cell_of_heap (gr_h g (al_new wr (.cells #[.int .i64 x.op, .int .i64 x.a, .int .i64 x.b, .string ⟨x.name.toArray⟩] 71))))
            have G7 := Lib.hid (gr_al wr (.cells #[.int .i64 x.op, .int .i64 x.a, .int .i64 x.b, .string ⟨x.name.toArray⟩] 71))
            have SZ : ∃ q, wr.heap.size = q := ⟨_, rfl⟩
            obtain ⟨q, hq⟩ := SZ
            rw [hq] at HI ⊢
            clear hq
            generalize World.alloc wr _ = W7 at *
            obtain ⟨x0, x1, x2⟩ := KX.out _ G7.out
            obtain ⟨c0, c1, c2⟩ := KY.out _ G7.out
            have i0 := HI.out _ (gr_refl _) 0
            have i1 := HI.out _ (gr_refl _) 1
            have i2 := HI.out _ (gr_refl _) 2
            have i3 := HI.out _ (gr_refl _) 3
            simp only [List.getElem?_toArray, List.getElem?_cons_zero, List.getElem?_cons_succ] at i0 i1 i2 i3
            clear y0 y1 y2 y3 ha hab
            by_cases hz0 : z = 0
            · subst hz0
              go_wp2_with (first | (go_at_call 116; (with_reducible refine (CX.out _ G7.out).mono ?_); rintro e w6 ⟨rfl, k6⟩; have G6 := Lib.hid (G7.out.trans (gr_of k6)); clear k6))
              exact ⟨⟨k + 1, hlt, by simp, Lib.hid ⟨GK.out.trans G6.out, FA.out.2 trivial⟩⟩, by simp [intOf]; omega⟩
            · have hb0 : (z != 0) = true := by simpa using hz0
              have hfin : r = z := E3.out.trans (FA.out.1 hz0)
              subst hfin
              clear hz0
              go_wp2_with (first | (go_at_call 116; (with_reducible refine (CX.out _ G7.out).mono ?_); rintro e w6 ⟨rfl, k6⟩; have G6 := Lib.hid (G7.out.trans (gr_of k6)); clear k6))
              go_ret
              exact ⟨rfl, (GW.out.trans GK.out).trans G6.out⟩
          · obtain rfl : n = k := by omega
            have h0 := FE.out
            rw [List.take_of_length_le (by rw [EL.out]; exact Nat.le_refl _), ← E3.out] at h0
            subst h0
            go_wp2
            go_ret
            exact ⟨rfl, GW.out.trans GK.out⟩
      · rw [if_pos h7] at e3
        subst e3
        have hb7 : (lo != 7) = true := by simpa using h7
        clear h7 CI h0
        go_enter Tryz.func95, Tryz.ntmps95
        go_wp2
        go_ret
        exact ⟨rfl, GW.out⟩
end Go.Proofs.YtgboboljgcfggaaGreatDoor
namespace Go.Proofs.YtgboboljgcfggaaGreatDoor
open Go.RowKit

/-- Whether a declaration comes behind the one before it. -/
def ordD (ds : List Dcl) (x : Dcl) : Nat → Bool
  | 0 => true
  | j + 1 => match ds[j]? with | some q => decide (q.id < x.id) | none => true
/-- The error of a declaration. -/
def errD (bs : List Blk) (ds : List Dcl) (i : Nat) : Int := match ds[i]? with
  | none => 0
  | some x => if x.id < 1 ∨ 999999 < x.id then 2 else if ordD ds x i = false then 10 else if ¬ (x.kind = 1 ∨ x.kind = 2 ∨ x.kind = 3) then 9 else if plainB bs x.block = false then 2 else 0
/-- The error of a code. -/
def errC (p : Cod) : Int := if lab p.label = false then 6 else if fe8 (p.bs.map (errB8 p.bs)) ≠ 0 then fe8 (p.bs.map (errB8 p.bs)) else fe8 ((List.range p.ds.length).map (errD p.bs p.ds))
/-- A code whose lists are no longer than an int can count. -/
structure Cod.Lim (p : Cod) : Prop where
  l : p.label.length ≤ 9223372036854775807
  b : p.bs.length ≤ 9223372036854775807
  d : p.ds.length ≤ 9223372036854775807
  i : ∀ b ∈ p.bs, b.ins.length ≤ 9223372036854775807
  n : ∀ b ∈ p.bs, ∀ x ∈ b.ins, x.name.length ≤ 9223372036854775807
theorem plainB_at {bs : List Blk} {M : Nat} (h : M < bs.length) : plainB bs M = ((bs[M].cap == 0) && !bs[M].param) := by simp [plainB, h]
theorem Cod.Rd.gr {w w' : World} {p : Cod} (h : p.Rd w) (g : Gr w w') : p.Rd w' := h.below (below_of g)
theorem fe8_fail {L : List Int} {k : Nat} {x : Int} (hk : L[k]? = some x) (h0 : fe8 (L.take k) = 0) : (x ≠ 0 → fe8 L = x) ∧ (x = 0 → fe8 (L.take (k + 1)) = 0) := by
  obtain ⟨hk9, h9⟩ := List.getElem?_eq_some_iff.1 hk
  have h8 := fe8_at hk9 h0
  rw [h9] at h8
  exact h8
theorem plainB_neg {bs : List Blk} {n : Int} (h : n < 0) : plainB bs n = false := by
  unfold plainB
  rw [decide_eq_false (by omega)]
  rfl
theorem plainB_big {bs : List Blk} {M : Nat} (h : bs.length ≤ M) : plainB bs M = false := by simp [plainB, List.getElem?_eq_none h]
end Go.Proofs.YtgboboljgcfggaaGreatDoor
namespace Go.Proofs.YtgboboljgcfggaaGreatDoor
open Go.RowKit Go.Maps

/-- A type of keys: how they are written, and which of them can be keys. -/
structure KT {κ : Type} (kt : TypeId) (kv : κ → Value) (ok : κ → Prop) : Prop where
  K : Keyed Tryz.prog kt
  lit : ∀ k, ok k → ∃ l, keyOf Tryz.prog kt (kv k) = some l
  inj : ∀ a b, kv a = kv b → a = b
abbrev MK (κ : Type) := List (κ × Value)
section
variable {κ : Type} {kt : TypeId} {kv : κ → Value} {ok : κ → Prop}
def ensK (kv : κ → Value) : Nat → MK κ → List MapEntry
  | _, [] => []
  | j, p :: l => { key := kv p.1, val := p.2, born := j } :: ensK kv (j + 1) l
/-- Where a key stands, and what stands for it. -/
def fndK [DecidableEq κ] (k : κ) : MK κ → Nat → Option (Nat × Value)
  | [], _ => none
  | p :: l, i => if k = p.1 then some (i, p.2) else fndK k l (i + 1)
def kget [DecidableEq κ] (l : MK κ) (k : κ) : Option Value := (fndK k l 0).map (·.2)
theorem ensK_app (k : κ) (v : Value) : ∀ (l : MK κ) (j : Nat), ensK kv j (l ++ [(k, v)]) = ensK kv j l ++ [{ key := kv k, val := v, born := j + l.length }]
  | [], _ => rfl
  | _ :: l, j => by simp [ensK, ensK_app k v l]; omega
theorem ensK_at : ∀ (l : MK κ) (j i : Nat), (ensK kv j l)[i]? = l[i]?.map fun p => { key := kv p.1, val := p.2, born := j + i }
  | [], _, _ => by simp [ensK]
  | p :: l, j, 0 => by simp [ensK]
  | p :: l, j, i + 1 => by simp [ensK, ensK_at l]; congr 1; funext q; congr 1; omega
theorem fndK_none [DecidableEq κ] {k : κ} : ∀ {l : MK κ} {i : Nat}, (∀ p ∈ l, p.1 ≠ k) → fndK k l i = none
  | [], _, _ => rfl
  | p :: l, i, h => by
    rw [fndK, if_neg (fun e => h p (by simp) e.symm)]
    exact fndK_none fun q hq => h q (by simp [hq])
theorem fndK_of [DecidableEq κ] {k : κ} {v : Value} : ∀ {l : MK κ} {i j : Nat}, (l.map (·.1)).Nodup → l[j]? = some (k, v) → fndK k l i = some (i + j, v)
  | [], _, _, _, e => by simp at e
  | p :: l, i, 0, _, e => by
    simp only [List.getElem?_cons_zero, Option.some.injEq] at e
    subst e
    simp [fndK]
  | p :: l, i, j + 1, h, e => by
    rw [List.map_cons, List.nodup_cons] at h
    have e' : l[j]? = some (k, v) := by simpa using e
    have hne : k ≠ p.1 := fun e2 => h.1 (by rw [← e2]; exact List.mem_map.2 ⟨(k, v), List.mem_of_getElem? e', rfl⟩)
    rw [fndK, if_neg hne, fndK_of h.2 e']
    congr 2
    omega
/-- A map's list: its keys can be keys, and each stands once. -/
structure LK (ok : κ → Prop) (l : MK κ) : Prop where
  ok : ∀ p ∈ l, ok p.1
  nd : (l.map (·.1)).Nodup
theorem findKey_k [DecidableEq κ] (h : KT kt kv ok) {l : MK κ} (hl : LK ok l) {k : κ} (hk : ok k) (j : Nat) (w : World) : (Instr.findKey kt (kv k) (ensK kv j l)).run Tryz.prog w = .ok (fndK k l 0) w := by
  obtain ⟨lx, hx⟩ := h.lit k hk
  rcases h.K.find w hx (ensK kv j l) (fun e he => by
    obtain ⟨i, hi⟩ := List.getElem?_of_mem he
    rw [ensK_at] at hi
    obtain ⟨p, hp, rfl⟩ := Option.map_eq_some_iff.1 hi
    exact h.lit p.1 (hl.ok p (List.mem_of_getElem? hp))) with ⟨h1, h2⟩ | ⟨i, e, h1, h2, h3⟩
  · rw [h1, fndK_none fun p hp e => ?_]
    obtain ⟨i, hi⟩ := List.getElem?_of_mem hp
    have h3 : (ensK kv j l)[i]? = some { key := kv p.1, val := p.2, born := j + i } := by rw [ensK_at, hi]; rfl
    exact h2 _ (List.mem_of_getElem? h3) (by rw [e])
  · rw [ensK_at] at h2
    obtain ⟨p, hp, rfl⟩ := Option.map_eq_some_iff.1 h2
    have hpk : p.1 = k := h.inj _ _ h3
    rw [h1, fndK_of (v := p.2) hl.nd (by rw [hp, ← hpk]), Nat.zero_add]
/-- A block that is a map. -/
def MP (kv : κ → Value) (w : World) (b : Nat) (l : MK κ) : Prop := w.heap[b]? = some (.map (ensK kv 0 l).toArray l.length)
def setM (kv : κ → Value) (w : World) (b : Nat) (l : MK κ) : World := { w with heap := w.heap.setIfInBounds b (.map (ensK kv 0 l).toArray l.length) }
theorem MP.lt {w : World} {b : Nat} {l : MK κ} (h : MP kv w b l) : b < w.heap.size := heap_lt h
theorem MP.keep {w V : World} {b : Nat} {l : MK κ} (h : MP kv w b l) (hk : V.heap[b]? = w.heap[b]?) : MP kv V b l := hk.trans h
theorem MP.made (kv : κ → Value) (w : World) : MP kv (w.alloc (.map #[] 0)) w.heap.size [] := World.alloc_heap_new w _
theorem MP.set {w : World} {b : Nat} {l m : MK κ} (h : MP kv w b l) : MP kv (setM kv w b m) b m := by
  unfold MP setM
  simp [h.lt]
theorem setM_other {w : World} {b j : Nat} {m : MK κ} (h : j ≠ b) : (setM kv w b m).heap[j]? = w.heap[j]? := by
  unfold setM
  simp [Ne.symm h]
theorem setM_size (w : World) (b : Nat) (m : MK κ) : (setM kv w b m).heap.size = w.heap.size := by simp [setM]
theorem grown_setM (w : World) (b : Nat) (m : MK κ) : w.grownBy (setM kv w b m) (some b) := ⟨rfl, rfl, rfl, by simp [setM], fun i _ hne => setM_other (by rintro rfl; exact hne rfl)⟩
theorem lookup_k [DecidableEq κ] (h : KT kt kv ok) {w : World} {b : Nat} {l : MK κ} (hm : MP kv w b l) (hl : LK ok l) {t e : TypeId} {z : Value} (ht : Tryz.prog.underlying t = some (.map kt e)) (hz : (zeroValue e).run Tryz.prog w = .ok z w) {k : κ} (hk : ok k) :
    (Instr.lookup t (.map (some b)) (kv k) false).run Tryz.prog w = .ok ((kget l k).getD z) w ∧ (Instr.lookup t (.map (some b)) (kv k) true).run Tryz.prog w = .ok (.tuple #[(kget l k).getD z, .bool (kget l k).isSome]) w := by
  have hf := findKey_k h hl hk 0 w
  obtain ⟨lx, hx⟩ := h.lit k hk
  have hc := fun em => h.K.check w em hx
  have hg := Go.MapKept.run_getObj_map (P := Tryz.prog) hm
  unfold Instr.lookup
  unfold kget
  cases hq : fndK k l 0 with
  | none =>
    rw [hq] at hf
    simp [run_underlying ht, hg, hc, hf, hz, Result.andThen]
  | some p =>
    obtain ⟨i, v⟩ := p
    rw [hq] at hf
    simp [run_underlying ht, hg, hc, hf, Result.andThen]
theorem update_k [DecidableEq κ] (h : KT kt kv ok) {w : World} {b : Nat} {l : MK κ} (hm : MP kv w b l) (hl : LK ok l) {t e : TypeId} (ht : Tryz.prog.underlying t = some (.map kt e)) {k : κ} (hk : ok k) (hn : fndK k l 0 = none) (v : Value) :
    (Instr.mapUpdate t (.map (some b)) (kv k) v).run Tryz.prog w = .ok () (setM kv w b (l ++ [(k, v)])) := by
  have hf := findKey_k h hl hk 0 w
  obtain ⟨lx, hx⟩ := h.lit k hk
  have hc := fun em => h.K.check w em hx
  have hg := Go.MapKept.run_getObj_map (P := Tryz.prog) hm
  have hs := fun o => Go.MapKept.run_setObj_map (P := Tryz.prog) o hm
  unfold Instr.mapUpdate
  unfold setM
  rw [hn] at hf
  simp [run_underlying ht, hg, hc, hf, hs, Result.andThen, ensK_app]
theorem fndK_mem [DecidableEq κ] {k : κ} : ∀ {l : MK κ} {i : Nat}, fndK k l i = none ↔ ∀ p ∈ l, p.1 ≠ k
  | [], _ => by simp [fndK]
  | p :: l, i => by
    by_cases hk : k = p.1
    · simp [fndK, hk]
    · simp [fndK, hk, fndK_mem (l := l), Ne.symm hk]
theorem LK.nil : LK ok ([] : MK κ) := ⟨by simp, by simp⟩
theorem LK.snoc [DecidableEq κ] {l : MK κ} (h : LK ok l) {k : κ} (hk : ok k) (hn : fndK k l 0 = none) (v : Value) : LK ok (l ++ [(k, v)]) := by
  refine ⟨fun p hp => ?_, ?_⟩
  · rcases List.mem_append.1 hp with hp | hp
    · exact h.ok p hp
    · simp at hp; subst hp; exact hk
  · rw [List.map_append, List.nodup_append]
    refine ⟨h.nd, by simp, fun a ha b hb => ?_⟩
    simp at hb
    subst hb
    obtain ⟨p, hp, rfl⟩ := List.mem_map.1 ha
    exact fndK_mem.1 hn p hp
end
end Go.Proofs.YtgboboljgcfggaaGreatDoor
namespace Go.Proofs.YtgboboljgcfggaaGreatDoor

/-- A block, without its places. -/
structure PB where
  cap : Int
  param : Bool
  ins : List Ins
deriving DecidableEq
/-- A code, without its places. -/
structure PC where
  label : T
  blocks : List PB
  decls : List Dcl
deriving DecidableEq
/-- A block of a code. -/
structure Sp where
  code : Nat
  block : Int
deriving DecidableEq
/-- The block of a declaration: the codes from number i on. -/
def findC : List PC → Nat → T → Int → Option Sp
  | [], _, _, _ => none
  | c :: l, i, p, n => match (if c.label = p then c.decls.find? (fun d => d.id == n) else none) with
    | some d => some ⟨i, d.block⟩
    | none => findC l (i + 1) p n
/-- To what an instruction refers: a block, if it exists. -/
def tgt (l : List PC) (s : Sp) (x : Ins) : Option (Option Sp) :=
  if x.op = 4 then some (findC l 0 x.name x.a) else if x.op = 5 then some (some ⟨s.code, x.a⟩) else none
/-- Known blocks, with one more. -/
def addS (k : List Sp) (x : Sp) : List Sp := if x ∈ k then k else k ++ [x]
/-- Known blocks, with those to which instructions refer. -/
def addAll : List Sp → List (Option Sp) → Option (List Sp)
  | k, [] => some k
  | _, none :: _ => none
  | k, some x :: r => addAll (addS k x) r
def blkAt (l : List PC) (s : Sp) : PB := match l[s.code]? with
  | some c => c.blocks.getD s.block.toNat ⟨0, false, []⟩
  | none => ⟨0, false, []⟩
/-- The blocks that are needed, from number i on. -/
def bfs (l : List PC) : Nat → Nat → List Sp → Option (Option (List Sp))
  | 0, _, _ => none
  | f + 1, i, k => match k[i]? with
    | none => some (some k)
    | some s => match addAll k ((blkAt l s).ins.filterMap (tgt l s)) with
      | none => some none
      | some k' => bfs l f (i + 1) k'
/-- The blocks of roots. -/
def rootsK (l : List PC) : List Sp → List (T × Int) → Option (List Sp)
  | k, [] => some k
  | k, n :: r => match findC l 0 n.1 n.2 with
    | none => none
    | some s => rootsK l (addS k s) r
/-- A spot of valid codes. -/
def SpOk (l : List PC) (s : Sp) : Prop := ∃ c, l[s.code]? = some c ∧ 0 ≤ s.block ∧ s.block < c.blocks.length
/-- Codes whose references to their own blocks are in range. -/
structure CsOk (l : List PC) : Prop where
  d : ∀ c ∈ l, ∀ d ∈ c.decls, 0 ≤ d.block ∧ d.block < c.blocks.length
  x : ∀ c ∈ l, ∀ b ∈ c.blocks, ∀ x ∈ b.ins, x.op = 5 → 0 ≤ x.a ∧ x.a < c.blocks.length
theorem findC_ok {l0 : List PC} (h : CsOk l0) : ∀ (l : List PC) (i : Nat) (p : T) (n : Int) (s : Sp), (∀ j c, l[j]? = some c → l0[i + j]? = some c) → findC l i p n = some s → SpOk l0 s
  | [], _, _, _, _, _, e => by cases e
  | c :: l, i, p, n, s, hl, e => by
    rw [findC] at e
    have hc := hl 0 c rfl
    split at e
    · rename_i d hd
      cases e
      have hm : d ∈ c.decls := by
        split at hd
        · exact List.mem_of_find?_eq_some hd
        · cases hd
      exact ⟨c, hc, h.d c (List.mem_of_getElem? hc) d hm⟩
    · exact findC_ok h l (i + 1) p n s (fun j c' hj => by
        have := hl (j + 1) c' (by simpa using hj)
        rw [show i + 1 + j = i + (j + 1) from by omega]
        exact this) e
theorem blkAt_ok {l : List PC} {s : Sp} (h : SpOk l s) : ∃ c, l[s.code]? = some c ∧ blkAt l s ∈ c.blocks := by
  obtain ⟨c, hc, h1, h2⟩ := h
  refine ⟨c, hc, ?_⟩
  unfold blkAt
  rw [hc]
  simp only
  have h3 : s.block.toNat < c.blocks.length := by omega
  rw [List.getD_eq_getElem?_getD, List.getElem?_eq_getElem h3]
  exact List.getElem_mem h3
theorem tgt_ok {l : List PC} (h : CsOk l) {s : Sp} (hs : SpOk l s) {x : Ins} (hx : x ∈ (blkAt l s).ins) {t : Sp} (e : tgt l s x = some (some t)) : SpOk l t := by
  unfold tgt at e
  split at e
  · simp only [Option.some.injEq] at e
    exact findC_ok h l 0 _ _ _ (fun j c hj => by simpa using hj) e
  · split at e
    · rename_i h5
      simp only [Option.some.injEq] at e
      subst e
      obtain ⟨c, hc, hb⟩ := blkAt_ok hs
      exact ⟨c, hc, h.x c (List.mem_of_getElem? hc) _ hb x hx h5⟩
    · cases e
theorem mem_addS {k : List Sp} {x y : Sp} : y ∈ addS k x ↔ y ∈ k ∨ y = x := by
  unfold addS
  split
  · rename_i h
    exact ⟨.inl, fun h2 => h2.elim id (fun e => e ▸ h)⟩
  · simp
theorem nodup_addS {k : List Sp} {x : Sp} (h : k.Nodup) : (addS k x).Nodup := by
  unfold addS
  split
  · exact h
  · rename_i hx
    rw [List.nodup_append]
    refine ⟨h, by simp, ?_⟩
    intro a ha b hb
    simp at hb
    subst hb
    exact fun e => hx (e ▸ ha)
theorem addS_pre (k : List Sp) (x : Sp) : ∃ e, addS k x = k ++ e := by
  unfold addS
  split
  · exact ⟨[], by simp⟩
  · exact ⟨[x], rfl⟩
theorem addAll_pre : ∀ (r : List (Option Sp)) (k k' : List Sp), addAll k r = some k' → ∃ e, k' = k ++ e
  | [], k, k', h => by cases h; exact ⟨[], by simp⟩
  | none :: _, _, _, h => by cases h
  | some x :: r, k, k', h => by
    rw [addAll] at h
    obtain ⟨e, he⟩ := addAll_pre r _ _ h
    obtain ⟨e2, he2⟩ := addS_pre k x
    exact ⟨e2 ++ e, by rw [he, he2, List.append_assoc]⟩
theorem addAll_mem : ∀ (r : List (Option Sp)) (k k' : List Sp), addAll k r = some k' → (∀ y, y ∈ k' ↔ y ∈ k ∨ some y ∈ r) ∧ none ∉ r
  | [], k, k', h => by cases h; exact ⟨fun y => by simp, by simp⟩
  | none :: _, _, _, h => by cases h
  | some x :: r, k, k', h => by
    rw [addAll] at h
    obtain ⟨h1, h2⟩ := addAll_mem r _ _ h
    refine ⟨fun y => ?_, by simpa using h2⟩
    rw [h1, mem_addS, List.mem_cons, Option.some.injEq]
    constructor
    · rintro ((h | h) | h)
      · exact .inl h
      · exact .inr (.inl h)
      · exact .inr (.inr h)
    · rintro (h | h | h)
      · exact .inl (.inl h)
      · exact .inl (.inr h)
      · exact .inr h
theorem addAll_nodup : ∀ (r : List (Option Sp)) (k k' : List Sp), addAll k r = some k' → k.Nodup → k'.Nodup
  | [], k, k', h, hk => by cases h; exact hk
  | none :: _, _, _, h, _ => by cases h
  | some x :: r, k, k', h, hk => by
    rw [addAll] at h
    exact addAll_nodup r _ _ h (nodup_addS hk)
/-- All spots of codes. -/
def spots (l : List PC) : List Sp := l.zipIdx.flatMap fun (c, i) => (List.range c.blocks.length).map fun j : Nat => ⟨i, (j : Int)⟩
theorem mem_spots {l : List PC} {s : Sp} (h : SpOk l s) : s ∈ spots l := by
  obtain ⟨c, hc, h1, h2⟩ := h
  unfold spots
  rw [List.mem_flatMap]
  refine ⟨(c, s.code), ?_, ?_⟩
  · rw [List.mem_zipIdx_iff_getElem?]
    simpa using hc
  · rw [List.mem_map]
    refine ⟨s.block.toNat, ?_, ?_⟩
    · rw [List.mem_range]; omega
    · obtain ⟨a, b⟩ := s
      simp only at h1 ⊢
      congr
      omega
theorem len_le_of_sub {k m : List Sp} (hk : k.Nodup) (h : ∀ y ∈ k, y ∈ m) : k.length ≤ m.length := by
  induction k generalizing m with
  | nil => simp
  | cons x k ih =>
    rw [List.nodup_cons] at hk
    have hx : x ∈ m := h x (by simp)
    have h1 := ih hk.2 (m := m.erase x) (fun y hy => by
      rw [List.mem_erase_of_ne]
      · exact h y (by simp [hy])
      · intro e; exact hk.1 (e ▸ hy))
    rw [List.length_erase_of_mem hx] at h1
    have := List.length_pos_of_mem hx
    simp only [List.length_cons]
    omega
/-- The state of the search is sound. -/
structure Kn (l : List PC) (k : List Sp) : Prop where
  nd : k.Nodup
  ok : ∀ s ∈ k, SpOk l s
theorem Kn.len {l : List PC} {k : List Sp} (h : Kn l k) : k.length ≤ (spots l).length := len_le_of_sub h.nd fun y hy => mem_spots (h.ok y hy)
theorem Kn.step {l : List PC} (hl : CsOk l) {k k' : List Sp} (h : Kn l k) {s : Sp} (hs : s ∈ k) (e : addAll k ((blkAt l s).ins.filterMap (tgt l s)) = some k') : Kn l k' := by
  refine ⟨addAll_nodup _ _ _ e h.nd, fun y hy => ?_⟩
  rcases ((addAll_mem _ _ _ e).1 y).1 hy with h1 | h1
  · exact h.ok y h1
  · obtain ⟨x, hx, e2⟩ := List.mem_filterMap.1 h1
    exact tgt_ok hl (h.ok s hs) hx e2
/-- With enough fuel the search ends. -/
theorem bfs_ends {l : List PC} (hl : CsOk l) : ∀ (f i : Nat) (k : List Sp), Kn l k → i ≤ k.length → (spots l).length < f + i → bfs l f i k ≠ none
  | 0, i, k, h, hi, hf => by have := h.len; omega
  | f + 1, i, k, h, hi, hf => by
    rw [bfs]
    split
    · simp
    · rename_i s hs
      split
      · simp
      · rename_i k' hk'
        obtain ⟨e, he⟩ := addAll_pre _ _ _ hk'
        have hlt := (List.getElem?_eq_some_iff.1 hs).1
        exact bfs_ends hl f (i + 1) k' (h.step hl (List.mem_of_getElem? hs) hk') (by rw [he, List.length_append]; omega) (by omega)
/-- What a search that has ended has found. -/
structure Fnd (l : List PC) (i : Nat) (k r : List Sp) : Prop where
  pre : ∃ e, r = k ++ e
  kn : Kn l r
  cl : ∀ j s, i ≤ j → r[j]? = some s → ∀ x ∈ (blkAt l s).ins, ∀ t, tgt l s x = some t → ∃ u, t = some u ∧ u ∈ r
  src : ∀ j t, k.length ≤ j → r[j]? = some t → ∃ j' s x, j' < j ∧ r[j']? = some s ∧ x ∈ (blkAt l s).ins ∧ tgt l s x = some (some t)
theorem addAll_src : ∀ (r : List (Option Sp)) (k k' : List Sp), addAll k r = some k' → ∀ j t, k.length ≤ j → k'[j]? = some t → some t ∈ r
  | [], k, k', h, j, t, hj, e => by
    cases h
    have := (List.getElem?_eq_some_iff.1 e).1
    omega
  | none :: _, _, _, h, _, _, _, _ => by cases h
  | some x :: r, k, k', h, j, t, hj, e => by
    rw [addAll] at h
    by_cases h1 : (addS k x).length ≤ j
    · exact List.mem_cons_of_mem _ (addAll_src r _ _ h j t h1 e)
    · obtain ⟨e1, he1⟩ := addAll_pre r _ _ h
      rw [he1, List.getElem?_append_left (by omega)] at e
      have h2 := List.mem_of_getElem? e
      unfold addS at h1 e
      split at e
      · rename_i h3
        rw [if_pos h3] at h1
        omega
      · rename_i h3
        rw [if_neg h3] at h1
        simp only [List.length_append, List.length_cons, List.length_nil] at h1
        obtain rfl : j = k.length := by omega
        simp at e
        simp [e]
theorem bfs_fnd {l : List PC} (hl : CsOk l) : ∀ (f i : Nat) (k r : List Sp), Kn l k → i ≤ k.length → bfs l f i k = some (some r) → Fnd l i k r
  | 0, _, _, _, _, _, e => by cases e
  | f + 1, i, k, r, h, hi, e => by
    rw [bfs] at e
    split at e
    · rename_i hs
      cases e
      have hlen := List.getElem?_eq_none_iff.1 hs
      refine ⟨⟨[], by simp⟩, h, fun j s hj e => ?_, fun j t hj e => ?_⟩
      · have := (List.getElem?_eq_some_iff.1 e).1
        omega
      · have := (List.getElem?_eq_some_iff.1 e).1
        omega
    · rename_i s hs
      have hlt := (List.getElem?_eq_some_iff.1 hs).1
      split at e
      · cases e
      · rename_i k' hk'
        obtain ⟨e1, he1⟩ := addAll_pre _ _ _ hk'
        have H := bfs_fnd hl f (i + 1) k' r (h.step hl (List.mem_of_getElem? hs) hk') (by rw [he1, List.length_append]; omega) e
        obtain ⟨e2, he2⟩ := H.pre
        have hrs : r[i]? = some s := by rw [he2, he1, List.append_assoc, List.getElem?_append_left hlt]; exact hs
        refine ⟨⟨e1 ++ e2, by rw [he2, he1, List.append_assoc]⟩, H.kn, fun j s' hj hjs => ?_, fun j t hj hjt => ?_⟩
        · by_cases h1 : j = i
          · subst h1
            rw [hrs] at hjs
            cases hjs
            intro x hx t ht
            have hm : t ∈ (blkAt l s).ins.filterMap (tgt l s) := List.mem_filterMap.2 ⟨x, hx, ht⟩
            obtain ⟨m1, m2⟩ := addAll_mem _ _ _ hk'
            cases t with
            | none => exact absurd hm m2
            | some u => exact ⟨u, rfl, by rw [he2, List.mem_append]; exact .inl ((m1 u).2 (.inr hm))⟩
          · exact H.cl j s' (by omega) hjs
        · by_cases h1 : k'.length ≤ j
          · exact H.src j t h1 hjt
          · have hjt2 : k'[j]? = some t := by rw [he2, List.getElem?_append_left (by omega)] at hjt; exact hjt
            have hm := addAll_src _ _ _ hk' j t hj hjt2
            obtain ⟨x, hx, e3⟩ := List.mem_filterMap.1 hm
            exact ⟨i, s, x, by omega, hrs, hx, e3⟩
/-- An instruction with the number of its block. -/
def relab (l : List PC) (k : List Sp) (s : Sp) (x : Ins) : Ins := match tgt l s x with
  | some (some t) => ⟨x.op, k.idxOf t, x.b, []⟩
  | _ => x
def blkP (l : List PC) (k : List Sp) (s : Sp) : PB := ⟨(blkAt l s).cap, (blkAt l s).param, (blkAt l s).ins.map (relab l k s)⟩
/-- The blocks of the program. -/
def progB (l : List PC) (k : List Sp) : List PB := k.map (blkP l k)
theorem rootsK_kn {l : List PC} (hl : CsOk l) : ∀ (r : List (T × Int)) (k k' : List Sp), Kn l k → rootsK l k r = some k' → Kn l k'
  | [], _, _, h, e => by cases e; exact h
  | n :: r, k, k', h, e => by
    rw [rootsK] at e
    split at e
    · cases e
    · rename_i s hs
      refine rootsK_kn hl r _ _ ⟨nodup_addS h.nd, fun y hy => ?_⟩ e
      rcases mem_addS.1 hy with h1 | rfl
      · exact h.ok y h1
      · exact findC_ok hl l 0 _ _ _ (fun j c hj => by simpa using hj) hs
theorem rootsK_mem {l : List PC} : ∀ (r : List (T × Int)) (k k' : List Sp), rootsK l k r = some k' → (∀ n ∈ r, ∃ s, findC l 0 n.1 n.2 = some s ∧ s ∈ k') ∧ (∀ s ∈ k', s ∈ k ∨ ∃ n ∈ r, findC l 0 n.1 n.2 = some s) ∧ ∀ s ∈ k, s ∈ k'
  | [], k, k', e => by cases e; exact ⟨by simp, fun s h => .inl h, fun s h => h⟩
  | n :: r, k, k', e => by
    rw [rootsK] at e
    split at e
    · cases e
    · rename_i s hs
      obtain ⟨h1, h2, h3⟩ := rootsK_mem r _ _ e
      refine ⟨fun m hm => ?_, fun t ht => ?_, fun t ht => h3 t (mem_addS.2 (.inl ht))⟩
      · rcases List.mem_cons.1 hm with rfl | hm
        · exact ⟨s, hs, h3 s (mem_addS.2 (.inr rfl))⟩
        · exact h1 m hm
      · rcases h2 t ht with h | ⟨m, hm, h⟩
        · rcases mem_addS.1 h with h | rfl
          · exact .inl h
          · exact .inr ⟨n, by simp, hs⟩
        · exact .inr ⟨m, by simp [hm], h⟩
/-- Numbers, with one more. -/
def addI (k : List Int) (x : Int) : List Int := if x ∈ k then k else k ++ [x]
theorem mem_addI {k : List Int} {x y : Int} : y ∈ addI k x ↔ y ∈ k ∨ y = x := by
  unfold addI
  split
  · rename_i h
    exact ⟨.inl, fun h2 => h2.elim id (fun e => e ▸ h)⟩
  · simp
theorem nodup_addI {k : List Int} {x : Int} (h : k.Nodup) : (addI k x).Nodup := by
  unfold addI
  split
  · exact h
  · rename_i hx
    rw [List.nodup_append]
    refine ⟨h, by simp, ?_⟩
    intro a ha b hb
    simp at hb
    subst hb
    exact fun e => hx (e ▸ ha)
theorem foldI_mem : ∀ (r k : List Int) (y : Int), y ∈ r.foldl addI k ↔ y ∈ k ∨ y ∈ r
  | [], k, y => by simp
  | x :: r, k, y => by
    rw [List.foldl_cons, foldI_mem r, mem_addI, List.mem_cons]
    constructor
    · rintro ((h | h) | h)
      · exact .inl h
      · exact .inr (.inl h)
      · exact .inr (.inr h)
    · rintro (h | h | h)
      · exact .inl (.inl h)
      · exact .inl (.inr h)
      · exact .inr h
theorem foldI_nodup : ∀ (r k : List Int), k.Nodup → (r.foldl addI k).Nodup
  | [], _, h => h
  | x :: r, _, h => by rw [List.foldl_cons]; exact foldI_nodup r _ (nodup_addI h)
theorem foldI_pre : ∀ (r k : List Int), ∃ e, r.foldl addI k = k ++ e
  | [], k => ⟨[], by simp⟩
  | x :: r, k => by
    rw [List.foldl_cons]
    obtain ⟨e, he⟩ := foldI_pre r (addI k x)
    rw [he]
    unfold addI
    split
    · exact ⟨e, rfl⟩
    · exact ⟨[x] ++ e, by simp⟩
/-- The blocks to which a block's instructions refer. -/
def refI (b : PB) : List Int := (b.ins.filter fun x => x.op == 4 || x.op == 5).map Ins.a
/-- The blocks that are reached, from number i on. -/
def nddL (pb : List PB) : Nat → Nat → List Int → Option (List Int)
  | 0, _, _ => none
  | f + 1, i, k => match k[i]? with
    | none => some k
    | some n => if n < 0 ∨ (pb.length : Int) ≤ n then some k else nddL pb f (i + 1) ((refI (pb.getD n.toNat ⟨0, false, []⟩)).foldl addI k)
/-- Numbers of blocks, each once. -/
structure Nu (n : Nat) (k : List Int) : Prop where
  nd : k.Nodup
  ok : ∀ y ∈ k, 0 ≤ y ∧ y < n
theorem lenI_le {k m : List Int} (hk : k.Nodup) (h : ∀ y ∈ k, y ∈ m) : k.length ≤ m.length := by
  induction k generalizing m with
  | nil => simp
  | cons x k ih =>
    rw [List.nodup_cons] at hk
    have hx : x ∈ m := h x (by simp)
    have h1 := ih hk.2 (m := m.erase x) (fun y hy => by
      rw [List.mem_erase_of_ne]
      · exact h y (by simp [hy])
      · intro e; exact hk.1 (e ▸ hy))
    rw [List.length_erase_of_mem hx] at h1
    have := List.length_pos_of_mem hx
    simp only [List.length_cons]
    omega
def nums (n : Nat) : List Int := (List.range n).map fun j : Nat => (j : Int)
theorem mem_nums {n : Nat} {y : Int} : y ∈ nums n ↔ 0 ≤ y ∧ y < n := by
  unfold nums
  rw [List.mem_map]
  constructor
  · rintro ⟨j, hj, rfl⟩
    rw [List.mem_range] at hj
    omega
  · intro h
    exact ⟨y.toNat, by rw [List.mem_range]; omega, by omega⟩
theorem nums_len (n : Nat) : (nums n).length = n := by simp [nums]
theorem nums_nodup (n : Nat) : (nums n).Nodup := by
  unfold nums
  exact List.Pairwise.map _ (fun a b h e => h (by omega)) List.nodup_range
theorem Nu.len {n : Nat} {k : List Int} (h : Nu n k) : k.length ≤ n := by
  have := lenI_le h.nd (m := nums n) fun y hy => mem_nums.2 (h.ok y hy)
  rwa [nums_len] at this
/-- Where all numbers are in range the search ends with a closed list. -/
theorem nddL_ok {pb : List PB} (hr : ∀ b ∈ pb, ∀ a ∈ refI b, 0 ≤ a ∧ a < pb.length) : ∀ (f i : Nat) (k : List Int), Nu pb.length k → i ≤ k.length → pb.length < f + i →
    ∃ r, nddL pb f i k = some r ∧ Nu pb.length r ∧ (∃ e, r = k ++ e) ∧ ∀ j n, i ≤ j → r[j]? = some n → ∀ a ∈ refI (pb.getD n.toNat ⟨0, false, []⟩), a ∈ r
  | 0, i, k, h, hi, hf => by have := h.len; omega
  | f + 1, i, k, h, hi, hf => by
    rw [nddL]
    split
    · rename_i hs
      have hlen := List.getElem?_eq_none_iff.1 hs
      refine ⟨k, rfl, h, ⟨[], by simp⟩, fun j n hj e => ?_⟩
      have := (List.getElem?_eq_some_iff.1 e).1
      omega
    · rename_i n hn
      have hlt := (List.getElem?_eq_some_iff.1 hn).1
      obtain ⟨n1, n2⟩ := h.ok n (List.mem_of_getElem? hn)
      rw [if_neg (by omega)]
      have hb : pb.getD n.toNat ⟨0, false, []⟩ ∈ pb := by
        rw [List.getD_eq_getElem?_getD, List.getElem?_eq_getElem (by omega)]
        exact List.getElem_mem _
      obtain ⟨e1, he1⟩ := foldI_pre (refI (pb.getD n.toNat ⟨0, false, []⟩)) k
      have hk' : Nu pb.length ((refI (pb.getD n.toNat ⟨0, false, []⟩)).foldl addI k) := ⟨foldI_nodup _ _ h.nd, fun y hy => by
        rcases (foldI_mem _ _ _).1 hy with h1 | h1
        · exact h.ok y h1
        · exact hr _ hb y h1⟩
      obtain ⟨r, h1, h2, ⟨e2, he2⟩, h4⟩ := nddL_ok hr f (i + 1) _ hk' (by rw [he1, List.length_append]; omega) (by omega)
      refine ⟨r, h1, h2, ⟨e1 ++ e2, by rw [he2, he1, List.append_assoc]⟩, fun j m hj hjm a ha => ?_⟩
      by_cases h5 : j = i
      · subst h5
        have hjn : r[j]? = some n := by rw [he2, he1, List.append_assoc, List.getElem?_append_left hlt]; exact hn
        rw [hjn] at hjm
        cases hjm
        rw [he2, List.mem_append]
        exact .inl ((foldI_mem _ _ _).2 (.inr ha))
      · exact h4 j m (by omega) hjm a ha
theorem idx_lt {k : List Sp} {t : Sp} (h : t ∈ k) : k.idxOf t < k.length := List.idxOf_lt_length_iff.2 h
theorem idx_at {k : List Sp} (h : k.Nodup) {j : Nat} {t : Sp} (e : k[j]? = some t) : k.idxOf t = j := by
  obtain ⟨hj, e⟩ := List.getElem?_eq_some_iff.1 e
  have hm : t ∈ k := e ▸ List.getElem_mem hj
  have h1 := List.getElem_idxOf (idx_lt hm)
  exact (List.getElem_inj h).1 (h1.trans e.symm)
theorem refI_relab {l : List PC} {k : List Sp} {s : Sp} (hc : ∀ x ∈ (blkAt l s).ins, ∀ t, tgt l s x = some t → ∃ u, t = some u ∧ u ∈ k) {a : Int} : a ∈ refI (blkP l k s) ↔ ∃ x ∈ (blkAt l s).ins, ∃ u, tgt l s x = some (some u) ∧ a = k.idxOf u := by
  unfold refI blkP
  simp only [List.mem_map, List.mem_filter]
  constructor
  · rintro ⟨y, ⟨⟨x, hx, rfl⟩, ho⟩, rfl⟩
    have hop : (relab l k s x).op = x.op := by
      unfold relab
      split <;> rfl
    rw [hop] at ho
    obtain ⟨t, ht⟩ : ∃ t, tgt l s x = some t := by
      unfold tgt
      by_cases h4 : x.op = 4
      · exact ⟨_, if_pos h4⟩
      · by_cases h5 : x.op = 5
        · exact ⟨_, by rw [if_neg h4, if_pos h5]⟩
        · simp [h4, h5] at ho
    obtain ⟨u, rfl, hu⟩ := hc x hx t ht
    refine ⟨x, hx, u, ht, ?_⟩
    unfold relab
    rw [ht]
  · rintro ⟨x, hx, u, ht, rfl⟩
    refine ⟨relab l k s x, ⟨⟨x, hx, rfl⟩, ?_⟩, ?_⟩
    · have hop : (relab l k s x).op = x.op := by
        unfold relab
        split <;> rfl
      rw [hop]
      unfold tgt at ht
      by_cases h4 : x.op = 4
      · simp [h4]
      · rw [if_neg h4] at ht
        by_cases h5 : x.op = 5
        · simp [h5]
        · rw [if_neg h5] at ht; cases ht
    · unfold relab
      rw [ht]
/-- All blocks of a program that was linked are reached. -/
theorem linked_needed {l : List PC} (hl : CsOk l) {k0 k : List Sp} (hk0 : Kn l k0) {f : Nat} (hb : bfs l f 0 k0 = some (some k)) {st : List Int} (h1 : ∀ a ∈ st, ∃ s, s ∈ k0 ∧ a = k.idxOf s) (h2 : ∀ s ∈ k0, (k.idxOf s : Int) ∈ st) :
    ∃ r, nddL (progB l k) (k.length + 1) 0 (st.foldl addI []) = some r ∧ r.length = k.length ∧ (∀ j : Nat, j < k.length → (j : Int) ∈ r) ∧ ∀ y ∈ r, 0 ≤ y ∧ y < k.length := by
  have F := bfs_fnd hl f 0 k0 k hk0 (Nat.zero_le _) hb
  obtain ⟨e0, he0⟩ := F.pre
  have hpl : (progB l k).length = k.length := by unfold progB; rw [List.length_map]
  have cl : ∀ s ∈ k, ∀ x ∈ (blkAt l s).ins, ∀ t, tgt l s x = some t → ∃ u, t = some u ∧ u ∈ k := fun s hs => by
    obtain ⟨j, hj⟩ := List.getElem?_of_mem hs
    exact F.cl j s (Nat.zero_le _) hj
  have gp : ∀ j s, k[j]? = some s → (progB l k)[j]? = some (blkP l k s) := fun j s e => by unfold progB; rw [List.getElem?_map, e]; rfl
  obtain ⟨r, e1, e2, ⟨e3, he3⟩, e4⟩ := nddL_ok (pb := progB l k) (fun b hb a ha => by
    unfold progB at hb
    obtain ⟨s, hs, rfl⟩ := List.mem_map.1 hb
    obtain ⟨x, hx, u, ht, rfl⟩ := (refI_relab (cl s hs)).1 ha
    obtain ⟨u', e, hu⟩ := cl s hs x hx _ ht
    cases e
    rw [hpl]
    have := idx_lt hu
    omega) (k.length + 1) 0 (st.foldl addI []) ⟨foldI_nodup _ _ List.nodup_nil, fun y hy => by
      rcases (foldI_mem _ _ _).1 hy with h | h
      · cases h
      · obtain ⟨s, hs, rfl⟩ := h1 y h
        have : s ∈ k := by rw [he0, List.mem_append]; exact .inl hs
        have := idx_lt this
        rw [hpl]
        omega⟩ (Nat.zero_le _) (by omega)
  rw [hpl] at e2
  have all : ∀ m j : Nat, j < m → j < k.length → (j : Int) ∈ r := by
    intro m
    induction m with
    | zero => intro j h; omega
    | succ m ih =>
      intro j hjm hj
      by_cases hjk : j < k0.length
      · have hm : k0[j]? = some (k0[j]) := List.getElem?_eq_getElem hjk
        have hm2 : k[j]? = some (k0[j]) := by rw [he0, List.getElem?_append_left hjk]; exact hm
        have h := h2 _ (List.getElem_mem hjk)
        rw [idx_at F.kn.nd hm2] at h
        rw [he3, List.mem_append]
        exact .inl ((foldI_mem _ _ _).2 (.inr h))
      · obtain ⟨j', s, x, hlt, hs, hx, ht⟩ := F.src j k[j] (by omega) (List.getElem?_eq_getElem hj)
        have hr := ih j' (by omega) (by omega)
        obtain ⟨i, hi⟩ := List.getElem?_of_mem hr
        have hcl := e4 i j' (Nat.zero_le _) hi
        rw [show (j' : Int).toNat = j' from rfl, List.getD_eq_getElem?_getD, gp _ _ hs] at hcl
        have := hcl (k.idxOf k[j]) ((refI_relab (cl s (List.mem_of_getElem? hs))).2 ⟨x, hx, _, ht, rfl⟩)
        rwa [idx_at F.kn.nd (List.getElem?_eq_getElem hj)] at this
  refine ⟨r, e1, ?_, fun j hj => all _ j (Nat.lt_succ_self _) hj, e2.ok⟩
  refine Nat.le_antisymm e2.len ?_
  have := lenI_le (nums_nodup k.length) (m := r) fun y hy => by
    obtain ⟨a, b⟩ := mem_nums.1 hy
    have := all _ y.toNat (Nat.lt_succ_self _) (by omega)
    rwa [show ((y.toNat : Nat) : Int) = y from by omega] at this
  rwa [nums_len] at this
theorem findC_some : ∀ (l : List PC) (i : Nat) (p : T) (n : Int) (s : Sp), findC l i p n = some s → ∃ j c d, l[j]? = some c ∧ s = ⟨i + j, d.block⟩ ∧ c.label = p ∧ c.decls.find? (fun d => d.id == n) = some d
  | [], _, _, _, _, e => by cases e
  | c :: l, i, p, n, s, e => by
    rw [findC] at e
    split at e
    · rename_i d hd
      cases e
      split at hd
      · rename_i hp
        exact ⟨0, c, d, rfl, rfl, hp, hd⟩
      · cases hd
    · obtain ⟨j, c', d, h1, h2, h3, h4⟩ := findC_some l (i + 1) p n s e
      exact ⟨j + 1, c', d, by simpa using h1, by rw [h2]; congr 1; omega, h3, h4⟩
theorem findC_of : ∀ (l : List PC) (i : Nat) (p : T) (n : Int), (l.map PC.label).Nodup → ∀ (j : Nat) (c : PC) (d : Dcl), l[j]? = some c → c.label = p → c.decls.find? (fun d => d.id == n) = some d → findC l i p n = some ⟨i + j, d.block⟩
  | [], _, _, _, _, _, _, _, e, _, _ => by simp at e
  | c :: l, i, p, n, h, 0, c', d, e, hp, hd => by
    cases e
    rw [findC, if_pos hp, hd]
    rfl
  | c :: l, i, p, n, h, j + 1, c', d, e, hp, hd => by
    rw [List.map_cons, List.nodup_cons] at h
    have e' : l[j]? = some c' := by simpa using e
    have hne : c.label ≠ p := fun h2 => h.1 (by rw [h2, ← hp]; exact List.mem_map.2 ⟨c', List.mem_of_getElem? e', rfl⟩)
    rw [findC, if_neg hne]
    simp only
    rw [findC_of l (i + 1) p n h.2 j c' d e' hp hd]
    congr 2
    omega
/-- Codes lie among others. -/
structure Emb (l' l : List PC) (σ : Nat → Nat) : Prop where
  inj : ∀ i j, i < l'.length → j < l'.length → σ i = σ j → i = j
  at' : ∀ (i : Nat) c, l'[i]? = some c → l[σ i]? = some c
  nd : (l.map PC.label).Nodup
def sg (σ : Nat → Nat) (s : Sp) : Sp := ⟨σ s.code, s.block⟩
section
variable {l' l : List PC} {σ : Nat → Nat}
theorem Emb.fc (h : Emb l' l σ) {p : T} {n : Int} {s : Sp} (e : findC l' 0 p n = some s) : findC l 0 p n = some (sg σ s) := by
  obtain ⟨j, c, d, h1, rfl, h3, h4⟩ := findC_some _ _ _ _ _ e
  rw [findC_of l 0 p n h.nd (σ j) c d (h.at' j c h1) h3 h4]
  simp [sg]
theorem SpOk.lt {l : List PC} {s : Sp} (h : SpOk l s) : s.code < l.length := by
  obtain ⟨c, hc, -⟩ := h
  exact (List.getElem?_eq_some_iff.1 hc).1
theorem Emb.sinj (h : Emb l' l σ) {s t : Sp} (hs : SpOk l' s) (ht : SpOk l' t) (e : sg σ s = sg σ t) : s = t := by
  obtain ⟨a, b⟩ := s
  obtain ⟨c, d⟩ := t
  simp only [sg, Sp.mk.injEq] at e
  rw [h.inj a c hs.lt ht.lt e.1, e.2]
theorem Emb.blk (h : Emb l' l σ) {s : Sp} (hs : SpOk l' s) : blkAt l (sg σ s) = blkAt l' s := by
  obtain ⟨c, hc, -⟩ := hs
  unfold blkAt
  rw [hc, show (sg σ s).code = σ s.code from rfl, h.at' _ _ hc]
  rfl
theorem Emb.tg (h : Emb l' l σ) {s t : Sp} {x : Ins} (e : tgt l' s x = some (some t)) : tgt l (sg σ s) x = some (some (sg σ t)) := by
  unfold tgt at e ⊢
  split at e
  · rename_i h4
    rw [if_pos h4]
    simp only [Option.some.injEq] at e ⊢
    exact h.fc e
  · rename_i h4
    rw [if_neg h4]
    split at e
    · rename_i h5
      rw [if_pos h5]
      simp only [Option.some.injEq] at e ⊢
      rw [← e]
      rfl
    · cases e
theorem tgt_none {l : List PC} {s : Sp} {x : Ins} : tgt l s x = none ↔ x.op ≠ 4 ∧ x.op ≠ 5 := by
  unfold tgt
  by_cases h4 : x.op = 4
  · simp [h4]
  · by_cases h5 : x.op = 5
    · simp [h5]
    · simp [h4, h5]
theorem Emb.fm (h : Emb l' l σ) (s : Sp) : ∀ (xs : List Ins), none ∉ xs.filterMap (tgt l' s) → xs.filterMap (tgt l (sg σ s)) = (xs.filterMap (tgt l' s)).map (Option.map (sg σ))
  | [], _ => rfl
  | x :: xs, hn => by
    rw [List.filterMap_cons] at hn ⊢
    rw [List.filterMap_cons]
    cases hx : tgt l' s x with
    | none =>
      rw [hx] at hn
      have h1 := tgt_none.1 hx
      rw [(tgt_none (l := l) (s := sg σ s)).2 h1]
      exact Emb.fm h s xs hn
    | some t =>
      rw [hx] at hn
      cases t with
      | none => simp at hn
      | some t =>
        rw [h.tg hx]
        simp only [List.map_cons, Option.map_some]
        rw [Emb.fm h s xs (fun h2 => hn (List.mem_cons_of_mem _ h2))]
theorem mem_map_sg (h : Emb l' l σ) {k : List Sp} (hk : ∀ s ∈ k, SpOk l' s) {t : Sp} (ht : SpOk l' t) : sg σ t ∈ k.map (sg σ) ↔ t ∈ k := by
  rw [List.mem_map]
  constructor
  · rintro ⟨s, hs, e⟩
    rw [← h.sinj (hk s hs) ht e]
    exact hs
  · intro ht'
    exact ⟨t, ht', rfl⟩
theorem addS_sg (h : Emb l' l σ) {k : List Sp} (hk : ∀ s ∈ k, SpOk l' s) {t : Sp} (ht : SpOk l' t) : addS (k.map (sg σ)) (sg σ t) = (addS k t).map (sg σ) := by
  unfold addS
  by_cases h1 : t ∈ k
  · rw [if_pos h1, if_pos ((mem_map_sg h hk ht).2 h1)]
  · rw [if_neg h1, if_neg (fun h2 => h1 ((mem_map_sg h hk ht).1 h2))]
    simp
theorem addAll_sg (h : Emb l' l σ) : ∀ (r : List (Option Sp)) (k k' : List Sp), (∀ s ∈ k, SpOk l' s) → (∀ t, some t ∈ r → SpOk l' t) → addAll k r = some k' → addAll (k.map (sg σ)) (r.map (Option.map (sg σ))) = some (k'.map (sg σ))
  | [], k, k', _, _, e => by cases e; rfl
  | none :: _, _, _, _, _, e => by cases e
  | some x :: r, k, k', hk, hr, e => by
    rw [addAll] at e
    have hx := hr x (by simp)
    rw [List.map_cons, Option.map_some, addAll, addS_sg h hk hx]
    exact addAll_sg h r _ _ (fun s hs => by
      rcases mem_addS.1 hs with h1 | rfl
      · exact hk s h1
      · exact hx) (fun t ht => hr t (by simp [ht])) e
theorem bfs_sg (h : Emb l' l σ) (hl : CsOk l') : ∀ (f i : Nat) (k r : List Sp), Kn l' k → bfs l' f i k = some (some r) → bfs l f i (k.map (sg σ)) = some (some (r.map (sg σ)))
  | 0, _, _, _, _, e => by cases e
  | f + 1, i, k, r, hk, e => by
    rw [bfs] at e ⊢
    split at e
    · rename_i hs
      cases e
      rw [List.getElem?_map, hs]
      rfl
    · rename_i s hs
      rw [List.getElem?_map, hs]
      simp only [Option.map_some]
      split at e
      · cases e
      · rename_i k' hk'
        have hm := List.mem_of_getElem? hs
        have hok := hk.ok s hm
        rw [h.blk hok, h.fm s _ (addAll_mem _ _ _ hk').2, addAll_sg h _ _ _ hk.ok (fun t ht => by
          obtain ⟨x, hx, e2⟩ := List.mem_filterMap.1 ht
          exact tgt_ok hl hok hx e2) hk']
        exact bfs_sg h hl f (i + 1) k' r (hk.step hl hm hk') e
theorem rootsK_sg (h : Emb l' l σ) (hl : CsOk l') : ∀ (r : List (T × Int)) (k k' : List Sp), Kn l' k → rootsK l' k r = some k' → rootsK l (k.map (sg σ)) r = some (k'.map (sg σ))
  | [], _, _, _, e => by cases e; rfl
  | n :: r, k, k', hk, e => by
    rw [rootsK] at e ⊢
    split at e
    · cases e
    · rename_i s hs
      have hso : SpOk l' s := findC_ok hl l' 0 _ _ _ (fun j c hj => by simpa using hj) hs
      rw [h.fc hs]
      simp only
      rw [addS_sg h hk.ok hso]
      exact rootsK_sg h hl r _ _ ⟨nodup_addS hk.nd, fun y hy => by
        rcases mem_addS.1 hy with h1 | rfl
        · exact hk.ok y h1
        · exact hso⟩ e
theorem idx_sg (h : Emb l' l σ) {t : Sp} (ht : SpOk l' t) : ∀ {k : List Sp}, (∀ s ∈ k, SpOk l' s) → (k.map (sg σ)).idxOf (sg σ t) = k.idxOf t
  | [], _ => rfl
  | s :: k, hk => by
    rw [List.map_cons, List.idxOf_cons, List.idxOf_cons, idx_sg h ht (fun u hu => hk u (by simp [hu]))]
    by_cases e : s = t
    · subst e; simp
    · have : sg σ s ≠ sg σ t := fun e2 => e (h.sinj (hk s (by simp)) ht e2)
      rw [show (s == t) = false from by simpa using e, show (sg σ s == sg σ t) = false from by simpa using this]
theorem prog_sg (h : Emb l' l σ) {k : List Sp} (hk : ∀ s ∈ k, SpOk l' s) (hc : ∀ s ∈ k, ∀ x ∈ (blkAt l' s).ins, ∀ t, tgt l' s x = some t → ∃ u, t = some u ∧ u ∈ k) : progB l (k.map (sg σ)) = progB l' k := by
  unfold progB
  rw [List.map_map]
  refine List.map_congr_left fun s hs => ?_
  show blkP l (k.map (sg σ)) (sg σ s) = blkP l' k s
  unfold blkP
  rw [h.blk (hk s hs)]
  congr 1
  refine List.map_congr_left fun x hx => ?_
  unfold relab
  cases ht : tgt l' s x with
  | none => rw [(tgt_none (l := l) (s := sg σ s)).2 (tgt_none.1 ht)]
  | some t =>
    obtain ⟨u, rfl, hu⟩ := hc s hs x hx t ht
    rw [h.tg ht]
    show (⟨x.op, (k.map (sg σ)).idxOf (sg σ u), x.b, []⟩ : Ins) = ⟨x.op, k.idxOf u, x.b, []⟩
    rw [idx_sg h (hk u hu) hk]
end
theorem bfs_more {l : List PC} : ∀ (f m i : Nat) (k : List Sp) (r : Option (List Sp)), bfs l f i k = some r → bfs l (f + m) i k = some r
  | 0, _, _, _, _, e => by cases e
  | f + 1, m, i, k, r, e => by
    rw [show f + 1 + m = f + m + 1 from by omega, bfs]
    rw [bfs] at e
    split
    · rename_i hs
      rw [hs] at e
      exact e
    · rename_i s hs
      rw [hs] at e
      simp only at e
      split
      · rename_i h
        rw [h] at e
        exact e
      · rename_i k' h
        rw [h] at e
        exact bfs_more f m (i + 1) k' r e
theorem bfs_same {l : List PC} {f g i : Nat} {k : List Sp} {r r' : Option (List Sp)} (h1 : bfs l f i k = some r) (h2 : bfs l g i k = some r') : r = r' := by
  have a := bfs_more f g i k r h1
  have b := bfs_more g f i k r' h2
  rw [Nat.add_comm g f] at b
  rw [a] at b
  exact Option.some.inj b
/-- The same codes in the other order. -/
theorem emb_rev {l : List PC} (h : (l.map PC.label).Nodup) : Emb l l.reverse (fun i => l.length - 1 - i) :=
  ⟨fun i j hi hj e => by have e : l.length - 1 - i = l.length - 1 - j := e; omega, fun i c hc => by
    have hi := (List.getElem?_eq_some_iff.1 hc).1
    rw [List.getElem?_reverse (by omega)]
    rw [show l.length - 1 - (l.length - 1 - i) = i from by omega]
    exact hc, by rw [List.map_reverse]; exact (List.reverse_perm _).nodup_iff.2 h⟩
/-- One code less. -/
theorem emb_erase {l : List PC} (n : Nat) (h : (l.map PC.label).Nodup) : Emb (l.eraseIdx n) l (fun i => if i < n then i else i + 1) :=
  ⟨fun i j _ _ e => by
    have e : (if i < n then i else i + 1) = (if j < n then j else j + 1) := e
    split at e <;> split at e <;> omega, fun i c hc => by
    rw [List.getElem?_eraseIdx] at hc
    show l[if i < n then i else i + 1]? = some c
    split
    · rename_i h1; rw [if_pos h1] at hc; exact hc
    · rename_i h1; rw [if_neg h1] at hc; exact hc, h⟩
end Go.Proofs.YtgboboljgcfggaaGreatDoor
namespace Go.Proofs.YtgboboljgcfggaaGreatDoor
open Go.RowKit

def cI (x y : Int) : Int := if x < y then -1 else if y < x then 1 else 0
def cS (x y : T) : Int := if x < y then -1 else if x = y then 0 else 1
/-- One name before another. -/
def nmLt (p : T) (i : Int) (q : T) (j : Int) : Bool := decide (p < q) || (p == q && decide (i < j))
def cN (p : T) (i : Int) (q : T) (j : Int) : Int := if cS p q ≠ 0 then cS p q else cI i j
theorem cN_lt (p : T) (i : Int) (q : T) (j : Int) : decide (0 ≤ cN p i q j) = !nmLt p i q j := by
  unfold cN cS cI nmLt
  by_cases h1 : p < q
  · simp [h1]
  · by_cases h2 : p = q
    · subst h2
      by_cases h3 : i < j
      · simp [h1, h3]
      · by_cases h4 : j < i <;> simp [h1, h3, h4]
    · simp [h1, h2]

set_option maxRecDepth 100000 in
theorem cmpInt_any (x y : Int) (w : World) : Calls Tryz.prog 76 #[.int .i64 x, .int .i64 y] w fun e w' => e = .returned (.int .i64 (cI x y)) ∧ w' = w := by
  unfold cI
  by_cases h1 : x < y
  · rw [if_pos h1]
    go_enter Tryz.func76, Tryz.ntmps76
    go_wp2
    go_ret
    exact ⟨rfl, rfl⟩
  · rw [if_neg h1]
    by_cases h2 : y < x
    · rw [if_pos h2]
      go_enter Tryz.func76, Tryz.ntmps76
      go_wp2
      go_ret
      exact ⟨rfl, rfl⟩
    · rw [if_neg h2]
      go_enter Tryz.func76, Tryz.ntmps76
      go_wp2
      go_ret
      exact ⟨rfl, rfl⟩
set_option maxRecDepth 100000 in
theorem cmpStr_any (x y : T) (w : World) : Calls Tryz.prog 75 #[tv x, tv y] w fun e w' => e = .returned (.int .i64 (cS x y)) ∧ w' = w := by
  unfold cS
  by_cases h1 : x < y
  · rw [if_pos h1]
    have t1 : Op.bytesLess x y = true := by rw [bytesLess_eq]; simpa using h1
    clear h1
    go_enter Tryz.func75, Tryz.ntmps75
    go_wp2
    go_ret
    exact ⟨rfl, rfl⟩
  · rw [if_neg h1]
    have t1 : Op.bytesLess x y = false := by rw [bytesLess_eq]; simpa using h1
    clear h1
    by_cases h2 : x = y
    · rw [if_pos h2]
      have t2 : (x == y) = true := by simpa using h2
      clear h2
      go_enter Tryz.func75, Tryz.ntmps75
      go_wp2
      go_ret
      exact ⟨rfl, rfl⟩
    · rw [if_neg h2]
      have t2 : (x == y) = false := by simpa using h2
      clear h2
      go_enter Tryz.func75, Tryz.ntmps75
      go_wp2
      go_ret
      exact ⟨rfl, rfl⟩
set_option maxRecDepth 100000 in
theorem or2_any (x y : Int) (g : Nat) (w : World) (c0 : w.cell? ⟨g, 0, none⟩ = some (.int .i64 x)) (c1 : w.cell? ⟨g, 1, none⟩ = some (.int .i64 y)) : Calls Tryz.prog 74 #[.slice (some ⟨g, 0, none⟩) 2 2] w fun e w' => e = .returned (.int .i64 (if x ≠ 0 then x else y)) ∧ w' = w := by
  by_cases h1 : x = 0
  · rw [if_neg (by simpa using h1)]
    subst h1
    by_cases h2 : y = 0
    · subst h2
      go_enter Tryz.func74, Tryz.ntmps74
      go_wp2
      refine wp_loop_rounds 3 ?_
      rw [rounds_succ]
      go_wp2
      rw [rounds_succ]
      go_wp2
      rw [rounds_succ]
      go_wp2
      go_ret
      exact ⟨rfl, rfl⟩
    · have t2 : (y != 0) = true := by simpa using h2
      clear h2
      go_enter Tryz.func74, Tryz.ntmps74
      go_wp2
      refine wp_loop_rounds 2 ?_
      rw [rounds_succ]
      go_wp2
      rw [rounds_succ]
      go_wp2
      go_ret
      exact ⟨rfl, rfl⟩
  · rw [if_pos (by simpa using h1)]
    have t2 : (x != 0) = true := by simpa using h1
    clear h1
    go_enter Tryz.func74, Tryz.ntmps74
    go_wp2
    refine wp_loop_rounds 1 ?_
    rw [rounds_succ]
    go_wp2
    go_ret
    exact ⟨rfl, rfl⟩
set_option maxRecDepth 100000 in
set_option maxHeartbeats 2000000 in
theorem less_any (p : T) (i : Int) (q : T) (j : Int) (w : World) : Calls Tryz.prog 61 #[.agg #[tv p, .int .i64 i], .agg #[tv q, .int .i64 j]] w fun e w' => e = .returned (.bool (nmLt p i q j)) ∧ Below w.heap.size w w' := by
  have bel : ∀ o o', Below w.heap.size w ((w.alloc o).alloc o') := fun o o' => ((Below.refl _ _).alloc (Nat.le_refl _) _).alloc (by simp) _
  have BEL := Lib.hid bel
  clear bel
  unfold nmLt
  rw [← bytesLess_eq]
  cases h1 : Op.bytesLess p q with
  | true =>
    go_enter Tryz.func61, Tryz.ntmps61
    go_wp2
    go_ret
    exact ⟨rfl, BEL.out _ _⟩
  | false =>
    cases h2 : (p == q) with
    | true =>
      go_enter Tryz.func61, Tryz.ntmps61
      go_wp2
      go_ret
      exact ⟨rfl, BEL.out _ _⟩
    | false =>
      go_enter Tryz.func61, Tryz.ntmps61
      go_wp2
      go_ret
      exact ⟨rfl, BEL.out _ _⟩
end Go.Proofs.YtgboboljgcfggaaGreatDoor

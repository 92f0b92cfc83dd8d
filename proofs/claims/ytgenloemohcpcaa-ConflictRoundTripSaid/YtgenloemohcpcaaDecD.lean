/- Walks: next, GetTexts. -/
import Derived.Test.YtgenloemohcpcaaDecC
import Derived.Test.YtgenloemohcpcaaApp
namespace Go.Proofs.Ytgenloemohcpcaa
open Go.RowKit

set_option maxRecDepth 100000 in
set_option maxHeartbeats 1000000 in
theorem nextInt_any (l : T) (w : World) (hl : l.length ≤ 1000000000) :
    Calls Try.prog 53 #[tv l, .int .i64 0, .func (.func 54) #[] #[]] w fun e w' => e = gi3 l ∧ w = w' := by
  have ed := ext_drop l 0
  rw [List.drop_zero] at ed
  obtain ⟨n, k, c, hg⟩ : ∃ n k c, gi l = (n, k, c) := ⟨_, _, _, rfl⟩
  have E : Hid (gi3 l = .returned (.tuple #[.int .i64 n, .int .i64 k, .int .i64 c])) := Lib.hid (by unfold gi3; rw [hg])
  have hk : k ≤ l.length := by
    by_cases h0 : c = 0
    · subst h0; exact gi_len hg
    · have := (giF_err 6 0 0 1 l (by change (gi l).2.2 ≠ 0; rw [hg]; exact h0)).2
      change (gi l).2.1 = 0 at this
      rw [hg] at this
      simp at this
      omega
  clear hg
  go_enter Try.func53, Try.ntmps53
  go_wp2_with (go_at_call 54; refine (getInt_any l _).mono ?_; rintro e w' ⟨rfl, rfl⟩; rw [E.out])
  go_ret3
  exact ⟨by rw [E.out]; simp, rfl⟩

set_option maxRecDepth 100000 in
set_option maxHeartbeats 1000000 in
theorem nextText_any (l : T) (j : Nat) (w : World) (hl : l.length ≤ 1000000000) (hj : j ≤ l.length) :
    Calls Try.prog 55 #[tv l, .int .i64 j, .func (.func 56) #[] #[]] w fun e w' => e = .returned (.tuple #[tv (gt (l.drop j)).1, .int .i64 ((j + (gt (l.drop j)).2.1 : Nat) : Int), .int .i64 (gt (l.drop j)).2.2]) ∧ w = w' := by
  have ed := ext_drop l j
  obtain ⟨x, k, c, hg⟩ : ∃ x k c, gt (l.drop j) = (x, k, c) := ⟨_, _, _, rfl⟩
  have E : Hid (gt3 (l.drop j) = .returned (.tuple #[tv x, .int .i64 k, .int .i64 c])) := Lib.hid (by unfold gt3; rw [hg])
  have hk : k ≤ 1000000000 := gt_len hg (by rw [List.length_drop]; omega)
  have HG := Lib.hid hg
  rw [hg]
  clear hg
  go_enter Try.func55, Try.ntmps55
  go_wp2_with (go_at_call 56; refine (getText_any (l.drop j) _ (by rw [List.length_drop]; omega)).mono ?_; rintro e w' ⟨rfl, rfl⟩; rw [E.out])
  go_ret3
  exact ⟨by simp, rfl⟩

/-- What GetTexts returns. -/
def TextsPost (s : T) (w : World) (e : Ending) (w' : World) : Prop :=
  ∃ A c, e = .returned (.tuple #[.slice A (gts s).1.length c, .int .i64 (gts s).2.1, .int .i64 (gts s).2.2]) ∧ (gts s).1.length ≤ c ∧ RD w' A (gts s).1 ∧ Below w.heap.size w w'
theorem texts_err {s : T} {c : Int} (h : gts s = ([], 0, c)) {w w' : World} (hb : Below w.heap.size w w') : TextsPost s w (.returned (.tuple #[.slice none 0 0, .int .i64 0, .int .i64 c])) w' :=
  ⟨none, 0, by rw [h]; rfl, by rw [h]; exact Nat.le_refl _, by rw [h]; exact .inl rfl, hb⟩
theorem texts_ok {s : T} {L : List T} {k base : Nat} {v : Value} (h : gts s = (L, k, 0)) {w w' : World} (ho : OT w' base v L) (hb : Below w.heap.size w w') : TextsPost s w (.returned (.tuple #[v, .int .i64 k, .int .i64 0])) w' := by
  obtain ⟨A, c, rfl, hc, hr, -⟩ := ho.form
  exact ⟨A, c, by rw [h], by rw [h]; exact hc, by rw [h]; exact hr, hb⟩
theorem gtsF_err {n k : Nat} {acc : List T} {s : T} (h : (gt (s.drop k)).2.2 ≠ 0) : gtsF (n + 1) k acc s = ([], 0, (gt (s.drop k)).2.2) := by simp only [gtsF]; rw [if_pos h]
theorem gtsF_go {n k j : Nat} {acc : List T} {s x : T} (h : gt (s.drop k) = (x, j, 0)) : gtsF (n + 1) k acc s = gtsF n (k + j) (acc ++ [x]) s := by simp only [gtsF]; rw [h]; simp

theorem app_below {w wr w1 : World} {o : Obj} {b : Value} {acc : List T} (hb : Below w.heap.size w wr) (ho : OT wr w.heap.size b acc) (hg : (wr.alloc o).grownBy w1 b.ownBlock) : Below w.heap.size w w1 :=
  (hb.alloc hb.size o).grown hg (hb.alloc hb.size o).size fun k hk => (World.ownsRow.lt (ho.alloc o) k hk).1

set_option maxRecDepth 100000 in
set_option maxHeartbeats 2000000 in
theorem getTexts_any (s : T) (w : World) (hl : s.length ≤ 1000000000) : Calls Try.prog 40 #[tv s] w (TextsPost s w) := by
  obtain ⟨n, k, c, hg⟩ : ∃ n k c, gi s = (n, k, c) := ⟨_, _, _, rfl⟩
  have E : Hid (gi3 s = .returned (.tuple #[.int .i64 n, .int .i64 k, .int .i64 c])) := Lib.hid (by unfold gi3; rw [hg])
  have GT : Hid (gts s = if c ≠ 0 then ([], 0, c) else if 1000 < n then ([], 0, 13) else gtsF n k [] s) := Lib.hid (by unfold gts; rw [hg])
  have HG := Lib.hid hg
  clear hg
  go_enter Try.func40, Try.ntmps40
  by_cases h0 : c = 0
  · subst h0
    have hk := gi_len HG.out
    by_cases h1 : 1000 < n
    · have G := Lib.hid (show gts s = ([], 0, 13) by rw [GT.out, if_neg (by simp), if_pos h1])
      go_wp2_with (go_at_call 53; refine (nextInt_any s _ (by omega)).mono ?_; rintro e w' ⟨rfl, rfl⟩; rw [E.out])
      go_ret3
      exact texts_err G.out (Below.refl _ _)
    · have G := Lib.hid (show gts s = gtsF n k [] s by rw [GT.out, if_neg (by simp), if_neg h1])
      go_wp2_with (go_at_call 53; refine (nextInt_any s _ (by omega)).mono ?_; rintro e w' ⟨rfl, rfl⟩; rw [E.out])
      go_loopw [6, 8, 22] (fun a b i wr => ∃ (j m : Nat) (acc : List T), j ≤ n ∧ i = .int .i64 j ∧ a = .int .i64 m ∧ m ≤ s.length ∧ acc.length = j ∧ OT wr w.heap.size b acc ∧ Hid (gts s = gtsF (n - j) m acc s) ∧ Below w.heap.size w wr) (fun _ _ i _ => n - (intOf i).toNat)
      case atStart => exact ⟨0, k, [], Nat.zero_le _, rfl, rfl, hk, rfl, OT.nil _ _, Lib.hid (by simpa using G.out), Below.refl _ _⟩
      case round =>
        obtain ⟨j, m, acc, hj, rfl, rfl, hm, ha, hown, H, hbe⟩ := hrel
        have HA := Lib.hid ha
        have HB := Lib.hid hbe
        have HO := Lib.hid hown
        clear ha hbe hown
        by_cases hlt : j < n
        · obtain ⟨x, q, c, hx⟩ : ∃ x q c, gt (s.drop m) = (x, q, c) := ⟨_, _, _, rfl⟩
          have HX := Lib.hid hx
          have X3 : Hid (gt3 (s.drop m) = .returned (.tuple #[tv x, .int .i64 q, .int .i64 c])) := Lib.hid (by unfold gt3; rw [hx])
          have ed := ext_drop s m
          have hq : q ≤ s.length - m := by have := gt_len hx (Nat.le_refl _); rw [List.length_drop] at this; exact this
          clear hx
          by_cases hc : c = 0
          · subst hc
            have G2 := Lib.hid (show gts s = gtsF (n - (j + 1)) (m + q) (acc ++ [x]) s by rw [H.out, show n - j = (n - (j + 1)) + 1 by omega]; exact gtsF_go HX.out)
            go_wp2_with (first | (go_at_call 55; refine (nextText_any s m _ (by omega) hm).mono ?_; rintro e w2 ⟨rfl, rfl⟩; rw [HX.out]) | (at_builtin; refine wpList_app _ rfl _ _ rfl w.heap.size rfl (HO.out.alloc _) (M := [x]) (m := 1) (c := 1) rfl rfl (rd_one _ _ _) (by have := HA.out; simp; omega) (by have := HB.out.size; simp; omega) ?_; intro v' w1 hown1 hg1 _))
            have HO1 := Lib.hid hown1
            have HG1 := Lib.hid hg1
            clear hown1 hg1
            go_wp2_with fail
            go_roundw
            case rel => exact ⟨j + 1, m + q, acc ++ [x], by omega, by go_num, by go_num, by omega, by have := HA.out; simp; omega, HO1.out, G2, app_below HB.out HO.out HG1.out⟩
            case measure => simp [intOf]; omega
          · have hcc : (c != 0) = true := by simpa using hc
            have G2 := Lib.hid (show gts s = ([], 0, c) by have e : (gt (s.drop m)).2.2 = c := (by rw [HX.out]); rw [H.out, show n - j = (n - (j + 1)) + 1 by omega, gtsF_err (by rw [e]; exact hc), e])
            clear hc
            go_wp2_with (go_at_call 55; refine (nextText_any s m _ (by omega) hm).mono ?_; rintro e w2 ⟨rfl, rfl⟩; rw [HX.out])
            go_ret3
            exact texts_err G2.out HB.out
        · have G2 := Lib.hid (show gts s = (acc, m, 0) by rw [H.out, show n - j = 0 by omega]; rfl)
          go_wp2
          go_ret3
          exact texts_ok G2.out HO.out HB.out
  · have hc : (c != 0) = true := by simpa using h0
    have G := Lib.hid (show gts s = ([], 0, c) by rw [GT.out, if_pos h0])
    clear h0
    go_wp2_with (go_at_call 53; refine (nextInt_any s _ (by omega)).mono ?_; rintro e w' ⟨rfl, rfl⟩; rw [E.out])
    go_ret3
    exact texts_err G.out (Below.refl _ _)

set_option maxRecDepth 100000 in
set_option maxHeartbeats 2000000 in
theorem rgetTexts_any (s : T) (w : World) (hl : s.length ≤ 1000000000) : Calls Try.prog 41 #[tv s] w (TextsPost s w) := by
  obtain ⟨n, k, c, hg⟩ : ∃ n k c, gi s = (n, k, c) := ⟨_, _, _, rfl⟩
  have E : Hid (gi3 s = .returned (.tuple #[.int .i64 n, .int .i64 k, .int .i64 c])) := Lib.hid (by unfold gi3; rw [hg])
  have GT : Hid (gts s = if c ≠ 0 then ([], 0, c) else if 1000 < n then ([], 0, 13) else gtsF n k [] s) := Lib.hid (by unfold gts; rw [hg])
  have HG := Lib.hid hg
  clear hg
  go_enter Try.func41, Try.ntmps41
  by_cases h0 : c = 0
  · subst h0
    have hk := gi_len HG.out
    by_cases h1 : 1000 < n
    · have G := Lib.hid (show gts s = ([], 0, 13) by rw [GT.out, if_neg (by simp), if_pos h1])
      go_wp2_with (go_at_call 57; refine (rgetInt_any s _).mono ?_; rintro e w' ⟨rfl, rfl⟩; rw [E.out])
      go_ret3
      exact texts_err G.out (Below.refl _ _)
    · have G := Lib.hid (show gts s = gtsF n k [] s by rw [GT.out, if_neg (by simp), if_neg h1])
      go_wp2_with (go_at_call 57; refine (rgetInt_any s _).mono ?_; rintro e w' ⟨rfl, rfl⟩; rw [E.out])
      go_loopw [6, 8, 9] (fun a b i wr => ∃ (j m : Nat) (acc : List T), j ≤ n ∧ i = .int .i64 j ∧ a = .int .i64 m ∧ m ≤ s.length ∧ acc.length = j ∧ OT wr w.heap.size b acc ∧ Hid (gts s = gtsF (n - j) m acc s) ∧ Below w.heap.size w wr) (fun _ _ i _ => n - (intOf i).toNat)
      case atStart => exact ⟨0, k, [], Nat.zero_le _, rfl, rfl, hk, rfl, ot_empty _ (Nat.le_refl _), Lib.hid (by simpa using G.out), (Below.refl _ _).alloc (Nat.le_refl _) _⟩
      case round =>
        obtain ⟨j, m, acc, hj, rfl, rfl, hm, ha, hown, H, hbe⟩ := hrel
        have HA := Lib.hid ha
        have HB := Lib.hid hbe
        have HO := Lib.hid hown
        clear ha hbe hown
        by_cases hlt : j < n
        · obtain ⟨x, q, c, hx⟩ : ∃ x q c, gt (s.drop m) = (x, q, c) := ⟨_, _, _, rfl⟩
          have HX := Lib.hid hx
          have X3 : Hid (gt3 (s.drop m) = .returned (.tuple #[tv x, .int .i64 q, .int .i64 c])) := Lib.hid (by unfold gt3; rw [hx])
          have ed := ext_drop s m
          have hq : q ≤ s.length - m := by have := gt_len hx (Nat.le_refl _); rw [List.length_drop] at this; exact this
          clear hx
          by_cases hc : c = 0
          · subst hc
            have G2 := Lib.hid (show gts s = gtsF (n - (j + 1)) (m + q) (acc ++ [x]) s by rw [H.out, show n - j = (n - (j + 1)) + 1 by omega]; exact gtsF_go HX.out)
            go_wp2_with (first | (go_at_call 58; refine (rgetText_any (s.drop m) _ (by rw [List.length_drop]; omega)).mono ?_; rintro e w2 ⟨rfl, rfl⟩; rw [X3.out]) | (at_builtin; refine wpList_app _ rfl _ _ rfl w.heap.size rfl (HO.out.alloc _) (M := [x]) (m := 1) (c := 1) rfl rfl (rd_one _ _ _) (by have := HA.out; simp; omega) (by have := HB.out.size; simp; omega) ?_; intro v' w1 hown1 hg1 _))
            have HO1 := Lib.hid hown1
            have HG1 := Lib.hid hg1
            clear hown1 hg1
            go_wp2_with fail
            go_roundw
            case rel => exact ⟨j + 1, m + q, acc ++ [x], by omega, by go_num, by go_num, by omega, by have := HA.out; simp; omega, HO1.out, G2, app_below HB.out HO.out HG1.out⟩
            case measure => simp [intOf]; omega
          · have hcc : (c != 0) = true := by simpa using hc
            have G2 := Lib.hid (show gts s = ([], 0, c) by have e : (gt (s.drop m)).2.2 = c := (by rw [HX.out]); rw [H.out, show n - j = (n - (j + 1)) + 1 by omega, gtsF_err (by rw [e]; exact hc), e])
            clear hc
            go_wp2_with (go_at_call 58; refine (rgetText_any (s.drop m) _ (by rw [List.length_drop]; omega)).mono ?_; rintro e w2 ⟨rfl, rfl⟩; rw [X3.out])
            go_ret3
            exact texts_err G2.out HB.out
        · have G2 := Lib.hid (show gts s = (acc, m, 0) by rw [H.out, show n - j = 0 by omega]; rfl)
          go_wp2
          go_ret3
          exact texts_ok G2.out HO.out HB.out
  · have hc : (c != 0) = true := by simpa using h0
    have G := Lib.hid (show gts s = ([], 0, c) by rw [GT.out, if_pos h0])
    clear h0
    go_wp2_with (go_at_call 57; refine (rgetInt_any s _).mono ?_; rintro e w' ⟨rfl, rfl⟩; rw [E.out])
    go_ret3
    exact texts_err G.out (Below.refl _ _)

end Go.Proofs.Ytgenloemohcpcaa

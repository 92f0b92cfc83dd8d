/- Walks: GetText, next. -/
import Derived.Test.YtgboboljgcfggaaGreatDoorDcA
namespace Go.Proofs.YtgboboljgcfggaaGreatDoor
open Go.RowKit

theorem gi_len {l : T} {v k : Nat} (h : gi l = (v, k, 0)) : k ≤ l.length := by
  obtain ⟨r, e1, e2, -⟩ := gi_inv h
  rw [e1, e2]; simp

def gt3 (l : T) : Ending := .returned (.tuple #[tv (gt l).1, .int .i64 (gt l).2.1, .int .i64 (gt l).2.2])
theorem gt3_of {l x : T} {b : Nat} {c : Int} (h : gt l = (x, b, c)) {y z : Int} {v : Value} (hx : v = tv x) (hy : y = b) (hz : z = c) : Ending.returned (.tuple #[v, .int .i64 y, .int .i64 z]) = gt3 l := by
  unfold gt3; rw [h, hx, hy, hz]

theorem gt_len {l x : T} {k : Nat} {c : Int} {n : Nat} (h : gt l = (x, k, c)) (hn : l.length ≤ n) : k ≤ n := by
  by_cases h0 : c = 0
  · subst h0
    obtain ⟨r, e1, e2, -⟩ := gt_inv h
    rw [e1, List.length_append, ← e2] at hn
    omega
  · unfold gt at h
    repeat' split at h
    all_goals simp only [Prod.mk.injEq] at h
    all_goals first | omega | exact absurd h.2.2.symm h0
theorem extb_take (l : T) (a n : Nat) : (⟨l.toArray⟩ : ByteArray).extract a (a + n) = ⟨((l.drop a).take n).toArray⟩ := by
  apply ByteArray.ext
  simp [ByteArray.data_extract, List.take_drop]
theorem extb_drop (l : T) (a : Nat) : (⟨l.toArray⟩ : ByteArray).extract a l.length = ⟨(l.drop a).toArray⟩ := by
  apply ByteArray.ext
  simp [ByteArray.data_extract, List.take_of_length_le]

set_option maxRecDepth 100000 in
set_option maxHeartbeats 1000000 in
theorem getText_any (l : T) (w : World) (hl : l.length ≤ 1000000000) :
    Calls Tryz.prog 50 #[tv l] w fun e w' => e = gt3 l ∧ w = w' := by
  obtain ⟨n, k, c, hg⟩ : ∃ n k c, gi l = (n, k, c) := ⟨_, _, _, rfl⟩
  have e1 : (gi l).1 = n := by rw [hg]
  have e2 : (gi l).2.1 = k := by rw [hg]
  have e3 : (gi l).2.2 = c := by rw [hg]
  have HG := Lib.hid hg
  have E : Hid (gi3 l = .returned (.tuple #[.int .i64 n, .int .i64 k, .int .i64 c])) := Lib.hid (by unfold gi3; rw [hg])
  have GT : Hid (gt l = if c ≠ 0 then ([], 0, c) else if 65536 < n then ([], 0, 13) else if l.length - k < n then ([], 0, 12) else ((l.drop k).take n, k + n, 0)) := Lib.hid (by unfold gt; rw [hg])
  clear e1 e2 e3 hg
  go_enter Tryz.func50, Tryz.ntmps50
  by_cases h0 : c = 0
  · subst h0
    have hk := gi_len HG.out
    by_cases h1 : 65536 < n
    · have G := Lib.hid (show gt l = ([], 0, 13) by rw [GT.out, if_neg (by simp), if_pos h1])
      go_wp2_with (go_at_call 48; refine (getInt_any l _).mono ?_; rintro e w' ⟨rfl, rfl⟩; rw [E.out])
      go_ret3
      exact ⟨gt3_of G.out rfl rfl rfl, rfl⟩
    · by_cases h2 : l.length - k < n
      · have G := Lib.hid (show gt l = ([], 0, 12) by rw [GT.out, if_neg (by simp), if_neg h1, if_pos h2])
        go_wp2_with (go_at_call 48; refine (getInt_any l _).mono ?_; rintro e w' ⟨rfl, rfl⟩; rw [E.out])
        go_ret3
        exact ⟨gt3_of G.out rfl rfl rfl, rfl⟩
      · have G := Lib.hid (show gt l = ((l.drop k).take n, k + n, 0) by rw [GT.out, if_neg (by simp), if_neg h1, if_neg h2])
        go_wp2_with (go_at_call 48; refine (getInt_any l _).mono ?_; rintro e w' ⟨rfl, rfl⟩; rw [E.out])
        go_ret3
        exact ⟨gt3_of G.out (by rw [extb_take]; rfl) (by omega) rfl, rfl⟩
  · have hc : (c != 0) = true := by simpa using h0
    have G := Lib.hid (show gt l = ([], 0, c) by rw [GT.out, if_pos h0])
    go_wp2_with (go_at_call 48; refine (getInt_any l _).mono ?_; rintro e w' ⟨rfl, rfl⟩; rw [E.out])
    go_ret3
    exact ⟨gt3_of G.out rfl rfl rfl, rfl⟩
end Go.Proofs.YtgboboljgcfggaaGreatDoor

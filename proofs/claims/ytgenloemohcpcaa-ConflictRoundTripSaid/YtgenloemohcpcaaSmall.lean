/- Walks of the reference's Check and of the small functions on sums. -/
import Derived.Test.YtgenloemohcpcaaChk
namespace Go.Proofs.Ytgenloemohcpcaa
open Go.RowKit

theorem has_q (A : Option Addr) (c : Nat) (L : List T) (x : T) (w : World) (hA : RD w A L) (hl : L.length ≤ 9223372036854775807) :
    Calls Try.prog 39 #[.slice A L.length c, tv x] w fun e w' => e = .returned (.bool (hasB L x)) ∧ w' = w :=
  (has_any A c L x w hA hl).mono fun _ _ h => ⟨h.1, h.2.symm⟩

theorem has_v (v : Bool) (A : Option Addr) (c : Nat) (L : List T) (x : T) (w : World) (hv : hasB L x = v) (hA : RD w A L) (hl : L.length ≤ 9223372036854775807) :
    Calls Try.prog 39 #[.slice A L.length c, tv x] w fun e w' => e = .returned (.bool v) ∧ w' = w := by subst hv; exact has_q A c L x w hA hl

/-- A quiet call behind a draw. -/
theorem quietA {P : Program} {f : FuncId} {args : Array Value} {w : World} {a n : Nat} {v : Value} (h : Calls P f args (w.drewN (a + n)) fun e w' => e = .returned v ∧ w' = w.drewN (a + n)) :
    Calls P f args (w.drewN (a + n)) fun e w'' => e = .returned v ∧ ∃ m, w'' = w.drewN (a + m) := h.mono fun _ _ k => ⟨k.1, n, k.2⟩

theorem two_cells (w : World) (x y : Value) (t : TypeId) : (w.alloc (Obj.cells #[x, y] t)).cell? ⟨w.heap.size, 0, none⟩ = some x ∧ (w.alloc (Obj.cells #[x, y] t)).cell? ⟨w.heap.size, 1, none⟩ = some y := by
  constructor <;> simp [World.cell?_alloc_at]

set_option maxHeartbeats 1000000 in
theorem rcheck_any (A B : Option Addr) (c d : Nat) (L M : List T) (w : World) (hA : RD w A L) (hB : RD w B M) (hl : L.length ≤ 9223372036854775807) (hm : M.length ≤ 9223372036854775806) :
    Calls Try.prog 22 #[sv A B L.length c M.length d] w fun e w' => e = .returned (.int .i64 (chk L M)) ∧ Below w.heap.size w w' := by
  by_cases h1 : L.length = M.length + 1
  · have t1 : ((L.length : Int) != (M.length : Int) + 1) = false := by simp [h1]
    by_cases h2 : 1000 < L.length
    · rw [chk2 h1 h2]
      clear h1
      go_enter Try.func22, Try.ntmps22
      go_wp2_with fail
      go_ret
      exact ⟨rfl, (Below.refl _ _).alloc (Nat.le_refl _) _⟩
    · by_cases h3 : lst L = 0
      · by_cases h4 : lst M = 0
        · rw [chk5 h1 h2 h3 h4]
          have t3 : (lst L != 0) = false := by simp [h3]
          have t4 : (lst M != 0) = false := by simp [h4]
          have t2 : decide (1000 < (L.length : Int)) = false := by simp; omega
          clear h1 h3 h4
          go_enter Try.func22, Try.ntmps22
          go_wp2_with fail
          refine (ascending_any A c L _ (hA.alloc _) hl).mono ?_
          rintro e w' ⟨rfl, n1, rfl⟩
          go_wp2_with fail
          refine (ascending_any B d M _ ((hB.alloc _).drewN _) (by omega)).mono ?_
          rintro e w' ⟨rfl, n2, rfl⟩
          go_wp2_with fail
          obtain ⟨f0, f1⟩ := two_cells w (Value.slice A L.length c) (Value.slice B M.length d) 24
          have b0 : Below w.heap.size w (w.alloc (Obj.cells #[Value.slice A L.length c, Value.slice B M.length d] 24)) := (Below.refl _ _).alloc (Nat.le_refl _) _
          generalize w.alloc (Obj.cells #[Value.slice A L.length c, Value.slice B M.length d] 24) = W at *
          have hA' := hA.below b0
          have hB' := hB.below b0
          clear hA hB
          have B0 := Lib.hid b0
          clear b0
          go_loopw [5] (fun i wr => ∃ x n : Nat, x ≤ L.length ∧ i = .int .i64 x ∧ Hid (∀ z ∈ L.take x, z ∉ M) ∧ wr = W.drewN n) (fun i _ => L.length - (intOf i).toNat)
          case atStart => exact ⟨0, _, Nat.zero_le _, rfl, by simp [Hid], rfl⟩
          case round =>
            obtain ⟨x, n, hx, rfl, ht, rfl⟩ := hrel
            by_cases hxl : x < L.length
            · obtain ⟨a, rfl, hab, hac⟩ := hA'.at hxl
              by_cases e : L[x] ∈ M
              · have he := hasB_yes e
                have hc : com L M = true := by
                  unfold com
                  rw [List.any_eq_true]
                  exact ⟨_, List.getElem_mem hxl, he⟩
                have HC := Lib.hid hc
                clear e hc
                go_wp2
                go_quiet ((go_at_call 39; exact quietA (has_v true _ _ _ _ _ he (hB'.drewN _) (by omega))))
                go_wp2
                go_ret
                exact ⟨by rw [cc_yes HC.out]; rfl, by simpa using below_drewN B0.out _⟩
              · have he := hasB_no e
                have hn : ∀ z ∈ L.take (x + 1), z ∉ M := by
                  intro z hz
                  rw [List.take_succ_eq_append_getElem hxl, List.mem_append, List.mem_singleton] at hz
                  rcases hz with hz | rfl
                  · exact ht.out z hz
                  · exact e
                have HN := Lib.hid hn
                clear e hn
                go_wp2
                go_quiet ((go_at_call 39; exact quietA (has_v false _ _ _ _ _ he (hB'.drewN _) (by omega))))
                go_wp2
                go_roundw
                case rel => exact ⟨x + 1, _, by omega, by go_num, HN.out, rfl⟩
                case measure => simp [intOf]; omega
            · have hc : com L M = false := by
                rw [com_false]
                have := ht.out
                rw [List.take_of_length_le (by omega)] at this
                exact this
              have HC := Lib.hid hc
              clear hc
              go_wp2
              go_ret
              exact ⟨by rw [cc_no HC.out]; rfl, below_drewN B0.out _⟩
        · rw [chk4 h1 h2 h3 h4]
          have t3 : (lst L != 0) = false := by simp [h3]
          have t4 : (lst M != 0) = true := by simpa using h4
          clear h1 h3 h4
          go_enter Try.func22, Try.ntmps22
          go_wp2_with fail
          refine (ascending_any A c L _ (hA.alloc _) hl).mono ?_
          rintro e w' ⟨rfl, n1, rfl⟩
          go_wp2_with fail
          refine (ascending_any B d M _ ((hB.alloc _).drewN _) (by omega)).mono ?_
          rintro e w' ⟨rfl, n2, rfl⟩
          go_wp2_with fail
          go_ret
          exact ⟨rfl, below_drewN ((Below.refl _ _).alloc (Nat.le_refl _) _) _⟩
      · rw [chk3 h1 h2 h3]
        have t3 : (lst L != 0) = true := by simpa using h3
        clear h1 h3
        go_enter Try.func22, Try.ntmps22
        go_wp2_with fail
        refine (ascending_any A c L _ (hA.alloc _) hl).mono ?_
        rintro e w' ⟨rfl, n1, rfl⟩
        go_wp2_with fail
        go_ret
        exact ⟨rfl, below_drewN ((Below.refl _ _).alloc (Nat.le_refl _) _) _⟩
  · rw [chk1 h1]
    have t1 : ((L.length : Int) != (M.length : Int) + 1) = true := by simp; omega
    clear h1
    go_enter Try.func22, Try.ntmps22
    go_wp2_with fail
    go_ret
    exact ⟨rfl, (Below.refl _ _).alloc (Nat.le_refl _) _⟩

def same2 (L M L' M' : List T) : Bool := decide (L = L') && decide (M = M')

set_option maxHeartbeats 1000000 in
theorem same2_any (A B A' B' : Option Addr) (c d c' d' : Nat) (L M L' M' : List T) (w : World) (hA : RD w A L) (hB : RD w B M) (hA' : RD w A' L') (hB' : RD w B' M') (hl : L.length ≤ 9223372036854775807) (hm : M.length ≤ 9223372036854775807) :
    Calls Try.prog 14 #[sv A B L.length c M.length d, sv A' B' L'.length c' M'.length d'] w fun e w' => e = .returned (.bool (same2 L M L' M')) ∧ Below w.heap.size w w' := by
  have bb : ∀ o o' n, Below w.heap.size w (((w.alloc o).alloc o').drewN n) := fun o o' n => below_drewN (((Below.refl _ _).alloc (Nat.le_refl _) o).alloc (by simp) o') n
  by_cases e : L = L'
  · have he : decide (L = L') = true := by simp [e]
    have hs : same2 L M L' M' = decide (M = M') := by simp [same2, e]
    rw [hs]
    clear hs e
    go_enter Try.func14, Try.ntmps14
    go_wp2_with fail
    refine (same_any A A' c c' L L' _ ((hA.alloc _).alloc _) ((hA'.alloc _).alloc _) hl).mono ?_
    rintro e w' ⟨rfl, n1, rfl⟩
    rw [he]
    go_wp2_with fail
    refine (same_any B B' d d' M M' _ (((hB.alloc _).alloc _).drewN _) (((hB'.alloc _).alloc _).drewN _) hm).mono ?_
    rintro e w' ⟨rfl, n2, rfl⟩
    go_wp2_with fail
    go_ret
    exact ⟨rfl, by simpa using bb _ _ _⟩
  · have he : decide (L = L') = false := by simpa using e
    have hs : same2 L M L' M' = false := by simp [same2, e]
    rw [hs]
    clear hs e
    go_enter Try.func14, Try.ntmps14
    go_wp2_with fail
    refine (same_any A A' c c' L L' _ ((hA.alloc _).alloc _) ((hA'.alloc _).alloc _) hl).mono ?_
    rintro e w' ⟨rfl, n1, rfl⟩
    rw [he]
    go_wp2_with fail
    go_ret
    exact ⟨rfl, bb _ _ _⟩

set_option maxHeartbeats 1000000 in
theorem equal2_any (A B A' B' : Option Addr) (c d c' d' : Nat) (L M L' M' : List T) (w : World) (hA : RD w A L) (hB : RD w B M) (hA' : RD w A' L') (hB' : RD w B' M') (hl : L.length ≤ 9223372036854775807) (hm : M.length ≤ 9223372036854775807) :
    Calls Try.prog 28 #[sv A B L.length c M.length d, sv A' B' L'.length c' M'.length d'] w fun e w' => e = .returned (.bool (same2 L M L' M')) ∧ Below w.heap.size w w' := by
  have bb : ∀ o o' n, Below w.heap.size w (((w.alloc o).alloc o').drewN n) := fun o o' n => below_drewN (((Below.refl _ _).alloc (Nat.le_refl _) o).alloc (by simp) o') n
  by_cases e : L = L'
  · have he : decide (L = L') = true := by simp [e]
    have hs : same2 L M L' M' = decide (M = M') := by simp [same2, e]
    rw [hs]
    clear hs e
    go_enter Try.func28, Try.ntmps28
    go_wp2_with fail
    refine (equal_any A A' c c' L L' _ ((hA.alloc _).alloc _) ((hA'.alloc _).alloc _) hl).mono ?_
    rintro e w' ⟨rfl, n1, rfl⟩
    rw [he]
    go_wp2_with fail
    refine (equal_any B B' d d' M M' _ (((hB.alloc _).alloc _).drewN _) (((hB'.alloc _).alloc _).drewN _) hm).mono ?_
    rintro e w' ⟨rfl, n2, rfl⟩
    go_wp2_with fail
    go_ret
    exact ⟨rfl, by simpa using bb _ _ _⟩
  · have he : decide (L = L') = false := by simpa using e
    have hs : same2 L M L' M' = false := by simp [same2, e]
    rw [hs]
    clear hs e
    go_enter Try.func28, Try.ntmps28
    go_wp2_with fail
    refine (equal_any A A' c c' L L' _ ((hA.alloc _).alloc _) ((hA'.alloc _).alloc _) hl).mono ?_
    rintro e w' ⟨rfl, n1, rfl⟩
    rw [he]
    go_wp2_with fail
    go_ret
    exact ⟨rfl, bb _ _ _⟩
end Go.Proofs.Ytgenloemohcpcaa

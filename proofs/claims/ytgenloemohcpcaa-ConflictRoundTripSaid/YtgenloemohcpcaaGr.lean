/- Walks: Great, great, Of, Value, Sides, Clone. -/
import Derived.Test.YtgenloemohcpcaaSmall
namespace Go.Proofs.Ytgenloemohcpcaa
open Go.RowKit

/-- Is a sum too large for the statements? -/
def gr (L M : List T) : Bool := decide (12 < L.length) || decide (12 < M.length) || L.any (fun x => decide (100 < x.length)) || M.any (fun x => decide (100 < x.length))

theorem gr_false {L M : List T} : gr L M = false ↔ L.length ≤ 12 ∧ M.length ≤ 12 ∧ (∀ x ∈ L, x.length ≤ 100) ∧ (∀ x ∈ M, x.length ≤ 100) := by
  simp only [gr, Bool.or_eq_false_iff, decide_eq_false_iff_not, List.any_eq_false, decide_eq_true_eq, Nat.not_lt]
  constructor
  · rintro ⟨⟨⟨a, b⟩, c⟩, d⟩; exact ⟨a, b, c, d⟩
  · rintro ⟨a, b, c, d⟩; exact ⟨⟨⟨a, b⟩, c⟩, d⟩
theorem gr_1 {L M : List T} (h : 12 < L.length) : gr L M = true := by simp [gr, h]
theorem gr_2 {L M : List T} (h : 12 < M.length) : gr L M = true := by simp [gr, h]
theorem gr_3 {L M : List T} {x : T} (hx : x ∈ L) (h : 100 < x.length) : gr L M = true := by
  rw [← Bool.not_eq_false]; intro e; have := (gr_false.1 e).2.2.1 x hx; omega
theorem gr_4 {L M : List T} {x : T} (hx : x ∈ M) (h : 100 < x.length) : gr L M = true := by
  rw [← Bool.not_eq_false]; intro e; have := (gr_false.1 e).2.2.2 x hx; omega

theorem all_step {L : List T} {k : Nat} (hk : k < L.length) (h : ∀ x ∈ L.take k, x.length ≤ 100) (h' : L[k].length ≤ 100) : ∀ x ∈ L.take (k + 1), x.length ≤ 100 := by
  intro z hz
  rw [List.take_succ_eq_append_getElem hk, List.mem_append, List.mem_singleton] at hz
  rcases hz with hz | rfl
  · exact h z hz
  · exact h'

set_option maxHeartbeats 1000000 in
theorem gr_any (A B : Option Addr) (c d : Nat) (L M : List T) (w : World) (hA : RD w A L) (hB : RD w B M) (hl : L.length ≤ 9223372036854775807) (hm : M.length ≤ 9223372036854775807) :
    Calls Try.prog 27 #[sv A B L.length c M.length d] w fun e w' => e = .returned (.bool (gr L M)) ∧ Below w.heap.size w w' := by
  have b0 : ∀ o, Below w.heap.size w (w.alloc o) := fun o => (Below.refl _ _).alloc (Nat.le_refl _) o
  by_cases h1 : 12 < L.length
  · rw [gr_1 h1]
    go_enter Try.func27, Try.ntmps27
    go_wp2
    go_ret
    exact ⟨rfl, b0 _⟩
  · by_cases h2 : 12 < M.length
    · rw [gr_2 h2]
      go_enter Try.func27, Try.ntmps27
      go_wp2
      go_ret
      exact ⟨rfl, b0 _⟩
    · have t1 : decide (12 < (L.length : Int)) = false := by simp; omega
      have t2 : decide (12 < (M.length : Int)) = false := by simp; omega
      obtain ⟨f0, f1⟩ := two_cells w (Value.slice A L.length c) (Value.slice B M.length d) 24
      have b1 := b0 (Obj.cells #[Value.slice A L.length c, Value.slice B M.length d] 24)
      have B0 := Lib.hid b1
      clear b0 b1
      go_enter Try.func27, Try.ntmps27
      go_wp2
      generalize w.alloc (Obj.cells #[Value.slice A L.length c, Value.slice B M.length d] 24) = W at *
      have hA' := hA.below B0.out
      have hB' := hB.below B0.out
      clear hA hB
      go_loop [3] (fun i => ∃ x : Nat, x ≤ L.length ∧ i = .int .i64 x ∧ Hid (∀ z ∈ L.take x, z.length ≤ 100)) (fun i => L.length - (intOf i).toNat)
      case atStart => exact ⟨0, Nat.zero_le _, rfl, by simp [Hid]⟩
      case round =>
        obtain ⟨x, hx, rfl, ht⟩ := hrel
        by_cases hxl : x < L.length
        · obtain ⟨a, rfl, hab, hac⟩ := hA'.at hxl
          by_cases e : 100 < L[x].length
          · have hg := gr_3 (M := M) (List.getElem_mem hxl) e
            have HG := Lib.hid hg
            clear hg
            go_wp2
            go_ret
            exact ⟨by rw [HG.out]; rfl, B0.out⟩
          · have hn := all_step hxl ht.out (by omega)
            have HN := Lib.hid hn
            clear hn
            go_wp2
            go_round
            case rel => exact ⟨x + 1, by omega, by go_num, HN.out⟩
            case measure => simp [intOf]; omega
        · have HT := Lib.hid (show ∀ z ∈ L, z.length ≤ 100 by have := ht.out; rwa [List.take_of_length_le (by omega)] at this)
          clear ht
          go_wp2
          go_loop [4] (fun i => ∃ y : Nat, y ≤ M.length ∧ i = .int .i64 y ∧ Hid (∀ z ∈ M.take y, z.length ≤ 100)) (fun i => M.length - (intOf i).toNat)
          case atStart => exact ⟨0, Nat.zero_le _, rfl, by simp [Hid]⟩
          case round =>
            obtain ⟨y, hy, rfl, ht⟩ := hrel
            by_cases hyl : y < M.length
            · obtain ⟨b, rfl, hbb, hbc⟩ := hB'.at hyl
              by_cases e : 100 < M[y].length
              · have hg := gr_4 (L := L) (List.getElem_mem hyl) e
                have HG := Lib.hid hg
                clear hg
                go_wp2
                go_ret
                exact ⟨by rw [HG.out]; rfl, B0.out⟩
              · have hn := all_step hyl ht.out (by omega)
                have HN := Lib.hid hn
                clear hn
                go_wp2
                go_round
                case rel => exact ⟨y + 1, by omega, by go_num, HN.out⟩
                case measure => simp [intOf]; omega
            · have hg : gr L M = false := gr_false.2 ⟨by omega, by omega, HT.out, by have := ht.out; rwa [List.take_of_length_le (by omega)] at this⟩
              have HG := Lib.hid hg
              clear hg
              go_wp2
              go_ret
              exact ⟨by rw [HG.out]; rfl, B0.out⟩

/-- A sum as it lies in memory. -/
structure SR where
  A : Option Addr
  B : Option Addr
  c : Nat
  d : Nat
  L : List T
  M : List T

def SR.val (s : SR) : Value := sv s.A s.B s.L.length s.c s.M.length s.d
structure SR.Rd (w : World) (s : SR) : Prop where
  a : RD w s.A s.L
  b : RD w s.B s.M
  ca : s.L.length ≤ s.c
  cb : s.M.length ≤ s.d
  la : s.L.length ≤ 9223372036854775806
  lb : s.M.length ≤ 9223372036854775806
def SumPost (L M : List T) (w : World) (e : Ending) (w' : World) : Prop := ∃ s : SR, e = .returned s.val ∧ s.Rd w' ∧ s.L = L ∧ s.M = M ∧ Below w.heap.size w w'

theorem SR.Rd.below {w w' : World} {s : SR} (h : s.Rd w) (hb : Below w.heap.size w w') : s.Rd w' := ⟨h.a.below hb, h.b.below hb, h.ca, h.cb, h.la, h.lb⟩

def grs (S : List SR) : Bool := S.any fun s => gr s.L s.M

set_option maxHeartbeats 1000000 in
theorem great_any (S : List SR) (b cap : Nat) (w : World) (hb : b < w.heap.size) (hS : ∀ s ∈ S, s.Rd w) (hn : S.length ≤ 1000)
    (h0 : ∀ j (h : j < S.length), w.cell? ⟨b, j * 2, none⟩ = some (.slice S[j].A S[j].L.length S[j].c))
    (h1 : ∀ j (h : j < S.length), w.cell? ⟨b, j * 2 + 1, none⟩ = some (.slice S[j].B S[j].M.length S[j].d)) :
    Calls Try.prog 10 #[.slice (some ⟨b, 0, none⟩) S.length cap] w fun e w' => e = .returned (.bool (grs S)) ∧ Below w.heap.size w w' := by
  go_enter Try.func10, Try.ntmps10
  go_wp2_with fail
  go_loopw [4, 7] (fun _ i wr => ∃ k : Nat, k ≤ S.length ∧ i = .int .i64 k ∧ Hid (∀ s ∈ S.take k, gr s.L s.M = false) ∧ Below w.heap.size w wr) (fun _ i _ => S.length - (intOf i).toNat)
  case atStart => exact ⟨0, Nat.zero_le _, rfl, by simp [Hid], Below.refl _ _⟩
  case round =>
    obtain ⟨k, hk, rfl, ht, hbe⟩ := hrel
    by_cases hlt : k < S.length
    · have c0 := (hbe.cell (p := ⟨b, k * 2, none⟩) hb).trans (h0 k hlt)
      have c1 := (hbe.cell (p := ⟨b, k * 2 + 1, none⟩) hb).trans (h1 k hlt)
      have hr' := (hS S[k] (List.getElem_mem hlt)).below hbe
      have HB := Lib.hid hbe
      have HM : S[k] ∈ S := List.getElem_mem hlt
      have HT : ∀ z ∈ S.take (k + 1), z ∈ S.take k ∨ z = S[k] := by
        intro z hz
        rw [List.take_succ_eq_append_getElem hlt, List.mem_append, List.mem_singleton] at hz
        exact hz
      have HM := Lib.hid HM
      have HT := Lib.hid HT
      clear h0 h1 hS
      generalize S[k] = sk at *
      obtain ⟨sA, sB, sc, sd, sL, sM⟩ := sk
      obtain ⟨ra, rb, -, -, rl, rm⟩ := hr'
      simp only at ra rb rl rm c0 c1
      by_cases hg : gr sL sM = true
      · have hgs : grs S = true := by
          unfold grs
          rw [List.any_eq_true]
          exact ⟨_, HM.out, hg⟩
        have HG := Lib.hid hgs
        have HG' := Lib.hid hg
        clear hgs hg
        go_wp2_with fail
        refine (gr_any sA sB sc sd sL sM _ (ra.alloc _) (rb.alloc _) (by omega) (by omega)).mono ?_
        rintro e w' ⟨rfl, hb'⟩
        rw [HG'.out]
        go_wp2_with fail
        go_ret
        exact ⟨by rw [HG.out]; rfl, (HB.out.alloc HB.out.size _).trans (hb'.mono (by have := HB.out.size; simp; omega))⟩
      · have hg' : gr sL sM = false := by simpa using hg
        have HG' := Lib.hid hg'
        clear hg hg'
        go_wp2_with fail
        refine (gr_any sA sB sc sd sL sM _ (ra.alloc _) (rb.alloc _) (by omega) (by omega)).mono ?_
        rintro e w' ⟨rfl, hb'⟩
        rw [HG'.out]
        go_wp2_with fail
        go_roundw
        case rel =>
          refine ⟨k + 1, by omega, by go_num, ?_, (HB.out.alloc HB.out.size _).trans (hb'.mono (by have := HB.out.size; simp; omega))⟩
          intro z hz
          rcases HT.out z hz with hz | rfl
          · exact ht.out z hz
          · exact HG'.out
        case measure => simp [intOf]; omega
    · have hgs : grs S = false := by
        unfold grs
        rw [List.any_eq_false]
        have := ht.out
        rw [List.take_of_length_le (by omega)] at this
        intro s hs
        simp [this s hs]
      have HG := Lib.hid hgs
      clear hgs
      go_wp2_with fail
      go_ret
      exact ⟨by rw [HG.out]; rfl, hbe⟩
end Go.Proofs.Ytgenloemohcpcaa

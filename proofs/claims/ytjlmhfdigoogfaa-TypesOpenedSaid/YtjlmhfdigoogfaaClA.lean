/- Walks for Close: its maps, its closure (64). -/
import Derived.Test.YtjlmhfdigoogfaaApF
namespace Go.Proofs.Ytjlmhfdigoogfaa
open Go.RowKit Go.ChangeMaps

/-- A set of numbers as a map to booleans. -/
def bml (l : List Int) : ML := l.map fun n => (n, .bool true)
def bins (l : List Int) (n : Int) : List Int := if n ∈ l then l else l ++ [n]
theorem bml_fnd (k : Int) : ∀ (l : List Int) (i : Nat), (k ∈ l ∧ ∃ j, fnd k (bml l) i = some (j, .bool true)) ∨ (k ∉ l ∧ fnd k (bml l) i = none)
  | [], _ => .inr ⟨by simp, rfl⟩
  | x :: l, i => by
    by_cases h : k = x
    · exact .inl ⟨by simp [h], i, by simp [bml, fnd, h]⟩
    · rcases bml_fnd k l (i + 1) with ⟨h1, j, h2⟩ | ⟨h1, h2⟩
      · exact .inl ⟨by simp [h1], j, by simpa [bml, fnd, h] using h2⟩
      · exact .inr ⟨by simp [h, h1], by simpa [bml, fnd, h] using h2⟩
theorem bml_get (k : Int) (l : List Int) : mget (bml l) k = if k ∈ l then some (.bool true) else none := by
  unfold mget
  rcases bml_fnd k l 0 with ⟨h1, j, h2⟩ | ⟨h1, h2⟩
  · rw [h2, if_pos h1]; rfl
  · rw [h2, if_neg h1]; rfl
theorem bml_put (k : Int) (l : List Int) : mput (bml l) k (.bool true) = bml (bins l k) := by
  unfold mput bins
  rcases bml_fnd k l 0 with ⟨h1, j, h2⟩ | ⟨h1, h2⟩
  · rw [h2, if_pos h1]
    exact lset_same (fnd_some h2)
  · rw [h2, if_neg h1]
    simp [bml]
theorem mem_bins (l : List Int) (n k : Int) : k ∈ bins l n ↔ k = n ∨ k ∈ l := by
  unfold bins
  split
  · rename_i h
    constructor
    · exact .inr
    · rintro (rfl | h')
      · exact h
      · exact h'
  · simp; exact or_comm
theorem blook {w : World} {b : Nat} {l : List Int} (h : MP w b (bml l)) (k : Int) : (Instr.lookup 95 (.map (some b)) (iv k) false).run Try.prog w = .ok (.bool (decide (k ∈ l))) w := by
  have h1 := (lookup_m h Try.underlying95 (z := .bool false) (by kernel_rfl) k).1
  rw [bml_get] at h1
  by_cases hk : k ∈ l
  · rw [if_pos hk] at h1; rw [h1]; simp [hk]
  · rw [if_neg hk] at h1; rw [h1]; simp [hk]
theorem bupd {w : World} {b : Nat} {l : List Int} (h : MP w b (bml l)) (k : Int) : (Instr.mapUpdate 95 (.map (some b)) (iv k) (.bool true)).run Try.prog w = .ok () (World.setM w b (bml (bins l k))) := by
  rw [← bml_put]
  exact update_m h Try.underlying95 k (.bool true)
/-- The numbers of the elements of a list. -/
def knl : List Int → Nat → KN
  | [], _ => []
  | n :: l, i => (n, (i : Int)) :: knl l (i + 1)
def nidx (n : Int) : List Int → Option Nat
  | [] => none
  | x :: l => if n = x then some 0 else (nidx n l).map (· + 1)
theorem knl_len : ∀ (l : List Int) (i : Nat), (knl l i).length = l.length
  | [], _ => rfl
  | _ :: l, i => by simp [knl, knl_len l]
theorem knl_get (n : Int) : ∀ (l : List Int) (i : Nat), kget n (knl l i) = (nidx n l).map fun j => ((i + j : Nat) : Int)
  | [], _ => rfl
  | x :: l, i => by
    by_cases h : n = x
    · simp [knl, kget, nidx, h]
    · simp only [knl, kget, nidx, if_neg h, knl_get n l (i + 1), Option.map_map]
      congr 1
      funext j
      simp only [Function.comp_apply]
      congr 1
      omega
theorem knl_put (n : Int) : ∀ (l : List Int) (i : Nat), n ∉ l → kput n ((i + l.length : Nat) : Int) (knl l i) = knl (l ++ [n]) i
  | [], i, _ => by simp [knl, kput]
  | x :: l, i, h => by
    simp only [List.mem_cons, not_or] at h
    have h1 := knl_put n l (i + 1) h.2
    rw [show i + 1 + l.length = i + (x :: l).length by simp; omega] at h1
    simp only [knl, kput, if_neg h.1, List.cons_append]
    rw [h1]
theorem nidx_none {n : Int} : ∀ {l : List Int}, nidx n l = none ↔ n ∉ l
  | [] => by simp [nidx]
  | x :: l => by
    by_cases h : n = x
    · simp [nidx, h]
    · simp [nidx, h, nidx_none (l := l)]
theorem nidx_some {n : Int} : ∀ {l : List Int} {i : Nat}, nidx n l = some i → l[i]? = some n
  | [], _, h => by simp [nidx] at h
  | x :: l, i, h => by
    by_cases hx : n = x
    · simp [nidx, hx] at h; subst h; simp [hx]
    · simp only [nidx, if_neg hx] at h
      obtain ⟨j, h1, rfl⟩ := Option.map_eq_some_iff.1 h
      simpa using nidx_some h1
theorem nidx_at {n : Int} : ∀ {l : List Int} {i : Nat}, l[i]? = some n → (∀ j, j < i → l[j]? ≠ some n) → nidx n l = some i
  | [], _, h, _ => by simp at h
  | x :: l, 0, h, _ => by simp at h; simp [nidx, h]
  | x :: l, i + 1, h, k => by
    have h1 : ¬ n = x := fun e => k 0 (by omega) (by simp [e])
    simp only [nidx, if_neg h1]
    rw [nidx_at (l := l) (i := i) (by simpa using h) fun j hj => by have := k (j + 1) (by omega); simpa using this]
    rfl
/-- What stands for a variable in a scheme. -/
def cln (own : List Int) (n : Int) : Int := match nidx n own with | some i => (i : Int) | none => wr64 (n + own.length)
set_option maxRecDepth 100000 in
set_option maxHeartbeats 4000000 in
theorem close1_any (p0 kb : Nat) (own : List Int) (w0 : World) (hp : w0.cell? ⟨p0, 0, none⟩ = some (.map (some kb))) (hk : MP w0 kb (kml (knl own 0))) (n : Int) (w : World) (g : Gr w0 w) :
    Calls Try.prog 64 #[iv n, .pointer (some ⟨p0, 0, none⟩)] w (FR w0 (vr (cln own n)) w) := by
  have h' := gr_c (g.trans (gr_al w (.cells #[iv 0, iv 0, .slice none 0 0] 24))) hp
  have HA := Lib.hid (show (w.alloc (.cells #[iv 0, iv 0, .slice none 0 0] 24)).heap[w.heap.size]? = some (.cells #[iv 0, iv 0, .slice none 0 0] 24 (0, 0)) from al_new _ _)
  have hk2 := hk.gr (g.trans (gr_al w (.cells #[iv 0, iv 0, .slice none 0 0] 24)))
  have HK := Lib.hid hk2
  have lk := (klook hk2 n).2
  rw [knl_get] at lk
  have HC := Lib.hid (show cln own n = match nidx n own with | some i => (i : Int) | none => wr64 (n + own.length) from rfl)
  obtain ⟨z, hz⟩ : ∃ z, cln own n = z := ⟨_, rfl⟩
  rw [hz] at HC ⊢
  have VA := Lib.hid (fun V => variable_any z V)
  have KL := Lib.hid (show (kml (knl own 0)).length = own.length from by unfold kml; rw [List.length_map, knl_len])
  obtain ⟨m, hm⟩ : ∃ m, kml (knl own 0) = m := ⟨_, rfl⟩
  rw [hm] at KL HK
  clear hp hk hk2 hz g hm
  cases hq : nidx n own with
  | some i =>
    rw [hq] at lk
    obtain rfl : (i : Int) = z := by have := HC.out; rw [hq] at this; exact this.symm
    simp only [Option.map_some, Option.getD_some, Option.isSome_some, Nat.zero_add] at lk
    clear hq HC
    go_enter Try.func64, Try.ntmps64
    go_wp2_with (first | (go_at_call 62; refine (VA.out _).mono ?_; rintro e w6 ⟨rfl, g6⟩; have G6 := Lib.hid g6; have H7 := Lib.hid (gr_h g6 HA.out); obtain ⟨⟨c0, c1, c2⟩, fz⟩ := cell3 H7.out; have z0 := fz 0; have z1 := fz 1; have z2 := fz 2; clear g6 fz))
    refine bodyPost_ret (results_cell_row (P := Try.prog) rfl _ _ (w.heap.size) _ _ _ _ rfl (set3 (a' := iv 5) (b' := iv i) (c' := .slice none 0 0) H7.out) rfl rfl rfl) rfl ⟨⟨_, rfl, TyR.flat _ _ 5 i⟩, ?_⟩
    exact gr_cell (gr_cell (gr_cell ((gr_al _ _).trans G6.out) (Nat.le_refl _) _) (Nat.le_refl _) _) (Nat.le_refl _) _
  | none =>
    rw [hq] at lk
    have hw : IntKind.i64.wrap (n + (own.length : Int)) = z := by have := HC.out; rw [hq] at this; exact this.symm
    simp only [Option.map_none, Option.getD_none, Option.isSome_none] at lk
    clear hq HC
    go_enter Try.func64, Try.ntmps64
    go_wp2_with (first | (at_len; refine wpList_len_m rfl (.tmp 16) rfl rfl HK.out ?_; rw [KL.out]) | (go_at_call 62; refine (VA.out _).mono ?_; rintro e w6 ⟨rfl, g6⟩; have G6 := Lib.hid g6; have H7 := Lib.hid (gr_h g6 HA.out); obtain ⟨⟨c0, c1, c2⟩, fz⟩ := cell3 H7.out; have z0 := fz 0; have z1 := fz 1; have z2 := fz 2; clear g6 fz))
    refine bodyPost_ret (results_cell_row (P := Try.prog) rfl _ _ (w.heap.size) _ _ _ _ rfl (set3 (a' := iv 5) (b' := iv z) (c' := .slice none 0 0) H7.out) rfl rfl rfl) rfl ⟨⟨_, rfl, TyR.flat _ _ 5 z⟩, ?_⟩
    exact gr_cell (gr_cell (gr_cell ((gr_al _ _).trans G6.out) (Nat.le_refl _) _) (Nat.le_refl _) _) (Nat.le_refl _) _
end Go.Proofs.Ytjlmhfdigoogfaa

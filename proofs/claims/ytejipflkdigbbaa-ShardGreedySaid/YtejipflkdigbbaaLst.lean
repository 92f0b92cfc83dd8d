/- Least, in plain words. -/
import Derived.Test.YtejipflkdigbbaaSrt
import Derived.IntWalk
namespace Go.Proofs.Ytejipflkdigbbaa
open Go.RowKit

/-- A lower bound for the span. -/
def least (C : List Int) (n : Int) : Int :=
  let m0 := (C.sum + n - 1) / n
  let m1 := if C = [] then m0 else max m0 ((dsc C).getD 0 0)
  if n < C.length then max m1 ((dsc C).getD (n.toNat - 1) 0 + (dsc C).getD n.toNat 0) else m1
theorem dsc_perm (L : List Int) : (dsc L).Perm L := List.mergeSort_perm _ _
theorem sum_perm {L M : List Int} (h : L.Perm M) : L.sum = M.sum := by
  induction h with
  | nil => rfl
  | cons x _ ih => simp [ih]
  | swap x y l => simp; omega
  | trans _ _ h1 h2 => exact h1.trans h2
theorem sum_bd {L : List Int} (h : ∀ c ∈ L, 0 ≤ c ∧ c ≤ 1099511627776) : 0 ≤ L.sum ∧ L.sum ≤ L.length * 1099511627776 := by
  induction L with
  | nil => simp
  | cons x L ih =>
    have h1 := ih fun c hc => h c (by simp [hc])
    have h2 := h x (by simp)
    simp only [List.sum_cons, List.length_cons]
    omega
theorem sum_take {L : List Int} {k : Nat} (h : k < L.length) : (L.take (k + 1)).sum = (L.take k).sum + L[k] := by
  rw [List.take_succ_eq_append_getElem h, List.sum_append]; simp
theorem mem_dsc {L : List Int} {c : Int} (h : c ∈ dsc L) : c ∈ L := (dsc_perm L).mem_iff.1 h
theorem div_bd {s n : Int} (h0 : 0 ≤ s) (h1 : s ≤ 1099511627776000) (hn : 1 ≤ n) (hn2 : n ≤ 100) : 0 ≤ (s + n - 1) / n ∧ (s + n - 1) / n ≤ 1099511627777000 := by
  refine ⟨Int.ediv_nonneg (by omega) (by omega), ?_⟩
  have : (s + n - 1) / n ≤ s + n - 1 := Int.ediv_le_self _ (by omega)
  omega

set_option maxRecDepth 100000 in
set_option maxHeartbeats 4000000 in
theorem leastF_any (A : Option Addr) (c : Nat) (C : List Int) (n : Int) (w : World) (hA : RD iv w A C) :
    Calls Try.prog 18 #[.slice A C.length c, .int .i64 n] w fun e w' => e = .returned (.tuple #[.int .i64 (if ca C n = 0 then least C n else 0), .int .i64 (ca C n)]) ∧ Below w.heap.size w w' := by
  by_cases h0 : ca C n = 0
  · have q0 : (ca C n != 0) = false := by simpa using h0
    obtain ⟨h1, hn1, hn2⟩ := ca_zero.1 h0
    obtain ⟨hC, hc⟩ := cc_zero.1 h1
    rw [if_pos h0]
    have E0 := Lib.hid h0
    have HC := Lib.hid hc
    clear h0 h1 hc
    go_enter Try.func18, Try.ntmps18
    go_wp2_with fail
    refine (checkArguments_any A c C n _ hA).mono ?_
    rintro e w1 ⟨rfl, rfl⟩
    go_wp2_with fail
    refine (clone_any A c C _ hA hC).mono ?_
    rintro e w1 ⟨v, rfl, ho, k1⟩
    go_wp2_with fail
    refine (sortFunc_any k1 ho hC).mono ?_
    rintro e w2 ⟨rfl, ⟨B, cb, rfl, rB, hcb⟩, k2⟩
    have K2 := Lib.hid k2
    have HR := Lib.hid rB
    have hlD := dsc_len C
    have HD : Hid (∀ c ∈ dsc C, 0 ≤ c ∧ c ≤ 1099511627776) := Lib.hid (fun c hc => HC.out c (mem_dsc hc))
    have HS := Lib.hid (sum_perm (dsc_perm C))
    have LL : Hid (least C n = if n < C.length then max (if C = [] then (C.sum + n - 1) / n else max ((C.sum + n - 1) / n) ((dsc C).getD 0 0)) ((dsc C).getD (n.toNat - 1) 0 + (dsc C).getD n.toNat 0) else (if C = [] then (C.sum + n - 1) / n else max ((C.sum + n - 1) / n) ((dsc C).getD 0 0))) := Lib.hid rfl
    have HE : Hid (C = [] ↔ dsc C = []) := Lib.hid (by rw [← List.length_eq_zero_iff, ← List.length_eq_zero_iff, hlD])
    generalize dsc C = D at *
    have HLD := Lib.hid hlD
    have hD : D.length ≤ 1000 := by omega
    clear k1 k2 ho rB hlD q0 hA hC
    go_wp2_with fail
    go_loop [8, 24] (fun s i => ∃ k : Nat, k ≤ D.length ∧ i = .int .i64 k ∧ s = .int .i64 ((D.take k).sum)) (fun _ i => D.length - (intOf i).toNat)
    case atStart => exact ⟨0, Nat.zero_le _, rfl, by simp⟩
    case round =>
      obtain ⟨k, hk, rfl, rfl⟩ := hrel
      have b1 := sum_bd (L := D.take k) (fun c hc => HD.out c (List.mem_of_mem_take hc))
      have b2 : (D.take k).length ≤ 1000 := by simp; omega
      by_cases hlt : k < D.length
      · obtain ⟨a, rfl, hab, hac⟩ := HR.out.at hlt
        have b3 := HD.out _ (List.getElem_mem hlt)
        have S1 := Lib.hid (sum_take hlt)
        generalize D[k] = x at *
        generalize (D.take k).sum = z at *
        go_wp2
        go_round
        case rel => exact ⟨k + 1, by omega, by go_num, by rw [S1.out]⟩
        case measure => simp [intOf]; omega
      · have e : (D.take k).sum = C.sum := by rw [List.take_of_length_le (by omega), HS.out]
        rw [e] at b1
        rw [e]
        clear e
        have hsum0 : 0 ≤ C.sum := by omega
        have hsum1 : C.sum ≤ 1099511627776000 := by omega
        have dv := div_bd hsum0 hsum1 hn1 hn2
        obtain ⟨N, rfl⟩ : ∃ N : Nat, n = N := ⟨n.toNat, by omega⟩
        simp only [Int.toNat_natCast] at LL
        have t0 : (C.length : Int) = D.length := by have := HLD.out; omega
        have T0 := Lib.hid t0
        clear b1 b2 t0
        have hNN : 1 ≤ N := by omega
        obtain ⟨q, hq⟩ : ∃ q, (C.sum + (N : Int) - 1) / (N : Int) = q := ⟨_, rfl⟩
        rw [hq] at dv LL
        by_cases hne : D = []
        · have L1 : Hid (least C (N : Int) = q) := Lib.hid (by
            have hc := HE.out.2 hne
            rw [LL.out, hc, if_neg (by simp), if_pos rfl])
          subst hne
          clear LL HE
          go_wp2
          go_ret2
          exact ⟨by rw [E0.out, L1.out]; rfl, K2.out⟩
        · have hpos : 0 < D.length := List.length_pos_iff.2 hne
          obtain ⟨a, rfl, hab, hac⟩ := HR.out.at hpos
          rw [add_zero'] at hac
          have g0 : D.getD 0 0 = D[0] := by simp [List.getD_eq_getElem?_getD, hpos]
          have b0 := HD.out _ (List.getElem_mem hpos)
          have hCne : C ≠ [] := fun h => hne (HE.out.1 h)
          by_cases hlen : N < D.length
          · obtain ⟨a2, e2, hab2, hac2⟩ := HR.out.at (show N - 1 < D.length by omega)
            obtain ⟨a3, e3, hab3, hac3⟩ := HR.out.at hlen
            obtain rfl : a2 = a := by injection e2; exact Eq.symm ‹_›
            obtain rfl : a3 = a2 := by injection e3; exact Eq.symm ‹_›
            clear e2 e3
            have b1 := HD.out _ (List.getElem_mem (show N - 1 < D.length by omega))
            have b2 := HD.out _ (List.getElem_mem hlen)
            have L1 : Hid (least C (N : Int) = max (max q D[0]) (D[N - 1] + D[N])) := Lib.hid (by
              rw [LL.out, if_pos (by have := T0.out; omega), if_neg hCne, g0]
              simp [List.getD_eq_getElem?_getD, hlen, show N - 1 < D.length by omega])
            clear LL HE g0 hne hCne
            generalize D[0] = d0 at *
            generalize D[N - 1] = x at *
            generalize D[N] = y at *
            have t1 : (0 : Int) ≤ (N : Int) - 1 := by omega
            have t2 : (N : Int) - 1 < (D.length : Int) := by omega
            have t3 : ((N : Int) - 1).toNat = N - 1 := by omega
            have t4 : IntKind.i64.wrap ((N : Int) - 1) = (N : Int) - 1 := IntWalk.i64_in _ (by omega)
            have t5 : IntKind.i64.wrap (x + y) = x + y := IntWalk.i64_in _ (by omega)
            have t6 : (N : Int) < (D.length : Int) := by omega
            go_wp2
            go_quiet (fail)
            go_wp2
            go_ret2
            exact ⟨by rw [E0.out, L1.out, Int.max_assoc]; rfl, below_drewN K2.out _⟩
          · have L1 : Hid (least C (N : Int) = max q D[0]) := Lib.hid (by
              rw [LL.out, if_neg (by have := T0.out; omega), if_neg hCne, g0])
            clear LL HE g0 hne hCne
            generalize D[0] = d0 at *
            go_wp2
            go_ret2
            exact ⟨by rw [E0.out, L1.out, ← mx_if]; rfl, K2.out⟩
  · have q0 : (ca C n != 0) = true := by simpa using h0
    rw [if_neg h0]
    clear h0
    go_enter Try.func18, Try.ntmps18
    go_wp2_with (go_at_call 30; refine (checkArguments_any A c C n _ hA).mono ?_; rintro e w1 ⟨rfl, rfl⟩)
    go_ret2
    exact ⟨rfl, Below.refl _ _⟩

/-- The greatest of costs is the first in descending order. -/
theorem gmax_mem {L : List Int} (h : ∀ c ∈ L, 0 ≤ c) (x : Int) (hx : x ∈ L) (hm : ∀ y ∈ L, y ≤ x) : gmax L = x := by
  have key : ∀ (L : List Int) (a : Int), (∀ y ∈ L, y ≤ x) → a ≤ x → (a = x ∨ x ∈ L) → L.foldl max a = x := by
    intro L
    induction L with
    | nil => intro a _ _ h3; simpa using h3
    | cons y L ih =>
      intro a h1 h2 h3
      simp only [List.foldl_cons]
      have hy := h1 y (by simp)
      refine ih (max a y) (fun z hz => h1 z (by simp [hz])) (by omega) ?_
      rcases h3 with h3 | h3
      · left; omega
      · rcases List.mem_cons.1 h3 with rfl | h3
        · left; omega
        · exact .inr h3
  exact key L 0 hm (h x hx) (.inr hx)
theorem dsc_sorted (L : List Int) : (dsc L).Pairwise (fun x y => y ≤ x) := by
  have := List.pairwise_mergeSort (le := fun x y : Int => decide (y ≤ x)) (fun a b c h1 h2 => by simp at *; omega) (fun a b => by simp; omega) L
  exact this.imp (fun h => by simpa using h)
theorem gmax_dsc {L : List Int} (h : ∀ c ∈ L, 0 ≤ c) (hne : L ≠ []) : gmax L = (dsc L).getD 0 0 := by
  have hp := dsc_perm L
  have hs := dsc_sorted L
  cases hd : dsc L with
  | nil => rw [hd] at hp; exact absurd hp.symm.eq_nil hne
  | cons x r =>
    rw [hd] at hp hs
    rw [List.pairwise_cons] at hs
    refine gmax_mem h x (hp.mem_iff.1 (by simp)) (fun y hy => ?_)
    rcases List.mem_cons.1 (hp.mem_iff.2 hy) with rfl | hy
    · exact Int.le_refl _
    · exact hs.1 y hy
theorem oins_sorted (C : List Int) (i : Int) : ∀ l : List Int, l.Pairwise (fun x y => cst C y ≤ cst C x) → (oins C i l).Pairwise (fun x y => cst C y ≤ cst C x)
  | [], _ => by simp [oins]
  | y :: l, h => by
    rw [List.pairwise_cons] at h
    simp only [oins]
    split
    · rename_i hy
      refine List.pairwise_cons.2 ⟨fun z hz => ?_, oins_sorted C i l h.2⟩
      rcases List.mem_cons.1 ((oins_perm C i l).mem_iff.1 hz) with rfl | hz
      · exact hy
      · exact h.1 z hz
    · rename_i hy
      refine List.pairwise_cons.2 ⟨fun z hz => ?_, List.pairwise_cons.2 ⟨h.1, h.2⟩⟩
      rcases List.mem_cons.1 hz with rfl | hz
      · omega
      · have := h.1 z hz; omega
theorem ordU_sorted (C : List Int) : ∀ k, (ordU C k).Pairwise (fun x y => cst C y ≤ cst C x)
  | 0 => List.Pairwise.nil
  | k + 1 => oins_sorted C k _ (ordU_sorted C k)
theorem map_range (C : List Int) : (List.range C.length).map (fun j : Nat => cst C (j : Int)) = C := by
  apply List.ext_getElem
  · simp
  · intro i h1 h2
    simp [cst, List.getD_eq_getElem?_getD, h2]
theorem sorted_unique {L M : List Int} (hp : L.Perm M) (h1 : L.Pairwise (fun x y => y ≤ x)) (h2 : M.Pairwise (fun x y => y ≤ x)) : L = M :=
  List.Perm.eq_of_pairwise (fun a b _ _ h h' => by omega) h1 h2 hp
theorem ord_costs (C : List Int) : (ord C).map (cst C) = dsc C := by
  refine sorted_unique ?_ ?_ (dsc_sorted C)
  · have h := (ordU_perm C C.length).map (cst C)
    rw [List.map_map] at h
    have e : (List.range C.length).map (cst C ∘ fun j : Nat => (j : Int)) = C := map_range C
    rw [e] at h
    exact h.trans (dsc_perm C).symm
  · exact List.pairwise_map.2 (ordU_sorted C C.length)

theorem ord_len (C : List Int) : (ord C).length = C.length := ordU_len C C.length
theorem ord_at {C : List Int} {k : Nat} (h : k < C.length) : ∃ j : Nat, (ord C)[k]'(by rw [ord_len]; exact h) = j ∧ j < C.length ∧ C.getD j 0 = (dsc C).getD k 0 := by
  have hk : k < (ord C).length := by rw [ord_len]; exact h
  have hm := ordU_mem (List.getElem_mem hk)
  refine ⟨(ord C)[k].toNat, by omega, by omega, ?_⟩
  have e := ord_costs C
  have h2 : (dsc C)[k]? = some (cst C (ord C)[k]) := by rw [← e]; simp [hk]
  rw [List.getD_eq_getElem?_getD (l := dsc C), h2]
  rfl
theorem quiet_w {P : Program} {f : FuncId} {args : Array Value} {w : World} {v : Value} (h : Calls P f args w fun e w' => e = .returned v ∧ w = w') : Calls P f args w fun e w' => e = .returned v ∧ w' = w := h.mono fun _ _ k => ⟨k.1, k.2.symm⟩

set_option maxRecDepth 100000 in
set_option maxHeartbeats 4000000 in
theorem rleast_any (A : Option Addr) (c : Nat) (C : List Int) (n : Int) (w : World) (hA : RD iv w A C) :
    Calls Try.prog 19 #[.slice A C.length c, .int .i64 n] w fun e w' => e = .returned (.tuple #[.int .i64 (if ca C n = 0 then least C n else 0), .int .i64 (ca C n)]) ∧ Below w.heap.size w w' := by
  by_cases h0 : ca C n = 0
  · have q0 : (ca C n != 0) = false := by simpa using h0
    obtain ⟨h1, hn1, hn2⟩ := ca_zero.1 h0
    obtain ⟨hC, hc⟩ := cc_zero.1 h1
    rw [if_pos h0]
    have E0 := Lib.hid h0
    have HC := Lib.hid hc
    have HA := Lib.hid hA
    have LL : Hid (least C n = if n < C.length then max (if C = [] then (C.sum + n - 1) / n else max ((C.sum + n - 1) / n) ((dsc C).getD 0 0)) ((dsc C).getD (n.toNat - 1) 0 + (dsc C).getD n.toNat 0) else (if C = [] then (C.sum + n - 1) / n else max ((C.sum + n - 1) / n) ((dsc C).getD 0 0))) := Lib.hid rfl
    clear h0 h1 hc hA
    go_enter Try.func19, Try.ntmps19
    go_wp2_with fail
    refine (both_any A c C n _ HA.out).mono ?_
    rintro e w1 ⟨rfl, rfl⟩
    go_wp2_with fail
    clear q0
    go_loop [7, 8] (fun s i => ∃ k : Nat, k ≤ C.length ∧ i = .int .i64 k ∧ s = .int .i64 ((C.take k).sum)) (fun _ i => C.length - (intOf i).toNat)
    case atStart => exact ⟨0, Nat.zero_le _, rfl, by simp⟩
    case round =>
      obtain ⟨k, hk, rfl, rfl⟩ := hrel
      have b1 := sum_bd (L := C.take k) (fun c hc => HC.out c (List.mem_of_mem_take hc))
      have b2 : (C.take k).length ≤ 1000 := by simp; omega
      by_cases hlt : k < C.length
      · obtain ⟨a, rfl, hab, hac⟩ := HA.out.at hlt
        have b3 := HC.out _ (List.getElem_mem hlt)
        have S1 := Lib.hid (sum_take hlt)
        generalize C[k] = x at *
        generalize (C.take k).sum = z at *
        go_wp2
        go_round
        case rel => exact ⟨k + 1, by omega, by go_num, by rw [S1.out]⟩
        case measure => simp [intOf]; omega
      · have e : (C.take k).sum = C.sum := by rw [List.take_of_length_le (by omega)]
        rw [e] at b1
        rw [e]
        clear e
        have hsum0 : 0 ≤ C.sum := by omega
        have hsum1 : C.sum ≤ 1099511627776000 := by omega
        have dv := div_bd hsum0 hsum1 hn1 hn2
        obtain ⟨N, rfl⟩ : ∃ N : Nat, n = N := ⟨n.toNat, by omega⟩
        simp only [Int.toNat_natCast] at LL
        clear b1 b2
        have hNN : 1 ≤ N := by omega
        obtain ⟨q, hq⟩ : ∃ q, (C.sum + (N : Int) - 1) / (N : Int) = q := ⟨_, rfl⟩
        rw [hq] at dv LL
        have M1 : Hid (max (gmax C) q = if C = [] then q else max q ((dsc C).getD 0 0)) := Lib.hid (by
          by_cases hne : C = []
          · subst hne; rw [if_pos rfl]; simp [gmax]; omega
          · rw [if_neg hne, ← gmax_dsc (fun c hc => (HC.out c hc).1) hne, Int.max_comm])
        have t4 : IntKind.i64.wrap (C.sum + (N : Int)) = C.sum + (N : Int) := IntWalk.i64_in _ (by omega)
        have t5 : IntKind.i64.wrap (C.sum + (N : Int) - 1) = C.sum + (N : Int) - 1 := IntWalk.i64_in _ (by omega)
        have t6 : (C.sum + (N : Int) - 1).tdiv (N : Int) = q := by rw [Int.tdiv_eq_ediv_of_nonneg (by omega)]; exact hq
        have t7 : IntKind.i64.wrap q = q := IntWalk.i64_in _ (by omega)
        have hg := fun W (hW : RD iv W A C) => quiet_w (greatest_any A c C W hW (by omega))
        have GB : Hid (0 ≤ gmax C) := Lib.hid (foldl_max_le C 0)
        go_wp2
        go_quiet ((go_at_call 25; exact Calls.quiet_of_same (hg _ HA.out)))
        clear t4 t5 t6 t7 hg
        rw [M1.out]
        obtain ⟨m1, hm1⟩ : ∃ m1, (if C = [] then q else max q ((dsc C).getD 0 0)) = m1 := ⟨_, rfl⟩
        rw [hm1]
        rw [hm1] at LL
        have HM1 := Lib.hid hm1
        clear hm1
        by_cases hlen : N < C.length
        · have HD : Hid (∀ c ∈ dsc C, 0 ≤ c ∧ c ≤ 1099511627776) := Lib.hid (fun c hc => HC.out c (mem_dsc hc))
          have L1 := Lib.hid (LL.out.trans (if_pos (by omega)))
          go_wp2_with fail
          refine (order_any A c C _ (HA.out.drewN _) hC).mono ?_
          rintro e w2 ⟨v, rfl, ho, k2⟩
          obtain ⟨B, cb, rfl, hcb, hrb, -⟩ := ho.form
          obtain ⟨j1, e1, l1, x1⟩ := ord_at (show N - 1 < C.length by omega)
          obtain ⟨j2, e2, l2, x2⟩ := ord_at hlen
          obtain ⟨ab, rfl, hb1, hb2⟩ := hrb.at (show N - 1 < (ord C).length by rw [ord_len]; omega)
          obtain ⟨ab', eb, hb3, hb4⟩ := hrb.at (show N < (ord C).length by rw [ord_len]; omega)
          obtain rfl : ab' = ab := by injection eb; exact Eq.symm ‹_›
          clear eb
          rw [e1] at hb2
          rw [e2] at hb4
          have k2' : Below w.heap.size w w2 := (below_drewN (Below.refl _ _) _).trans k2
          obtain ⟨a1, rfl, ha1, ha2⟩ := costs_at (HA.out.below k2') l1
          obtain ⟨a2, ea, ha3, ha4⟩ := costs_at (HA.out.below k2') l2
          obtain rfl : a2 = a1 := by injection ea; exact Eq.symm ‹_›
          clear ea
          have z1 := getD_bd HC.out j1
          have z2 := getD_bd HC.out j2
          rw [← x1, ← x2] at L1
          have K2 := Lib.hid k2'
          have hol : (ord C).length = C.length := ord_len C
          rw [hol]
          rw [hol] at hcb
          generalize C.getD j1 0 = x at *
          generalize C.getD j2 0 = y at *
          clear ho hrb e1 e2 x1 x2 k2 k2' hol LL
          have t1 : (0 : Int) ≤ (N : Int) - 1 := by omega
          have t2 : (N : Int) - 1 < (C.length : Int) := by omega
          have t3 : ((N : Int) - 1).toNat = N - 1 := by omega
          have t4 : IntKind.i64.wrap ((N : Int) - 1) = (N : Int) - 1 := IntWalk.i64_in _ (by omega)
          have t5 : IntKind.i64.wrap (x + y) = x + y := IntWalk.i64_in _ (by omega)
          have t6 : (N : Int) < (C.length : Int) := by omega
          have t7 : (j1 : Int) < (C.length : Int) := by omega
          have t8 : (j2 : Int) < (C.length : Int) := by omega
          go_wp2_with fail
          go_quiet (fail)
          go_wp2_with fail
          go_ret2
          exact ⟨by rw [E0.out, L1.out]; rfl, below_drewN K2.out _⟩
        · have L1 := Lib.hid (LL.out.trans (if_neg (by omega)))
          go_wp2_with fail
          go_ret2
          exact ⟨by rw [E0.out, L1.out]; rfl, below_drewN (Below.refl _ _) _⟩
  · have q0 : (ca C n != 0) = true := by simpa using h0
    rw [if_neg h0]
    clear h0
    go_enter Try.func19, Try.ntmps19
    go_wp2_with (go_at_call 36; refine (both_any A c C n _ hA).mono ?_; rintro e w1 ⟨rfl, rfl⟩)
    go_ret2
    exact ⟨rfl, Below.refl _ _⟩
end Go.Proofs.Ytejipflkdigbbaa

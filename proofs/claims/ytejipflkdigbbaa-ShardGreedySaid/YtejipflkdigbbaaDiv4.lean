/- Walk: Best. -/
import Derived.Test.YtejipflkdigbbaaDiv3
namespace Go.Proofs.Ytejipflkdigbbaa
open Go.RowKit Go.Shelf
attribute [local go_sem] Oper.semAt_some

/-- A range over a closure starts: its record and the block for deferred calls lie behind the world. -/
theorem range_start {P : Program} {n : Nat} {g : Operand} {ps : Array Tmp} {assign body : Code} {Q : Exit → Act → World → Prop} {a : Act} {w : World} {gf : Nat} {lb : Array Value}
    (hg : a.eval g = .func (.func gf) #[] lb) (eg : ∀ args w, (callFunc gf args).run P w = .ok (.enter gf args) w)
    (h : ∀ fn, CallsIn Fence.wide (n - 1) P gf (#[.func (.yield (w.heap.size + 1)) #[] #[]] ++ lb)
      ((w.alloc (.deferred (some []))).alloc (.loop { state := .ready, pending := none, fn, tmps := a.tmps, params := ps, assign, body, defers := w.heap.size }))
      (rangePost Fence.wide n P (w.heap.size + 1) Q { a with defers := { target := .collected w.heap.size, args := #[] } :: a.defers })) :
    (Code.rangeFunc g ps assign body).wpIn Fence.wide n P Q a w := by
  refine wpIn_rangeFunc ?_
  intro fn _
  obtain ⟨W1, hW1⟩ : ∃ W1, (w.alloc (.deferred (some []))).alloc (.loop { state := .ready, pending := none, fn, tmps := a.tmps, params := ps, assign, body, defers := w.heap.size }) = W1 := ⟨_, rfl⟩
  refine ⟨w.heap.size + 1, [{ target := .collected w.heap.size, args := #[] }], W1, { target := .fn (.func gf) lb, args := #[.func (.yield (w.heap.size + 1)) #[] #[]] }, W1, gf,
    #[.func (.yield (w.heap.size + 1)) #[] #[]] ++ lb, W1, ?_, ?_, fun _ _ => trivial, ?_, fun h => (by cases h), ?_⟩
  · rw [← hW1]; exact run_enterLoop_outer _ _ _ _ _
  · simp only [resolve, hg]
    simp [go_sem]
  · simp [invoke, go_sem, eg]
  · rw [← hW1]; exact h fn

set_option maxRecDepth 100000 in
theorem divisions_any (A : Option Addr) (c : Nat) (C : List Int) (n : Int) (w : World) :
    Calls Try.prog 43 #[.slice A C.length c, .int .i64 n] w fun e w' => e = .returned (.func (.func 51) #[] #[.pointer (some ⟨w.heap.size, 0, none⟩), .pointer (some ⟨w.heap.size + 1, 0, none⟩)]) ∧ w' = (w.alloc (.cells #[.slice A C.length c] 22)).alloc (.cells #[.int .i64 n] 3) := by
  go_enter Try.func43, Try.ntmps43
  go_wp2
  go_ret
  exact ⟨rfl, rfl⟩

/-- Between two rounds of Best's loop. -/
structure BJ (w : World) (L : Nat) (r : Loop) (pre : List (List Int)) (W : World) : Prop where
  b : W.heap[w.heap.size]? = some (.cells #[.int .i64 (mn (-1) (pre.map gmax))] 3 (0, 0))
  l : W.heap[L + 1]? = some (.loop r)
  d : W.heap[L]? = some (.deferred (some []))
  be : Below w.heap.size w W
theorem BJ.keep {w : World} {L : Nat} {r : Loop} {pre : List (List Int)} {W W' : World} (h : BJ w L r pre W) (hb : Below W.heap.size W W') : BJ w L r pre W' :=
  ⟨(hb.block _ (heap_lt h.b)).trans h.b, (hb.block _ (heap_lt h.l)).trans h.l, (hb.block _ (heap_lt h.d)).trans h.d, h.be.trans (hb.mono h.be.size)⟩
theorem BJ.put {w : World} {L : Nat} {r : Loop} {pre : List (List Int)} {W : World} (h : BJ w L r pre W) (hL : w.heap.size < L) (r' : Loop) : BJ w L r' pre (W.putObj (L + 1) (.loop r')) := by
  have ht : ∀ i, i ≠ L + 1 → (W.putObj (L + 1) (.loop r')).heap[i]? = W.heap[i]? := fun i hi => World.putObj_heap_other (by omega)
  exact ⟨(ht _ (by omega)).trans h.b, World.putObj_heap_same (heap_lt h.l), (ht _ (by omega)).trans h.d, h.be.trans (belowK_b (w := w) (Nat.le_refl _) W (L + 1) _ _ (by omega) h.l rfl rfl)⟩

theorem BJ.set {w : World} {L : Nat} {r : Loop} {pre pre' : List (List Int)} {W : World} {z : Int} (h : BJ w L r pre W) (hL : w.heap.size < L) (hv : mn (-1) (pre'.map gmax) = z) : BJ w L r pre' (W.setCell ⟨w.heap.size, 0, none⟩ (.int .i64 z)) := by
  have ht : ∀ i, i ≠ w.heap.size → (W.setCell ⟨w.heap.size, 0, none⟩ (.int .i64 z)).heap[i]? = W.heap[i]? := fun i hi => Below.heap_setCell _ _ _ _ (fun e => hi (by simpa using e))
  refine ⟨?_, (ht _ (by omega)).trans h.l, (ht _ (by omega)).trans h.d, h.be.setCell (p := ⟨w.heap.size, 0, none⟩) (Nat.le_refl _) _⟩
  rw [hv]
  simp [World.setCell, Array.getElem?_modify, h.b]
theorem BJ.still {w : World} {L : Nat} {r : Loop} {pre pre' : List (List Int)} {W : World} (h : BJ w L r pre W) (hv : mn (-1) (pre'.map gmax) = mn (-1) (pre.map gmax)) : BJ w L r pre' W := ⟨by rw [hv]; exact h.b, h.l, h.d, h.be⟩
theorem kp_set {X : List Nat} {W : World} {g : Nat} {u : Value} (hg : g ∈ X) : KP X W (W.setCell ⟨g, 0, none⟩ u) :=
  ⟨by simp [World.setCell], fun k _ hx => Below.heap_setCell _ _ _ _ (fun e => hx (by simp at e; rw [e]; exact hg))⟩
theorem rd_putLoop {W : World} {B : Option Addr} {S : List Int} {l : Nat} {r : Loop} (h : RD iv W B S) (hl : W.heap[l]? = some (.loop r)) (o : Obj) : RD iv (W.putObj l o) B S := by
  rcases h with rfl | ⟨a, e, hb, hc⟩
  · exact .inl rfl
  · refine .inr ⟨a, e, by simpa [World.putObj] using hb, fun j x hx => ?_⟩
    have h1 := hc j x hx
    by_cases hk : a.block = l
    · unfold World.cell? at h1
      rw [add_block, hk, hl] at h1
      cases h1
    · rw [← h1]
      unfold World.cell?
      rw [add_block, World.putObj_heap_other (by omega)]
theorem kp_put {X : List Nat} {W : World} {l : Nat} {o : Obj} (hl : l ∈ X) : KP X W (W.putObj l o) :=
  ⟨by simp [World.putObj], fun k _ hx => World.putObj_heap_other (fun e => hx (by first | (rw [e]; exact hl) | (rw [← e]; exact hl)))⟩
set_option maxRecDepth 100000 in
set_option maxHeartbeats 4000000 in
theorem best_main (A : Option Addr) (c : Nat) (C : List Int) (n : Nat) (w : World) (hA : RD iv w A C) (h0 : ca C n = 0) (h8 : ¬ 8 < C.length) :
    Calls Try.prog 21 #[.slice A C.length c, .int .i64 n] w fun e w' => e = .returned (.tuple #[.int .i64 (bestR n C []), .int .i64 0]) ∧ Below w.heap.size w w' := by
  have q0 : (ca C n != 0) = false := by simpa using h0
  obtain ⟨h1, hn1, hn2⟩ := ca_zero.1 h0
  obtain ⟨hC, hcc⟩ := cc_zero.1 h1
  have hb : Bnd C [] n := ⟨hcc, hC, by simp, by simp, by omega, by omega⟩
  have HBD := Lib.hid hb
  have HA := Lib.hid hA
  have E1 := Lib.hid (bestR_eq (n := n) (by omega) C [])
  clear h0 h1 hcc hb hA
  refine (callsIn_wide (n := 5)).1 ?_
  refine callsIn_of_wp_marks Try.func21 rfl trivial ?_ rfl
  simp only [Try.ntmps21, List.size_toArray, List.length_cons, List.length_nil, Nat.reduceAdd, Nat.reduceSub, Array.replicate_succ, Array.replicate_zero, List.push_toArray, List.append_toArray, List.nil_append, List.cons_append]
  gi_wp2_with (first | (refine ⟨trivial, ?_⟩; gi_at_call 30; refine (callsIn_wide.2 (checkArguments_any A c C n _ HA.out)).mono ?_; rintro e w' ⟨rfl, rfl⟩) | (refine ⟨trivial, ?_⟩; gi_at_call 43; refine (callsIn_wide.2 (divisions_any A c C n _)).mono ?_; rintro e w' ⟨rfl, rfl⟩))
  obtain ⟨W0, hW0⟩ : ∃ W0, ((w.alloc (.cells #[.int .i64 (-1)] 3)).alloc (.cells #[.slice A C.length c] 22)).alloc (.cells #[.int .i64 (n : Int)] 3) = W0 := ⟨_, rfl⟩
  have s0 : W0.heap.size = w.heap.size + 3 := by rw [← hW0]; simp
  have e0 : Below w.heap.size w W0 := by rw [← hW0]; exact (((Below.refl _ _).alloc (Nat.le_refl _) _).alloc (by simp) _).alloc (by simp; omega) _
  have k0 : W0.heap[w.heap.size]? = some (.cells #[.int .i64 (-1)] 3 (0, 0)) := by
    rw [← hW0]; exact ((Below.heap_alloc _ _ _ (by simp; omega)).trans (Below.heap_alloc _ _ _ (by simp))).trans (World.alloc_heap_new w _)
  have k1 : W0.heap[w.heap.size + 1]? = some (.cells #[.slice A C.length c] 22 (0, 0)) ∧ W0.heap[w.heap.size + 1 + 1]? = some (.cells #[.int .i64 (n : Int)] 3 (0, 0)) := by
    rw [← hW0]; have := two_new (w.alloc (.cells #[.int .i64 (-1)] 3)) (.cells #[.slice A C.length c] 22) (.cells #[.int .i64 (n : Int)] 3); rwa [World.size_alloc] at this
  rw [hW0]
  have hD : w.heap.size + 3 ≤ W0.heap.size := by omega
  clear hW0 s0
  refine range_start (gf := 51) (lb := #[.pointer (some ⟨w.heap.size + 1, 0, none⟩), .pointer (some ⟨w.heap.size + 1 + 1, 0, none⟩)]) rfl (enters_of Try.func51 (by kernel_rfl) rfl) ?_
  intro fn
  generalize hr : ({ state := .ready, pending := none, fn := fn, tmps := _, params := _, assign := _, body := _, defers := W0.heap.size } : Loop) = r
  obtain ⟨W1, hW1⟩ : ∃ W1, (W0.alloc (.deferred (some []))).alloc (.loop r) = W1 := ⟨_, rfl⟩
  have b1 : Below W0.heap.size W0 W1 := by rw [← hW1]; exact ((Below.refl _ _).alloc (Nat.le_refl _) _).alloc (by simp) _
  have tn := two_new W0 (.deferred (some [])) (.loop r)
  rw [hW1] at tn
  have j0 : BJ w W0.heap.size r [] W1 := ⟨(b1.block _ (by omega)).trans (by rw [k0]; rfl), tn.2, tn.1, e0.trans (b1.mono e0.size)⟩
  have hd := (b1.block (w.heap.size + 1) (by omega)).trans k1.1
  have he := (b1.block (w.heap.size + 1 + 1) (by omega)).trans k1.2
  have hr1 := HA.out.below j0.be
  have sz1 := b1.size
  have l1 := heap_lt tn.2
  rw [hW1]
  clear hW1 tn k0 k1 e0
  have RG : Rng [w.heap.size, W0.heap.size + 1] (W0.heap.size + 1) 3 (BJ w W0.heap.size r) := by
    refine ⟨fun s A B h hb => h.keep hb, ?_⟩
    intro pre S B d W hj hB hS hsb
    have hy := run_yield (P := Try.prog) (args := #[.slice B S.length d]) hj.l (by rw [← hr]; rfl)
    rw [← hr] at hy
    refine ⟨_, _, _, _, hy, roundIn_of_wpIn trivial ?_⟩
    clear hy
    simp only [List.zip_toArray, List.zip_cons_cons, List.zip_nil_right, List.foldl_toArray, List.foldl_cons, List.foldl_nil, List.setIfInBounds_toArray, List.set_cons_succ, List.set_cons_zero]
    gi_wp2
    refine ⟨_, run_beginRound hj.l (by rw [← hr]), ?_⟩
    have hj2 := hj.put (by omega) { r with state := .busy }
    have hB2 := rd_putLoop hB hj.l (.loop { r with state := .busy })
    have kp2 : KP [w.heap.size, W0.heap.size + 1] W (W.putObj (W0.heap.size + 1) (.loop { r with state := .busy })) := kp_put (by simp)
    generalize W.putObj (W0.heap.size + 1) (.loop { r with state := .busy }) = W2 at *
    have cb := cell_h hj2.b
    have fb : W2.frozen? ⟨w.heap.size, 0, none⟩ = false := by simp [World.frozen?, hj2.b]
    have HJ2 := Lib.hid hj2
    have HSB := Lib.hid hsb
    have HB2 := Lib.hid hB2
    clear hj2 hsb hB2 hj
    gi_wp2
    gi_loopw [9, 27] (fun s i wr => ∃ k : Nat, k ≤ S.length ∧ i = .int .i64 k ∧ s = .int .i64 (gmax (S.take k)) ∧ wr = W2) (fun _ i _ => S.length - (intOf i).toNat)
    case atStart => exact ⟨0, Nat.zero_le _, rfl, by simp [gmax], rfl⟩
    case round =>
      obtain ⟨k, hk, rfl, rfl, rfl⟩ := hrel
      by_cases hlt : k < S.length
      · obtain ⟨a, rfl, hab, hac⟩ := HB2.out.at hlt
        have G := Lib.hid (gmax_take hlt)
        generalize S[k] = x at *
        generalize gmax (S.take k) = y at *
        gi_wp2
        go_roundw
        case rel => exact ⟨k + 1, by omega, by go_num, by rw [G.out], trivial⟩
        case measure => simp [intOf]; omega
      · have e : gmax (S.take k) = gmax S := by rw [List.take_of_length_le (by omega)]
        rw [e]
        clear e
        obtain ⟨b, hbv⟩ : ∃ b, mn (-1) (pre.map gmax) = b := ⟨_, rfl⟩
        rw [hbv] at cb
        have NX : Hid (mn (-1) ((pre ++ [S]).map gmax) = upd1 b (gmax S)) := Lib.hid (by rw [List.map_append, mn_append, hbv]; rfl)
        have HBV := Lib.hid hbv
        clear hbv
        have NG := gmax_nonneg S
        generalize gmax S = z at *
        have hrr : ({ { r with state := .busy } with state := if (none : Option Code).isNone = true then .ready else .done, pending := none } : Loop) = r := by rw [← hr]; rfl
        have HRR := Lib.hid hrr
        clear hrr
        gi_wp2
        all_goals first
          | (have hj3 := HJ2.out.set (pre' := pre ++ [S]) (z := z) (by omega) (by rw [NX.out]; unfold upd1; rw [if_pos (by omega)])
             have hend := run_endRound (P := Try.prog) none hj3.l
             rw [HRR.out] at hend
             exact ⟨_, _, hend, rfl, hj3.put (by omega) r, (kp2.trans (kp_set (by simp))).trans (kp_put (by simp))⟩)
          | (have hj3 := HJ2.out.still (pre' := pre ++ [S]) (by rw [NX.out, HBV.out]; unfold upd1; rw [if_neg (by omega)])
             have hend := run_endRound (P := Try.prog) none hj3.l
             rw [HRR.out] at hend
             exact ⟨_, _, hend, rfl, hj3.put (by omega) r, kp2.trans (kp_put (by simp))⟩)
  have ic := iter_any RG A c C n (w.heap.size + 1) W1 ⟨by simp; omega, by simp; omega⟩ (fun hne a ha => by
    rcases HA.out with h | ⟨a', e, hb, -⟩
    · exact absurd h hne
    · rw [ha] at e; cases e; simp; omega) (by simp; omega) hd he hr1 j0 HBD.out
  refine (callsIn_wide.2 ic).mono ?_
  rintro e W2 ⟨⟨v', rfl⟩, hj, -⟩
  have hend := run_endLoop (P := Try.prog) hj.l (by rw [← hr]; simp)
  have hp : r.pending = none := by rw [← hr]
  rw [hp] at hend
  clear hp
  have hj4 := hj.put (by omega) { state := .exhausted, pending := none, fn := r.fn, tmps := r.tmps, params := r.params, assign := r.assign, body := r.body, defers := r.defers }
  refine ⟨none, _, hend, ?_⟩
  generalize W2.putObj (W0.heap.size + 1) (.loop { state := .exhausted, pending := none, fn := r.fn, tmps := r.tmps, params := r.params, assign := r.assign, body := r.body, defers := r.defers }) = W3 at *
  have cb := cell_h hj4.b
  obtain ⟨z, hz⟩ : ∃ z, mn (-1) ((leaves n C []).map gmax) = z := ⟨_, rfl⟩
  rw [hz] at cb
  have E2 := Lib.hid (E1.out.trans hz)
  clear hz
  gi_wp2
  refine ⟨by simp, .inl ⟨_, _, rfl, run_takeDeferred hj4.d, ?_⟩⟩
  have hd := hj4.d
  refine ⟨_, results_tmp2 rfl _ _ _, ?_, ?_⟩
  · rw [E2.out]; rfl
  · exact hj4.be.trans (belowK_b (w := w) (Nat.le_refl _) W3 W0.heap.size _ _ (by omega) hd rfl rfl)

set_option maxRecDepth 100000 in
set_option maxHeartbeats 2000000 in
theorem bestP_any (A : Option Addr) (c : Nat) (C : List Int) (n : Int) (w : World) (hA : RD iv w A C) :
    Calls Try.prog 21 #[.slice A C.length c, .int .i64 n] w fun e w' => e = .returned (.tuple #[.int .i64 (bst C n), .int .i64 (bstE C n)]) ∧ Below w.heap.size w w' := by
  by_cases h0 : ca C n = 0
  · obtain ⟨h1, hn1, hn2⟩ := ca_zero.1 h0
    by_cases h8 : 8 < C.length
    · have q0 : (ca C n != 0) = false := by simpa using h0
      have E : bstE C n = 4 := by unfold bstE; rw [if_neg (by simpa using h0), if_pos h8]
      have E2 : bst C n = 0 := by unfold bst; rw [E, if_pos (by simp)]
      rw [E, E2]
      clear h0 E E2 h1
      refine (callsIn_wide (n := 5)).1 ?_
      refine callsIn_of_wp_marks Try.func21 rfl trivial ?_ rfl
      simp only [Try.ntmps21, List.size_toArray, List.length_cons, List.length_nil, Nat.reduceAdd, Nat.reduceSub, Array.replicate_succ, Array.replicate_zero, List.push_toArray, List.append_toArray, List.nil_append, List.cons_append]
      gi_wp2_with (refine ⟨trivial, ?_⟩; gi_at_call 30; refine (callsIn_wide.2 (checkArguments_any A c C n _ hA)).mono ?_; rintro e w' ⟨rfl, rfl⟩)
      refine ⟨_, results_tmp2 rfl _ _ _, rfl, Below.refl _ _⟩
    · have E : bstE C n = 0 := by unfold bstE; rw [if_neg (by simpa using h0), if_neg h8]
      have E2 : bst C n = bestR n.toNat C [] := by unfold bst; rw [E, if_neg (by simp)]
      obtain ⟨N, rfl⟩ : ∃ N : Nat, n = N := ⟨n.toNat, by omega⟩
      rw [E, E2]
      exact best_main A c C N w hA h0 h8
  · have q0 : (ca C n != 0) = true := by simpa using h0
    have E : bstE C n = ca C n := by unfold bstE; rw [if_pos h0]
    have E2 : bst C n = 0 := by unfold bst; rw [E, if_pos h0]
    rw [E, E2]
    clear h0 E E2
    refine (callsIn_wide (n := 5)).1 ?_
    refine callsIn_of_wp_marks Try.func21 rfl trivial ?_ rfl
    simp only [Try.ntmps21, List.size_toArray, List.length_cons, List.length_nil, Nat.reduceAdd, Nat.reduceSub, Array.replicate_succ, Array.replicate_zero, List.push_toArray, List.append_toArray, List.nil_append, List.cons_append]
    gi_wp2_with (refine ⟨trivial, ?_⟩; gi_at_call 30; refine (callsIn_wide.2 (checkArguments_any A c C n _ hA)).mono ?_; rintro e w' ⟨rfl, rfl⟩)
    refine ⟨_, results_tmp2 rfl _ _ _, rfl, Below.refl _ _⟩
end Go.Proofs.Ytejipflkdigbbaa

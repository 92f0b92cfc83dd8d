/- Walk: the reference's Greedy. -/
import Derived.Test.YtejipflkdigbbaaGrw
import Derived.Test.YtejipflkdigbbaaGrp
import Derived.Test.YtejipflkdigbbaaOrd
namespace Go.Proofs.Ytejipflkdigbbaa
open Go.RowKit

theorem rd_kept {w w' : World} {A : Option Addr} {L : List Int} {row : Option Nat} (h : RD iv w A L) (hg : w.grownBy w' row) (hne : L ≠ [] → ∀ a, A = some a → some a.block ≠ row) : RD iv w' A L := by
  rcases h with h | ⟨a, e, hb, hc⟩
  · exact .inl h
  · by_cases hl : L = []
    · exact .inl hl
    · refine .inr ⟨a, e, Nat.lt_of_lt_of_le hb hg.size, fun j z hj => ?_⟩
      rw [← hc j z hj]
      have h1 := hg.block a.block hb (hne hl a e)
      unfold World.cell?
      rw [add_block, h1]
theorem below_grown {w w' : World} (h : Below w.heap.size w w') (row : Option Nat) : w.grownBy w' row := ⟨h.os, h.tape, h.output, h.size, fun k hk _ => h.block k hk⟩
theorem rfold_len (C : List Int) (n : Nat) {k : Nat} (hk : k ≤ (ord C).length) : (rfold C n k).1.length = n ∧ (rfold C n k).2.length = n := by
  rw [rfold_eq C n k hk]
  exact ⟨(gfold_len C n k).1, by rw [List.length_map]; exact (gfold_len C n k).2⟩

/-- The memory of the reference's Greedy after ks sums and kp parts. -/
structure RS (W w : World) (Ao : Option Addr) (C : List Int) (gs gp B n ks kp : Nat) : Prop where
  below : Below W.heap.size W w
  rord : RD iv w Ao (ord C)
  far : (ord C) ≠ [] → ∀ a, Ao = some a → a.block < B ∧ a.block ≠ gs ∧ a.block ≠ gp
  sums : OT w W.heap.size (.slice (some ⟨gs, 0, none⟩) n n) (rfold C n ks).1
  parts : ∃ V, PT w W.heap.size B gp n V (rfold C n kp).2
  s : W.heap.size ≤ gs ∧ gs < B
  p : W.heap.size ≤ gp ∧ gp < B ∧ gp ≠ gs

section
variable {W w : World} {Ao : Option Addr} {C : List Int} {gs gp B n k : Nat}
theorem RS.kept {w' : World} {ks kp : Nat} (h : RS W w Ao C gs gp B n ks kp) (hg : w.grownBy w' none) : RS W w' Ao C gs gp B n ks kp where
  below := h.below.grown hg h.below.size (fun k e => by cases e)
  rord := rd_kept h.rord hg (fun _ _ _ => by simp)
  far := h.far
  sums := h.sums.kept hg (.inr (by simp [Value.ownBlock]))
  parts := by obtain ⟨V, hV⟩ := h.parts; exact ⟨V, hV.kept hg (fun k e => by cases e)⟩
  s := h.s
  p := h.p
theorem RS.sum (h : RS W w Ao C gs gp B n k k) (hk : k < (ord C).length) : RS W (w.setCell ⟨gs, lp (rfold C n k).1, none⟩ (iv ((rfold C n k).1.getD (lp (rfold C n k).1) 0 + cst C (ord C)[k]))) Ao C gs gp B n (k + 1) k := by
  obtain ⟨h1, g1⟩ := h.sums.put (rfold_len C n (Nat.le_of_lt hk)).1 (lp (rfold C n k).1) ((rfold C n k).1.getD (lp (rfold C n k).1) 0 + cst C (ord C)[k])
  have e : (rfold C n (k + 1)).1 = (rfold C n k).1.set (lp (rfold C n k).1) ((rfold C n k).1.getD (lp (rfold C n k).1) 0 + cst C (ord C)[k]) := by rw [rfold_succ C n hk]; rfl
  obtain ⟨V, hV⟩ := h.parts
  exact ⟨Below.setIn h.below h.s.1 g1 h.below.size, rd_kept h.rord g1 (fun hne a ha => by have := (h.far hne a ha).2.1; simpa using this), h.far, by rw [e]; exact h1, ⟨V, hV.kept g1 fun b e => by cases e; exact ⟨h.s.2, fun e => h.p.2.2 e.symm⟩⟩, h.s, h.p⟩
theorem RS.part (h : RS W w Ao C gs gp B n (k + 1) k) (hk : k < (ord C).length) {v' : Value} {w' : World}
    (ho : OT w' w.heap.size v' (ins (ord C)[k] ((rfold C n k).2.getD (lp (rfold C n k).1) []))) (hb : Below w.heap.size w w') (hn : lp (rfold C n k).1 < n) :
    RS W (w'.setCell ⟨gp, lp (rfold C n k).1, none⟩ v') Ao C gs gp B n (k + 1) (k + 1) := by
  obtain ⟨V, hV⟩ := h.parts
  obtain ⟨v, L, hv, hL, -, -⟩ := hV.cell hn
  have e : (rfold C n (k + 1)).2 = (rfold C n k).2.set (lp (rfold C n k).1) (ins (ord C)[k] ((rfold C n k).2.getD (lp (rfold C n k).1) [])) := by rw [rfold_succ C n hk]; rfl
  have h2 := h.kept (below_grown hb none)
  obtain ⟨p1, g1⟩ := hV.put hv (ho.mono hV.sz) (below_grown hb _) (.inr fun b hb' => (World.ownsRow.lt ho b hb').1)
  exact ⟨Below.setIn h2.below h.p.1 g1 h2.below.size, rd_kept h2.rord g1 (fun hne a ha => by have := (h.far hne a ha).2.2; simpa using this), h.far, h2.sums.kept g1 (.inr fun e => h.p.2.2 (by cases e; rfl)), ⟨_, by rw [e]; exact p1⟩, h.s, h.p⟩
end

set_option maxHeartbeats 4000000 in
set_option maxRecDepth 100000 in
theorem rgreedy_any (A : Option Addr) (c : Nat) (C : List Int) (n : Int) (W : World) (hA : RD iv W A C) : Calls Try.prog 17 #[.slice A C.length c, .int .i64 n] W (GPost (greedy C n) (ca C n) W) := by
  by_cases h0 : ca C n = 0
  · have q0 : (ca C n != 0) = false := by simpa using h0
    obtain ⟨h1, hn1, hn2⟩ := ca_zero.1 h0
    obtain ⟨hC, hc⟩ := cc_zero.1 h1
    obtain ⟨N, rfl⟩ : ∃ N : Nat, n = N := ⟨n.toNat, by omega⟩
    have E0 := Lib.hid h0
    have HC := Lib.hid hc
    have HA := Lib.hid hA
    have GR : Hid (greedy C N = (rfold C N C.length).2) := Lib.hid (by unfold greedy; rw [if_pos h0, rfold_eq C N _ (by rw [ord_len]; exact Nat.le_refl _)]; simp)
    clear h0 h1 hc hA
    obtain ⟨i3, hi3, hz3, hs3, hb3⟩ := info_parts info3
    obtain ⟨i22, hi22, hz22, hs22, hb22⟩ := info_parts info22
    go_enter Try.func17, Try.ntmps17
    go_wp2_with (first
      | (go_at_call 36; refine (both_any A c C N _ HA.out).mono ?_; rintro e w' ⟨rfl, rfl⟩)
      | (refine wpList_make_full _ rfl _ _ 23 rfl W.heap.size 22 i22 (.slice none 0 0) 1 Try.underlying23 hi22 hz22 hs22 .i64 .i64 _ _ N rfl rfl rfl rfl (by rw [hb22]; omega) (by unfold maxLen; omega) (Nat.le_refl _) ?_; intro w1 r1 g1)
      | (refine wpList_make_full _ rfl _ _ 22 rfl W.heap.size 3 i3 (.int .i64 0) 1 Try.underlying22 hi3 hz3 hs3 .i64 .i64 _ _ N rfl rfl rfl rfl (by rw [hb3]; omega) (by unfold maxLen; omega) g1.size ?_; intro w2 r2 g2)
      | (go_at_call 37; refine (order_any A c C _ (rd_kept (rd_kept HA.out g1 (fun _ _ _ => by simp)) g2 (fun _ _ _ => by simp)) hC).mono ?_; rintro e w3 ⟨v3, rfl, o3, k3⟩))
    rw [made_nils] at r1
    rw [made_ints] at r2
    obtain ⟨Ao, co, rfl, -, rd3, -⟩ := o3.form
    have hol : (ord C).length = C.length := ordU_len C C.length
    have lt1 : W.heap.size ≤ W.heap.size ∧ W.heap.size < w1.heap.size := World.ownsRow.lt r1 _ rfl
    have lt2 : W.heap.size ≤ w1.heap.size ∧ w1.heap.size < w2.heap.size := World.ownsRow.lt r2 _ rfl
    have G0 : RS W w3 Ao C w1.heap.size W.heap.size w3.heap.size N 0 0 := by
      have b1 : Below W.heap.size W w1 := (Below.refl _ _).grown g1 (Nat.le_refl _) (fun k e => by cases e)
      have b2 : Below W.heap.size W w2 := b1.grown g2 b1.size (fun k e => by cases e)
      have g3 := below_grown k3 none
      have sz3 := k3.size
      refine ⟨b2.trans (k3.mono b2.size), rd3, fun hne a ha => ?_, ?_, ⟨List.replicate N (.slice none 0 0), ?_⟩, ⟨by omega, by omega⟩, ⟨Nat.le_refl _, by omega, by omega⟩⟩
      · subst ha
        have hb : (Value.slice (some a) (ord C).length co).ownBlock = some a.block := rfl
        have := World.ownsRow.lt o3 a.block hb
        omega
      · rw [rfold_zero]
        have : OT w2 W.heap.size (.slice (some ⟨w1.heap.size, 0, none⟩) N N) (List.replicate N 0) := by unfold OT; simpa using r2
        exact this.kept g3 (.inr (by simp [Value.ownBlock]))
      · rw [rfold_zero]
        exact PT.start (World.ownsRow.kept (World.ownsRow.kept r1 g2 (.inr (by simp [Value.ownBlock]))) g3 (.inr (by simp [Value.ownBlock]))) (by omega) (Nat.le_refl _)
    rw [hol]
    generalize w1.heap.size = gs at *
    generalize hgp : W.heap.size = gp at *
    generalize w3.heap.size = B at *
    have HG0 := Lib.hid G0
    have HOL := Lib.hid hol
    have HGP := Lib.hid hgp
    clear G0 r1 r2 g1 g2 o3 k3 rd3 lt1 lt2 hol hgp
    go_wp2_with fail
    go_loopw [10, 11] (fun i _ wr => ∃ k : Nat, k ≤ C.length ∧ i = .int .i64 k ∧ Hid (RS W wr Ao C gs gp B N k k)) (fun i _ _ => C.length - (intOf i).toNat)
    case atStart => exact ⟨0, Nat.zero_le _, rfl, HG0⟩
    case round =>
      obtain ⟨k, hk, rfl, HG⟩ := hrel
      clear HG0
      by_cases hlt : k < C.length
      · have hkl : k < (ord C).length := by have := HOL.out; omega
        have hx := ordU_mem (C := C) (k := C.length) (List.getElem_mem hkl)
        have hlS := (rfold_len C N (Nat.le_of_lt hkl)).1
        have hne : (rfold C N k).1 ≠ [] := by intro e; rw [e] at hlS; simp at hlS; omega
        have hlp := lp_lt hne
        have hsj : 0 ≤ (rfold C N k).1.getD (lp (rfold C N k).1) 0 ∧ (rfold C N k).1.getD (lp (rfold C N k).1) 0 ≤ k * 1099511627776 := by
          have hbd := gfold_bd HC.out N k (Nat.le_of_lt hkl)
          have e1 : (rfold C N k).1 = (gfold C N k).1 := by rw [rfold_eq C N k (Nat.le_of_lt hkl)]
          rw [e1] at hlp ⊢
          exact hbd _ (by simp [List.getD_eq_getElem?_getD, hlp])
        have hcx := getD_bd HC.out ((ord C)[k]'hkl).toNat
        obtain ⟨X, hX⟩ : ∃ X : Nat, (ord C)[k]'hkl = (X : Int) := ⟨((ord C)[k]'hkl).toNat, by omega⟩
        rw [hX] at hx hcx
        simp only [Int.toNat_natCast] at hcx
        have hjN : lp (rfold C N k).1 < N := by omega
        have LP := fun u h => least_any (some ⟨gs, 0, none⟩) N (rfold C N k).1 u h (by omega)
        rw [hlS] at LP
        have HLP := Lib.hid LP
        obtain ⟨ao, eao, hab, hac⟩ := HG.out.rord.at hkl
        rw [hX] at hac
        subst eao
        -- the part as it lies
        have FACT : Hid (∀ w', RS W w' (some ao) C gs gp B N k k → (w'.cell? ⟨gs, lp (rfold C N k).1, none⟩ = some (.int .i64 ((rfold C N k).1.getD (lp (rfold C N k).1) 0)) ∧ w'.frozen? ⟨gs, lp (rfold C N k).1, none⟩ = false ∧ RD iv w' A C) ∧ w'.cell? (ao.add k) = some (.int .i64 X)) := Lib.hid (by
          intro w' h
          obtain ⟨f1, f2⟩ := h.sums.at' (j := lp (rfold C N k).1) hlS hjN
          obtain ⟨ao', e', hab', hac'⟩ := h.rord.at hkl
          cases e'
          rw [hX] at hac'
          exact ⟨⟨f1, f2, HA.out.below h.below⟩, hac'⟩)
        have FACT2 : Hid (∀ w', RS W w' (some ao) C gs gp B N (k + 1) k → ∃ Av cv L, w'.cell? ⟨gp, lp (rfold C N k).1, none⟩ = some (.slice Av L.length cv) ∧ RD iv w' Av L ∧ L.length ≤ cv ∧ L.length ≤ 10000 ∧ (rfold C N k).2.getD (lp (rfold C N k).1) [] = L ∧ w'.cell? (ao.add k) = some (.int .i64 X)) := Lib.hid (by
          intro w' h
          obtain ⟨V, hV⟩ := h.parts
          obtain ⟨v, L, hv, hL, hcell, hown⟩ := hV.cell (k := lp (rfold C N k).1) hjN
          obtain ⟨Av, cv, rfl, h1, h2, -⟩ := hown.form
          obtain ⟨ao', e', hab', hac'⟩ := h.rord.at hkl
          cases e'
          rw [hX] at hac'
          refine ⟨Av, cv, L, hcell, h2, h1, ?_, by simp [List.getD_eq_getElem?_getD, hL], hac'⟩
          have h3 := hL
          rw [rfold_eq C N k (Nat.le_of_lt hkl)] at h3
          simp only [List.getElem?_map] at h3
          obtain ⟨M, hM, rfl⟩ := Option.map_eq_some_iff.1 h3
          have := gfold_rows C N k (Nat.le_of_lt hkl) M (List.mem_of_getElem? hM)
          rw [(ascd_perm M).length_eq]
          omega)
        have SUM : Hid (∀ w', RS W w' (some ao) C gs gp B N k k → RS W (w'.setCell ⟨gs, lp (rfold C N k).1, none⟩ (.int .i64 ((rfold C N k).1.getD (lp (rfold C N k).1) 0 + C.getD X 0))) (some ao) C gs gp B N (k + 1) k) := Lib.hid (by
          intro w' h
          have := h.sum hkl
          rw [hX] at this
          exact this)
        have PART : Hid (∀ w' w'' v', RS W w' (some ao) C gs gp B N (k + 1) k → OT w'' w'.heap.size v' (ins (X : Int) ((rfold C N k).2.getD (lp (rfold C N k).1) [])) → Below w'.heap.size w' w'' → RS W (w''.setCell ⟨gp, lp (rfold C N k).1, none⟩ v') (some ao) C gs gp B N (k + 1) (k + 1)) := Lib.hid (by
          intro w' w'' v' h1 h2 h3
          exact h1.part hkl (by rw [hX]; exact h2) h3 hjN)
        have PFR : Hid (∀ w', RS W w' (some ao) C gs gp B N (k + 1) k → w'.frozen? ⟨gp, lp (rfold C N k).1, none⟩ = false ∧ ∃ v, w'.cell? ⟨gp, lp (rfold C N k).1, none⟩ = some v) := Lib.hid (by
          intro w' h
          obtain ⟨V, hV⟩ := h.parts
          obtain ⟨v, L, hv, hL, hcell, hown⟩ := hV.cell (k := lp (rfold C N k).1) hjN
          exact ⟨World.ownsRow.frozenAt hV.row _, v, hcell⟩)
        have RSU : Hid (RD iv wr (some ⟨gs, 0, none⟩) (rfold C N k).1) := Lib.hid HG.out.sums.rd'
        clear hX hne hlp hlS LP hab hac
        generalize (rfold C N k).1.getD (lp (rfold C N k).1) 0 = sj at *
        generalize hjj : lp (rfold C N k).1 = j at *
        clear hjj
        go_upto_region 11 with (go_at_call 38; refine (HLP.out _ RSU.out).mono ?_; rintro e w' ⟨rfl, n1, rfl⟩)
        have HG1 := Lib.hid (HG.out.kept (grown_drewN wr n1 none))
        clear HG RSU HLP
        generalize wr.drewN n1 = w5 at *
        obtain ⟨⟨f1, f2, f3⟩, f5⟩ := FACT.out _ HG1.out
        obtain ⟨ax, rfl, hab, hac⟩ := costs_at f3 (show X < C.length by omega)
        have P2 := Lib.hid (SUM.out _ HG1.out)
        clear f3 FACT SUM HG1
        generalize C.getD X 0 = cx at *
        have t1 : (0 : Int) ≤ (X : Int) := by omega
        have t2 : (X : Int) < (C.length : Int) := by omega
        have t3 : (0 : Int) ≤ (j : Int) := by omega
        have t4 : (j : Int) < (N : Int) := by omega
        have t5 : IntKind.i64.wrap (sj + cx) = sj + cx := IntWalk.i64_in _ (by omega)
        have t6 : (k : Int) < (C.length : Int) := by omega
        go_region
        go_upto_region 12 with (fail)
        have P3 : Hid (RS W (w5.setCell ⟨gs, j, none⟩ (.int .i64 (sj + cx))).drew.drew (some ao) C gs gp B N (k + 1) k) := Lib.hid (P2.out.kept (grown_drewN _ 2 none))
        have P4 : Hid (RS W (w5.setCell ⟨gs, j, none⟩ (.int .i64 (sj + cx))).drew (some ao) C gs gp B N (k + 1) k) := Lib.hid (P2.out.kept (grown_drewN _ 1 none))
        clear P2 f1 f2 f5 hac hab
        generalize (w5.setCell ⟨gs, j, none⟩ (.int .i64 (sj + cx))).drew = w6 at *
        obtain ⟨Av, cv, L, c1, rL, hLc, hLl, hLe, c2⟩ := FACT2.out _ P4.out
        have RL : Hid (RD iv w6.drew Av L) := Lib.hid (by obtain ⟨Av', cv', L', c1', rL', -, -, hLe', -⟩ := FACT2.out _ P3.out; have e : w6.drew.cell? ⟨gp, j, none⟩ = w6.cell? ⟨gp, j, none⟩ := rfl; rw [e, c1] at c1'; have e2 : L = L' := hLe.symm.trans hLe'; subst e2; simp at c1'; rw [c1'.1]; exact rL')
        have PART' : Hid (∀ w'' v', OT w'' w6.drew.heap.size v' (ins (X : Int) L) → Below w6.drew.heap.size w6.drew w'' → RS W (w''.setCell ⟨gp, j, none⟩ v') (some ao) C gs gp B N (k + 1) (k + 1)) := Lib.hid (by intro w'' v' h1 h2; exact PART.out _ _ _ P3.out (by rw [hLe]; exact h1) h2)
        have PFR' : Hid (∀ w'', Below w6.drew.heap.size w6.drew w'' → w''.frozen? ⟨gp, j, none⟩ = false ∧ w''.cell? ⟨gp, j, none⟩ = some (.slice Av L.length cv)) := Lib.hid (by
          intro w'' hb
          have h := P3.out.kept (below_grown hb none)
          refine ⟨(PFR.out _ h).1, ?_⟩
          have hlow : gp < w6.drew.heap.size := by
            obtain ⟨V, hV⟩ := P3.out.parts
            have := hV.low
            have := hV.sz
            omega
          rw [hb.cell (p := ⟨gp, j, none⟩) hlow]
          exact c1)
        clear PART PFR FACT2 rL hLe P3 P4
        go_region_with ((go_at_call 39; refine (insert_any Av cv L X _ RL.out hLc hLl).mono ?_; rintro e w8 ⟨v8, rfl, o8, k8⟩; obtain ⟨d1, d2⟩ := PFR'.out _ k8; have P8 := Lib.hid (PART'.out _ _ o8 k8); obtain ⟨A8, c8, rfl, -⟩ := o8.form; clear o8 k8))
        all_goals
          go_wp2_with fail
          go_roundw
          case rel => exact ⟨k + 1, by omega, by go_num, P8⟩
          case measure => simp [intOf]; omega
      · obtain rfl : k = C.length := by omega
        obtain ⟨V, hV⟩ := HG.out.parts
        have hrows : ∀ L ∈ (rfold C N C.length).2, L.length ≤ 100000 := by
          intro L hL
          rw [rfold_eq C N _ (by rw [HOL.out]; exact Nat.le_refl _)] at hL
          obtain ⟨M, hM, rfl⟩ := List.mem_map.1 hL
          have := gfold_rows C N C.length (by rw [HOL.out]; exact Nat.le_refl _) M hM
          rw [(ascd_perm M).length_eq]
          omega
        obtain ⟨r1, r2, hlen⟩ := hV.rws hrows
        have FN : Hid (GPost (greedy C N) (ca C N) W (.returned (.tuple #[.slice (some ⟨gp, 0, none⟩) N N, .int .i64 0])) wr) := Lib.hid ⟨some ⟨gp, 0, none⟩, List.zipWith rowOf V (rfold C N C.length).2, N, by rw [hlen, E0.out], r1, by rw [GR.out]; exact r2, HG.out.below⟩
        clear r1 r2 hlen hrows hV HG
        go_wp2
        go_ret2
        exact FN.out
  · have hg : greedy C n = [] := by unfold greedy; rw [if_neg h0]
    have q0 : (ca C n != 0) = true := by simpa using h0
    have HA := Lib.hid hA
    have HGG := Lib.hid hg
    have BO := fun w h => both_any A c C n w h
    obtain ⟨f0, hf⟩ : ∃ f0, ca C n = f0 := ⟨_, rfl⟩
    rw [hf] at q0 BO ⊢
    have HBO := Lib.hid BO
    clear h0 hg hA hf BO
    go_enter Try.func17, Try.ntmps17
    go_wp2_with (go_at_call 36; refine (HBO.out _ HA.out).mono ?_; rintro e w' ⟨rfl, rfl⟩)
    go_ret2
    refine ⟨_, [], _, rfl, ⟨.inl rfl, fun x hx => by simp at hx⟩, by rw [HGG.out]; rfl, (Below.refl _ _).alloc (Nat.le_refl _) _⟩
end Go.Proofs.Ytejipflkdigbbaa

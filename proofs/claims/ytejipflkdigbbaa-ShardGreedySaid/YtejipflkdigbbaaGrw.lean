/- Walks: Greedy, the program's. -/
import Derived.Test.YtejipflkdigbbaaGrd
import Derived.Test.YtejipflkdigbbaaLst
import Derived.Test.YtejipflkdigbbaaBst
import Derived.RegionTactic
import Derived.ChangeAlike
import Derived.OneCell
namespace Go.Proofs.Ytejipflkdigbbaa
open Go.RowKit Go.Shelf Go.Sort

theorem made_ints (n : Nat) : (madeCells (Value.int .i64 0).cells (n * 1)).toList = (List.replicate n 0).map iv := by
  have : (Value.int .i64 0).cells = #[.int .i64 0] := rfl
  rw [this, toList_madeCells_one, List.map_replicate, Nat.mul_one]
/-- What Greedy hands back: rows of the call's own. -/
def GPost (P : List (List Int)) (k : Int) (W : World) (e : Ending) (w' : World) : Prop :=
  ∃ (A : Option Addr) (R : List Row) (d : Nat), e = .returned (.tuple #[.slice A R.length d, .int .i64 k]) ∧ Rws w' A R ∧ lls R = P ∧ Below W.heap.size W w'
def greedy (C : List Int) (n : Int) : List (List Int) := if ca C n = 0 then (gfold C n.toNat C.length).2.map ascd else []

theorem made_nils (n : Nat) : (madeCells (Value.slice none 0 0).cells (n * 1)).toList = List.replicate n (.slice none 0 0) := by
  have : (Value.slice none 0 0).cells = #[.slice none 0 0] := rfl
  rw [this, toList_madeCells_one, Nat.mul_one]
theorem PT.start {w : World} {base B gp n : Nat} (h : w.ownsRow base 22 1 (.slice (some ⟨gp, 0, none⟩) n n) n (List.replicate n (.slice none 0 0))) (hlow : gp < B) (sz : B ≤ w.heap.size) : PT w base B gp n (List.replicate n (.slice none 0 0)) (List.replicate n []) where
  row := h
  lenP := by simp
  own k v L hv hL := by
    have h1 := List.mem_replicate.1 (List.mem_of_getElem? hv)
    have h2 := List.mem_replicate.1 (List.mem_of_getElem? hL)
    rw [h1.2, h2.2]
    exact OT.nil w B
  apart j k u v hu hv hjk := by
    have h1 := List.mem_replicate.1 (List.mem_of_getElem? hu)
    rw [h1.2]
    exact .inl rfl
  low := hlow
  sz := sz
theorem GS.kept {W w w' : World} {A : Option Addr} {c : Nat} {C : List Int} {D go gs gp B n ks kp : Nat} (h : GS W w A c C D go gs gp B n ks kp) (hg : w.grownBy w' none) : GS W w' A c C D go gs gp B n ks kp where
  below := h.below.grown hg h.below.size fun k e => by cases e
  box := by rw [hg.block D (heap_lt h.box) (by simp)]; exact h.box
  rord := h.rord.kept hg (.inr (by simp [Value.ownBlock]))
  sums := h.sums.kept hg (.inr (by simp [Value.ownBlock]))
  parts := by obtain ⟨V, hV⟩ := h.parts; exact ⟨V, hV.kept hg fun k e => by cases e⟩
  d := h.d
  o := h.o
  s := h.s
  p := h.p
theorem grown_drewN (w : World) (n : Nat) (r : Option Nat) : w.grownBy (w.drewN n) r := ⟨rfl, rfl, rfl, Nat.le_refl _, fun _ _ _ => rfl⟩
theorem grown_alloc (w : World) (o : Obj) (r : Option Nat) : w.grownBy (w.alloc o) r := ⟨rfl, rfl, rfl, by simp, fun k hk _ => heap_alloc_old w o hk⟩
theorem gfold_rows (C : List Int) (n : Nat) : ∀ k, k ≤ (ord C).length → ∀ L ∈ (gfold C n k).2, L.length ≤ k := by
  intro k
  induction k with
  | zero => intro _ L hL; rw [gfold_zero] at hL; rw [(List.mem_replicate.1 hL).2]; exact Nat.le_refl _
  | succ k ih =>
    intro hk L hL
    rw [gfold_succ C n (by omega)] at hL
    have ih' := ih (by omega)
    rcases List.mem_or_eq_of_mem_set hL with h | h
    · have := ih' L h; omega
    · rw [h, List.length_append]
      by_cases hl : lp (gfold C n k).1 < (gfold C n k).2.length
      · have := ih' ((gfold C n k).2.getD (lp (gfold C n k).1) []) (by simp [List.getD_eq_getElem?_getD, hl])
        simp only [List.length_singleton]
        omega
      · simp [List.getD_eq_getElem?_getD, List.getElem?_eq_none (Nat.le_of_not_lt hl)]
theorem gfold_bd {C : List Int} (hC : ∀ c ∈ C, 0 ≤ c ∧ c ≤ 1099511627776) (n : Nat) : ∀ k, k ≤ (ord C).length → ∀ s ∈ (gfold C n k).1, 0 ≤ s ∧ s ≤ k * 1099511627776 := by
  intro k
  induction k with
  | zero => intro _ s hs; rw [gfold_zero] at hs; have := (List.mem_replicate.1 hs).2; omega
  | succ k ih =>
    intro hk s hs
    rw [gfold_succ C n (by omega)] at hs
    have ih' := ih (by omega)
    have hb := getD_bd hC ((ord C)[k]'(by omega)).toNat
    rcases List.mem_or_eq_of_mem_set hs with h | h
    · have := ih' s h; omega
    · by_cases hl : lp (gfold C n k).1 < (gfold C n k).1.length
      · have := ih' ((gfold C n k).1.getD (lp (gfold C n k).1) 0) (by simp [List.getD_eq_getElem?_getD, hl])
        unfold cst at h
        omega
      · have h0 : (gfold C n k).1.getD (lp (gfold C n k).1) 0 = 0 := by simp [List.getD_eq_getElem?_getD, List.getElem?_eq_none (Nat.le_of_not_lt hl)]
        unfold cst at h
        omega
theorem OT.at' {w : World} {base g cap n : Nat} {L : List Int} (h : OT w base (.slice (some ⟨g, 0, none⟩) n cap) L) (hn : L.length = n) {j : Nat} (hj : j < n) : w.cell? ⟨g, j, none⟩ = some (.int .i64 (L.getD j 0)) ∧ w.frozen? ⟨g, j, none⟩ = false := by
  subst hn
  exact h.at hj
theorem OT.rd' {w : World} {base g cap n : Nat} {L : List Int} (h : OT w base (.slice (some ⟨g, 0, none⟩) n cap) L) : RD iv w (some ⟨g, 0, none⟩) L := by
  obtain ⟨A, c, e, hc, hr, -⟩ := h.form
  cases e
  exact hr
/-- What slices.SortStableFunc does to the order of Greedy. -/
def Sorts (C : List Int) : Prop := ∀ (A : Option Addr) (c D g cap B : Nat) (w : World), w.heap[D]? = some (.cells #[.slice A C.length c] 22 (0, 0)) → RD iv w A C → D ≠ g → (C ≠ [] → ∀ a, A = some a → a.block ≠ g) → OT w B (.slice (some ⟨g, 0, none⟩) C.length cap) (idx C.length) →
    Calls Try.prog 31 #[.slice (some ⟨g, 0, none⟩) C.length cap, .func (.func 32) #[] #[.pointer (some ⟨D, 0, none⟩)]] w fun e w' => e = .returned (.tuple #[]) ∧ OT w' B (.slice (some ⟨g, 0, none⟩) C.length cap) (ord C) ∧ w.grownBy w' (some g)
theorem sorts_small {C : List Int} (h : C.length < 20) : Sorts C := fun A c D g cap B w h1 h2 h3 h4 h5 => sortOrder A c C D g cap B w h h1 h2 h3 h4 h5

set_option maxHeartbeats 4000000 in
set_option maxRecDepth 100000 in
theorem greedy_any (A : Option Addr) (c : Nat) (C : List Int) (n : Int) (W : World) (hA : RD iv W A C) (hS : Sorts C) : Calls Try.prog 16 #[.slice A C.length c, .int .i64 n] W (GPost (greedy C n) (ca C n) W) := by
  by_cases h0 : ca C n = 0
  · have q0 : (ca C n != 0) = false := by simpa using h0
    obtain ⟨h1, hn1, hn2⟩ := ca_zero.1 h0
    obtain ⟨hC, hc⟩ := cc_zero.1 h1
    obtain ⟨N, rfl⟩ : ∃ N : Nat, n = N := ⟨n.toNat, by omega⟩
    have E0 := Lib.hid h0
    have HC := Lib.hid hc
    have HA := Lib.hid hA
    have HS := Lib.hid hS
    clear h0 h1 hc hS
    have hA1 := hA.alloc (.cells #[.slice A C.length c] 22)
    obtain ⟨i3, hi3, hz3, hs3, hb3⟩ := info_parts info3
    go_enter Try.func16, Try.ntmps16
    go_wp2_with (first | (go_at_call 30; refine (checkArguments_any A c C N _ hA1).mono ?_; rintro e w' ⟨rfl, rfl⟩) | (refine wpList_make_full _ rfl _ _ 22 rfl W.heap.size 3 i3 (.int .i64 0) 1 Try.underlying22 hi3 hz3 hs3 .i64 .i64 _ _ C.length rfl rfl rfl rfl (by rw [hb3]; omega) (by unfold maxLen; omega) (by simp) ?_; intro w1 hown hgrow))
    rw [made_ints] at hown
    have hsz : (W.alloc (.cells #[.slice A C.length c] 22)).heap.size = W.heap.size + 1 := by simp
    rw [hsz] at hown
    have ho1 : OT w1 W.heap.size (.slice (some ⟨W.heap.size + 1, 0, none⟩) C.length C.length) (idz C.length 0) := by
      unfold OT
      rw [idz_len (Nat.zero_le _), idz_zero]
      simpa using hown
    have b0 : Below W.heap.size W (W.alloc (.cells #[.slice A C.length c] 22)) := (Below.refl _ _).alloc (Nat.le_refl _) _
    have hb1 : Below W.heap.size W w1 := b0.grown hgrow (by simp) (fun k hk => by cases hk)
    have hx1 : w1.heap[W.heap.size]? = some (.cells #[.slice A C.length c] 22 (0, 0)) := by
      rw [hgrow.block W.heap.size (by simp) (by simp)]
      exact heap_alloc_new W _
    have HO1 := Lib.hid ho1
    have HB1 := Lib.hid hb1
    have HX1 := Lib.hid hx1
    clear hown hgrow ho1 hb1 hx1 hA1 b0 hA hsz
    go_loopw [8, 27] (fun _ i wr => ∃ k : Nat, k ≤ C.length ∧ i = .int .i64 k ∧ Hid (OT wr W.heap.size (.slice (some ⟨W.heap.size + 1, 0, none⟩) C.length C.length) (idz C.length k)) ∧ Hid (Below W.heap.size W wr) ∧ Hid (wr.heap[W.heap.size]? = some (.cells #[.slice A C.length c] 22 (0, 0)))) (fun _ i _ => C.length - (intOf i).toNat)
    case atStart => exact ⟨0, Nat.zero_le _, rfl, HO1, HB1, HX1⟩
    case round =>
      obtain ⟨k, hk, rfl, HO2, HB2, HX2⟩ := hrel
      clear HO1 HB1 HX1
      by_cases hlt : k < C.length
      · obtain ⟨s1, s2⟩ := HO2.out.put (idz_len hk) k (k : Int)
        rw [idz_set hlt] at s1
        have S1 := Lib.hid s1
        have B1 := Lib.hid (Below.setIn HB2.out (by omega) s2 HB2.out.size)
        have X1 := Lib.hid ((s2.block W.heap.size (heap_lt HX2.out) (by simp)).trans HX2.out)
        obtain ⟨cellk, frz⟩ := OT.at (j := k) (by have h := HO2.out; unfold OT at h ⊢; rw [idz_len hk] at h; rw [idz_len hk]; exact h) (by rw [idz_len hk]; exact hlt)
        clear s1 s2
        go_wp2
        go_roundw
        case rel => exact ⟨k + 1, by omega, by go_num, S1, B1, X1⟩
        case measure => simp [intOf]; omega
      · obtain rfl : k = C.length := by omega
        have o2 := HO2.out
        rw [idz_end] at o2
        have O2 := Lib.hid o2
        have A2 := Lib.hid (HA.out.below HB2.out)
        have hAg : C ≠ [] → ∀ a, A = some a → a.block ≠ W.heap.size + 1 := by
          intro hne a ha
          rcases HA.out with h | ⟨a', e, hb, _⟩
          · exact absurd h hne
          · rw [ha] at e; cases e; omega
        have HG := Lib.hid hAg
        clear o2 hAg HO2
        obtain ⟨i22, hi22, hz22, hs22, hb22⟩ := info_parts info22
        go_wp2_with fail
        refine (HS.out A c W.heap.size (W.heap.size + 1) C.length W.heap.size _ HX2.out A2.out (by omega) HG.out O2.out).mono ?_
        rintro e w2 ⟨rfl, o2, g2⟩
        have O3 := Lib.hid o2
        have B3 := Lib.hid (Below.setIn HB2.out (by omega) g2 HB2.out.size)
        have X3 := Lib.hid ((g2.block W.heap.size (heap_lt HX2.out) (by simp)).trans HX2.out)
        have lt3 : W.heap.size + 1 < w2.heap.size := (World.ownsRow.lt o2 _ rfl).2
        clear o2 g2 O2 A2 HG HB2 HX2
        go_wp2_with (first | (refine wpList_make_full _ rfl _ _ 23 rfl W.heap.size 22 i22 (.slice none 0 0) 1 Try.underlying23 hi22 hz22 hs22 .i64 .i64 _ _ N rfl rfl rfl rfl (by rw [hb22]; omega) (by unfold maxLen; omega) B3.out.size ?_; intro w3 r3 g3; have S3 : W.heap.size ≤ w3.heap.size := Nat.le_trans B3.out.size g3.size) | (refine wpList_make_full _ rfl _ _ 22 rfl W.heap.size 3 i3 (.int .i64 0) 1 Try.underlying22 hi3 hz3 hs3 .i64 .i64 _ _ N rfl rfl rfl rfl (by rw [hb3]; omega) (by unfold maxLen; omega) S3 ?_; intro w4 r4 g4))
        rw [made_nils] at r3
        rw [made_ints] at r4
        have lt4 : W.heap.size ≤ w2.heap.size ∧ w2.heap.size < w3.heap.size := World.ownsRow.lt r3 _ rfl
        have lt5 : W.heap.size ≤ w3.heap.size ∧ w3.heap.size < w4.heap.size := World.ownsRow.lt r4 _ rfl
        have G0 : GS W w4 A c C W.heap.size (W.heap.size + 1) w3.heap.size w2.heap.size w4.heap.size N 0 0 := by
          have e3 : OT w3 W.heap.size (.slice (some ⟨W.heap.size + 1, 0, none⟩) C.length C.length) (ord C) := O3.out.kept g3 (.inr (by simp [Value.ownBlock]))
          have b3 : Below W.heap.size W w3 := B3.out.grown g3 B3.out.size fun k e => by cases e
          have x3 : w3.heap[W.heap.size]? = _ := (g3.block W.heap.size (heap_lt X3.out) (by simp)).trans X3.out
          refine ⟨b3.grown g4 b3.size (fun k e => by cases e), (g4.block W.heap.size (heap_lt x3) (by simp)).trans x3, e3.kept g4 (.inr (by simp [Value.ownBlock])), ?_, ⟨List.replicate N (.slice none 0 0), ?_⟩, by omega, by omega, by omega, by omega⟩
          · rw [gfold_zero]; unfold OT; simpa using r4
          · rw [gfold_zero]
            exact PT.start (World.ownsRow.kept r3 g4 (.inr (by simp [Value.ownBlock]))) (by omega) (Nat.le_refl _)
        have hgs := S3
        have hgp := B3.out.size
        generalize hgse : w3.heap.size = gs at *
        generalize hgpe : w2.heap.size = gp at *
        generalize hBe : w4.heap.size = B at *
        have HG0 := Lib.hid G0
        clear G0 r3 r4 lt3 lt4 lt5 g3 g4 O3 B3 X3 S3 hgse hgpe hBe HS
        go_wp2_with fail
        go_loopw [12, 13, 44] (fun _ _ i wr => ∃ k : Nat, k ≤ C.length ∧ i = .int .i64 k ∧ Hid (GS W wr A c C W.heap.size (W.heap.size + 1) gs gp B N k k)) (fun _ _ i _ => C.length - (intOf i).toNat)
        case atStart => exact ⟨0, Nat.zero_le _, rfl, HG0⟩
        case round =>
          obtain ⟨k, hk, rfl, HG⟩ := hrel
          clear HG0
          have hol : (ord C).length = C.length := ordU_len C C.length
          by_cases hlt : k < C.length
          · obtain ⟨V, hV⟩ := HG.out.parts
            have hx := ordU_mem (C := C) (k := C.length) (List.getElem_mem (show k < (ord C).length by omega))
            have hbd := gfold_bd HC.out N k (by omega)
            have hlS := (gfold_len C N k).1
            have hne : (gfold C N k).1 ≠ [] := by intro e; rw [e] at hlS; simp at hlS; omega
            have hlp := lp_lt hne
            have hsj := hbd _ (show (gfold C N k).1.getD (lp (gfold C N k).1) 0 ∈ _ by simp [List.getD_eq_getElem?_getD, hlp])
            have hcx := getD_bd HC.out ((ord C)[k]'(by omega)).toNat
            obtain ⟨v, L, hv, hL, hcell, hown⟩ := hV.cell (k := lp (gfold C N k).1) (by omega)
            have hord := (HG.out.rord.at' hol hlt).1
            have hordx : (ord C).getD k 0 = (ord C)[k]'(by omega) := by simp [List.getD_eq_getElem?_getD, show k < (ord C).length by omega]
            rw [hordx] at hord
            obtain ⟨X, hX⟩ : ∃ X : Nat, (ord C)[k]'(by omega) = (X : Int) := ⟨((ord C)[k]'(by omega)).toNat, by omega⟩
            have hrS := HG.out.sums.rd'
            have hPL : (gfold C N k).2.getD (lp (gfold C N k).1) [] = L := by simp [List.getD_eq_getElem?_getD, hL]
            have hLl : L.length ≤ 1000 := by
              have := gfold_rows C N k (by omega) L (List.mem_of_getElem? hL)
              omega
            have hvb : ∀ b, v.ownBlock = some b → B ≤ b := fun b hb => (World.ownsRow.lt hown b hb).1
            have STEP : Hid (∀ v' w', OT w' B v' (L ++ [(X : Int)]) → (wr.alloc (.cells #[iv X] 3)).grownBy w' v.ownBlock → (v'.ownBlock = v.ownBlock ∨ v'.ownBlock = some (wr.alloc (.cells #[iv X] 3)).heap.size) → GS W (w'.setCell ⟨gp, lp (gfold C N k).1, none⟩ v') A c C W.heap.size (W.heap.size + 1) gs gp B N k (k + 1) ∧ w'.ownsRow W.heap.size 22 1 (.slice (some ⟨gp, 0, none⟩) N N) N V) := Lib.hid (by
              intro v' w' ho hg hb
              have ga := grown_alloc wr (.cells #[iv X] 3) none
              have hV' := hV.kept ga (fun k e => by cases e)
              refine ⟨GS.part (HG.out.kept ga) hgp (by omega) hV' hv (by rw [hPL, hX]; exact ho) hg hb hvb, ?_⟩
              refine World.ownsRow.kept hV'.row hg (.inr fun e => ?_)
              have := hvb gp e.symm
              have := hV.low
              omega)
            have SUM : Hid (∀ w' n, GS W w' A c C W.heap.size (W.heap.size + 1) gs gp B N k (k + 1) → GS W ((w'.setCell ⟨gs, lp (gfold C N k).1, none⟩ (iv ((gfold C N k).1.getD (lp (gfold C N k).1) 0 + C.getD X 0))).drewN n) A c C W.heap.size (W.heap.size + 1) gs gp B N (k + 1) (k + 1)) := Lib.hid (by
              intro w' n h
              have := h.sum hgs (by omega)
              rw [hX] at this
              exact this.kept (grown_drewN _ n none))
            have FACT : Hid (∀ w', GS W w' A c C W.heap.size (W.heap.size + 1) gs gp B N k (k + 1) → w'.cell? ⟨gs, lp (gfold C N k).1, none⟩ = some (.int .i64 ((gfold C N k).1.getD (lp (gfold C N k).1) 0)) ∧ w'.frozen? ⟨gs, lp (gfold C N k).1, none⟩ = false ∧ w'.cell? ⟨W.heap.size, 0, none⟩ = some (.slice A C.length c) ∧ RD iv w' A C) := Lib.hid (by
              intro w' h
              obtain ⟨f1, f2⟩ := h.sums.at' (j := lp (gfold C N k).1) (gfold_len C N k).1 (by omega)
              exact ⟨f1, f2, cell_of_one h.box, HA.out.below h.below⟩)
            have cellV := World.ownsRow.cellAt hV.row
            have hlV := hV.lenV
            rw [hX] at hord hx hcx
            simp only [Int.toNat_natCast] at hcx
            have HOWN := Lib.hid hown
            have SZ := Lib.hid hV.sz
            have HVV := Lib.hid hV
            obtain ⟨Av, cv, rfl, -, -, -⟩ := hown.form
            generalize (ord C)[k]'(by omega) = x at *
            have cellj := cellV (lp (gfold C N k).1) (by omega)
            have hjN : lp (gfold C N k).1 < N := by omega
            have hsl : (gfold C N k).1.length = N := hlS
            have hrS' : RD iv wr (some ⟨gs, 0, none⟩) (gfold C N k).1 := hrS
            have LP := fun u => leastPart_any (some ⟨gs, 0, none⟩) N (gfold C N k).1 u
            rw [hlS] at LP
            have HLP := Lib.hid LP
            have HRS := Lib.hid hrS
            rw [hv] at cellj
            clear hX hordx hbd hne hPL hL hvb hV hown hol hlS hsl hrS hrS' LP cellV
            generalize (gfold C N k).1.getD (lp (gfold C N k).1) 0 = sj at *
            generalize hjj : lp (gfold C N k).1 = j at *
            clear hjj
            go_wp2_with (first | (go_at_call 34; refine (HLP.out _ HRS.out (by omega)).mono ?_; rintro e w' ⟨rfl, rfl⟩) | (at_builtin; refine wpList_app _ rfl (.tmp 55) (.tmp 57) rfl B (v := .slice Av L.length cv) rfl (HOWN.out.alloc _) (M := [(X : Int)]) rfl rfl (rd_one wr X 3) (by simp; omega) (by have := SZ.out; simp; omega) ?_; intro v' w' ho hg hb; obtain ⟨p1, p2⟩ := STEP.out v' w' ho hg hb; have P1 := Lib.hid p1; have c1 := World.ownsRow.cellAt p2 j (by omega); rw [hv] at c1; have c2 := World.ownsRow.frozenAt p2 j; obtain ⟨Ao, co, rfl, -, -, -⟩ := ho.form; simp only [List.length_append, List.length_cons, List.length_nil, Nat.zero_add] at P1; clear ho hg hb p1 p2))
            obtain ⟨f1, f2, f3, f4⟩ := FACT.out _ P1.out
            have P2 := Lib.hid (SUM.out _ 1 P1.out)
            obtain ⟨ax, rfl, hab, hac⟩ := costs_at f4 (show X < C.length by omega)
            clear f4 P1 c1 c2 STEP FACT SUM HLP HRS HOWN HVV
            generalize w'.setCell ⟨gp, j, none⟩ (.slice Ao (L.length + 1) co) = w5 at *
            generalize C.getD X 0 = cx at *
            have t1 : (0 : Int) ≤ (X : Int) := by omega
            have t2 : (X : Int) < (C.length : Int) := by omega
            have t3 : (0 : Int) ≤ (j : Int) := by omega
            have t4 : (j : Int) < (N : Int) := by omega
            have t5 : IntKind.i64.wrap (sj + cx) = sj + cx := IntWalk.i64_in _ (by omega)
            have t6 : Hid (wrap64 (sj + cx) = sj + cx) := Lib.hid (IntWalk.wrap64_in _ (by omega))
            go_region
            go_wp2_with fail
            go_roundw
            case rel => exact ⟨k + 1, by omega, by go_num, by first | exact P2 | (rw [t6.out]; exact P2)⟩
            case measure => simp [intOf]; omega
          · obtain rfl : k = C.length := by omega
            obtain ⟨V, hV⟩ := HG.out.parts
            have HV := Lib.hid hV
            have HB := Lib.hid HG.out.below
            have hrows := gfold_rows C N C.length (by omega)
            have HR := Lib.hid hrows
            have GR : Hid (greedy C N = (gfold C N C.length).2.map ascd) := Lib.hid (by unfold greedy; rw [if_pos E0.out]; simp)
            generalize (gfold C N C.length).2 = P at *
            have hPl := hV.lenP
            have hlV := hV.lenV
            have HPL := Lib.hid hPl
            have hgpB := hV.low
            have hBd := HG.out.d.1
            have hBd2 := HG.out.d.2
            clear hV HG hol hrows hPl
            go_wp2_with fail
            go_loopw [15, 73] (fun _ i wr => ∃ k : Nat, k ≤ N ∧ i = .int .i64 k ∧ Hid (PT wr W.heap.size B gp N V ((P.take k).map ascd ++ P.drop k)) ∧ Hid (Below W.heap.size W wr)) (fun _ i _ => N - (intOf i).toNat)
            case atStart => exact ⟨0, Nat.zero_le _, rfl, by simpa using HV, HB⟩
            case round =>
              obtain ⟨k, hk, rfl, HV, HB⟩ := hrel
              by_cases hlt2 : k < N
              · obtain ⟨v, L, hv, hL, hcell, hown⟩ := HV.out.cell hlt2
                have hL' : P[k]? = some L := by
                  rw [List.getElem?_append_right (by simp; omega)] at hL
                  rw [List.getElem?_drop, List.length_map, List.length_take, HPL.out] at hL
                  rw [← hL]
                  congr 1
                  omega
                have hLl : L.length ≤ 1000 := by
                  have := HR.out L (List.mem_of_getElem? hL')
                  omega
                have NX : Hid (∀ w', OT w' B v (ascd L) → wr.grownBy w' v.ownBlock → PT w' W.heap.size B gp N V ((P.take (k + 1)).map ascd ++ P.drop (k + 1)) ∧ Below W.heap.size W w') := Lib.hid (by
                  intro w' ho hg
                  have h1 := HV.out.sortedAt hv ho hg
                  have e : (List.map ascd (P.take k) ++ P.drop k).set k (ascd L) = (P.take (k + 1)).map ascd ++ P.drop (k + 1) := by
                    have hkP : k < P.length := by have := HPL.out; omega
                    have hPk : P[k] = L := by rw [List.getElem?_eq_getElem hkP] at hL'; cases hL'; rfl
                    rw [List.set_append_right _ _ (by simp; omega), List.take_succ_eq_append_getElem hkP, List.map_append, List.drop_eq_getElem_cons hkP, hPk]
                    have : k - (List.map ascd (P.take k)).length = 0 := by simp; omega
                    rw [this]
                    simp
                  rw [e] at h1
                  refine ⟨h1, HB.out.grown hg HB.out.size fun b hb => ?_⟩
                  have := (World.ownsRow.lt hown b hb).1
                  omega)
                have SO := Lib.hid (sort35 hown (by omega))
                obtain ⟨Av, cv, rfl, -, -, -⟩ := hown.form
                clear hL hown hv HV HB
                go_wp2_with (first | (go_at_call 35; refine SO.out.mono ?_; rintro e w' ⟨rfl, ho, hg⟩; obtain ⟨n1, n2⟩ := NX.out w' ho hg; have N1 := Lib.hid n1; have N2 := Lib.hid n2; clear ho hg n1 n2))
                go_roundw
                case rel => exact ⟨k + 1, by omega, by go_num, N1, N2⟩
                case measure => simp [intOf]; omega
              · obtain rfl : k = N := by omega
                have hV := HV.out
                rw [List.take_of_length_le (by rw [HPL.out]; exact Nat.le_refl _), List.drop_eq_nil_of_le (by rw [HPL.out]; exact Nat.le_refl _), List.append_nil] at hV
                obtain ⟨r1, r2, r3⟩ := hV.rws (by
                  intro L hL
                  obtain ⟨M, hM, rfl⟩ := List.mem_map.1 hL
                  have := HR.out M hM
                  rw [ascd_len]
                  omega)
                have r2 := r2.trans GR.out.symm
                have R1 := Lib.hid r1
                have R2 := Lib.hid r2
                have R3 := Lib.hid r3
                clear hV r1 r2 r3 HV
                go_wp2_with fail
                go_ret2
                exact ⟨some ⟨gp, 0, none⟩, List.zipWith rowOf V (List.map ascd P), k, by rw [R3.out, E0.out]; rfl, R1.out, R2.out, HB.out⟩
  · have q0 : (ca C n != 0) = true := by simpa using h0
    have hA1 := hA.alloc (.cells #[.slice A C.length c] 22)
    have e1 : Hid (greedy C n = []) := Lib.hid (by unfold greedy; rw [if_neg h0])
    clear h0
    go_enter Try.func16, Try.ntmps16
    go_wp2_with (first | (go_at_call 30; refine (checkArguments_any A c C n _ hA1).mono ?_; rintro e w' ⟨rfl, rfl⟩))
    go_ret2
    exact ⟨none, [], 0, rfl, ⟨RD.nil _ _, fun x hx => by cases hx⟩, by rw [e1.out]; rfl, (Below.refl _ _).alloc (Nat.le_refl _) _⟩
end Go.Proofs.Ytejipflkdigbbaa

/- The walks and the words of the family types, part 2: Ord, Lays, Vrs, Sen, Ins, RVr, Mk, Sam, Sas, Eqf, Val, Rep. -/
import Derived.Test.YtjlmhfdigoogfaaM1
import Derived.Shelf.SlGeneric
import Derived.Shelf.SortM.Plain
import Derived.Shelf.SortM.SortNone
import Derived.Ground.SlgmProg
import Derived.Test.YtjlmhfdigoogfaaProg
import Derived.Lib.SortBridge
import Derived.Lib.RowBridge
import Derived.Deep.RegionLaw
namespace Go.Proofs.Ytjlmhfdigoogfaa
open Go.RowKit Go.Shelf
attribute [local go_sem] Oper.semAt_some

theorem info3 : (Try.prog.info? 3).map (fun i => (i.zero, i.size, i.bytes)) = some (some (.int .i64 0), 1, 8) := by kernel_rfl
/-- An append to a row of numbers, in a fenced walk. -/
theorem wpList_appNI {F : Fence} {n : Nat} (w : World) {ops : Array Oper} {rest : List Oper} {o : Oper} {a : Act} {Q : Exit → Act → World → Prop} (hgd : o.guard = none) (s x : Operand)
    (ho : o.op = .call { callee := .builtin .append, args := #[s, x], argTypes := #[35, 35] }) (base : Nat) {v : Value} {L : List Int} (hs : a.eval s = v) (hown : OR 3 1 NC w base v L)
    {A : Option Addr} {M : List Int} {m c : Nat} (hm : M.length = m) (hx : a.eval x = .slice A m c) (hr : RD 1 NC w A M) (hA : A ≠ none) (hsz : L.length + M.length ≤ 1000000) (hb : base ≤ w.heap.size)
    (h : ∀ v' w', OR 3 1 NC w' base v' (L ++ M) → w.grownBy w' v.ownBlock → (v'.ownBlock = v.ownBlock ∨ v'.ownBlock = some w.heap.size) → wpListIn F n Try.prog ops Q rest (a.put o.dst v') w') : wpListIn F n Try.prog ops Q (o :: rest) a w := by
  subst hm
  refine wpListIn_plain hgd fun K hK => ?_
  obtain ⟨v', w', hrun, h2, h3, h4⟩ := run_appR (t := 35) (ty := o.type) NC_len NC_cell1 Try.underlying35 info3 rfl (by decide) (by decide) hown c hr hA hsz hb
  unfold Oper.wpIn
  refine ⟨?_, ?_⟩
  · simp [Oper.about, ho, resolve, Target.leads, Sem.run_pure]
  · rw [Oper.semAt_plain _ _ _ (by rw [ho]; intro c hc'; cases hc')]
    simp [execOp, ho, resolve, invoke, builtin, hs, hx, hrun, Result.andThen]
    exact hK _ _ (h v' w' h2 h3 h4)
/-- .. in a plain walk. -/
theorem wpList_appNP (w : World) {ops : Array Oper} {rest : List Oper} {o : Oper} {a : Act} {Q : Exit → Act → World → Prop} (hgd : o.guard = none) (s x : Operand)
    (ho : o.op = .call { callee := .builtin .append, args := #[s, x], argTypes := #[35, 35] }) (base : Nat) {v : Value} {L : List Int} (hs : a.eval s = v) (hown : OR 3 1 NC w base v L)
    {A : Option Addr} {M : List Int} {m c : Nat} (hm : M.length = m) (hx : a.eval x = .slice A m c) (hr : RD 1 NC w A M) (hA : A ≠ none) (hsz : L.length + M.length ≤ 1000000) (hb : base ≤ w.heap.size)
    (h : ∀ v' w', OR 3 1 NC w' base v' (L ++ M) → w.grownBy w' v.ownBlock → (v'.ownBlock = v.ownBlock ∨ v'.ownBlock = some w.heap.size) → wpList Try.prog ops Q rest (a.put o.dst v') w') : wpList Try.prog ops Q (o :: rest) a w := by
  subst hm
  refine wpList_plain hgd fun K hK => ?_
  obtain ⟨v', w', hrun, h2, h3, h4⟩ := run_appR (t := 35) (ty := o.type) NC_len NC_cell1 Try.underlying35 info3 rfl (by decide) (by decide) hown c hr hA hsz hb
  unfold Oper.wp execOp
  simp only [ho, resolve, invoke, builtin, Sem.run_bind, Sem.run_pure, Result.andThen_ok, List.map_toArray, List.map_cons, List.map_nil, hs, hx, hrun]
  exact hK _ _ (h v' w' h2 h3 h4)

theorem OR.low {α : Type} {e : TypeId} {n : Nat} {cs : α → List Value} {w : World} {base base' : Nat} {v : Value} {L : List α} (h : OR e n cs w base v L) (hb : base' ≤ base) : OR e n cs w base' v L := by
  refine ⟨h.1, ?_⟩
  rcases h.2 with h1 | ⟨g, cap, cur, e1, hg, rest⟩
  · exact .inl h1
  · exact .inr ⟨g, cap, cur, e1, Nat.le_trans hb hg, rest⟩
def advT (l : List Int) (t : Ty) : List Int := adv l t.er
theorem foldT (l : List Int) (L : List Ty) : L.foldl advT l = (L.map Ty.er).foldl adv l := by
  induction L generalizing l with
  | nil => rfl
  | cons x L ih => simp [ih, advT]
/-- Between the rounds of order's loop: the row's value is v. -/
structure O1 (w : World) (x : Ty) (pre : List Ty) (own : Nat → Prop) (W : World) (v : Value) : Prop where
  c : W.heap[w.heap.size + 1]? = some (.cells #[v] 35 (0, 0))
  b : W.heap[w.heap.size + 2]? = some (.cells #[iv x.kind, iv x.var, .slice x.A x.sub.length x.c] 24 (0, 0))
  o : OR 3 1 NC W (w.heap.size + 3) v (pre.foldl advT [])
  gr : Gr w W
  s : w.heap.size + 3 ≤ W.heap.size
  ow : ∀ k, own k → v.ownBlock = some k
  wo : ∀ k, v.ownBlock = some k → own k
  l : ∃ post, x.pre = pre ++ post
theorem O1.keep {w : World} {x : Ty} {pre : List Ty} {own : Nat → Prop} {W W' : World} {v : Value} (h : O1 w x pre own W v) (hb : Kp (w.heap.size + 3) own W W') : O1 w x pre own W' v :=
  ⟨(hb.same _ (by left; omega)).trans h.c, (hb.same _ (by left; omega)).trans h.b, h.o.keepAt fun k hk => hb.same k (.inr (h.wo k hk)), gr_below h.gr (by omega) hb.below, Nat.le_trans h.s hb.size, h.ow, h.wo, h.l⟩
set_option maxRecDepth 100000 in
set_option maxHeartbeats 8000000 in
theorem order_any (x : Ty) (w : World) (hx : x.Rd w) (hz : x.er.size ≤ 1000) : Calls Try.prog 56 #[x.v] w fun e w' => (∃ v, e = .returned v ∧ OR 3 1 NC w' w.heap.size v (sn [] x.er)) ∧ Gr w w' := by
  have HX := Lib.hid hx
  have HZ := Lib.hid hz
  have WI := Lib.hid (fun V => within_any x V)
  have CN := Lib.hid contains_any
  clear hx hz
  refine (callsIn_wide (n := 5)).1 ?_
  refine callsIn_of_wp_marks Try.func56 rfl trivial ?_ rfl
  simp only [Try.ntmps56, List.size_toArray, List.length_cons, List.length_nil, Nat.reduceAdd, Nat.reduceSub, Array.replicate_succ, Array.replicate_zero, List.push_toArray, List.append_toArray, List.nil_append, List.cons_append]
  unfold Ty.v at WI ⊢
  gi_wp2_with (refine ⟨trivial, ?_⟩; gi_at_call 52; refine (callsIn_wide.2 (WI.out _)).mono ?_; rintro e w' ⟨rfl, rfl⟩)
  obtain ⟨W0, hW0⟩ : ∃ W0, ((w.alloc (.cells #[iv x.kind, iv x.var, .slice x.A x.sub.length x.c] 24)).alloc (.cells #[.slice none 0 0] 35)).alloc (.cells #[iv x.kind, iv x.var, .slice x.A x.sub.length x.c] 24) = W0 := ⟨_, rfl⟩
  have s0 : W0.heap.size = w.heap.size + 3 := by rw [← hW0]; simp
  have i0 : O1 w x [] (fun _ => False) W0 (.slice none 0 0) := by
    rw [← hW0]
    refine ⟨?_, ?_, OR.nil, ((gr_al _ _).trans (gr_al _ _)).trans (gr_al _ _), by simp, fun k h => h.elim, fun k h => by simp [Value.ownBlock] at h, ⟨_, rfl⟩⟩
    · exact (Below.heap_alloc _ _ _ (by simp)).trans (al_at _ _ (by simp))
    · exact al_at _ _ (by simp)
  rw [hW0]
  clear hW0
  refine range_w (w0 := w) (x := x) (bt := w.heap.size + 1 + 1) (by omega) rfl rfl HX.out (fun pre own W => ∃ v, O1 w x pre own W v) (fun pre y W => False) (fun pre own W h => by
      obtain ⟨v, h⟩ := h
      refine ⟨h.gr, by rw [s0]; exact h.s, h.b, ?_, fun k hk => (h.o.lt k (h.ow k hk)).2⟩
      obtain ⟨post, hp⟩ := h.l
      have h1 := congrArg List.length hp
      rw [preT_len] at h1
      have := HZ.out
      simp at h1; omega) (fun pre own W W' h hb => by obtain ⟨v, h⟩ := h; exact ⟨v, h.keep (by rw [s0] at hb; exact hb)⟩) (fun pre y W W' h hb => h) ⟨_, i0⟩ ?_ ?_ ?_
  · rintro l pre own y W ⟨v, hi⟩ hsz hown hy hp hl
    have HI := Lib.hid hi
    have HS := Lib.hid s0
    have HP := Lib.hid hp
    clear hi i0 s0 hy hp
    unfold Ty.v
    gi_wp2
    refine ⟨⟨fun k _ hk _ => Below.heap_alloc _ _ _ hk, by simp⟩, fun W₂ hb => ?_⟩
    have hlt : W.heap.size ≠ l := by omega
    have nl : ¬ own l := fun h => by have := hown _ h; omega
    have u2 : W₂.heap[W.heap.size]? = some (.cells #[iv y.kind, iv y.var, .slice y.A y.sub.length y.c] 24 (0, 0)) := (hb.same _ hlt).trans (al_new W _)
    have h2 : O1 w x pre own W₂ v := (HI.out.keep (Kp.of (gr_al W (.cells #[iv y.kind, iv y.var, .slice y.A y.sub.length y.c] 24)) HI.out.s fun k hk => (HI.out.o.lt k (HI.out.ow k hk)).2)).keep (hb.kp (by have := HS.out; omega) nl)
    have c0 := Lib.cell_of_heap u2 0
    have c1 := Lib.cell_of_heap u2 1
    have d1 := Lib.cell_of_heap h2.c 0
    have f1 := Lib.frozen_of_heap h2.c 0
    simp only [List.getElem?_toArray, List.getElem?_cons_zero, List.getElem?_cons_succ] at c0 c1 d1
    obtain ⟨A, c, rfl, hrd, hlc, hcm, hA0, hAb⟩ := h2.o.form2 NC_len
    obtain ⟨L, hL⟩ : ∃ L, pre.foldl advT [] = L := ⟨_, rfl⟩
    have hLn : L.length ≤ 1000 := by
      have h1 : (pre.foldl advT []).length ≤ pre.length := by rw [foldT]; have := fold_adv_len (pre.map Ty.er) []; simpa using this
      obtain ⟨post, hp⟩ := h2.l
      have h3 := congrArg List.length hp
      rw [preT_len] at h3
      have := HZ.out
      simp at h3
      rw [← hL]; omega
    have hO := h2.o
    rw [hL] at hO hrd d1
    have H2 := Lib.hid h2
    have HO := Lib.hid hO
    have HR := Lib.hid hrd
    have HB := Lib.hid (show w.heap.size + 3 ≤ W₂.heap.size from h2.s)
    have HL := Lib.hid hL
    clear h2 hO hrd hb hlc hcm hA0 hAb u2
    have hfold : (pre ++ [y]).foldl advT [] = advT L y := by rw [List.foldl_append, HL.out]; rfl
    have hpre : ∃ post, x.pre = (pre ++ [y]) ++ post := by obtain ⟨post, hp⟩ := HP.out; exact ⟨post, by rw [hp]; simp⟩
    have HF := Lib.hid hfold
    have HQ := Lib.hid hpre
    have HE := Lib.hid (show advT L y = if y.kind = 5 ∧ ¬ y.var ∈ L then L ++ [y.var] else L by unfold advT adv; rw [er_kind, er_var])
    clear hfold hpre hL
    by_cases h5 : y.kind = 5
    · by_cases hin : y.var ∈ L
      · have DI := Lib.hid (decide_eq_true hin)
        have HN := Lib.hid (show (pre ++ [y]).foldl advT [] = L by rw [HF.out, HE.out, if_neg (fun h => h.2 hin)])
        clear hin
        gi_wp2_with (refine ⟨trivial, ?_⟩; gi_at_call 85; refine (CallsIn.inRound _ (callsIn_wide.2 (CN.out A c L y.var W₂ HR.out (by omega)))).mono ?_; rintro e W3 ⟨rfl, rfl⟩; rw [DI.out])
        intro _
        refine ⟨⟨fun k h1 h2 _ => rfl, Nat.le_refl _⟩, own, fun k hk => .inl hk, _, ⟨H2.out.c, H2.out.b, ?_, H2.out.gr, H2.out.s, H2.out.ow, H2.out.wo, HQ.out⟩⟩
        rw [HN.out, HL.out]
        exact HO.out
      · have DI := Lib.hid (decide_eq_false hin)
        have HN := Lib.hid (show (pre ++ [y]).foldl advT [] = L ++ [y.var] by rw [HF.out, HE.out, if_pos ⟨h5, hin⟩])
        have NE := Lib.hid (show ∀ j : Nat, j < w.heap.size + 3 → some j ≠ (Value.slice A L.length c).ownBlock from fun j hj e => absurd (HO.out.lt j e.symm).1 (by omega))
        have LN := Lib.hid (show (L ++ [y.var]).length = L.length + 1 by simp)
        have CC := Lib.hid (fun (w7 : World) (g : (W₂.alloc (.cells #[.int .i64 y.var] 3)).grownBy w7 (Value.slice A L.length c).ownBlock) => (g.block _ (heap_lt (gr_h (gr_al W₂ (.cells #[.int .i64 y.var] 3)) H2.out.c)) (NE.out _ (by omega))).trans (gr_h (gr_al W₂ (.cells #[.int .i64 y.var] 3)) H2.out.c))
        rw [HL.out] at CC
        clear hin
        gi_wp2_with (first | (refine ⟨trivial, ?_⟩; gi_at_call 85; refine (CallsIn.inRound _ (callsIn_wide.2 (CN.out A c L y.var W₂ HR.out (by omega)))).mono ?_; rintro e W3 ⟨rfl, hw⟩; have hw := hw.symm; subst hw; rw [DI.out]) | (gi_at_builtin; refine wpList_appNI _ rfl (.tmp 18) (.tmp 21) rfl (w.heap.size + 3) rfl (HO.out.alloc _) (M := [y.var]) rfl rfl (rd_cells (t := 3) NC_len (al_new _ _)) (by simp) (by simp; omega) (by have := HB.out; simp; omega) ?_; intro v7 w7 o7 g7 b7; obtain ⟨A7, c7, rfl, -⟩ := o7.form NC_len; rw [LN.out] at o7 b7 ⊢; have O7 := Lib.hid o7; have G7 := Lib.hid g7; have B7 := Lib.hid b7; clear o7 g7 b7; have hc7 := CC.out w7 G7.out; have d7 := Lib.cell_of_heap hc7 0; have f7 := Lib.frozen_of_heap hc7 0; simp only [List.getElem?_toArray, List.getElem?_cons_zero] at d7; have HC7 := Lib.hid hc7; clear hc7 d1 f1))
        intro _
        have hc7 := HC7.out
        have hb7 : w7.heap[w.heap.size + 2]? = some (.cells #[iv x.kind, iv x.var, .slice x.A x.sub.length x.c] 24 (0, 0)) := by
          have h1 := gr_h (gr_al W₂ (.cells #[.int .i64 y.var] 3)) H2.out.b
          exact (G7.out.block _ (heap_lt h1) (NE.out _ (by omega))).trans h1
        have hg7 : Gr w w7 := OR.grow (base := w.heap.size + 3) (H2.out.gr.trans (gr_al _ _)) (HO.out.alloc (.cells #[.int .i64 y.var] 3)) (by omega) G7.out
        have hs7 : W₂.heap.size + 1 ≤ w7.heap.size := by have := G7.out.size; simpa using this
        refine ⟨⟨fun k h1 h2 h3 => ?_, by simp [World.setCell]; omega⟩, fun k => (Value.slice A7 (L.length + 1) c7).ownBlock = some k, fun k hk => ?_, .slice A7 (L.length + 1) c7, ⟨set_same hc7, (Below.heap_setCell _ _ _ _ (by show w.heap.size + 2 ≠ w.heap.size + 1; omega)).trans hb7, ?_, gr_cell hg7 (by omega) _, by have := HB.out; simp [World.setCell]; omega, fun k hk => hk, fun k hk => hk, HQ.out⟩⟩
        · rw [Below.heap_setCell _ _ _ _ (by show k ≠ w.heap.size + 1; have := HS.out; omega), G7.out.block k (by simp; omega) (fun e => h3 (H2.out.wo k (by rw [HL.out]; exact e.symm)))]
          exact Below.heap_alloc _ _ _ h2
        · rcases B7.out with h | h
          · left; exact H2.out.wo k (by rw [HL.out]; exact h.symm.trans hk)
          · right; rw [h] at hk; simp at hk; omega
        · rw [HN.out]
          refine O7.out.keepAt fun k hk => Below.heap_setCell _ _ _ _ ?_
          have := O7.out.lt k hk
          show k ≠ w.heap.size + 1
          omega
    · have h5b : (y.kind == 5) = false := by simpa using h5
      have HN := Lib.hid (show (pre ++ [y]).foldl advT [] = L by rw [HF.out, HE.out, if_neg (fun h => h5 h.1)])
      gi_wp2_with (refine ⟨trivial, ?_⟩)
      intro _
      refine ⟨⟨fun k h1 h2 _ => rfl, Nat.le_refl _⟩, own, fun k hk => .inl hk, _, ⟨H2.out.c, H2.out.b, ?_, H2.out.gr, H2.out.s, H2.out.ow, H2.out.wo, HQ.out⟩⟩
      rw [HN.out, HL.out]
      exact HO.out
  · rintro own W' ⟨v, hi⟩ ho3 hd
    have HO3 := Lib.hid ho3
    clear ho3
    have d1 := Lib.cell_of_heap hi.c 0
    simp only [List.getElem?_toArray, List.getElem?_cons_zero] at d1
    have HI := Lib.hid hi
    have HD := Lib.hid hd
    have HS := Lib.hid s0
    clear hi hd i0 s0
    gi_wp2
    refine ⟨by simp, .inl ⟨_, _, rfl, run_takeDeferred HD.out, ?_⟩⟩
    refine ⟨_, results_tmp rfl _ _ _, ⟨v, rfl, ?_⟩, put_def HI.out.gr (by have := HS.out; omega) _⟩
    have h1 : x.pre.foldl advT [] = sn [] x.er := by rw [foldT, preT_er]; rfl
    have h2 := HI.out.o
    rw [h1] at h2
    exact (h2.low (by omega)).keepAt fun k hk => World.putObj_heap_other (by
      intro e
      subst e
      have := HI.out.o.lt _ hk
      have h3 := HO3.out _ (HI.out.wo _ hk)
      omega)
  · intro pre y post W' hp hE hd
    exact hE.elim
end Go.Proofs.Ytjlmhfdigoogfaa
namespace Go.Proofs
open Go.Shelf
def Try.sortI_ren : Go.Shelf.Ren := ⟨fun | 5 => 46 | 8 => 79 | 7 => 78 | 19 => 102 | 20 => 103 | 10 => 93 | 11 => 94 | 12 => 95 | 13 => 96 | 14 => 97 | 15 => 98 | 16 => 99 | 17 => 100 | 18 => 101 | 30 => 107 | 31 => 108 | 32 => 109 | 33 => 110 | 34 => 111 | 35 => 112 | 40 => 114 | n => n, fun | 23 => 35 | 25 => 3 | 3 => 3 | 32 => 114 | 22 => 35 | 0 => 0 | 44 => 133 | 46 => 135 | 4 => 4 | 36 => 127 | 35 => 126 | 41 => 91 | 5 => 5 | 9 => 9 | 53 => 140 | 57 => 144 | 63 => 146 | 64 => 147 | n => n, fun | n => n⟩
theorem Try.sortI : Go.Proofs.SlLaysM.n5 Try.prog Try.sortI_ren := {
  mixed := by kernel_rfl
  f5 := ⟨Try.f46.name, by decide, Try.func46.trans (congrArg some (by kernel_rfl))⟩
  f7 := ⟨Try.f78.name, by decide, Try.func78.trans (congrArg some (by kernel_rfl))⟩
  f8 := Try.func79.trans (congrArg some (by kernel_rfl))
  f10 := ⟨Try.f93.name, by decide, Try.func93.trans (congrArg some (by kernel_rfl))⟩
  f11 := ⟨Try.f94.name, by decide, Try.func94.trans (congrArg some (by kernel_rfl))⟩
  f12 := ⟨Try.f95.name, by decide, Try.func95.trans (congrArg some (by kernel_rfl))⟩
  f13 := ⟨Try.f96.name, by decide, Try.func96.trans (congrArg some (by kernel_rfl))⟩
  f14 := ⟨Try.f97.name, by decide, Try.func97.trans (congrArg some (by kernel_rfl))⟩
  f15 := ⟨Try.f98.name, by decide, Try.func98.trans (congrArg some (by kernel_rfl))⟩
  f16 := ⟨Try.f99.name, by decide, Try.func99.trans (congrArg some (by kernel_rfl))⟩
  f17 := ⟨Try.f100.name, by decide, Try.func100.trans (congrArg some (by kernel_rfl))⟩
  f18 := ⟨Try.f101.name, by decide, Try.func101.trans (congrArg some (by kernel_rfl))⟩
  f19 := Try.func102.trans (congrArg some (by kernel_rfl))
  f20 := Try.func103.trans (congrArg some (by kernel_rfl))
  f30 := ⟨Try.f107.name, by decide, Try.func107.trans (congrArg some (by kernel_rfl))⟩
  f31 := Try.func108.trans (congrArg some (by kernel_rfl))
  f32 := Try.func109.trans (congrArg some (by kernel_rfl))
  f33 := ⟨Try.f110.name, by decide, Try.func110.trans (congrArg some (by kernel_rfl))⟩
  f34 := ⟨Try.f111.name, by decide, Try.func111.trans (congrArg some (by kernel_rfl))⟩
  f35 := ⟨Try.f112.name, by decide, Try.func112.trans (congrArg some (by kernel_rfl))⟩
  f40 := ⟨Try.f114.name, by decide, Try.func114.trans (congrArg some (by kernel_rfl))⟩
  t0 := Try.underlying0
  a0 := Try.isAgg0
  z0 := Try.sizeOf0
  v0 := Try.zeroValue0
  t3 := Try.underlying3
  a3 := Try.isAgg3
  z3 := Try.sizeOf3
  v3 := Try.zeroValue3
  t4 := Try.underlying4
  a4 := Try.isAgg4
  z4 := Try.sizeOf4
  v4 := Try.zeroValue4
  t5 := Try.underlying5
  a5 := Try.isAgg5
  z5 := Try.sizeOf5
  v5 := Try.zeroValue5
  t9 := Try.underlying9
  a9 := Try.isAgg9
  z9 := Try.sizeOf9
  v9 := Try.zeroValue9
  t22 := Try.underlying35
  a22 := Try.isAgg35
  z22 := Try.sizeOf35
  v22 := Try.zeroValue35
  t23 := Try.underlying35
  a23 := Try.isAgg35
  z23 := Try.sizeOf35
  v23 := Try.zeroValue35
  t25 := Try.underlying3
  a25 := Try.isAgg3
  z25 := Try.sizeOf3
  v25 := Try.zeroValue3
  t32 := Try.underlying114
  a32 := Try.isAgg114
  z32 := Try.sizeOf114
  v32 := Try.zeroValue114
  t35 := Try.underlying126
  a35 := Try.isAgg126
  z35 := Try.sizeOf126
  v35 := Try.zeroValue126
  t36 := Try.underlying127
  a36 := Try.isAgg127
  z36 := Try.sizeOf127
  v36 := Try.zeroValue127
  t41 := Try.underlying91
  a41 := Try.isAgg91
  z41 := Try.sizeOf91
  v41 := Try.zeroValue91
  t44 := Try.underlying133
  a44 := Try.isAgg133
  z44 := Try.sizeOf133
  v44 := Try.zeroValue133
  t46 := Try.underlying135
  a46 := Try.isAgg135
  z46 := Try.sizeOf135
  v46 := Try.zeroValue135
  t53 := Try.underlying140
  a53 := Try.isAgg140
  z53 := Try.sizeOf140
  v53 := Try.zeroValue140
  t57 := Try.underlying144
  a57 := Try.isAgg144
  z57 := Try.sizeOf144
  v57 := Try.zeroValue144
  t63 := Try.underlying146
  a63 := Try.isAgg146
  z63 := Try.sizeOf146
  v63 := Try.zeroValue146
  t64 := Try.underlying147
  a64 := Try.isAgg147
  z64 := Try.sizeOf147
  v64 := Try.zeroValue147 }
end Go.Proofs
namespace Go.Proofs.Ytjlmhfdigoogfaa
open Go.RowKit Go.Shelf Go.Sort

/-- Numbers in ascending order. -/
def ascd (L : List Int) : List Int := L.mergeSort fun x y => decide (x ≤ y)
theorem ascd_len (L : List Int) : (ascd L).length = L.length := by simp [ascd]
theorem ascd_perm (L : List Int) : (ascd L).Perm L := List.mergeSort_perm _ _
theorem ascd_sorted (L : List Int) : (ascd L).Pairwise (· ≤ ·) := by
  have := List.pairwise_mergeSort (le := fun x y : Int => decide (x ≤ y)) (by intro a b c h1 h2; simp at *; omega) (by intro a b; simp; omega) L
  simpa [ascd] using this
theorem asc_unique {L M : List Int} (hp : L.Perm M) (h1 : L.Pairwise (· ≤ ·)) (h2 : M.Pairwise (· ≤ ·)) : L = M :=
  hp.eq_of_pairwise (fun a b _ _ h3 h4 => by omega) h1 h2
theorem flatNC (L : List Int) : L.flatMap NC = L.map iv := by
  induction L with
  | nil => rfl
  | cons x L ih => rw [List.flatMap_cons, ih]; rfl
theorem OR.holds {w : World} {base g cap : Nat} {L : List Int} (h : OR 3 1 NC w base (.slice (some ⟨g, 0, none⟩) L.length cap) L) : Holds iv w g 0 L.toArray := by
  have hf := flatNC L
  intro j hj
  have hj' : j < L.length := by simpa using hj
  refine ⟨?_, ?_⟩
  · have h2 := h
    unfold OR at h2
    rw [hf] at h2
    rw [Nat.zero_add, World.ownsRow.cellAt h2 j (by omega)]
    simp [hj', getElem!_pos]
  · rw [Nat.zero_add]; exact World.ownsRow.frozenAt h j
/-- A row of the call's own, sorted in its place. -/
theorem orSorted {w : World} {B g cap : Nat} {L : List Int} (h : OR 3 1 NC w B (.slice (some ⟨g, 0, none⟩) L.length cap) L) (M : List Int) (hl : M.length = L.length) (n : Nat) (os : Array Obj) :
    OR 3 1 NC (grow (putRow iv (Sort.ahead w n) g 0 M.toArray) os) B (.slice (some ⟨g, 0, none⟩) L.length cap) M ∧ w.grownBy (grow (putRow iv (Sort.ahead w n) g 0 M.toArray) os) (some g) := by
  have hf := flatNC M
  rcases h.2 with ⟨h', _⟩ | ⟨g', cap', cur, h', hb, hg, hnc, hcm, hcs, htake⟩
  · simp at h'
  · simp only [Value.slice.injEq, Option.some.injEq, Addr.mk.injEq, and_true, true_and] at h'
    obtain ⟨rfl, rfl⟩ := h'
    have hlt := heap_lt hg
    have hsz : (putRow iv (Sort.ahead w n) g 0 M.toArray).heap.size = w.heap.size := by simp [putRow, mapBlock, Sort.ahead]
    have hat : (grow (putRow iv (Sort.ahead w n) g 0 M.toArray) os).heap[g]? = some (.cells (putCells iv 0 M.toArray cur) 3 (0, 0)) := by
      rw [heap_grow_old _ _ (by rw [hsz]; exact hlt)]
      simp only [putRow, mapBlock, Sort.ahead, Array.getElem?_modify, if_true, hg, Option.map_some]
      rfl
    refine ⟨⟨by rw [hf]; simp, .inr ⟨g, cap, _, by rw [hl], hb, hat, by omega, hcm, by simp [putCells]; omega, ?_⟩⟩, ⟨rfl, rfl, rfl, ?_, fun k hk hne => ?_⟩⟩
    · rw [hf]
      apply List.ext_getElem?
      intro j
      rw [List.getElem?_take]
      by_cases hj : j < M.length * 1
      · rw [if_pos hj]
        have hjc : j < cur.size := by omega
        have : j < M.length := by omega
        simp [putCells, hjc, this]
      · rw [if_neg hj, List.getElem?_eq_none (by simp; omega)]
    · simp only [grow, Array.size_append, hsz]; omega
    · rw [heap_grow_old _ _ (by rw [hsz]; exact hk)]
      have hne' : g ≠ k := fun e => hne (by rw [e])
      simp [putRow, mapBlock, Sort.ahead, Array.getElem?_modify, hne']
/-- slices.Sort at a row of the call's own. -/
theorem sort46 {w : World} {B : Nat} {v : Value} {L : List Int} (ho : OR 3 1 NC w B v L) (hl : L.length ≤ 100000) : Calls Try.prog 46 #[v] w fun e w' => e = .returned (.tuple #[]) ∧ OR 3 1 NC w' B v (ascd L) ∧ w.grownBy w' v.ownBlock := by
  by_cases hL : L = []
  · subst hL
    obtain ⟨A, c, rfl, hr⟩ := ho.form NC_len
    have hS := AnyM.slices_Sort_int_none Try.sortI A c w
    change Calls Try.prog 46 _ _ _ at hS
    refine hS.mono ?_
    rintro e w' ⟨rfl, rfl⟩
    exact ⟨rfl, by simpa [ascd] using ho, World.grownBy.refl _ _⟩
  · obtain ⟨g, cap, rfl, hg1⟩ := ho.someR hL
    have hg2 := (ho.lt g rfl).2
    have hS := AnyM.slices_Sort_int Try.sortI g 0 cap L w ho.holds hg2 (by omega)
    change Calls Try.prog 46 _ _ _ at hS
    refine hS.mono ?_
    rintro e w' ⟨rfl, n, os, rfl⟩
    obtain ⟨h1, h2⟩ := orSorted ho (ascd L) (ascd_len L) n os
    exact ⟨rfl, h1, h2⟩
/-- The variables of a type, as Vars gives them. -/
def vrs (t : PT) : List Int := if ck t = 0 then ascd (sn [] t) else []
theorem ck_size {t : PT} (h : ck t = 0) : t.size ≤ 200 := by
  unfold ck at h
  split at h
  · cases h
  · omega
set_option maxRecDepth 100000 in
set_option maxHeartbeats 4000000 in
theorem vars_any (x : Ty) (w : World) (hx : x.Rd w) : Calls Try.prog 20 #[x.v] w fun e w' => (∃ v, e = .returned v ∧ OR 3 1 NC w' w.heap.size v (vrs x.er)) ∧ Gr w w' := by
  have CK := Lib.hid (fun V (g : Gr w V) => check_any x V (hx.gr g))
  have HX := Lib.hid (fun V (g : Gr w V) => TRd.gr hx g)
  have BX := Lib.hid (B1.of x.kind x.var (.slice x.A x.sub.length x.c) w)
  obtain ⟨b0, b1, b2⟩ := BX.out.c
  obtain ⟨q, hq⟩ : ∃ q, ck x.er = q := ⟨_, rfl⟩
  rw [hq] at CK
  by_cases h0 : q = 0
  · subst h0
    have VR := Lib.hid (show vrs x.er = ascd (sn [] x.er) by unfold vrs; rw [if_pos hq])
    have hz := ck_size hq
    have OD := Lib.hid (fun V (g : Gr w V) => order_any x V (hx.gr g) (by omega))
    have LN := Lib.hid (show (sn [] x.er).length ≤ 1000 by have := sn_len [] x.er; simp at this; omega)
    clear hq hx hz
    unfold Ty.v at *
    go_enter Try.func20, Try.ntmps20
    go_upto_region 4 with (first | (go_at_call 17; refine (CK.out _ BX.out.gr).mono ?_; rintro e w1 ⟨rfl, g1⟩; have G1 := Lib.hid (BX.out.grow g1); clear g1 b0 b1 b2; obtain ⟨b0, b1, b2⟩ := G1.out.c) | (go_at_call 56; refine (OD.out _ G1.out.gr).mono ?_; rintro e w2 ⟨⟨v, rfl, o2⟩, g2⟩; have G2 := Lib.hid (G1.out.gr.trans g2); have O2 := Lib.hid (o2.low G1.out.gr.size); clear g2 o2))
    obtain ⟨A, c, rfl, -⟩ := O2.out.form NC_len
    have SO := Lib.hid (sort46 O2.out (by have := LN.out; omega))
    generalize (sn [] x.er).length = n at *
    go_wp2_with (first | (go_at_call 46; refine SO.out.mono ?_; rintro e w3 ⟨rfl, o3, g3⟩; have O3 := Lib.hid o3; have G3 := Lib.hid (OR.grow G2.out O2.out (Nat.le_refl _) g3); clear o3 g3))
    go_ret
    exact ⟨⟨_, rfl, by rw [VR.out]; exact O3.out⟩, G3.out⟩
  · have VR := Lib.hid (show vrs x.er = [] by unfold vrs; rw [if_neg (by rw [hq]; exact h0)])
    have hb : (q != 0) = true := by simpa using h0
    clear hx hq h0
    unfold Ty.v at *
    go_enter Try.func20, Try.ntmps20
    go_wp2_with (first | (go_at_call 17; refine (CK.out _ BX.out.gr).mono ?_; rintro e w1 ⟨rfl, g1⟩; have G1 := Lib.hid (BX.out.grow g1); clear g1))
    go_ret
    exact ⟨⟨_, rfl, by rw [VR.out]; exact OR.nil⟩, G1.out.gr⟩
end Go.Proofs.Ytjlmhfdigoogfaa
namespace Go.Proofs.Ytjlmhfdigoogfaa
open Go.RowKit

/-- A row that became another one. -/
structure OP (B : Nat) (w : World) (v : Value) (L : List Int) (v' : Value) (w' : World) : Prop where
  o : OR 3 1 NC w' B v' L
  g : w.grownBy w' v.ownBlock
  b : ∀ k, v'.ownBlock = some k → v.ownBlock = some k ∨ w.heap.size ≤ k
theorem OP.same {B : Nat} {w w' : World} {v : Value} {L : List Int} (h : OR 3 1 NC w B v L) (g : Gr w w') : OP B w v L v w' := ⟨h.gr g, World.grownBy.but g _, fun _ hk => .inl hk⟩
theorem OP.trans {B : Nat} {w w1 w2 : World} {v v1 v2 : Value} {L1 L2 : List Int} (h : OP B w v L1 v1 w1) (k : OP B w1 v1 L2 v2 w2) : OP B w v L2 v2 w2 := by
  refine ⟨k.o, ⟨k.g.os.trans h.g.os, k.g.tape.trans h.g.tape, k.g.output.trans h.g.output, Nat.le_trans h.g.size k.g.size, fun j hj hn => ?_⟩, fun j hj => ?_⟩
  · have h1 := h.g.size
    rw [k.g.block j (by omega) (fun e => by
      rcases h.b j e.symm with h2 | h2
      · exact hn h2.symm
      · omega)]
    exact h.g.block j hj hn
  · rcases k.b j hj with h1 | h1
    · exact h.b j h1
    · right; have := h.g.size; omega
theorem OP.gr {B : Nat} {w0 w w1 : World} {v v1 : Value} {L L1 : List Int} (h : OP B w v L1 v1 w1) (g : Gr w0 w) (ho : OR 3 1 NC w B v L) (hB : w0.heap.size ≤ B) : Gr w0 w1 := OR.grow g ho hB h.g
theorem OP.pre {B : Nat} {w0 w w1 : World} {v v1 : Value} {L1 : List Int} (g : Gr w0 w) (h : OP B w v L1 v1 w1) : OP B w0 v L1 v1 w1 :=
  ⟨h.o, (World.grownBy.but g _).trans h.g, fun k hk => by
    rcases h.b k hk with h1 | h1
    · exact .inl h1
    · right; have := g.size; omega⟩
theorem OP.box {B : Nat} {w w1 : World} {v v1 : Value} {L1 : List Int} (h : OP B w v L1 v1 w1) {k : Nat} {o : Obj} (hk : w.heap[k]? = some o) (hn : v.ownBlock ≠ some k) : w1.heap[k]? = some o := (h.g.block k (heap_lt hk) (fun e => hn e.symm)).trans hk

set_option maxRecDepth 100000 in
set_option maxHeartbeats 8000000 in
theorem seen_any (x : Ty) : ∀ (w0 : World) (B : Nat) (w : World) (v : Value) (L : List Int), x.Rd w0 → Gr w0 w → w0.heap.size ≤ B → B ≤ w.heap.size → OR 3 1 NC w B v L → L.length + x.er.size ≤ 1000 →
    Calls Try.prog 57 #[v, x.v] w fun e w' => ∃ v', e = .returned v' ∧ OP B w v (sn L x.er) v' w' := by
  induction x using Ty.ind with
  | h x ih =>
    intro w0 B w v L hx hg hB hBw ho hlen
    have IH := Lib.hid ih
    have BX := Lib.hid (B1.of x.kind x.var (.slice x.A x.sub.length x.c) w)
    obtain ⟨b0, b1, b2⟩ := BX.out.c
    have SE := Lib.hid (show sn L x.er = sns (adv L x.er) (ers x.sub) by rw [sn_eq, er_sub])
    have SZ := Lib.hid (show x.er.size = 1 + psz (ers x.sub) by rw [size_eq, er_sub])
    have HX := Lib.hid (fun V (g : Gr w0 V) => TRd.gr hx g)
    have hsl : x.sub.length ≤ 1000 := by
      have h1 := psz_len (ers x.sub)
      have h2 := SZ.out
      simp at h1
      omega
    obtain ⟨A, c, rfl, hrd⟩ := ho.form NC_len
    have HA := Lib.hid (show adv L x.er = if x.kind = 5 ∧ ¬ x.var ∈ L then L ++ [x.var] else L by unfold adv; rw [er_kind, er_var])
    have HS := Lib.hid (has_any A c L x.var (w.alloc (.cells #[iv x.kind, iv x.var, .slice x.A x.sub.length x.c] 24)) (hrd.gr (gr_al _ _)) (by omega))
    have HG := Lib.hid (show Gr w0 (w.alloc (.cells #[iv x.kind, iv x.var, .slice x.A x.sub.length x.c] 24)) ∧ w0.heap.size ≤ B ∧ B ≤ (w.alloc (.cells #[iv x.kind, iv x.var, .slice x.A x.sub.length x.c] 24)).heap.size from ⟨hg.trans (gr_al _ _), hB, by simp; omega⟩)
    have HO := Lib.hid (ho.alloc (.cells #[iv x.kind, iv x.var, .slice x.A x.sub.length x.c] 24))
    have HB := Lib.hid (show ∀ k, (Value.slice A L.length c).ownBlock = some k → k ≠ w.heap.size from fun k hk => by have := (ho.lt k hk).2; omega)
    have HL := Lib.hid (show L.length + 1 + psz (ers x.sub) ≤ 1000 by have := SZ.out; omega)
    have ZB := Lib.hid (show (w.alloc (.cells #[iv x.kind, iv x.var, .slice x.A x.sub.length x.c] 24)).heap.size = w.heap.size + 1 by simp)
    have GB := Lib.hid (gr_al w (.cells #[iv x.kind, iv x.var, .slice x.A x.sub.length x.c] 24))
    have KB := Lib.hid BX.out.h
    have ll : L.length ≤ 1000 := by omega
    have HD := Lib.hid (show TRd w0 x.A x.c x.sub from hx)
    obtain ⟨N, hN⟩ : ∃ N, x.sub.length = N := ⟨_, rfl⟩
    rw [hN] at b0 b1 b2 hsl HS HG HO ZB GB KB
    have NN := Lib.hid hN
    clear ih hx hrd ho hg hB hBw hlen BX
    unfold Ty.v
    rw [hN]
    clear hN
    obtain ⟨Wb, hWb⟩ : ∃ Wb, w.alloc (.cells #[iv x.kind, iv x.var, .slice x.A N x.c] 24) = Wb := ⟨_, rfl⟩
    have fin0 : ∀ v' V, OP B Wb (.slice A L.length c) (sns (adv L x.er) ((ers x.sub).take N)) v' V → OP B w (.slice A L.length c) (sn L x.er) v' V := fun v' V h => by
      rw [SE.out]
      rw [List.take_of_length_le (by rw [ers_length, NN.out]; exact Nat.le_refl _)] at h
      rw [← hWb] at h
      exact OP.pre GB.out h
    have step0 : ∀ (k : Nat) (v' : Value) (V : World) (hk : k < N), OP B Wb (.slice A L.length c) (sns (adv L x.er) ((ers x.sub).take k)) v' V → V.heap[w.heap.size]? = some (.cells #[iv x.kind, iv x.var, .slice x.A N x.c] 24 (0, 0)) →
        ∃ (a a1 : Addr) (y : Ty), x.A = some a ∧ a.add (k * 3) = a1 ∧ V.cell? a1 = some (iv y.kind) ∧ V.cell? ⟨a1.block, a1.off + 1, none⟩ = some (iv y.var) ∧ V.cell? ⟨a1.block, a1.off + 2, none⟩ = some (.slice y.A y.sub.length y.c) ∧
          Calls Try.prog 57 #[v', y.v] V fun e w' => ∃ v'', e = .returned v'' ∧ OP B Wb (.slice A L.length c) (sns (adv L x.er) ((ers x.sub).take (k + 1))) v'' w' ∧ w'.heap[w.heap.size]? = some (.cells #[iv x.kind, iv x.var, .slice x.A N x.c] 24 (0, 0)) := fun k v' V hk h hb => by
      have hk' : k < x.sub.length := by rw [NN.out]; exact hk
      have g0 : Gr w0 V := OP.gr (L := L) (by rw [hWb]; exact h) HG.out.1 HO.out HG.out.2.1
      obtain ⟨a, a1, e1, e2, -, c0, c1, c2, -⟩ := (HX.out V g0).at hk'
      refine ⟨a, a1, x.sub[k], e1, e2, c0, c1, c2, ?_⟩
      have hs : (ers x.sub).take (k + 1) = (ers x.sub).take k ++ [x.sub[k].er] := by rw [List.take_succ_eq_append_getElem (by simpa using hk')]; simp [ers_map]
      have hl : (sns (adv L x.er) ((ers x.sub).take k)).length + x.sub[k].er.size ≤ 1000 := by
        have h1 := fold_adv_len (pres ((ers x.sub).take k)) (adv L x.er)
        have h2 := adv_len L x.er
        rw [pres_len] at h1
        have h3 := psz_take_le (ers x.sub) (k + 1)
        rw [hs, psz_append] at h3
        simp at h3
        have := HL.out
        unfold sns
        omega
      have hbV : B ≤ V.heap.size := by
        have h1 := h.g.size
        have h2 := HG.out.2.2
        rw [hWb] at h2
        omega
      refine (IH.out x.sub[k] (List.getElem_mem hk') w0 B V v' _ (HD.out.hs _ (List.getElem_mem hk')) g0 HG.out.2.1 hbV h.o hl).mono ?_
      rintro e w' ⟨v'', rfl, h2⟩
      refine ⟨v'', rfl, ?_, h2.box hb fun e => ?_⟩
      · rw [hs, sns_snoc]
        exact h.trans h2
      · rcases h.b _ e with h3 | h3
        · exact HB.out _ h3 rfl
        · rw [← hWb, ZB.out] at h3; omega
    have F0 := Lib.hid fin0
    have S0 := Lib.hid step0
    have HW := Lib.hid hWb
    rw [hWb] at HO KB
    have HBW := Lib.hid (show B ≤ Wb.heap.size by have := HG.out.2.2; rw [hWb] at this; exact this)
    have HNW := Lib.hid (show w.heap.size < Wb.heap.size by rw [← hWb, ZB.out]; omega)
    clear fin0 step0 IH HX HD HL SE SZ GB HG ZB
    generalize x.kind = K at *
    by_cases h5 : K = 5
    · subst h5
      by_cases hin : x.var ∈ L
      · have DI := Lib.hid (decide_eq_true hin)
        have AD := Lib.hid (show adv L x.er = L by rw [HA.out, if_neg (fun h => h.2 hin)])
        have I0 := Lib.hid (show OP B Wb (.slice A L.length c) (sns (adv L x.er) ((ers x.sub).take 0)) (.slice A L.length c) Wb by rw [AD.out]; exact OP.same HO.out (gr_refl _))
        clear hin hWb
        go_enter Try.func57, Try.ntmps57
        go_wp2_with (first | (go_at_call 65; refine HS.out.mono ?_; rintro e w1 ⟨rfl, hw⟩; have hw := hw.symm; subst hw; rw [DI.out]))
        rw [HW.out]
        go_loopw [0, 5] (fun l i V => ∃ k : Nat, k ≤ N ∧ i = .int .i64 k ∧ Hid (OP B Wb (.slice A L.length c) (sns (adv L x.er) ((ers x.sub).take k)) l V ∧ V.heap[w.heap.size]? = some (.cells #[iv 5, iv x.var, .slice x.A N x.c] 24 (0, 0)))) (fun _ i _ => N - (intOf i).toNat)
        case atStart => exact ⟨0, Nat.zero_le _, rfl, Lib.hid ⟨I0.out, KB.out⟩⟩
        case round =>
          obtain ⟨k, hk, rfl, HGG⟩ := hrel
          have e2 := Lib.cell_of_heap HGG.out.2 2
          simp only [List.getElem?_toArray, List.getElem?_cons_zero, List.getElem?_cons_succ] at e2
          by_cases hlt : k < N
          · obtain ⟨a, a1, y, hA, ha, c0, c1, c2, hc⟩ := S0.out k _ _ hlt HGG.out.1 HGG.out.2
            have CL := Lib.hid hc
            unfold Ty.v at CL
            rw [hA] at e2
            clear hc hA
            go_wp2_with (first | (go_at_call 57; refine CL.out.mono ?_; rintro e w1 ⟨v'', rfl, o1, k1⟩; have O1 := Lib.hid (show _ ∧ _ from ⟨o1, k1⟩); clear o1 k1))
            exact ⟨⟨k + 1, by omega, by simp, O1⟩, by simp [intOf]; omega⟩
          · obtain rfl : N = k := by omega
            go_wp2
            go_ret
            exact ⟨_, rfl, F0.out _ _ HGG.out.1⟩
      · have DI := Lib.hid (decide_eq_false hin)
        have AD := Lib.hid (show adv L x.er = L ++ [x.var] by rw [HA.out, if_pos ⟨rfl, hin⟩])
        obtain ⟨n7, hn7⟩ : ∃ n7, (L ++ [x.var]).length = n7 := ⟨_, rfl⟩
        have N7 := Lib.hid hn7
        clear hin hWb hn7
        go_enter Try.func57, Try.ntmps57
        go_wp2_with (first | (go_at_call 65; refine HS.out.mono ?_; rintro e w1 ⟨rfl, hw⟩; have hw := hw.symm; subst hw; rw [DI.out]; rw [HW.out]; rw [HW.out] at b0 b1 b2) | (at_builtin; refine wpList_appNP _ rfl (.tmp 16) (.tmp 19) rfl B rfl (HO.out.alloc _) (M := [x.var]) rfl rfl (rd_cells (t := 3) NC_len (al_new _ _)) (by simp) (by simp; omega) (by have := HBW.out; simp; omega) ?_; intro v7 w7 o7 g7 b7; obtain ⟨A7, c7, rfl, -⟩ := o7.form NC_len; rw [N7.out] at o7 b7 ⊢; have O7 := Lib.hid o7; have G7 := Lib.hid g7; have B7 := Lib.hid b7; clear o7 g7 b7))
        have I7 := Lib.hid (show OP B Wb (.slice A L.length c) (sns (adv L x.er) ((ers x.sub).take 0)) (.slice A7 n7 c7) w7 by
          rw [AD.out]
          refine ⟨O7.out, ((World.grownBy.but (gr_al Wb _) _).trans G7.out), fun k hk => ?_⟩
          rcases B7.out with h | h
          · left; exact h.symm.trans hk
          · right; rw [h] at hk; simp at hk; omega)
        have K7 := Lib.hid (show w7.heap[w.heap.size]? = some (.cells #[iv 5, iv x.var, .slice x.A N x.c] 24 (0, 0)) from
          (G7.out.block _ (by have := HNW.out; simp; omega) (fun e => HB.out _ e.symm rfl)).trans (gr_h (gr_al Wb _) KB.out))
        clear O7 G7 B7 HS DI
        go_loopw [0, 5] (fun l i V => ∃ k : Nat, k ≤ N ∧ i = .int .i64 k ∧ Hid (OP B Wb (.slice A L.length c) (sns (adv L x.er) ((ers x.sub).take k)) l V ∧ V.heap[w.heap.size]? = some (.cells #[iv 5, iv x.var, .slice x.A N x.c] 24 (0, 0)))) (fun _ i _ => N - (intOf i).toNat)
        case atStart => exact ⟨0, Nat.zero_le _, rfl, Lib.hid ⟨I7.out, K7.out⟩⟩
        case round =>
          obtain ⟨k, hk, rfl, HGG⟩ := hrel
          have e2 := Lib.cell_of_heap HGG.out.2 2
          simp only [List.getElem?_toArray, List.getElem?_cons_zero, List.getElem?_cons_succ] at e2
          by_cases hlt : k < N
          · obtain ⟨a, a1, y, hA, ha, c0, c1, c2, hc⟩ := S0.out k _ _ hlt HGG.out.1 HGG.out.2
            have CL := Lib.hid hc
            unfold Ty.v at CL
            rw [hA] at e2
            clear hc hA
            go_wp2_with (first | (go_at_call 57; refine CL.out.mono ?_; rintro e w1 ⟨v'', rfl, o1, k1⟩; have O1 := Lib.hid (show _ ∧ _ from ⟨o1, k1⟩); clear o1 k1))
            exact ⟨⟨k + 1, by omega, by simp, O1⟩, by simp [intOf]; omega⟩
          · obtain rfl : N = k := by omega
            go_wp2
            go_ret
            exact ⟨_, rfl, F0.out _ _ HGG.out.1⟩
    · have h5b : (K == 5) = false := by simpa using h5
      have AD := Lib.hid (show adv L x.er = L by rw [HA.out, if_neg (fun h => h5 h.1)])
      have I0 := Lib.hid (show OP B Wb (.slice A L.length c) (sns (adv L x.er) ((ers x.sub).take 0)) (.slice A L.length c) Wb by rw [AD.out]; exact OP.same HO.out (gr_refl _))
      clear hWb
      go_enter Try.func57, Try.ntmps57
      go_wp2
      rw [HW.out]
      go_loopw [0, 5] (fun l i V => ∃ k : Nat, k ≤ N ∧ i = .int .i64 k ∧ Hid (OP B Wb (.slice A L.length c) (sns (adv L x.er) ((ers x.sub).take k)) l V ∧ V.heap[w.heap.size]? = some (.cells #[iv K, iv x.var, .slice x.A N x.c] 24 (0, 0)))) (fun _ i _ => N - (intOf i).toNat)
      case atStart => exact ⟨0, Nat.zero_le _, rfl, Lib.hid ⟨I0.out, KB.out⟩⟩
      case round =>
        obtain ⟨k, hk, rfl, HGG⟩ := hrel
        have e2 := Lib.cell_of_heap HGG.out.2 2
        simp only [List.getElem?_toArray, List.getElem?_cons_zero, List.getElem?_cons_succ] at e2
        by_cases hlt : k < N
        · obtain ⟨a, a1, y, hA, ha, c0, c1, c2, hc⟩ := S0.out k _ _ hlt HGG.out.1 HGG.out.2
          have CL := Lib.hid hc
          unfold Ty.v at CL
          rw [hA] at e2
          clear hc hA
          go_wp2_with (first | (go_at_call 57; refine CL.out.mono ?_; rintro e w1 ⟨v'', rfl, o1, k1⟩; have O1 := Lib.hid (show _ ∧ _ from ⟨o1, k1⟩); clear o1 k1))
          exact ⟨⟨k + 1, by omega, by simp, O1⟩, by simp [intOf]; omega⟩
        · obtain rfl : N = k := by omega
          go_wp2
          go_ret
          exact ⟨_, rfl, F0.out _ _ HGG.out.1⟩
end Go.Proofs.Ytjlmhfdigoogfaa
namespace Go.Proofs.Ytjlmhfdigoogfaa
open Go.RowKit

theorem size3 (w : World) : (sizeOf 3).run Try.prog w = .ok 1 w := by kernel_rfl
def cutA (A : Option Addr) (c k : Nat) : Option Addr := if c = k then A else A.map (·.add k)
/-- l[k:] -/
theorem run_cut (A : Option Addr) (n c : Nat) (k : Int) (j : Nat) (hj : k = (j : Int)) (h1 : j ≤ n) (w : World) :
    (Instr.slice 35 (.slice A n c) (some (.int .i64 k)) none none).run Try.prog w = .ok (.slice (cutA A c j) (n - j) (c - j)) w := by
  subst hj
  have ht : Try.prog.underlying 35 = some (.slice (Try.prog.elem 35)) := by simp [Program.elem, Try.underlying35]
  have he : Try.prog.elem 35 = 3 := by simp [Program.elem, Try.underlying35]
  rw [run_slice_l w 35 _ _ _ ht .i64 _ (by omega) (by omega), he, size3]
  simp [Result.andThen, sliced, Proofs.Ytjlmhfdigoogfaa.cutA]
/-- l[:k] -/
theorem run_head (A : Option Addr) (n c : Nat) (k : Int) (j : Nat) (hj : k = (j : Int)) (h1 : j ≤ c) (w : World) :
    (Instr.slice 35 (.slice A n c) none (some (.int .i64 k)) none).run Try.prog w = .ok (.slice A j c) w := by
  subst hj
  have ht : Try.prog.underlying 35 = some (.slice (Try.prog.elem 35)) := by simp [Program.elem, Try.underlying35]
  have he : Try.prog.elem 35 = 3 := by simp [Program.elem, Try.underlying35]
  rw [run_slice_h w 35 _ _ _ ht .i64 _ (by omega) (by omega), he, size3]
  cases A <;> simp [Result.andThen, sliced, Addr.add]
/-- An ascending list with one more number. -/
def insD (n : Int) (L : List Int) : List Int := if (L.dropWhile (· < n)).head? = some n then L else L.takeWhile (· < n) ++ n :: L.dropWhile (· < n)
theorem take_tw (n : Int) : ∀ (L : List Int) (k : Nat), k ≤ L.length → (∀ y ∈ L.take k, y < n) → (∀ h : k < L.length, ¬ L[k] < n) → L.takeWhile (· < n) = L.take k ∧ L.dropWhile (· < n) = L.drop k
  | [], k, _, _, _ => by simp
  | x :: L, 0, _, _, h => by
    have : ¬ x < n := h (by simp)
    simp [this]
  | x :: L, k + 1, hk, h1, h2 => by
    have hx : x < n := h1 x (by simp)
    obtain ⟨e1, e2⟩ := take_tw n L k (by simpa using hk) (fun y hy => h1 y (by simp [hy])) (fun h => by have := h2 (by simpa using h); simpa using this)
    simp [hx, e1, e2]
theorem add0 (g k : Nat) : (⟨g, 0, none⟩ : Addr).add k = ⟨g, k, none⟩ := by
  by_cases h : k = 0
  · subst h; rfl
  · rw [fld_add _ _ h]; simp
theorem RD.cutA {w : World} {a : Addr} {L : List Int} (h : RD 1 NC w (some a) L) (k c : Nat) (hc : L.length ≤ c) : RD 1 NC w (cutA (some a) c k) (L.drop k) := by
  refine h.drop k fun b hb hk => ?_
  cases hb
  unfold Ytjlmhfdigoogfaa.cutA
  rw [if_neg (by omega), Nat.mul_one]
  rfl
theorem cutA_some (a : Addr) (c k : Nat) : cutA (some a) c k ≠ none := by unfold cutA; split <;> simp
set_option maxRecDepth 100000 in
set_option maxHeartbeats 4000000 in
theorem insert_any (B : Nat) (w : World) (g c : Nat) (L : List Int) (n : Int) (ho : OR 3 1 NC w B (.slice (some ⟨g, 0, none⟩) L.length c) L) (hB : B ≤ w.heap.size) (hl : L.length ≤ 1000) :
    Calls Try.prog 49 #[.slice (some ⟨g, 0, none⟩) L.length c, iv n] w fun e w' => (∃ g' c', e = .returned (.slice (some ⟨g', 0, none⟩) (insD n L).length c') ∧ OR 3 1 NC w' B (.slice (some ⟨g', 0, none⟩) (insD n L).length c') (insD n L)) ∧ Gr w w' := by
  have HO := Lib.hid ho
  obtain ⟨A, c0, e0, hrd⟩ := ho.form NC_len
  cases e0
  have hc : L.length ≤ c := by
    rcases ho.2 with ⟨h1, _⟩ | ⟨g', cap', cur, e1, hg, hh, hnc, _⟩
    · cases h1
    · have e2 := (Value.slice.inj e1).2.2
      omega
  have HR := Lib.hid hrd
  clear ho hrd
  go_enter Try.func49, Try.ntmps49
  go_wp2
  go_loopw [5] (fun i V => ∃ k : Nat, k ≤ L.length ∧ i = .int .i64 k ∧ Hid (V = w ∧ ∀ y ∈ L.take k, y < n)) (fun i _ => L.length - (intOf i).toNat)
  case atStart => exact ⟨0, Nat.zero_le _, rfl, Lib.hid ⟨rfl, by simp⟩⟩
  case round =>
    obtain ⟨k, hk, rfl, HG⟩ := hrel
    obtain rfl := HG.out.1
    by_cases hgo : ∃ h : k < L.length, L[k] < n
    · obtain ⟨hlt, hx⟩ := hgo
      obtain ⟨a, e, hab, c0⟩ := HR.out.num hlt
      cases e
      rw [add0] at c0
      have HN := Lib.hid (show ∀ y ∈ L.take (k + 1), y < n by
        intro y hy
        rw [List.take_succ_eq_append_getElem hlt, List.mem_append, List.mem_singleton] at hy
        rcases hy with hy | rfl
        · exact HG.out.2 y hy
        · exact hx)
      generalize L[k] = z at *
      go_wp2
      exact ⟨⟨k + 1, by omega, by simp, Lib.hid ⟨trivial, HN.out⟩⟩, by simp [intOf]; omega⟩
    · obtain ⟨T1, T2⟩ := take_tw n L k hk HG.out.2 (fun h hx => hgo ⟨h, hx⟩)
      have hi : insD n L = if (L.drop k).head? = some n then L else L.take k ++ n :: L.drop k := by unfold insD; rw [T1, T2]
      have hs1 := fun W => run_head (some ⟨g, 0, none⟩) L.length c (k : Int) k rfl (by omega) W
      have hs2 := fun W => run_cut (some ⟨g, 0, none⟩) L.length c (k : Int) k rfl hk W
      clear T1 T2
      by_cases hlt : k < L.length
      · obtain ⟨a, e, hab, c0⟩ := HR.out.num hlt
        cases e
        rw [add0] at c0
        have hb : ¬ L[k] < n := fun hx => hgo ⟨hlt, hx⟩
        have hh : (L.drop k).head? = some L[k] := by rw [List.drop_eq_getElem_cons hlt]; rfl
        rw [hh] at hi
        clear hgo hh
        generalize L[k] = z at *
        by_cases hz : z = n
        · subst hz
          have HI := Lib.hid (show insD z L = L by rw [hi, if_pos rfl])
          clear hi
          go_wp2
          go_ret
          rw [HI.out]
          exact ⟨⟨g, c, rfl, HO.out⟩, gr_refl _⟩
        · have HI := Lib.hid (show insD n L = L.take k ++ [n] ++ L.drop k by rw [hi, if_neg (by simpa using hz)]; simp)
          clear hi
          go_wp2_with (first | (at_builtin; refine wpList_appNP _ rfl (.tmp 34) (.tmp 37) rfl wr.heap.size (v := .slice (some ⟨wr.heap.size, 0, none⟩) 0 0) rfl (OR.empty (Nat.le_refl _)) (M := L.take k) (by simp; omega) rfl ((HR.out.take k).gr (gr_al _ _)) (by simp) (by simp; omega) (by simp) ?_; intro v2 w2 o2 g2 _; rw [List.nil_append] at o2; have O2 := Lib.hid o2; have G2 := Lib.hid (OR.grow (gr_al wr (.cells #[] 3)) (OR.empty (α := Int) (cs := NC) (n := 1) (Nat.le_refl _)) (Nat.le_refl _) g2); clear o2 g2) | (at_builtin; refine wpList_appNP _ rfl (.tmp 39) (.tmp 41) rfl wr.heap.size rfl (O2.out.alloc _) (M := [n]) rfl rfl (rd_cells (t := 3) NC_len (al_new _ _)) (by simp) (by simp; omega) (by have := G2.out.size; simp; omega) ?_; intro v3 w3 o3 g3 _; have O3 := Lib.hid o3; have G3 := Lib.hid (OR.grow (G2.out.trans (gr_al _ _)) (O2.out.alloc _) (Nat.le_refl _) g3); clear o3 g3) | (at_builtin; refine wpList_appNP _ rfl (.tmp 43) (.tmp 46) rfl wr.heap.size rfl O3.out (M := L.drop k) (by simp) rfl ((HR.out.gr G3.out).cutA k c hc) (cutA_some _ _ _) (by simp; omega) G3.out.size ?_; intro v4 w4 o4 g4 _; have O4 := Lib.hid o4; have G4 := Lib.hid (OR.grow G3.out O3.out (Nat.le_refl _) g4); clear o4 g4))
          go_ret
          rw [HI.out]
          obtain ⟨g', c', rfl, -⟩ := O4.out.someR (by simp)
          exact ⟨⟨g', c', rfl, O4.out.low hB⟩, G4.out⟩
      · have HI := Lib.hid (show insD n L = L.take k ++ [n] ++ L.drop k by rw [hi, List.drop_eq_nil_of_le (by omega)]; simp)
        clear hi hgo
        go_wp2_with (first | (at_builtin; refine wpList_appNP _ rfl (.tmp 34) (.tmp 37) rfl wr.heap.size (v := .slice (some ⟨wr.heap.size, 0, none⟩) 0 0) rfl (OR.empty (Nat.le_refl _)) (M := L.take k) (by simp; omega) rfl ((HR.out.take k).gr (gr_al _ _)) (by simp) (by simp; omega) (by simp) ?_; intro v2 w2 o2 g2 _; rw [List.nil_append] at o2; have O2 := Lib.hid o2; have G2 := Lib.hid (OR.grow (gr_al wr (.cells #[] 3)) (OR.empty (α := Int) (cs := NC) (n := 1) (Nat.le_refl _)) (Nat.le_refl _) g2); clear o2 g2) | (at_builtin; refine wpList_appNP _ rfl (.tmp 39) (.tmp 41) rfl wr.heap.size rfl (O2.out.alloc _) (M := [n]) rfl rfl (rd_cells (t := 3) NC_len (al_new _ _)) (by simp) (by simp; omega) (by have := G2.out.size; simp; omega) ?_; intro v3 w3 o3 g3 _; have O3 := Lib.hid o3; have G3 := Lib.hid (OR.grow (G2.out.trans (gr_al _ _)) (O2.out.alloc _) (Nat.le_refl _) g3); clear o3 g3) | (at_builtin; refine wpList_appNP _ rfl (.tmp 43) (.tmp 46) rfl wr.heap.size rfl O3.out (M := L.drop k) (by simp) rfl ((HR.out.gr G3.out).cutA k c hc) (cutA_some _ _ _) (by simp; omega) G3.out.size ?_; intro v4 w4 o4 g4 _; have O4 := Lib.hid o4; have G4 := Lib.hid (OR.grow G3.out O3.out (Nat.le_refl _) g4); clear o4 g4))
        go_ret
        rw [HI.out]
        obtain ⟨g', c', rfl, -⟩ := O4.out.someR (by simp)
        exact ⟨⟨g', c', rfl, O4.out.low hB⟩, G4.out⟩
end Go.Proofs.Ytjlmhfdigoogfaa
namespace Go.Proofs.Ytjlmhfdigoogfaa
open Go.RowKit

def insF (o : List Int) (n : Int) : List Int := insD n o
def rvars (t : PT) : List Int := if ck t = 0 then (sn [] t).foldl insF [] else []
theorem insD_len (n : Int) (L : List Int) : (insD n L).length ≤ L.length + 1 := by
  unfold insD
  split
  · omega
  · have := congrArg List.length (List.takeWhile_append_dropWhile (p := fun x : Int => decide (x < n)) (l := L))
    rw [List.length_append] at this
    rw [List.length_append, List.length_cons]
    omega
theorem insF_len (l : List Int) : ∀ o : List Int, (l.foldl insF o).length ≤ o.length + l.length := by
  induction l with
  | nil => intro o; simp
  | cons x l ih => intro o; have h1 := ih (insF o x); have h2 := insD_len x o; unfold insF at *; simp; omega
theorem tw_lt (n : Int) : ∀ (L : List Int), ∀ a ∈ L.takeWhile (fun x : Int => decide (x < n)), a < n
  | [], a, h => by simp at h
  | x :: L, a, h => by
    rw [List.takeWhile_cons] at h
    split at h
    · rename_i hx
      rcases List.mem_cons.1 h with rfl | h
      · simpa using hx
      · exact tw_lt n L a h
    · cases h
theorem insD_new {n : Int} {L : List Int} (hs : L.Pairwise (· ≤ ·)) (hn : ¬ n ∈ L) : (insD n L).Perm (n :: L) ∧ (insD n L).Pairwise (· ≤ ·) := by
  have e := List.takeWhile_append_dropWhile (p := fun x : Int => decide (x < n)) (l := L)
  unfold insD
  rw [if_neg (fun h => by
    have h1 : n ∈ L.dropWhile (· < n) := List.mem_of_head? h
    have h2 : n ∈ L.takeWhile (fun x : Int => decide (x < n)) ++ L.dropWhile (fun x : Int => decide (x < n)) := List.mem_append.2 (.inr h1)
    rw [e] at h2
    exact hn h2)]
  refine ⟨?_, ?_⟩
  · refine List.perm_middle.trans ?_
    rw [e]
  · rw [List.pairwise_append]
    have h2 := hs
    rw [← e, List.pairwise_append] at h2
    have hlt : ∀ a ∈ L.takeWhile (fun x : Int => decide (x < n)), a < n := tw_lt n L
    have hge : ∀ b ∈ L.dropWhile (fun x : Int => decide (x < n)), n ≤ b := by
      intro b hb
      cases hd : L.dropWhile (fun x : Int => decide (x < n)) with
      | nil => rw [hd] at hb; cases hb
      | cons q Q =>
        have hq : ¬ q < n := by
          have := List.head_dropWhile_not (fun x : Int => decide (x < n)) (l := L) (by rw [hd]; simp)
          simp only [hd, List.head_cons] at this
          simpa using this
        rw [hd] at hb h2
        rcases List.mem_cons.1 hb with rfl | hb
        · omega
        · have := (List.pairwise_cons.1 h2.2.1).1 b hb
          omega
    refine ⟨h2.1, List.pairwise_cons.2 ⟨hge, h2.2.1⟩, fun a ha b hb => ?_⟩
    have := hlt a ha
    rcases List.mem_cons.1 hb with rfl | hb
    · omega
    · exact h2.2.2 a ha b hb
theorem foldF (l : List Int) : ∀ o : List Int, o.Pairwise (· ≤ ·) → l.Nodup → (∀ x ∈ l, ¬ x ∈ o) → (l.foldl insF o).Perm (o ++ l) ∧ (l.foldl insF o).Pairwise (· ≤ ·) := by
  induction l with
  | nil => intro o h _ _; exact ⟨by simp, h⟩
  | cons x l ih =>
    intro o h hd hx
    obtain ⟨p1, p2⟩ := insD_new h (hx x (by simp))
    rw [List.nodup_cons] at hd
    obtain ⟨q1, q2⟩ := ih (insF o x) p2 hd.2 (fun y hy h => by
      rcases List.mem_cons.1 (p1.mem_iff.1 h) with rfl | h
      · exact hd.1 hy
      · exact hx y (by simp [hy]) h)
    refine ⟨q1.trans ?_, q2⟩
    refine (p1.append_right l).trans ?_
    simpa using (List.perm_middle (a := x) (l₁ := o) (l₂ := l)).symm
theorem adv_nodup {l : List Int} (h : l.Nodup) (t : PT) : (adv l t).Nodup := by
  unfold adv
  split
  · rename_i h1
    rw [List.nodup_append]
    exact ⟨h, by simp, fun a ha b hb => by simp at hb; subst hb; rintro rfl; exact h1.2 ha⟩
  · exact h
theorem sn_nodup (t : PT) : (sn [] t).Nodup := by
  suffices H : ∀ (m : List PT) (l : List Int), l.Nodup → (m.foldl adv l).Nodup from H _ _ List.nodup_nil
  intro m
  induction m with
  | nil => intro l h; exact h
  | cons x m ih => intro l h; exact ih _ (adv_nodup h x)
theorem rvars_eq (t : PT) : rvars t = vrs t := by
  unfold rvars vrs
  split
  · obtain ⟨h1, h2⟩ := foldF (sn [] t) [] List.Pairwise.nil (sn_nodup t) (by simp)
    exact asc_unique (h1.trans (by simpa using (ascd_perm _).symm)) h2 (ascd_sorted _)
  · rfl
set_option maxRecDepth 100000 in
set_option maxHeartbeats 8000000 in
theorem rvars_any (x : Ty) (w : World) (hx : x.Rd w) : Calls Try.prog 21 #[x.v] w fun e w' => (∃ g c, e = .returned (.slice (some ⟨g, 0, none⟩) (rvars x.er).length c) ∧ OR 3 1 NC w' w.heap.size (.slice (some ⟨g, 0, none⟩) (rvars x.er).length c) (rvars x.er)) ∧ Gr w w' := by
  have CK := Lib.hid (fun V (g : Gr w V) => rCheck_any x V (hx.gr g))
  have BX := Lib.hid ((B1.of x.kind x.var (.slice x.A x.sub.length x.c) w).grow (gr_al _ (.cells #[] 35)))
  obtain ⟨q, hq⟩ : ∃ q, ck x.er = q := ⟨_, rfl⟩
  rw [hq] at CK
  have K0 := Lib.hid (fun (o : Obj) => (B1.of x.kind x.var (.slice x.A x.sub.length x.c) w).grow (gr_al _ o))
  have b0 := fun o => (K0.out o).c.1
  have b1 := fun o => (K0.out o).c.2.1
  have b2 := fun o => (K0.out o).c.2.2
  have E0 := Lib.hid (show OR 3 1 NC ((w.alloc (.cells #[iv x.kind, iv x.var, .slice x.A x.sub.length x.c] 24)).alloc (.cells #[] 3)) w.heap.size (.slice (some ⟨w.heap.size + 1, 0, none⟩) 0 0) ([] : List Int) by
    have h := OR.empty (cs := NC) (n := 1) (e := 3) (w := w.alloc (.cells #[iv x.kind, iv x.var, .slice x.A x.sub.length x.c] 24)) (base := w.heap.size) (by simp)
    rw [show (w.alloc (.cells #[iv x.kind, iv x.var, .slice x.A x.sub.length x.c] 24)).heap.size = w.heap.size + 1 by simp] at h
    exact h)
  by_cases h0 : q = 0
  · subst h0
    have VR := Lib.hid (show rvars x.er = (sn [] x.er).foldl insF [] by unfold rvars; rw [if_pos hq])
    have hz := ck_size hq
    have SN := Lib.hid (fun (V : World) (g : Gr w V) => seen_any x w w.heap.size V (.slice none 0 0) [] hx g (Nat.le_refl _) g.size OR.nil (by simp; omega))
    have LN := Lib.hid (show (sn [] x.er).length ≤ 200 by have := sn_len [] x.er; simp at this; omega)
    clear hq hx hz
    unfold Ty.v at *
    go_enter Try.func21, Try.ntmps21
    go_upto_region 5 with (first | (go_at_call 18; refine (CK.out _ ((B1.of x.kind x.var (.slice x.A x.sub.length x.c) w).gr.trans (gr_al _ _))).mono ?_; rintro e w1 ⟨rfl, g1⟩; have G1 := Lib.hid ((K0.out _).grow g1); have E1 := Lib.hid (E0.out.gr g1); clear g1 b0 b1 b2; obtain ⟨b0, b1, b2⟩ := G1.out.c) | (go_at_call 57; refine (SN.out _ G1.out.gr).mono ?_; rintro e w2 ⟨v, rfl, o2⟩; have g2 := OR.grow G1.out.gr (OR.nil (e := 3) (cs := NC) (n := 1) (w := _) (base := w.heap.size)) (Nat.le_refl _) o2.g; have G2 := Lib.hid g2; have E2 := Lib.hid (E1.out.kept o2.g (.inr (by simp [Value.ownBlock]))); have O2 := Lib.hid o2.o; clear o2 g2))
    obtain ⟨Av, cv, rfl, hrd⟩ := O2.out.form NC_len
    have HR := Lib.hid (fun V (g : Gr w2 V) => RD.gr hrd g)
    obtain ⟨S, hS⟩ : ∃ S, sn [] x.er = S := ⟨_, rfl⟩
    rw [hS] at LN VR HR ⊢
    clear hrd O2 SN CK E1 E0 K0 BX hS
    have ls := LN.out
    go_wp2
    go_loopw [3, 5] (fun o i V => ∃ (k g c : Nat), k ≤ S.length ∧ i = .int .i64 k ∧ o = .slice (some ⟨g, 0, none⟩) ((S.take k).foldl insF []).length c ∧ Hid (OR 3 1 NC V w.heap.size o ((S.take k).foldl insF []) ∧ Gr w2 V)) (fun _ i _ => S.length - (intOf i).toNat)
    case atStart => exact ⟨0, w.heap.size + 1, 0, Nat.zero_le _, rfl, rfl, Lib.hid ⟨E2.out, gr_refl _⟩⟩
    case round =>
      obtain ⟨k, g, c, hk, rfl, rfl, HG⟩ := hrel
      by_cases hlt : k < S.length
      · obtain ⟨a, rfl, hab, c0⟩ := (HR.out _ HG.out.2).num hlt
        have HF := Lib.hid (show (S.take (k + 1)).foldl insF [] = insD S[k] ((S.take k).foldl insF []) by rw [List.take_succ_eq_append_getElem hlt, List.foldl_append, List.foldl_cons, List.foldl_nil, insF])
        have IL := Lib.hid (insF_len (S.take k) [])
        generalize S[k] = z at *
        have IN := Lib.hid (insert_any w.heap.size wr g c _ z HG.out.1 (Nat.le_trans G2.out.size HG.out.2.size) (by have h1 := IL.out; have h2 := LN.out; simp at h1; omega))
        generalize ((S.take k).foldl insF []).length = m at *
        go_wp2_with (first | (go_at_call 49; refine IN.out.mono ?_; rintro e w5 ⟨⟨g5, c5, rfl, o5⟩, gr5⟩; have O5 := Lib.hid o5; have G5 := Lib.hid (HG.out.2.trans gr5); clear o5 gr5))
        exact ⟨⟨k + 1, g5, c5, by omega, by simp, by rw [HF.out], Lib.hid ⟨by rw [HF.out]; exact O5.out, G5.out⟩⟩, by simp [intOf]; omega⟩
      · obtain rfl : S.length = k := by omega
        have h1 := HG.out.1
        rw [List.take_length] at h1
        have O1 := Lib.hid h1
        rw [List.take_length]
        clear h1
        have VL := Lib.hid (congrArg List.length VR.out)
        generalize hm : (S.foldl insF []).length = m at *
        clear hm
        go_wp2
        go_ret
        refine ⟨⟨g, c, by rw [VL.out]; rfl, by rw [VL.out, VR.out]; exact O1.out⟩, G2.out.trans HG.out.2⟩
  · have VR := Lib.hid (show rvars x.er = [] by unfold rvars; rw [if_neg (by rw [hq]; exact h0)])
    have hb : (q != 0) = true := by simpa using h0
    clear hx hq h0
    unfold Ty.v at *
    go_enter Try.func21, Try.ntmps21
    go_wp2_with (first | (go_at_call 18; refine (CK.out _ ((B1.of x.kind x.var (.slice x.A x.sub.length x.c) w).gr.trans (gr_al _ _))).mono ?_; rintro e w1 ⟨rfl, g1⟩; have G1 := Lib.hid ((K0.out _).grow g1); have E1 := Lib.hid (E0.out.gr g1); clear g1))
    go_ret
    rw [VR.out]
    exact ⟨⟨_, 0, rfl, E1.out⟩, G1.out.gr⟩
end Go.Proofs.Ytjlmhfdigoogfaa
namespace Go.Proofs.Ytjlmhfdigoogfaa
open Go.RowKit

/-- The rows of a type lie in blocks of S. -/
inductive TIn (S : Nat → Prop) : Option Addr → List Ty → Prop
  | mk {A : Option Addr} {L : List Ty} (h : ∀ a, A = some a → L ≠ [] → S a.block) (hs : ∀ x ∈ L, TIn S x.A x.sub) : TIn S A L
section
variable {S S' : Nat → Prop} {w V : World} {A : Option Addr} {c : Nat} {L : List Ty}
theorem TIn.h (h : TIn S A L) : ∀ a, A = some a → L ≠ [] → S a.block := by cases h; assumption
theorem TIn.hs (h : TIn S A L) : ∀ x ∈ L, TIn S x.A x.sub := by cases h; assumption
theorem TIn.nil : TIn S A [] := .mk (fun _ _ h => absurd rfl h) (by simp)
theorem TIn.mono (h : TIn S A L) (hi : ∀ k, S k → S' k) : TIn S' A L := by
  induction h with
  | mk h _ ih => exact .mk (fun a e n => hi _ (h a e n)) ih
theorem RD.keepAt {α : Type} {n : Nat} {cs : α → List Value} {L : List α} (h : RD n cs w A L) (hs : w.heap.size ≤ V.heap.size) (hk : ∀ a, A = some a → L ≠ [] → a.block < w.heap.size → V.heap[a.block]? = w.heap[a.block]?) : RD n cs V A L := by
  rcases h with rfl | ⟨a, e, hb, hc⟩
  · exact .inl rfl
  · by_cases hn : L = []
    · exact .inl hn
    · refine .inr ⟨a, e, by omega, fun j x hx i v hv => ?_⟩
      have h1 := hk a e hn hb
      have h2 := hc j x hx i v hv
      unfold World.cell? at *
      rw [add_block] at *
      rw [h1]
      exact h2
/-- A type stays where its blocks stay. -/
theorem TRd.keepAt (h : TRd w A c L) (hi : TIn S A L) (hs : w.heap.size ≤ V.heap.size) (hk : ∀ k, S k → k < w.heap.size → V.heap[k]? = w.heap[k]?) : TRd V A c L := by
  induction h with
  | mk hc hm h0 hr _ ih => exact .mk hc hm h0 (hr.keepAt hs fun a e n hb => hk _ (hi.h a e n) hb) fun x hx => ih x hx (hi.hs x hx)
theorem TRd.tin (h : TRd w A c L) : TIn (· < w.heap.size) A L := by
  induction h with
  | mk hc hm h0 hr _ ih =>
    refine .mk (fun a e n => ?_) ih
    rcases hr with rfl | ⟨a', e', hb, _⟩
    · exact absurd rfl n
    · rw [e] at e'; cases e'; exact hb
/-- A type of a new row. -/
theorem TRd.row {k : Nat} {t : TypeId} (h : V.heap[k]? = some (.cells (L.flatMap Ty.cs).toArray t (0, 0))) (hl : L.length ≤ c) (hc : c ≤ 9223372036854775807) (hs : ∀ x ∈ L, TRd V x.A x.c x.sub) : TRd V (some ⟨k, 0, none⟩) c L :=
  .mk hl hc (fun h => by cases h) (rd_cells Ty.cs_len h) hs
end
/-- A result that is a type: its value, that it lies in memory, in blocks of S. -/
def TyR (S : Nat → Prop) (t : PT) (w : World) (v : Value) : Prop := ∃ x : Ty, v = x.v ∧ x.Rd w ∧ TIn S x.A x.sub ∧ x.er = t
theorem TyR.gr {S : Nat → Prop} {t : PT} {w V : World} {v : Value} (h : TyR S t w v) (g : Gr w V) : TyR S t V v := by
  obtain ⟨x, e, h1, h2, h3⟩ := h
  exact ⟨x, e, TRd.gr h1 g, h2, h3⟩
theorem TyR.mono {S S' : Nat → Prop} {t : PT} {w : World} {v : Value} (h : TyR S t w v) (hi : ∀ k, S k → S' k) : TyR S' t w v := by
  obtain ⟨x, e, h1, h2, h3⟩ := h
  exact ⟨x, e, h1, h2.mono hi, h3⟩
theorem TyR.flat (S : Nat → Prop) (w : World) (k n : Int) : TyR S (.mk k n []) w (.agg #[iv k, iv n, .slice none 0 0]) :=
  ⟨.mk k n none 0 [], rfl, TRd.nil w, TIn.nil, by simp [Ty.er]⟩
/-- Two types in a row, one in a row. -/
theorem TyR.two {w V : World} {k : Nat} (x y : Ty) (hx : x.Rd w) (hy : y.Rd w) (g : Gr w V) (n : Int) (h : V.heap[k]? = some (.cells #[iv x.kind, iv x.var, .slice x.A x.sub.length x.c, iv y.kind, iv y.var, .slice y.A y.sub.length y.c] 24 (0, 0))) : TyR (fun _ => True) (.mk n 0 [x.er, y.er]) V (.agg #[iv n, iv 0, .slice (some ⟨k, 0, none⟩) 2 2]) := by
  refine ⟨.mk n 0 (some ⟨k, 0, none⟩) 2 [x, y], rfl, TRd.row (L := [x, y]) (t := 24) h (by simp [Ty.c]) (by simp [Ty.c]) (fun z hz => ?_), ?_, by simp [Ty.er]⟩
  · simp only [List.mem_cons, List.not_mem_nil, or_false] at hz
    rcases hz with rfl | rfl
    · exact TRd.gr hx g
    · exact TRd.gr hy g
  · refine .mk (fun _ _ _ => trivial) fun z hz => ?_
    simp only [Ty.sub, List.mem_cons, List.not_mem_nil, or_false] at hz
    rcases hz with rfl | rfl
    · exact (TRd.tin hx).mono fun _ _ => trivial
    · exact (TRd.tin hy).mono fun _ _ => trivial
theorem TyR.one {w V : World} {k : Nat} (x : Ty) (hx : x.Rd w) (g : Gr w V) (n : Int) (h : V.heap[k]? = some (.cells #[iv x.kind, iv x.var, .slice x.A x.sub.length x.c] 24 (0, 0))) : TyR (fun _ => True) (.mk n 0 [x.er]) V (.agg #[iv n, iv 0, .slice (some ⟨k, 0, none⟩) 1 1]) := by
  refine ⟨.mk n 0 (some ⟨k, 0, none⟩) 1 [x], rfl, TRd.row (L := [x]) (t := 24) h (by simp [Ty.c]) (by simp [Ty.c]) (fun z hz => ?_), ?_, by simp [Ty.er]⟩
  · simp only [List.mem_cons, List.not_mem_nil, or_false] at hz
    subst hz
    exact TRd.gr hx g
  · refine .mk (fun _ _ _ => trivial) fun z hz => ?_
    simp only [Ty.sub, List.mem_cons, List.not_mem_nil, or_false] at hz
    subst hz
    exact (TRd.tin hx).mono fun _ _ => trivial
set_option maxRecDepth 100000 in
theorem var_any (n : Int) (w : World) : Calls Try.prog 26 #[iv n] w fun e w' => e = .returned (.agg #[iv 5, iv n, .slice none 0 0]) ∧ Gr w w' := by
  go_enter Try.func26, Try.ntmps26
  go_wp2
  exact bodyPost_ret (results_cell_row (P := Try.prog) rfl _ _ _ _ _ _ _ rfl (al_new _ _) rfl rfl rfl) rfl ⟨rfl, gr_al _ _⟩
set_option maxRecDepth 100000 in
theorem variable_any (n : Int) (w : World) : Calls Try.prog 62 #[iv n] w fun e w' => e = .returned (.agg #[iv 5, iv n, .slice none 0 0]) ∧ Gr w w' := by
  go_enter Try.func62, Try.ntmps62
  go_wp2
  exact bodyPost_ret (results_cell_row (P := Try.prog) rfl _ _ _ _ _ _ _ rfl (al_new _ _) rfl rfl rfl) rfl ⟨rfl, gr_al _ _⟩
set_option maxRecDepth 100000 in
theorem fun_any (x y : Ty) (w : World) (hx : x.Rd w) (hy : y.Rd w) : Calls Try.prog 41 #[x.v, y.v] w fun e w' => (∃ r, e = .returned r ∧ TyR (fun _ => True) (.mk 4 0 [x.er, y.er]) w' r) ∧ Gr w w' := by
  have HX := Lib.hid hx
  have HY := Lib.hid hy
  clear hx hy
  unfold Ty.v at *
  go_enter Try.func41, Try.ntmps41
  go_wp2
  have G4 : ∀ a b c d : Obj, Gr w ((((w.alloc a).alloc b).alloc c).alloc d) := fun a b c d => ((gr_al _ _).trans (gr_al _ _)).trans ((gr_al _ _).trans (gr_al _ _))
  exact bodyPost_ret (results_cell_row (P := Try.prog) rfl _ _ (w.heap.size + 2) _ _ _ _ rfl ((Below.heap_alloc _ _ _ (by simp)).trans (al_at _ _ (by simp))) rfl rfl rfl) rfl ⟨⟨_, rfl, TyR.two (w := w) x y HX.out HY.out (G4 _ _ _ _) 4 (al_at _ _ (by simp))⟩, G4 _ _ _ _⟩
set_option maxRecDepth 100000 in
theorem list_any (x : Ty) (w : World) (hx : x.Rd w) : Calls Try.prog 42 #[x.v] w fun e w' => (∃ r, e = .returned r ∧ TyR (fun _ => True) (.mk 3 0 [x.er]) w' r) ∧ Gr w w' := by
  have HX := Lib.hid hx
  clear hx
  unfold Ty.v at *
  go_enter Try.func42, Try.ntmps42
  go_wp2
  have G4 : ∀ a b c : Obj, Gr w (((w.alloc a).alloc b).alloc c) := fun a b c => ((gr_al _ _).trans (gr_al _ _)).trans (gr_al _ _)
  exact bodyPost_ret (results_cell_row (P := Try.prog) rfl _ _ (w.heap.size + 1) _ _ _ _ rfl ((Below.heap_alloc _ _ _ (by simp)).trans (al_at _ _ (by simp))) rfl rfl rfl) rfl ⟨⟨_, rfl, TyR.one (w := w) x HX.out (G4 _ _ _) 3 (al_at _ _ (by simp))⟩, G4 _ _ _⟩
end Go.Proofs.Ytjlmhfdigoogfaa
namespace Go.Proofs.Ytjlmhfdigoogfaa
open Go.RowKit

mutual
/-- Two types are equal. -/
def PT.seq : PT → PT → Bool
  | .mk k v s, .mk k' v' s' => k == k' && v == v' && seqs s s'
def seqs : List PT → List PT → Bool
  | [], [] => true
  | x :: l, y :: m => x.seq y && seqs l m
  | [], _ :: _ => false
  | _ :: _, [] => false
end
mutual
theorem seq_iff : ∀ a b : PT, a.seq b = true ↔ a = b
  | .mk k v s, .mk k' v' s' => by
    have := seqs_iff s s'
    simp [PT.seq, this, and_assoc]
theorem seqs_iff : ∀ a b : List PT, seqs a b = true ↔ a = b
  | [], [] => by simp [seqs]
  | x :: l, y :: m => by simp [seqs, seq_iff x y, seqs_iff l m]
  | [], _ :: _ => by simp [seqs]
  | _ :: _, [] => by simp [seqs]
end
theorem seq_false {a b : PT} (h : a ≠ b) : a.seq b = false := by
  cases hb : a.seq b
  · rfl
  · exact absurd ((seq_iff a b).1 hb) h
theorem seq_true {a b : PT} (h : a = b) : a.seq b = true := (seq_iff a b).2 h
/-- Two types in boxes behind a world. -/
structure BB (k v : Int) (s : Value) (k' v' : Int) (s' : Value) (w V : World) : Prop where
  gr : Gr w V
  h : V.heap[w.heap.size]? = some (.cells #[iv k, iv v, s] 24 (0, 0))
  h' : V.heap[w.heap.size + 1]? = some (.cells #[iv k', iv v', s'] 24 (0, 0))
theorem BB.of (k v : Int) (s : Value) (k' v' : Int) (s' : Value) (w : World) : BB k v s k' v' s' w ((w.alloc (.cells #[iv k, iv v, s] 24)).alloc (.cells #[iv k', iv v', s'] 24)) :=
  ⟨(gr_al _ _).trans (gr_al _ _), (Below.heap_alloc _ _ _ (by simp)).trans (al_new _ _), al_at _ _ (by simp)⟩
section
variable {k v k' v' : Int} {s s' : Value} {w V V' : World}
theorem BB.grow (h : BB k v s k' v' s' w V) (g : Gr V V') : BB k v s k' v' s' w V' := ⟨h.gr.trans g, gr_h g h.h, gr_h g h.h'⟩
theorem BB.c (h : BB k v s k' v' s' w V) : V.cell? ⟨w.heap.size, 0, none⟩ = some (iv k) ∧ V.cell? ⟨w.heap.size, 1, none⟩ = some (iv v) ∧ V.cell? ⟨w.heap.size, 2, none⟩ = some s := by
  refine ⟨?_, ?_, ?_⟩ <;> · rw [Lib.cell_of_heap h.h]; rfl
theorem BB.c' (h : BB k v s k' v' s' w V) : V.cell? ⟨w.heap.size + 1, 0, none⟩ = some (iv k') ∧ V.cell? ⟨w.heap.size + 1, 1, none⟩ = some (iv v') ∧ V.cell? ⟨w.heap.size + 1, 2, none⟩ = some s' := by
  refine ⟨?_, ?_, ?_⟩ <;> · rw [Lib.cell_of_heap h.h']; rfl
end
theorem ers_get {l : List Ty} {k : Nat} (h : k < l.length) : (ers l)[k]? = some l[k].er := by
  rw [ers_map, List.getElem?_map, List.getElem?_eq_getElem h]; rfl
set_option maxRecDepth 100000 in
set_option maxHeartbeats 4000000 in
theorem same_any (x : Ty) : ∀ (y : Ty) (w : World), x.Rd w → y.Rd w → Calls Try.prog 25 #[x.v, y.v] w fun e w' => e = .returned (.bool (x.er.seq y.er)) ∧ Gr w w' := by
  induction x using Ty.ind with
  | h x ih =>
    intro y w hx hy
    have IH := Lib.hid ih
    have HX := Lib.hid (fun V (g : Gr w V) => TRd.gr hx g)
    have HY := Lib.hid (fun V (g : Gr w V) => TRd.gr hy g)
    have BX := Lib.hid (BB.of x.kind x.var (.slice x.A x.sub.length x.c) y.kind y.var (.slice y.A y.sub.length y.c) w)
    obtain ⟨b0, b1, b2⟩ := BX.out.c
    obtain ⟨c0, c1, c2⟩ := BX.out.c'
    have hlen : x.sub.length ≤ 9223372036854775807 := Nat.le_trans hx.hc hx.hm
    have EX := Lib.hid (er_eq x)
    have EY := Lib.hid (er_eq y)
    clear ih hx hy
    unfold Ty.v
    obtain ⟨K, hK⟩ : ∃ K, x.kind = K := ⟨_, rfl⟩
    obtain ⟨U, hU⟩ : ∃ U, x.var = U := ⟨_, rfl⟩
    obtain ⟨N, hN⟩ : ∃ N, x.sub.length = N := ⟨_, rfl⟩
    obtain ⟨K', hK'⟩ : ∃ K, y.kind = K := ⟨_, rfl⟩
    obtain ⟨U', hU'⟩ : ∃ U, y.var = U := ⟨_, rfl⟩
    obtain ⟨N', hN'⟩ : ∃ N, y.sub.length = N := ⟨_, rfl⟩
    rw [hK, hU, hN, hK', hU', hN'] at BX ⊢
    rw [hK, hU] at EX
    rw [hK', hU'] at EY
    rw [hN] at hlen
    clear b0 b1 b2 c0 c1 c2
    obtain ⟨b0, b1, b2⟩ := BX.out.c
    obtain ⟨c0, c1, c2⟩ := BX.out.c'
    have NX := Lib.hid hN
    have NY := Lib.hid hN'
    clear hK hU hN hK' hU' hN'
    by_cases hk : K = K'
    · subst hk
      by_cases hv : U = U'
      · subst hv
        by_cases hn : N = N'
        · subst hn
          go_enter Try.func25, Try.ntmps25
          go_wp2
          go_loopw [5] (fun i V => ∃ k : Nat, k ≤ N ∧ i = .int .i64 k ∧ Hid (BB K U (.slice x.A N x.c) K U (.slice y.A N y.c) w V ∧ ∀ j, j < k → (ers x.sub)[j]? = (ers y.sub)[j]?)) (fun i _ => N - (intOf i).toNat)
          case atStart => exact ⟨0, Nat.zero_le _, rfl, Lib.hid ⟨BX.out, fun j h => by omega⟩⟩
          case round =>
            clear BX b0 b1 b2 c0 c1 c2
            obtain ⟨k, hk, rfl, HG⟩ := hrel
            obtain ⟨b0, b1, b2⟩ := HG.out.1.c
            obtain ⟨c0, c1, c2⟩ := HG.out.1.c'
            by_cases hlt : k < N
            · have h1 : k < x.sub.length := by rw [NX.out]; exact hlt
              have h2 : k < y.sub.length := by rw [NY.out]; exact hlt
              obtain ⟨a, a1, hA, ha, hab, d0, d1, d2, hsub⟩ := (HX.out _ HG.out.1.gr).at h1
              obtain ⟨b, e1, hB, hb, hbb, f0, f1, f2, hsub'⟩ := (HY.out _ HG.out.1.gr).at h2
              have GX := Lib.hid (ers_get h1)
              have GY := Lib.hid (ers_get h2)
              have IM := List.getElem_mem h1
              generalize x.sub[k] = p at *
              generalize y.sub[k] = q at *
              have CL := Lib.hid (fun V (g : Gr wr V) => IH.out p IM q V (hsub.gr g) (hsub'.gr g))
              rw [hA] at b2
              rw [hB] at c2
              unfold Ty.v at CL
              clear hA hB hsub hsub' IM h1 h2
              have SQ := Lib.hid (seq_iff p.er q.er)
              obtain ⟨z, hz⟩ : ∃ z, p.er.seq q.er = z := ⟨_, rfl⟩
              rw [hz] at CL SQ
              clear hz
              cases z with
              | true =>
                have E1 := SQ.out.1 rfl
                go_wp2
                go_still_tail 10, (by kernel_rfl)
                change wpList _ _ _ _ _ (World.drew _)
                have G0 := Lib.hid (gr_drew wr)
                generalize World.drew _ = V1 at *
                go_wp2_with (first | (go_at_call 25; refine (CL.out _ G0.out).mono ?_; rintro e w6 ⟨rfl, g6⟩; have G6 := Lib.hid (G0.out.trans g6); clear g6))
                exact ⟨⟨k + 1, by omega, by simp, Lib.hid ⟨HG.out.1.grow G6.out, fun j hj => by
                  by_cases h : j = k
                  · subst h; rw [GX.out, GY.out, E1]
                  · exact HG.out.2 j (by omega)⟩⟩, by simp [intOf]; omega⟩
              | false =>
                have E1 : ¬ p.er = q.er := fun h => by simpa using SQ.out.2 h
                have E2 := Lib.hid E1
                clear E1
                go_wp2
                go_still_tail 10, (by kernel_rfl)
                change wpList _ _ _ _ _ (World.drew _)
                have G0 := Lib.hid (gr_drew wr)
                generalize World.drew _ = V1 at *
                go_wp2_with (first | (go_at_call 25; refine (CL.out _ G0.out).mono ?_; rintro e w6 ⟨rfl, g6⟩; have G6 := Lib.hid (G0.out.trans g6); clear g6))
                go_ret
                refine ⟨?_, HG.out.1.gr.trans G6.out⟩
                rw [seq_false fun h => E2.out (by
                  rw [EX.out, EY.out] at h
                  have h3 := congrArg (fun l => l[k]?) (PT.mk.inj h).2.2
                  simp only [GX.out, GY.out] at h3
                  exact Option.some.inj h3)]
                rfl
            · obtain rfl : N = k := by omega
              go_wp2
              go_ret
              refine ⟨?_, HG.out.1.gr⟩
              rw [seq_true (by
                rw [EX.out, EY.out, PT.mk.injEq]
                refine ⟨rfl, rfl, List.ext_getElem? fun j => ?_⟩
                by_cases hj : j < N
                · exact HG.out.2 j hj
                · rw [List.getElem?_eq_none (by simp [NX.out]; omega), List.getElem?_eq_none (by simp [NY.out]; omega)])]
              rfl
        · have SQ := Lib.hid (seq_false (a := x.er) (b := y.er) fun h => hn (by
            rw [EX.out, EY.out] at h
            have := congrArg List.length (PT.mk.inj h).2.2
            rw [ers_length, ers_length, NX.out, NY.out] at this
            exact this))
          have hb : ((N : Int) != (N' : Int)) = true := by simpa using (by omega : ¬ (N : Int) = (N' : Int))
          clear EX EY HX HY NX NY IH
          go_enter Try.func25, Try.ntmps25
          go_wp2
          go_ret
          exact ⟨by rw [SQ.out]; rfl, BX.out.gr⟩
      · have SQ := Lib.hid (seq_false (a := x.er) (b := y.er) fun h => hv (by
            rw [EX.out, EY.out] at h
            exact (PT.mk.inj h).2.1))
        have hb : (U != U') = true := by simpa using hv
        clear EX EY HX HY NX NY IH
        go_enter Try.func25, Try.ntmps25
        go_wp2
        go_ret
        exact ⟨by rw [SQ.out]; rfl, BX.out.gr⟩
    · have SQ := Lib.hid (seq_false (a := x.er) (b := y.er) fun h => hk (by
            rw [EX.out, EY.out] at h
            exact (PT.mk.inj h).1))
      have hb : (K != K') = true := by simpa using hk
      clear EX EY HX HY NX NY IH
      go_enter Try.func25, Try.ntmps25
      go_wp2
      go_ret
      exact ⟨by rw [SQ.out]; rfl, BX.out.gr⟩
end Go.Proofs.Ytjlmhfdigoogfaa
namespace Go.Proofs.Ytjlmhfdigoogfaa
open Go.RowKit

/-- An element of an assignment, with the places of its type. -/
structure As where
  var : Int
  ty : Ty
def As.cs (x : As) : List Value := [iv x.var, iv x.ty.kind, iv x.ty.var, .slice x.ty.A x.ty.sub.length x.ty.c]
theorem As.cs_len (x : As) : x.cs.length = 4 := rfl
theorem As.cell1 (x : As) : ∀ u ∈ x.cs, u.oneCell' = true := by
  intro u hu
  simp only [As.cs, List.mem_cons, List.not_mem_nil, or_false] at hu
  rcases hu with rfl | rfl | rfl | rfl <;> rfl
/-- An element of an assignment, plain. -/
abbrev PA := Int × PT
def As.er (x : As) : PA := (x.var, x.ty.er)
def asq : List PA → List PA → Bool
  | [], [] => true
  | x :: l, y :: m => x.1 == y.1 && x.2.seq y.2 && asq l m
  | [], _ :: _ => false
  | _ :: _, [] => false
theorem asq_iff : ∀ a b : List PA, asq a b = true ↔ a = b
  | [], [] => by simp [asq]
  | (m, x) :: l, (n, y) :: k => by simp [asq, seq_iff, asq_iff l k]
  | [], _ :: _ => by simp [asq]
  | _ :: _, [] => by simp [asq]
theorem asq_false {a b : List PA} (h : a ≠ b) : asq a b = false := by
  cases hb : asq a b
  · rfl
  · exact absurd ((asq_iff a b).1 hb) h
theorem asq_true {a b : List PA} (h : a = b) : asq a b = true := (asq_iff a b).2 h
/-- An assignment in memory. -/
structure ARd (w : World) (A : Option Addr) (L : List As) : Prop where
  rd : RD 4 As.cs w A L
  ty : ∀ x ∈ L, x.ty.Rd w
theorem ARd.gr {w V : World} {A : Option Addr} {L : List As} (h : ARd w A L) (g : Gr w V) : ARd V A L := ⟨h.rd.gr g, fun x hx => TRd.gr (h.ty x hx) g⟩
theorem ARd.at {w : World} {A : Option Addr} {L : List As} (h : ARd w A L) {k : Nat} (hk : k < L.length) : ∃ a a1 : Addr, A = some a ∧ a.add (k * 4) = a1 ∧ a1.block < w.heap.size ∧ w.cell? a1 = some (iv L[k].var) ∧ w.cell? ⟨a1.block, a1.off + 1, none⟩ = some (iv L[k].ty.kind) ∧ w.cell? ⟨a1.block, a1.off + 2, none⟩ = some (iv L[k].ty.var) ∧ w.cell? ⟨a1.block, a1.off + 3, none⟩ = some (.slice L[k].ty.A L[k].ty.sub.length L[k].ty.c) ∧ L[k].ty.Rd w := by
  obtain ⟨a, e, hb, hc⟩ := h.rd.at hk
  refine ⟨a, _, e, rfl, by rw [add_block]; exact hb, by simpa using hc 0 _ rfl, ?_, ?_, ?_, h.ty _ (List.getElem_mem hk)⟩
  · rw [← fld_add _ 1 (by omega), add_add']; exact hc 1 _ rfl
  · rw [← fld_add _ 2 (by omega), add_add']; exact hc 2 _ rfl
  · rw [← fld_add _ 3 (by omega), add_add']; exact hc 3 _ rfl
theorem as_get {l : List As} {k : Nat} (h : k < l.length) : (l.map As.er)[k]? = some (l[k].var, l[k].ty.er) := by
  rw [List.getElem?_map, List.getElem?_eq_getElem h]; rfl
set_option maxRecDepth 100000 in
set_option maxHeartbeats 4000000 in
theorem sameAssigns_any (A B : Option Addr) (c d : Nat) (L M : List As) (w : World) (hA : ARd w A L) (hB : ARd w B M) (hl : L.length ≤ 1000000) (hm : M.length ≤ 1000000) :
    Calls Try.prog 16 #[.slice A L.length c, .slice B M.length d] w fun e w' => e = .returned (.bool (asq (L.map As.er) (M.map As.er))) ∧ Gr w w' := by
  obtain ⟨N, hN⟩ : ∃ N, L.length = N := ⟨_, rfl⟩
  obtain ⟨N', hN'⟩ : ∃ N, M.length = N := ⟨_, rfl⟩
  rw [hN] at hl
  rw [hN'] at hm
  rw [hN, hN']
  have NX := Lib.hid hN
  have NY := Lib.hid hN'
  have HX := Lib.hid (fun V (g : Gr w V) => hA.gr g)
  have HY := Lib.hid (fun V (g : Gr w V) => hB.gr g)
  clear hN hN' hA hB
  by_cases hn : N = N'
  · subst hn
    go_enter Try.func16, Try.ntmps16
    go_wp2
    go_loopw [5] (fun i V => ∃ k : Nat, k ≤ N ∧ i = .int .i64 k ∧ Hid (Gr w V ∧ ∀ j, j < k → (L.map As.er)[j]? = (M.map As.er)[j]?)) (fun i _ => N - (intOf i).toNat)
    case atStart => exact ⟨0, Nat.zero_le _, rfl, Lib.hid ⟨gr_refl w, fun j h => by omega⟩⟩
    case round =>
      obtain ⟨k, hk, rfl, HG⟩ := hrel
      by_cases hlt : k < N
      · have h1 : k < L.length := by rw [NX.out]; exact hlt
        have h2 : k < M.length := by rw [NY.out]; exact hlt
        obtain ⟨a, a1, hA, ha, hab, d0, d1, d2, d3, hsub⟩ := (HX.out _ HG.out.1).at h1
        obtain ⟨b, e1, hB, hb, hbb, f0, f1, f2, f3, hsub'⟩ := (HY.out _ HG.out.1).at h2
        have GX := Lib.hid (as_get h1)
        have GY := Lib.hid (as_get h2)
        generalize L[k] = p at *
        generalize M[k] = q at *
        obtain ⟨p, P⟩ := p
        obtain ⟨q, Q⟩ := q
        simp only at *
        have CL := Lib.hid (fun V (g : Gr wr V) => same_any P Q V (TRd.gr hsub g) (TRd.gr hsub' g))
        unfold Ty.v at CL
        subst hA
        subst hB
        clear hsub hsub' h1 h2
        have SQ := Lib.hid (seq_iff P.er Q.er)
        obtain ⟨z, hz⟩ : ∃ z, P.er.seq Q.er = z := ⟨_, rfl⟩
        rw [hz] at CL SQ
        clear hz
        by_cases hpq : p = q
        · subst hpq
          cases z with
          | true =>
            have E1 := SQ.out.1 rfl
            go_wp2
            go_still_tail 22, (by kernel_rfl)
            change wpList _ _ _ _ _ (World.drew _)
            have G0 := Lib.hid (gr_drew wr)
            generalize World.drew _ = V1 at *
            go_wp2_with (first | (go_at_call 25; refine (CL.out _ G0.out).mono ?_; rintro e w6 ⟨rfl, g6⟩; have G6 := Lib.hid (G0.out.trans g6); clear g6))
            exact ⟨⟨k + 1, by omega, by simp, Lib.hid ⟨HG.out.1.trans G6.out, fun j hj => by
              by_cases h : j = k
              · subst h; rw [GX.out, GY.out, E1]
              · exact HG.out.2 j (by omega)⟩⟩, by simp [intOf]; omega⟩
          | false =>
            have E1 : ¬ P.er = Q.er := fun h => by simpa using SQ.out.2 h
            have E2 := Lib.hid E1
            clear E1
            go_wp2
            go_still_tail 22, (by kernel_rfl)
            change wpList _ _ _ _ _ (World.drew _)
            have G0 := Lib.hid (gr_drew wr)
            generalize World.drew _ = V1 at *
            go_wp2_with (first | (go_at_call 25; refine (CL.out _ G0.out).mono ?_; rintro e w6 ⟨rfl, g6⟩; have G6 := Lib.hid (G0.out.trans g6); clear g6))
            go_ret
            refine ⟨?_, HG.out.1.trans G6.out⟩
            rw [asq_false fun h => E2.out (by
              have h3 := congrArg (fun l => l[k]?) h
              simp only [GX.out, GY.out] at h3
              exact (Prod.mk.inj (Option.some.inj h3)).2)]
            rfl
        · have E2 := Lib.hid hpq
          have hb2 : (p != q) = true := by simpa using hpq
          clear CL SQ hpq
          go_wp2
          go_quiet (fail)
          go_wp2
          go_ret
          refine ⟨?_, HG.out.1.trans (gr_drewN _ _)⟩
          rw [asq_false fun h => E2.out (by
            have h3 := congrArg (fun l => l[k]?) h
            simp only [GX.out, GY.out] at h3
            exact (Prod.mk.inj (Option.some.inj h3)).1)]
          rfl
      · obtain rfl : N = k := by omega
        go_wp2
        go_ret
        refine ⟨?_, HG.out.1⟩
        rw [asq_true (List.ext_getElem? fun j => by
          by_cases hj : j < N
          · exact HG.out.2 j hj
          · rw [List.getElem?_eq_none (by simp [NX.out]; omega), List.getElem?_eq_none (by simp [NY.out]; omega)])]
        rfl
  · have SQ := Lib.hid (asq_false (a := L.map As.er) (b := M.map As.er) fun h => hn (by
      have := congrArg List.length h
      rw [List.length_map, List.length_map, NX.out, NY.out] at this
      exact this))
    have hb : ((N : Int) != (N' : Int)) = true := by simpa using (by omega : ¬ (N : Int) = (N' : Int))
    clear HX HY NX NY
    go_enter Try.func16, Try.ntmps16
    go_wp2
    go_ret
    exact ⟨by rw [SQ.out]; rfl, gr_refl _⟩
end Go.Proofs.Ytjlmhfdigoogfaa
namespace Go.Proofs.Ytjlmhfdigoogfaa
open Go.RowKit

theorem rd3_at {w : World} {A : Option Addr} {L : List Ty} (h : RD 3 Ty.cs w A L) {k : Nat} (hk : k < L.length) : ∃ a a1 : Addr, A = some a ∧ a.add (k * 3) = a1 ∧ a1.block < w.heap.size ∧ w.cell? a1 = some (iv L[k].kind) ∧ w.cell? ⟨a1.block, a1.off + 1, none⟩ = some (iv L[k].var) ∧ w.cell? ⟨a1.block, a1.off + 2, none⟩ = some (.slice L[k].A L[k].sub.length L[k].c) := by
  obtain ⟨a, e, hb, hc⟩ := h.at hk
  refine ⟨a, _, e, rfl, by rw [add_block]; exact hb, by simpa using hc 0 _ rfl, ?_, ?_⟩
  · rw [← fld_add _ 1 (by omega), add_add']; exact hc 1 _ rfl
  · rw [← fld_add _ 2 (by omega), add_add']; exact hc 2 _ rfl
set_option maxRecDepth 100000 in
set_option maxHeartbeats 4000000 in
theorem eqf87 (A B : Option Addr) (c d : Nat) (L M : List Ty) (w : World) (hl : L.length ≤ 9223372036854775807) (I : Nat → World → Prop) (E : World → Prop) (hI : ∀ k V, I k V → RD 3 Ty.cs V A L ∧ RD 3 Ty.cs V B M) (hG : ∀ k V V', I k V → Gr V V' → I k V') (h0 : I 0 w)
    (step : ∀ k (h : k < L.length) (h' : k < M.length) V, I k V → Calls Try.prog 87 #[L[k].v, M[k].v] V fun e V' => (e = .returned (.bool true) ∧ I (k + 1) V') ∨ (e = .returned (.bool false) ∧ E V')) :
    Calls Try.prog 88 #[.slice A L.length c, .slice B M.length d, .func (.func 87) #[] #[]] w fun e w' => (L.length ≠ M.length ∧ e = .returned (.bool false) ∧ w' = w) ∨ (L.length = M.length ∧ ((e = .returned (.bool true) ∧ I L.length w') ∨ (e = .returned (.bool false) ∧ E w'))) := by
  obtain ⟨N, hN⟩ : ∃ N, L.length = N := ⟨_, rfl⟩
  obtain ⟨N', hN'⟩ : ∃ N, M.length = N := ⟨_, rfl⟩
  rw [hN] at hl
  rw [hN, hN']
  have NX := Lib.hid hN
  have NY := Lib.hid hN'
  have HI := Lib.hid hI
  have HG := Lib.hid hG
  have H0 := Lib.hid h0
  have ST := Lib.hid step
  clear hN hN' hI hG h0 step
  by_cases hn : N = N'
  · subst hn
    go_enter Try.func88, Try.ntmps88
    go_wp2
    go_loopw [17] (fun i V => ∃ k : Nat, k ≤ N ∧ i = .int .i64 k ∧ Hid (I k V)) (fun i _ => N - (intOf i).toNat)
    case atStart => exact ⟨0, Nat.zero_le _, rfl, H0⟩
    case round =>
      obtain ⟨k, hk, rfl, HV⟩ := hrel
      by_cases hlt : k < N
      · have h1 : k < L.length := by rw [NX.out]; exact hlt
        have h2 : k < M.length := by rw [NY.out]; exact hlt
        obtain ⟨a, a1, hA, ha, hab, d0, d1, d2⟩ := rd3_at (HI.out _ _ HV.out).1 h1
        obtain ⟨b, e1, hB, hb, hbb, f0, f1, f2⟩ := rd3_at (HI.out _ _ HV.out).2 h2
        have CL := Lib.hid (fun V (g : Gr wr V) => ST.out k h1 h2 V (HG.out _ _ _ HV.out g))
        generalize L[k] = p at *
        generalize M[k] = q at *
        unfold Ty.v at CL
        subst hA
        subst hB
        clear h1 h2
        have G2 : ∀ a b : Obj, Gr wr ((wr.alloc a).alloc b) := fun a b => (gr_al _ _).trans (gr_al _ _)
        have G2 := Lib.hid G2
        go_wp2_with (first | (go_at_call 87; refine (CL.out _ (G2.out _ _)).mono ?_; rintro e w6 (⟨rfl, g6⟩ | ⟨rfl, g6⟩) <;> have G6 := Lib.hid g6 <;> clear g6))
        · exact ⟨⟨k + 1, by omega, by simp, G6⟩, by simp [intOf]; omega⟩
        · go_ret
          exact .inr ⟨trivial, .inr ⟨rfl, G6.out⟩⟩
      · obtain rfl : N = k := by omega
        go_wp2
        go_ret
        exact .inr ⟨trivial, .inl ⟨rfl, HV.out⟩⟩
  · have hb : ((N : Int) != (N' : Int)) = true := by simpa using (by omega : ¬ (N : Int) = (N' : Int))
    clear HI HG NX NY
    go_enter Try.func88, Try.ntmps88
    go_wp2
    go_ret
    exact .inl ⟨hn, rfl, rfl⟩
set_option maxRecDepth 100000 in
set_option maxHeartbeats 4000000 in
theorem eqf89 (p0 q0 : Addr) (A B : Option Addr) (c d : Nat) (L M : List Ty) (w : World) (hl : L.length ≤ 9223372036854775807) (I : Nat → World → Prop) (E : World → Prop) (hI : ∀ k V, I k V → RD 3 Ty.cs V A L ∧ RD 3 Ty.cs V B M) (hG : ∀ k V V', I k V → Gr V V' → I k V') (h0 : I 0 w)
    (step : ∀ k (h : k < L.length) (h' : k < M.length) V, I k V → Calls Try.prog 89 #[L[k].v, M[k].v, .pointer (some p0), .pointer (some q0)] V fun e V' => (e = .returned (.bool true) ∧ I (k + 1) V') ∨ (e = .returned (.bool false) ∧ E V')) :
    Calls Try.prog 88 #[.slice A L.length c, .slice B M.length d, .func (.func 89) #[] #[.pointer (some p0), .pointer (some q0)]] w fun e w' => (L.length ≠ M.length ∧ e = .returned (.bool false) ∧ w' = w) ∨ (L.length = M.length ∧ ((e = .returned (.bool true) ∧ I L.length w') ∨ (e = .returned (.bool false) ∧ E w'))) := by
  obtain ⟨N, hN⟩ : ∃ N, L.length = N := ⟨_, rfl⟩
  obtain ⟨N', hN'⟩ : ∃ N, M.length = N := ⟨_, rfl⟩
  rw [hN] at hl
  rw [hN, hN']
  have NX := Lib.hid hN
  have NY := Lib.hid hN'
  have HI := Lib.hid hI
  have HG := Lib.hid hG
  have H0 := Lib.hid h0
  have ST := Lib.hid step
  clear hN hN' hI hG h0 step
  by_cases hn : N = N'
  · subst hn
    go_enter Try.func88, Try.ntmps88
    go_wp2
    go_loopw [17] (fun i V => ∃ k : Nat, k ≤ N ∧ i = .int .i64 k ∧ Hid (I k V)) (fun i _ => N - (intOf i).toNat)
    case atStart => exact ⟨0, Nat.zero_le _, rfl, H0⟩
    case round =>
      obtain ⟨k, hk, rfl, HV⟩ := hrel
      by_cases hlt : k < N
      · have h1 : k < L.length := by rw [NX.out]; exact hlt
        have h2 : k < M.length := by rw [NY.out]; exact hlt
        obtain ⟨a, a1, hA, ha, hab, d0, d1, d2⟩ := rd3_at (HI.out _ _ HV.out).1 h1
        obtain ⟨b, e1, hB, hb, hbb, f0, f1, f2⟩ := rd3_at (HI.out _ _ HV.out).2 h2
        have CL := Lib.hid (fun V (g : Gr wr V) => ST.out k h1 h2 V (HG.out _ _ _ HV.out g))
        generalize L[k] = p at *
        generalize M[k] = q at *
        unfold Ty.v at CL
        subst hA
        subst hB
        clear h1 h2
        have G2 : ∀ a b : Obj, Gr wr ((wr.alloc a).alloc b) := fun a b => (gr_al _ _).trans (gr_al _ _)
        have G2 := Lib.hid G2
        go_wp2_with (first | (go_at_call 89; refine (CL.out _ (G2.out _ _)).mono ?_; rintro e w6 (⟨rfl, g6⟩ | ⟨rfl, g6⟩) <;> have G6 := Lib.hid g6 <;> clear g6))
        · exact ⟨⟨k + 1, by omega, by simp, G6⟩, by simp [intOf]; omega⟩
        · go_ret
          exact .inr ⟨trivial, .inr ⟨rfl, G6.out⟩⟩
      · obtain rfl : N = k := by omega
        go_wp2
        go_ret
        exact .inr ⟨trivial, .inl ⟨rfl, HV.out⟩⟩
  · have hb : ((N : Int) != (N' : Int)) = true := by simpa using (by omega : ¬ (N : Int) = (N' : Int))
    clear HI HG NX NY
    go_enter Try.func88, Try.ntmps88
    go_wp2
    go_ret
    exact .inl ⟨hn, rfl, rfl⟩
set_option maxRecDepth 100000 in
set_option maxHeartbeats 4000000 in
theorem equal_any (x : Ty) : ∀ (y : Ty) (w : World), x.Rd w → y.Rd w → Calls Try.prog 87 #[x.v, y.v] w fun e w' => e = .returned (.bool (x.er.seq y.er)) ∧ Gr w w' := by
  induction x using Ty.ind with
  | h x ih =>
    intro y w hx hy
    have IH := Lib.hid ih
    have HX := Lib.hid (fun V (g : Gr w V) => TRd.gr hx g)
    have HY := Lib.hid (fun V (g : Gr w V) => TRd.gr hy g)
    have BX := Lib.hid (BB.of x.kind x.var (.slice x.A x.sub.length x.c) y.kind y.var (.slice y.A y.sub.length y.c) w)
    have hlen : x.sub.length ≤ 9223372036854775807 := Nat.le_trans hx.hc hx.hm
    have EX := Lib.hid (er_eq x)
    have EY := Lib.hid (er_eq y)
    have CL := Lib.hid (fun V (g : Gr w V) => eqf87 x.A y.A x.c y.c x.sub y.sub V hlen (fun k V => Gr w V ∧ ∀ j, j < k → (ers x.sub)[j]? = (ers y.sub)[j]?) (fun V => Gr w V ∧ ers x.sub ≠ ers y.sub) (fun k V h => ⟨(HX.out _ h.1).hr, (HY.out _ h.1).hr⟩) (fun k V V' h g => ⟨h.1.trans g, h.2⟩) ⟨g, fun j h => by omega⟩ (fun k h h' V hV => (IH.out _ (List.getElem_mem h) _ V ((HX.out _ hV.1).hs _ (List.getElem_mem h)) ((HY.out _ hV.1).hs _ (List.getElem_mem h'))).mono (by
      rintro e w6 ⟨rfl, g6⟩
      have GX := ers_get h
      have GY := ers_get h'
      have SQ := seq_iff x.sub[k].er y.sub[k].er
      cases hz : x.sub[k].er.seq y.sub[k].er with
      | true =>
        refine .inl ⟨rfl, hV.1.trans g6, fun j hj => ?_⟩
        by_cases hjk : j = k
        · subst hjk; rw [GX, GY, SQ.1 hz]
        · exact hV.2 j (by omega)
      | false =>
        refine .inr ⟨rfl, hV.1.trans g6, fun h3 => ?_⟩
        rw [h3, GY] at GX
        rw [SQ.2 (Option.some.inj GX).symm] at hz
        cases hz)))
    clear ih hx hy IH HX HY
    unfold Ty.v
    obtain ⟨K, hK⟩ : ∃ K, x.kind = K := ⟨_, rfl⟩
    obtain ⟨U, hU⟩ : ∃ U, x.var = U := ⟨_, rfl⟩
    obtain ⟨K', hK'⟩ : ∃ K, y.kind = K := ⟨_, rfl⟩
    obtain ⟨U', hU'⟩ : ∃ U, y.var = U := ⟨_, rfl⟩
    rw [hK, hU, hK', hU'] at BX ⊢
    rw [hK, hU] at EX
    rw [hK', hU'] at EY
    obtain ⟨b0, b1, b2⟩ := BX.out.c
    obtain ⟨c0, c1, c2⟩ := BX.out.c'
    clear hK hU hK' hU'
    by_cases hk : K = K'
    · subst hk
      by_cases hv : U = U'
      · subst hv
        go_enter Try.func87, Try.ntmps87
        go_wp2_with (first | (go_at_call 88; refine (CL.out _ BX.out.gr).mono ?_; rintro e w6 (⟨h6, rfl, rfl⟩ | ⟨h6, ⟨rfl, g6⟩ | ⟨rfl, g6⟩⟩) <;> have H6 := Lib.hid h6 <;> first | (have G6 := Lib.hid g6; clear h6 g6) | clear h6))
        · go_ret
          refine ⟨?_, BX.out.gr⟩
          rw [seq_false fun h => H6.out (by
            rw [EX.out, EY.out] at h
            simpa using congrArg List.length (PT.mk.inj h).2.2)]
          rfl
        · go_ret
          refine ⟨?_, G6.out.1⟩
          rw [seq_true (by
            rw [EX.out, EY.out, PT.mk.injEq]
            refine ⟨rfl, rfl, List.ext_getElem? fun j => ?_⟩
            by_cases hj : j < x.sub.length
            · exact G6.out.2 j hj
            · rw [List.getElem?_eq_none (by simp; omega), List.getElem?_eq_none (by simp [← H6.out]; omega)])]
          rfl
        · go_ret
          refine ⟨?_, G6.out.1⟩
          rw [seq_false fun h => G6.out.2 (by
            rw [EX.out, EY.out] at h
            exact (PT.mk.inj h).2.2)]
          rfl
      · have SQ := Lib.hid (seq_false (a := x.er) (b := y.er) fun h => hv (by
            rw [EX.out, EY.out] at h
            exact (PT.mk.inj h).2.1))
        have hb : (U == U') = false := by simpa using hv
        clear EX EY CL
        go_enter Try.func87, Try.ntmps87
        go_wp2
        go_ret
        exact ⟨by rw [SQ.out]; rfl, BX.out.gr⟩
    · have SQ := Lib.hid (seq_false (a := x.er) (b := y.er) fun h => hk (by
            rw [EX.out, EY.out] at h
            exact (PT.mk.inj h).1))
      have hb : (K == K') = false := by simpa using hk
      clear EX EY CL
      go_enter Try.func87, Try.ntmps87
      go_wp2
      go_ret
      exact ⟨by rw [SQ.out]; rfl, BX.out.gr⟩
end Go.Proofs.Ytjlmhfdigoogfaa
namespace Go.Proofs.Ytjlmhfdigoogfaa
open Go.RowKit

/-- A scheme, with the places of its type. -/
structure Sc where
  vars : Int
  ty : Ty
def Sc.v (s : Sc) : Value := .agg #[iv s.vars, iv s.ty.kind, iv s.ty.var, .slice s.ty.A s.ty.sub.length s.ty.c]
/-- A scheme in a box behind a world. -/
structure B4 (n k v : Int) (s : Value) (w V : World) : Prop where
  gr : Gr w V
  h : V.heap[w.heap.size]? = some (.cells #[iv n, iv k, iv v, s] 47 (0, 0))
section
variable {n k v : Int} {s : Value} {w V V' : World}
theorem B4.of (n k v : Int) (s : Value) (w : World) : B4 n k v s w (w.alloc (.cells #[iv n, iv k, iv v, s] 47)) := ⟨gr_al _ _, al_new _ _⟩
theorem B4.grow (h : B4 n k v s w V) (g : Gr V V') : B4 n k v s w V' := ⟨h.gr.trans g, gr_h g h.h⟩
theorem B4.c (h : B4 n k v s w V) : V.cell? ⟨w.heap.size, 0, none⟩ = some (iv n) ∧ V.cell? ⟨w.heap.size, 1, none⟩ = some (iv k) ∧ V.cell? ⟨w.heap.size, 2, none⟩ = some (iv v) ∧ V.cell? ⟨w.heap.size, 3, none⟩ = some s := by
  refine ⟨?_, ?_, ?_, ?_⟩ <;> · rw [Lib.cell_of_heap h.h]; rfl
end
/-- The next own variable. -/
def vst (n : Int) (o : Option Int) (x : Int) : Option Int :=
  match o with
  | none => none
  | some m => if x < n then (if x = m then some (m + 1) else none) else some m
def vl (n : Int) (l : List Int) : Option Int := l.foldl (vst n) (some 0)
theorem vst_some (n m x : Int) : vst n (some m) x = if x < n then (if x = m then some (m + 1) else none) else some m := rfl
theorem vl_none (n : Int) : ∀ l : List Int, l.foldl (vst n) none = none
  | [] => rfl
  | _ :: l => vl_none n l
theorem vl_succ {n : Int} {l : List Int} {k : Nat} (h : k < l.length) : vl n (l.take (k + 1)) = vst n (vl n (l.take k)) l[k] := by
  unfold vl
  rw [List.take_succ_eq_append_getElem h, List.foldl_append, List.foldl_cons, List.foldl_nil]
theorem vl_stop {n : Int} {l : List Int} {k : Nat} (h : k < l.length) (hs : vst n (vl n (l.take k)) l[k] = none) : vl n l = none := by
  rw [← vl_succ h] at hs
  have := List.take_append_drop (k + 1) l
  conv => lhs; rw [← this]
  unfold vl at *
  rw [List.foldl_append, hs, vl_none]
/-- A valid scheme. -/
def sval (n : Int) (t : PT) : Bool := decide (ck t = 0) && decide (0 ≤ n) && decide (n ≤ 200) && (vl n (sn [] t) == some n)
set_option maxRecDepth 100000 in
set_option maxHeartbeats 4000000 in
theorem valid_any (s : Sc) (w : World) (hx : s.ty.Rd w) : Calls Try.prog 66 #[s.v] w fun e w' => e = .returned (.bool (sval s.vars s.ty.er)) ∧ Gr w w' := by
  obtain ⟨n, x⟩ := s
  simp only at hx ⊢
  have CK := Lib.hid (fun V (g : Gr w V) => check_any x V (hx.gr g))
  have BX := Lib.hid (B4.of n x.kind x.var (.slice x.A x.sub.length x.c) w)
  obtain ⟨b0, b1, b2, b3⟩ := BX.out.c
  have SV := Lib.hid (show sval n x.er = (decide (ck x.er = 0) && decide (0 ≤ n) && decide (n ≤ 200) && (vl n (sn [] x.er) == some n)) from rfl)
  obtain ⟨q, hq⟩ : ∃ q, ck x.er = q := ⟨_, rfl⟩
  rw [hq] at CK SV
  simp only [Sc.v]
  by_cases h0 : q = 0
  · subst h0
    have hz := ck_size hq
    have OD := Lib.hid (fun V (g : Gr w V) => order_any x V (hx.gr g) (by omega))
    have LN := Lib.hid (show (sn [] x.er).length ≤ 1000 by have := sn_len [] x.er; simp at this; omega)
    obtain ⟨l, hl⟩ : ∃ l, sn [] x.er = l := ⟨_, rfl⟩
    rw [hl] at OD LN SV
    clear hq hx hz hl
    unfold Ty.v at *
    by_cases hn0 : n < 0
    · rw [SV.out]
      have e1 : (decide (0 ≤ n)) = false := decide_eq_false (by omega)
      rw [e1]
      go_enter Try.func66, Try.ntmps66
      go_wp2_with (first | (go_at_call 17; refine (CK.out _ BX.out.gr).mono ?_; rintro e w1 ⟨rfl, g1⟩; have G1 := Lib.hid (BX.out.grow g1); clear g1 b0 b1 b2 b3; obtain ⟨b0, b1, b2, b3⟩ := G1.out.c))
      go_ret
      exact ⟨by simp, G1.out.gr⟩
    · by_cases hn1 : 200 < n
      · rw [SV.out]
        have e1 : (decide (n ≤ 200)) = false := decide_eq_false (by omega)
        rw [e1]
        go_enter Try.func66, Try.ntmps66
        go_wp2_with (first | (go_at_call 17; refine (CK.out _ BX.out.gr).mono ?_; rintro e w1 ⟨rfl, g1⟩; have G1 := Lib.hid (BX.out.grow g1); clear g1 b0 b1 b2 b3; obtain ⟨b0, b1, b2, b3⟩ := G1.out.c))
        go_ret
        exact ⟨by simp, G1.out.gr⟩
      · have SV2 := Lib.hid (show sval n x.er = (vl n l == some n) by
          rw [SV.out, decide_eq_true (show (0 : Int) = 0 from rfl), decide_eq_true (show 0 ≤ n by omega), decide_eq_true (show n ≤ 200 by omega)]; rfl)
        clear SV
        go_enter Try.func66, Try.ntmps66
        go_wp2_with (first | (go_at_call 17; refine (CK.out _ BX.out.gr).mono ?_; rintro e w1 ⟨rfl, g1⟩; have G1 := Lib.hid (BX.out.grow g1); clear g1 b0 b1 b2 b3; obtain ⟨b0, b1, b2, b3⟩ := G1.out.c) | (go_at_call 56; refine (OD.out _ G1.out.gr).mono ?_; rintro e w2 ⟨⟨v, rfl, o2⟩, g2⟩; have G2 := Lib.hid (G1.out.grow g2); obtain ⟨A, c, rfl, hrd⟩ := o2.form NC_len; have HR := Lib.hid hrd; clear g2 o2 hrd b0 b1 b2 b3))
        have ls := LN.out
        go_loopw [3, 24] (fun m i V => ∃ (k : Nat) (m' : Int), k ≤ l.length ∧ i = .int .i64 k ∧ m = .int .i64 m' ∧ 0 ≤ m' ∧ m' ≤ k ∧ Hid (V = w2 ∧ vl n (l.take k) = some m')) (fun _ i _ => l.length - (intOf i).toNat)
        case atStart => exact ⟨0, 0, Nat.zero_le _, rfl, rfl, by omega, by omega, Lib.hid ⟨rfl, by simp [vl]⟩⟩
        case round =>
          obtain ⟨k, m, hk, rfl, rfl, hm0, hm1, HG⟩ := hrel
          obtain rfl := HG.out.1
          obtain ⟨b0, b1, b2, b3⟩ := G2.out.c
          by_cases hlt : k < l.length
          · obtain ⟨a, rfl, hab, c0⟩ := HR.out.num hlt
            have VS := Lib.hid (vl_succ (n := n) hlt)
            have VT := Lib.hid (vl_stop (n := n) hlt)
            rw [HG.out.2, vst_some] at VS VT
            generalize l[k] = z at *
            by_cases hz : z < n
            · by_cases hzm : z = m
              · subst hzm
                rw [if_pos hz, if_pos rfl] at VS
                go_wp2
                exact ⟨⟨k + 1, z + 1, by omega, by simp, by simp, by omega, by omega, Lib.hid ⟨trivial, VS.out⟩⟩, by simp [intOf]; omega⟩
              · rw [if_pos hz, if_neg hzm] at VT
                have hb : (z != m) = true := by simpa using hzm
                go_wp2
                go_ret
                exact ⟨by rw [SV2.out, VT.out trivial]; rfl, G2.out.gr⟩
            · rw [if_neg hz] at VS
              go_wp2
              exact ⟨⟨k + 1, m, by omega, by simp, rfl, by omega, by omega, Lib.hid ⟨trivial, VS.out⟩⟩, by simp [intOf]; omega⟩
          · obtain rfl : l.length = k := by omega
            have h2 := HG.out.2
            rw [List.take_length] at h2
            have H2 := Lib.hid h2
            clear h2
            go_wp2
            go_ret
            refine ⟨?_, G2.out.gr⟩
            rw [SV2.out, H2.out]
            rfl
  · have e1 : (decide (q = 0)) = false := decide_eq_false h0
    have hb : (q != 0) = true := by simpa using h0
    rw [SV.out, e1]
    clear hx hq h0
    unfold Ty.v at *
    go_enter Try.func66, Try.ntmps66
    go_wp2_with (first | (go_at_call 17; refine (CK.out _ BX.out.gr).mono ?_; rintro e w1 ⟨rfl, g1⟩; have G1 := Lib.hid (BX.out.grow g1); clear g1))
    go_ret
    exact ⟨by simp, G1.out.gr⟩
set_option maxRecDepth 100000 in
set_option maxHeartbeats 4000000 in
theorem rvalid_any (s : Sc) (w : World) (hx : s.ty.Rd w) : Calls Try.prog 68 #[s.v] w fun e w' => e = .returned (.bool (sval s.vars s.ty.er)) ∧ Gr w w' := by
  obtain ⟨n, x⟩ := s
  simp only at hx ⊢
  have CK := Lib.hid (fun V (g : Gr w V) => rCheck_any x V (hx.gr g))
  have BX := Lib.hid (B4.of n x.kind x.var (.slice x.A x.sub.length x.c) w)
  obtain ⟨b0, b1, b2, b3⟩ := BX.out.c
  have SV := Lib.hid (show sval n x.er = (decide (ck x.er = 0) && decide (0 ≤ n) && decide (n ≤ 200) && (vl n (sn [] x.er) == some n)) from rfl)
  obtain ⟨q, hq⟩ : ∃ q, ck x.er = q := ⟨_, rfl⟩
  rw [hq] at CK SV
  simp only [Sc.v]
  by_cases h0 : q = 0
  · subst h0
    have hz := ck_size hq
    have OD := Lib.hid (fun V (g : Gr w V) => seen_any x w V.heap.size V (.slice none 0 0) [] hx g g.size (Nat.le_refl _) OR.nil (by simp; omega))
    have LN := Lib.hid (show (sn [] x.er).length ≤ 1000 by have := sn_len [] x.er; simp at this; omega)
    obtain ⟨l, hl⟩ : ∃ l, sn [] x.er = l := ⟨_, rfl⟩
    rw [hl] at OD LN SV
    clear hq hx hz hl
    unfold Ty.v at *
    by_cases hn0 : n < 0
    · rw [SV.out]
      have e1 : (decide (0 ≤ n)) = false := decide_eq_false (by omega)
      rw [e1]
      go_enter Try.func68, Try.ntmps68
      go_wp2_with (first | (go_at_call 18; refine (CK.out _ BX.out.gr).mono ?_; rintro e w1 ⟨rfl, g1⟩; have G1 := Lib.hid (BX.out.grow g1); clear g1 b0 b1 b2 b3; obtain ⟨b0, b1, b2, b3⟩ := G1.out.c))
      go_ret
      exact ⟨by simp, G1.out.gr⟩
    · by_cases hn1 : 200 < n
      · rw [SV.out]
        have e1 : (decide (n ≤ 200)) = false := decide_eq_false (by omega)
        rw [e1]
        go_enter Try.func68, Try.ntmps68
        go_wp2_with (first | (go_at_call 18; refine (CK.out _ BX.out.gr).mono ?_; rintro e w1 ⟨rfl, g1⟩; have G1 := Lib.hid (BX.out.grow g1); clear g1 b0 b1 b2 b3; obtain ⟨b0, b1, b2, b3⟩ := G1.out.c))
        go_ret
        exact ⟨by simp, G1.out.gr⟩
      · have SV2 := Lib.hid (show sval n x.er = (vl n l == some n) by
          rw [SV.out, decide_eq_true (show (0 : Int) = 0 from rfl), decide_eq_true (show 0 ≤ n by omega), decide_eq_true (show n ≤ 200 by omega)]; rfl)
        clear SV
        go_enter Try.func68, Try.ntmps68
        go_wp2_with (first | (go_at_call 18; refine (CK.out _ BX.out.gr).mono ?_; rintro e w1 ⟨rfl, g1⟩; have G1 := Lib.hid (BX.out.grow g1); clear g1 b0 b1 b2 b3; obtain ⟨b0, b1, b2, b3⟩ := G1.out.c) | (go_at_call 57; refine (OD.out _ G1.out.gr).mono ?_; rintro e w2 ⟨v, rfl, o2⟩; have G2 := Lib.hid (G1.out.grow (OR.grow (gr_refl _) (OR.nil (e := 3) (cs := NC) (n := 1) (w := w1) (base := w1.heap.size)) (Nat.le_refl _) o2.g)); obtain ⟨A, c, rfl, hrd⟩ := o2.o.form NC_len; have HR := Lib.hid hrd; clear o2 hrd b0 b1 b2 b3))
        have ls := LN.out
        go_loopw [4, 5] (fun m i V => ∃ (k : Nat) (m' : Int), k ≤ l.length ∧ i = .int .i64 k ∧ m = .int .i64 m' ∧ 0 ≤ m' ∧ m' ≤ k ∧ Hid (Gr w2 V ∧ vl n (l.take k) = some m')) (fun _ i _ => l.length - (intOf i).toNat)
        case atStart => exact ⟨0, 0, Nat.zero_le _, rfl, rfl, by omega, by omega, Lib.hid ⟨gr_refl _, by simp [vl]⟩⟩
        case round =>
          obtain ⟨k, m, hk, rfl, rfl, hm0, hm1, HG⟩ := hrel
          have G3 := Lib.hid (G2.out.grow HG.out.1)
          obtain ⟨b0, b1, b2, b3⟩ := G3.out.c
          by_cases hlt : k < l.length
          · obtain ⟨a, rfl, hab, c0⟩ := (HR.out.gr HG.out.1).num hlt
            have VS := Lib.hid (vl_succ (n := n) hlt)
            have VT := Lib.hid (vl_stop (n := n) hlt)
            rw [HG.out.2, vst_some] at VS VT
            generalize l[k] = z at *
            by_cases hz : z < n
            · by_cases hzm : z = m
              · subst hzm
                rw [if_pos hz, if_pos rfl] at VS
                go_wp2
                go_quiet (fail)
                go_wp2
                exact ⟨⟨k + 1, z + 1, by omega, by simp, by simp, by omega, by omega, Lib.hid ⟨HG.out.1.trans (gr_drewN _ _), VS.out⟩⟩, by simp [intOf]; omega⟩
              · rw [if_pos hz, if_neg hzm] at VT
                have hb : (z != m) = true := by simpa using hzm
                go_wp2
                go_quiet (fail)
                go_wp2
                go_ret
                exact ⟨by rw [SV2.out, VT.out trivial]; rfl, G3.out.gr.trans (gr_drewN _ _)⟩
            · rw [if_neg hz] at VS
              go_wp2
              go_quiet (fail)
              go_wp2
              exact ⟨⟨k + 1, m, by omega, by simp, rfl, by omega, by omega, Lib.hid ⟨HG.out.1.trans (gr_drewN _ _), VS.out⟩⟩, by simp [intOf]; omega⟩
          · obtain rfl : l.length = k := by omega
            have h2 := HG.out.2
            rw [List.take_length] at h2
            have H2 := Lib.hid h2
            clear h2
            go_wp2
            go_ret
            refine ⟨?_, G3.out.gr⟩
            rw [SV2.out, H2.out]
            rfl
  · have e1 : (decide (q = 0)) = false := decide_eq_false h0
    have hb : (q != 0) = true := by simpa using h0
    rw [SV.out, e1]
    clear hx hq h0
    unfold Ty.v at *
    go_enter Try.func68, Try.ntmps68
    go_wp2_with (first | (go_at_call 18; refine (CK.out _ BX.out.gr).mono ?_; rintro e w1 ⟨rfl, g1⟩; have G1 := Lib.hid (BX.out.grow g1); clear g1))
    go_ret
    exact ⟨by simp, G1.out.gr⟩
end Go.Proofs.Ytjlmhfdigoogfaa
namespace Go.Proofs.Ytjlmhfdigoogfaa
open Go.RowKit

mutual
/-- A type in which a function replaces the variables. -/
def PT.rep (f : Int → PT) : PT → PT
  | .mk k v s => if k = 5 then f v else .mk k 0 (reps f s)
def reps (f : Int → PT) : List PT → List PT
  | [] => []
  | x :: l => x.rep f :: reps f l
end
theorem reps_map (f : Int → PT) (l : List PT) : reps f l = l.map (PT.rep f) := by induction l <;> simp [reps, *]
theorem rep_eq (f : Int → PT) (t : PT) : t.rep f = if t.kind = 5 then f t.var else .mk t.kind 0 (t.sub.map (PT.rep f)) := by
  cases t with
  | mk k v s => by_cases h : k = 5 <;> simp [PT.rep, PT.kind, PT.var, PT.sub, reps_map, h]
theorem info24 : (Try.prog.info? 24).map (fun i => (i.zero, i.size, i.bytes)) = some (some (.agg #[iv 0, iv 0, .slice none 0 0]), 3, 40) := by kernel_rfl
/-- An append to a row of types. -/
theorem wpList_appTP (w : World) {ops : Array Oper} {rest : List Oper} {o : Oper} {a : Act} {Q : Exit → Act → World → Prop} (hgd : o.guard = none) (s x : Operand)
    (ho : o.op = .call { callee := .builtin .append, args := #[s, x], argTypes := #[22, 22] }) (base : Nat) {v : Value} {L : List Ty} (hs : a.eval s = v) (hown : OR 24 3 Ty.cs w base v L)
    {A : Option Addr} {M : List Ty} {m c : Nat} (hm : M.length = m) (hx : a.eval x = .slice A m c) (hr : RD 3 Ty.cs w A M) (hA : A ≠ none) (hsz : L.length + M.length ≤ 1000000) (hb : base ≤ w.heap.size)
    (h : ∀ v' w', OR 24 3 Ty.cs w' base v' (L ++ M) → w.grownBy w' v.ownBlock → (v'.ownBlock = v.ownBlock ∨ v'.ownBlock = some w.heap.size) → wpList Try.prog ops Q rest (a.put o.dst v') w') : wpList Try.prog ops Q (o :: rest) a w := by
  subst hm
  refine wpList_plain hgd fun K hK => ?_
  obtain ⟨v', w', hrun, h2, h3, h4⟩ := run_appR (t := 22) (ty := o.type) Ty.cs_len Ty.cell1 Try.underlying22 info24 rfl (by decide) (by decide) hown c hr hA hsz hb
  unfold Oper.wp execOp
  simp only [ho, resolve, invoke, builtin, Sem.run_bind, Sem.run_pure, Result.andThen_ok, List.map_toArray, List.map_cons, List.map_nil, hs, hx, hrun]
  exact hK _ _ (h v' w' h2 h3 h4)
/-- .. as a step of a region that draws. -/
theorem step_appT {ops : Array Oper} {o : Oper} {a : Act} {w : World} {K : Act → World → Prop} {Q : Exit → Act → World → Prop} {E : Prop} (hgd : o.guard = none) (s x : Operand)
    (ho : o.op = .call { callee := .builtin .append, args := #[s, x], argTypes := #[22, 22] }) (base : Nat) {v : Value} {L : List Ty} (hs : a.eval s = v) (hown : OR 24 3 Ty.cs w base v L)
    {A : Option Addr} {M : List Ty} {m c : Nat} (hm : M.length = m) (hx : a.eval x = .slice A m c) (hr : RD 3 Ty.cs w A M) (hA : A ≠ none) (hsz : L.length + M.length ≤ 1000000) (hb : base ≤ w.heap.size)
    (h : ∀ v' w', OR 24 3 Ty.cs w' base v' (L ++ M) → w.grownBy w' v.ownBlock → (v'.ownBlock = v.ownBlock ∨ v'.ownBlock = some w.heap.size) → K (a.put o.dst v') w') : if Region.wanted o (yielded ops a.tmps) = true then Oper.wp Try.prog o a w K Q else E := by
  have hw : Region.wanted o (yielded ops a.tmps) = true := by simp [Region.wanted, hgd]
  rw [if_pos hw]
  subst hm
  obtain ⟨v', w', hrun, h2, h3, h4⟩ := run_appR (t := 22) (ty := o.type) Ty.cs_len Ty.cell1 Try.underlying22 info24 rfl (by decide) (by decide) hown c hr hA hsz hb
  unfold Oper.wp
  simp [execOp, ho, resolve, invoke, builtin, hs, hx, hrun, Result.andThen]
  exact h v' w' h2 h3 h4
theorem cell3 {W : World} {k : Nat} {a b c : Value} {t : TypeId} (h : W.heap[k]? = some (.cells #[a, b, c] t (0, 0))) : (W.cell? ⟨k, 0, none⟩ = some a ∧ W.cell? ⟨k, 1, none⟩ = some b ∧ W.cell? ⟨k, 2, none⟩ = some c) ∧ ∀ j, W.frozen? ⟨k, j, none⟩ = false := by
  refine ⟨⟨?_, ?_, ?_⟩, fun j => by simp [World.frozen?, h]⟩ <;> · rw [Lib.cell_of_heap h]; rfl
theorem set3 {W : World} {k : Nat} {a b c a' b' c' : Value} {t : TypeId} (h : W.heap[k]? = some (.cells #[a, b, c] t (0, 0))) : (((W.setCell ⟨k, 0, none⟩ a').setCell ⟨k, 1, none⟩ b').setCell ⟨k, 2, none⟩ c').heap[k]? = some (.cells #[a', b', c'] t (0, 0)) := by
  simp [World.setCell, Array.getElem?_modify, h]
theorem set3_2 {W : World} {k : Nat} {a b c c' : Value} {t : TypeId} (h : W.heap[k]? = some (.cells #[a, b, c] t (0, 0))) : (W.setCell ⟨k, 2, none⟩ c').heap[k]? = some (.cells #[a, b, c'] t (0, 0)) := by
  simp [World.setCell, Array.getElem?_modify, h]
/-- A type stays where another block is turned. -/
theorem TyR.but {S : Nat → Prop} {t : PT} {W V : World} {r : Value} {k : Nat} (h : TyR S t W r) (hk : ¬ S k) (hs : W.heap.size ≤ V.heap.size) (hb : ∀ j, j ≠ k → j < W.heap.size → V.heap[j]? = W.heap[j]?) : TyR S t V r := by
  obtain ⟨x, e, h1, h2, h3⟩ := h
  exact ⟨x, e, TRd.keepAt h1 h2 hs fun j hj hl => hb j (by rintro rfl; exact hk hj) hl, h2, h3⟩
/-- What a replacing function does. -/
def FR (w0 : World) (t : PT) (V : World) (e : Ending) (V' : World) : Prop := (∃ r, e = .returned r ∧ TyR (fun k => k < w0.heap.size ∨ V.heap.size ≤ k) t V' r) ∧ Gr V V'
/-- Between the rounds of replace. -/
structure RI (f : Int → PT) (w0 : World) (x : Ty) (K : Int) (w : World) (k : Nat) (v : Value) (V : World) : Prop where
  gr : Gr w V
  t2 : V.heap[w.heap.size]? = some (.cells #[iv K, iv x.var, .slice x.A x.sub.length x.c] 24 (0, 0))
  t4 : V.heap[w.heap.size + 1]? = some (.cells #[iv 0, iv 0, .slice none 0 0] 24 (0, 0))
  t5 : V.heap[w.heap.size + 2]? = some (.cells #[iv K, iv 0, v] 24 (0, 0))
  ex : ∃ L : List Ty, OR 24 3 Ty.cs V (w.heap.size + 3) v L ∧ ers L = ((ers x.sub).take k).map (PT.rep f) ∧ ∀ y ∈ L, y.Rd V ∧ TIn (fun j => j < w0.heap.size ∨ w.heap.size + 3 ≤ j) y.A y.sub ∧ TIn (fun j => v.ownBlock ≠ some j) y.A y.sub
theorem TIn.and {S S' : Nat → Prop} {A : Option Addr} {L : List Ty} (h : TIn S A L) (h' : TIn S' A L) : TIn (fun k => S k ∧ S' k) A L := by
  induction h with
  | mk h1 _ ih => exact .mk (fun a e n => ⟨h1 a e n, h'.h a e n⟩) fun x hx => ih x hx (h'.hs x hx)
theorem ri_step {f : Int → PT} {w0 : World} {x : Ty} {K : Int} {w : World} {k : Nat} {A A7 : Option Addr} {c c7 m : Nat} {wr w6 w7 : World} {q y : Ty} {L : List Ty} {o : Obj} (HR : RI f w0 x K w k (.slice A k c) wr) (hg0 : w0.heap.size ≤ w.heap.size)
    (hE : ers L = ((ers x.sub).take k).map (PT.rep f)) (hL : ∀ y ∈ L, y.Rd wr ∧ TIn (fun j => j < w0.heap.size ∨ w.heap.size + 3 ≤ j) y.A y.sub ∧ TIn (fun j => (Value.slice A k c).ownBlock ≠ some j) y.A y.sub)
    (hO : OR 24 3 Ty.cs wr (w.heap.size + 3) (.slice A k c) L) (hm : wr.heap.size ≤ m) (g : Gr wr w6) (hq : q.Rd w6) (hqi : TIn (fun k => k < w0.heap.size ∨ m ≤ k) q.A q.sub) (hqe : q.er = PT.rep f y.er) (hy : (ers x.sub)[k]? = some y.er)
    (o7 : OR 24 3 Ty.cs w7 (w.heap.size + 3) (.slice A7 (k + 1) c7) (L ++ [q])) (g7 : (w6.alloc o).grownBy w7 (Value.slice A k c).ownBlock)
    (b7 : (Value.slice A7 (k + 1) c7).ownBlock = (Value.slice A k c).ownBlock ∨ (Value.slice A7 (k + 1) c7).ownBlock = some (w6.alloc o).heap.size) :
    RI f w0 x K w (k + 1) (.slice A7 (k + 1) c7) (w7.setCell ⟨w.heap.size + 2, 2, none⟩ (.slice A7 (k + 1) c7)) := by
  have hlt := hO.lt
  have h5 := heap_lt HR.t5
  have hs := g.size
  have hs7 := g7.size
  have ha : (w6.alloc o).heap.size = w6.heap.size + 1 := by simp
  have gw : Gr w (w6.alloc o) := (HR.gr.trans g).trans (gr_al _ _)
  have G7 : Gr w w7 := ⟨g7.os.trans gw.os, g7.tape.trans gw.tape, g7.output.trans gw.output, Nat.le_trans gw.size g7.size, fun j hj _ => (g7.block j (Nat.lt_of_lt_of_le hj gw.size) (by
    intro e
    have := hlt _ e.symm
    omega)).trans (gw.block j hj (by simp))⟩
  have st : ∀ j, j ≠ w.heap.size + 2 → j < w6.heap.size → (Value.slice A k c).ownBlock ≠ some j → (w7.setCell ⟨w.heap.size + 2, 2, none⟩ (.slice A7 (k + 1) c7)).heap[j]? = w6.heap[j]? := fun j h1 h2 h3 =>
    (Below.heap_setCell _ _ _ _ h1).trans ((g7.block j (by omega) (fun e => h3 e.symm)).trans (Below.heap_alloc _ _ _ h2))
  have ow : ∀ j, j < w.heap.size + 3 → (Value.slice A k c).ownBlock ≠ some j := fun j hj e => by have := hlt _ e; omega
  have sz : (w7.setCell ⟨w.heap.size + 2, 2, none⟩ (.slice A7 (k + 1) c7)).heap.size = w7.heap.size := by simp [World.setCell]
  refine ⟨gr_cell G7 (by omega) _, ?_, ?_, ?_, L ++ [q], ?_, ?_, ?_⟩
  · exact (st _ (by omega) (by omega) (ow _ (by omega))).trans (gr_h g HR.t2)
  · exact (st _ (by omega) (by omega) (ow _ (by omega))).trans (gr_h g HR.t4)
  · exact set3_2 (((g7.block _ (by omega) (fun e => ow _ (by omega) e.symm)).trans (Below.heap_alloc _ _ _ (by omega))).trans (gr_h g HR.t5))
  · refine o7.kept (grown_set _ _ _) ?_
    cases hb : (Value.slice A7 (k + 1) c7).ownBlock with
    | none => exact .inl rfl
    | some j => right; intro e; have := o7.lt j hb; cases e; omega
  · rw [ers_append, hE, List.take_add_one, hy]; simp [hqe]
  · intro z hz
    rcases List.mem_append.1 hz with hz | hz
    · obtain ⟨z1, z2, z3⟩ := hL z hz
      have z4 := (z1.tin.and (z2.and z3))
      refine ⟨TRd.keepAt z1 z4 (by omega) fun j hj hl => ?_, z2, z4.mono fun j hj => ?_⟩
      · exact (st j (by have := hj.2.1; omega) (by omega) hj.2.2).trans (g.block j hl (by simp))
      · rcases b7 with h | h
        · rw [h]; exact hj.2.2
        · rw [h]; intro e; have := hj.1; cases e; omega
    · simp only [List.mem_singleton] at hz
      subst hz
      have z4 := (TRd.tin hq).and hqi
      have z5 : ∀ j, (j < w0.heap.size ∨ m ≤ j) → (Value.slice A k c).ownBlock ≠ some j := fun j hj e => by have := hlt _ e; omega
      refine ⟨TRd.keepAt hq z4 (by omega) fun j hj hl => ?_, hqi.mono fun j hj => by omega, z4.mono fun j hj => ?_⟩
      · exact st j (by have := hj.2; omega) hl (z5 j hj.2)
      · rcases b7 with h | h
        · rw [h]; exact z5 j hj.2
        · rw [h]; intro e; have := hj.1; cases e; omega
theorem ri_end {f : Int → PT} {w0 : World} {x : Ty} {K : Int} {w : World} {A : Option Addr} {c : Nat} {wr : World} {L : List Ty} (HR : RI f w0 x K w x.sub.length (.slice A x.sub.length c) wr) (hg0 : w0.heap.size ≤ w.heap.size)
    (hO : OR 24 3 Ty.cs wr (w.heap.size + 3) (.slice A x.sub.length c) L) (hE : ers L = ((ers x.sub).take x.sub.length).map (PT.rep f)) (hL : ∀ y ∈ L, y.Rd wr ∧ TIn (fun j => j < w0.heap.size ∨ w.heap.size + 3 ≤ j) y.A y.sub ∧ TIn (fun j => (Value.slice A x.sub.length c).ownBlock ≠ some j) y.A y.sub)
    (hk : L.length = x.sub.length) (V : World) (hV : V.heap.size = wr.heap.size) (st : ∀ j, j ≠ w.heap.size + 1 → V.heap[j]? = wr.heap[j]?) :
    TyR (fun k => k < w0.heap.size ∨ w.heap.size ≤ k) (.mk K 0 ((ers x.sub).map (PT.rep f))) V (.agg #[iv K, iv 0, .slice A x.sub.length c]) := by
  obtain ⟨A', c', e1, hr, h1, h2, h3, h4⟩ := hO.form2 Ty.cs_len
  obtain ⟨rfl, -, rfl⟩ := Value.slice.inj e1
  have h5 := heap_lt HR.t5
  have z2 : TIn (fun j => j < w0.heap.size ∨ w.heap.size + 3 ≤ j) A L := .mk (fun a e _ => .inr (h4 a e).1) fun z hz => (hL z hz).2.1
  have z1 : TRd wr A c L := .mk h1 h2 h3 hr fun z hz => (hL z hz).1
  refine ⟨.mk K 0 A c L, by unfold Ty.v; simp [Ty.kind, Ty.var, Ty.A, Ty.sub, Ty.c, hk], TRd.keepAt z1 z2 (by omega) fun j hj _ => st j (by omega), z2.mono fun j hj => by omega, ?_⟩
  rw [List.take_of_length_le (by simp)] at hE
  simp [Ty.er, hE]
set_option maxRecDepth 100000 in
set_option maxHeartbeats 4000000 in
theorem replace72 (p0 : Addr) (f : Int → PT) (w0 : World) (hf : ∀ n V, Gr w0 V → Calls Try.prog 72 #[iv n, .pointer (some p0)] V (FR w0 (f n) V)) (x : Ty) : ∀ w, Gr w0 w → x.Rd w → x.er.size ≤ 1000 → Calls Try.prog 58 #[x.v, .func (.func 72) #[] #[.pointer (some p0)]] w (FR w0 (x.er.rep f) w) := by
  have HF := Lib.hid hf
  clear hf
  induction x using Ty.ind with
  | h x ih =>
    intro w hg hx hz
    have IH := Lib.hid ih
    have HX := Lib.hid (fun V (g : Gr w V) => TRd.gr hx g)
    have BX := Lib.hid (B1.of x.kind x.var (.slice x.A x.sub.length x.c) w)
    have ER := Lib.hid (rep_eq f x.er)
    rw [er_kind, er_var, er_sub] at ER
    have EK := Lib.hid (er_kind x)
    have HG := Lib.hid hg
    obtain ⟨K, hK⟩ : ∃ K, x.kind = K := ⟨_, rfl⟩
    rw [hK] at BX ER
    unfold Ty.v
    rw [hK]
    obtain ⟨b0, b1, b2⟩ := BX.out.c
    clear hg hx ih
    by_cases h5 : K = 5
    · subst h5
      clear hK
      rw [if_pos rfl] at ER
      have I1 := Lib.hid (show Gr w ((w.alloc (.cells #[iv 5, iv x.var, .slice x.A x.sub.length x.c] 24)).alloc (.cells #[iv 0, iv 0, .slice none 0 0] 24)) from (gr_al _ _).trans (gr_al _ _))
      have I2 := Lib.hid (show ((w.alloc (.cells #[iv 5, iv x.var, .slice x.A x.sub.length x.c] 24)).alloc (.cells #[iv 0, iv 0, .slice none 0 0] 24)).heap[w.heap.size + 1]? = some (.cells #[iv 0, iv 0, .slice none 0 0] 24 (0, 0)) from al_at _ _ (by simp))
      have FV := Lib.hid (fun V (g : Gr w V) => HF.out x.var V (HG.out.trans g))
      go_enter Try.func58, Try.ntmps58
      go_wp2_with (first | (go_at_call 72; refine (FV.out _ I1.out).mono ?_; rintro e w1 ⟨⟨r, rfl, tr⟩, g1⟩; have G1 := Lib.hid g1; have T1 := Lib.hid tr; have H1 := Lib.hid (gr_h g1 I2.out); obtain ⟨y, rfl, -, -, -⟩ := tr; unfold Ty.v at T1 ⊢; obtain ⟨⟨d0, d1, d2⟩, fz⟩ := cell3 H1.out; have z0 := fz 0; have z1 := fz 1; have z2 := fz 2; clear g1 fz))
      have HH := Lib.hid (set3 (a' := iv y.kind) (b' := iv y.var) (c' := .slice y.A y.sub.length y.c) H1.out)
      refine bodyPost_ret (results_cell_row (P := Try.prog) rfl _ _ (w.heap.size + 1) _ _ _ _ rfl HH.out rfl rfl rfl) rfl ⟨⟨_, rfl, ?_⟩, ?_⟩
      · rw [ER.out]
        refine ((T1.out.mono (S' := fun k => k < w0.heap.size ∨ w.heap.size + 2 ≤ k) fun k hk => hk.imp id fun h => by simpa using h).but (k := w.heap.size + 1) (fun h => ?_) (by simp [World.setCell]) fun j hj _ => ?_).mono fun k hk => hk.imp id fun h => by omega
        · have := HG.out.size; omega
        · exact ((Below.heap_setCell _ _ _ _ hj).trans (Below.heap_setCell _ _ _ _ hj)).trans (Below.heap_setCell _ _ _ _ hj)
      · exact gr_cell (gr_cell (gr_cell (I1.out.trans G1.out) (by omega) _) (by omega) _) (by omega) _
    · have hb5 : (K == 5) = false := by simpa using h5
      rw [if_neg h5] at ER
      have hlen : x.sub.length ≤ 1000 := by
        have := size_eq x.er
        have h2 := psz_len x.er.sub
        rw [er_sub] at this h2
        simp at h2
        omega
      have I00 : RI f w0 x K w 0 (.slice none 0 0) (((w.alloc (.cells #[iv K, iv x.var, .slice x.A x.sub.length x.c] 24)).alloc (.cells #[iv 0, iv 0, .slice none 0 0] 24)).alloc (.cells #[iv K, iv 0, .slice none 0 0] 24)) := by
        refine ⟨((gr_al _ _).trans (gr_al _ _)).trans (gr_al _ _), ?_, ?_, ?_, [], OR.nil, by simp, by simp⟩
        · exact ((Below.heap_alloc _ _ _ (by simp; omega)).trans (Below.heap_alloc _ _ _ (by simp))).trans (al_new w _)
        · exact (Below.heap_alloc _ _ _ (by simp)).trans (al_at _ _ (by simp))
        · exact al_at _ _ (by simp)
      have I0 := Lib.hid I00
      clear I00
      go_enter Try.func58, Try.ntmps58
      go_wp2
      go_loopw [21] (fun i V => ∃ k A c, k ≤ x.sub.length ∧ i = .int .i64 (k : Nat) ∧ Hid (RI f w0 x K w k (.slice A k c) V)) (fun i _ => x.sub.length - (intOf i).toNat)
      case atStart => exact ⟨0, none, 0, Nat.zero_le _, rfl, I0⟩
      case round =>
        clear I0 BX b0 b1 b2
        obtain ⟨k, A, c, hk, rfl, HR⟩ := hrel
        obtain ⟨⟨b0, b1, b2⟩, -⟩ := cell3 HR.out.t2
        obtain ⟨⟨c0, c1, c2⟩, -⟩ := cell3 HR.out.t4
        obtain ⟨⟨d0, d1, d2⟩, fz⟩ := cell3 HR.out.t5
        have z2 := fz 2
        clear fz
        by_cases hlt : k < x.sub.length
        · obtain ⟨a, a1, hA, ha, hab, e0, e1, e2, hsub⟩ := (HX.out _ HR.out.gr).at hlt
          have IM := List.getElem_mem hlt
          have PS := Lib.hid (show (ers x.sub)[k]? = some x.sub[k].er from ers_get hlt)
          have CL := Lib.hid (fun V (g : Gr wr V) => IH.out _ IM V ((HG.out.trans HR.out.gr).trans g) (hsub.gr g) (by have h1 := psz_mem (x := x.sub[k].er) (l := ers x.sub) (by rw [ers_map]; exact List.mem_map.2 ⟨_, IM, rfl⟩); have h2 := size_eq x.er; rw [er_sub] at h2; omega))
          generalize x.sub[k] = y at *
          rw [hA] at b2 ⊢
          unfold Ty.v at CL
          clear hA hsub IM
          go_upto_region 7 with (fail)
          have J1 := Lib.hid (show (wr.alloc (.cells #[iv y.kind, iv y.var, .slice y.A y.sub.length y.c] 24)).heap[wr.heap.size]? = some (.cells #[iv y.kind, iv y.var, .slice y.A y.sub.length y.c] 24 (0, 0)) from al_new _ _)
          have J2 := Lib.hid (gr_al wr (.cells #[iv y.kind, iv y.var, .slice y.A y.sub.length y.c] 24))
          have J3 := Lib.hid (show (wr.alloc (.cells #[iv y.kind, iv y.var, .slice y.A y.sub.length y.c] 24)).heap[w.heap.size + 2]? = some (.cells #[iv K, iv 0, .slice A k c] 24 (0, 0)) from gr_h J2.out HR.out.t5)
          generalize hW1 : wr.alloc (.cells #[.int .i64 y.kind, .int .i64 y.var, .slice y.A y.sub.length y.c] 24) = W1 at *
          clear hW1 b0 b1 b2 c0 c1 c2 d0 d1 d2 z2 e0 e1 e2
          have CL2 := Lib.hid (fun V (g : Gr W1 V) => CL.out V (J2.out.trans g))
          obtain ⟨⟨b0, b1, b2⟩, -⟩ := cell3 J1.out
          obtain ⟨⟨d0, d1, d2⟩, fz⟩ := cell3 J3.out
          have z2 := fz 2
          clear fz CL
          obtain ⟨L, ho, hE, hL⟩ := HR.out.ex
          have hk1 : L.length = k := by have := congrArg List.length hE; simp at this; omega
          have HO := Lib.hid (fun V (g : Gr wr V) => ho.gr g)
          have HL := Lib.hid hL
          have HE := Lib.hid hE
          have HK := Lib.hid hk1
          have HN := Lib.hid HR.out.gr.size
          clear ho hL hE hk1
          have HB := Lib.hid (show ∀ V : World, Gr wr V → ∀ j, (Value.slice A k c).ownBlock = some j → w.heap.size + 3 ≤ j from fun V g j hj => ((HO.out V g).lt j hj).1)
          have HS1 := Lib.hid (show ∀ q : Ty, L.length + [q].length ≤ 1000000 from fun q => by have := HK.out; simp; omega)
          go_region_law (first | (go_simp; go_at_call 58; refine (CL2.out _ (gr_drew _)).mono ?_; rintro e w6 ⟨⟨r, rfl, q, rfl, tr⟩, g6⟩; have g7 : Gr W1 w6 := (gr_drew _).trans g6; unfold Ty.v; obtain ⟨⟨f0, f1, f2⟩, -⟩ := cell3 (gr_h g7 J1.out); obtain ⟨⟨k0, k1, k2⟩, fz6⟩ := cell3 (gr_h g7 J3.out); have z6 := fz6 2; obtain ⟨⟨k3, k4, k5⟩, -⟩ := cell3 (gr_h (g7.trans (gr_al w6 (.cells #[iv q.kind, iv q.var, .slice q.A q.sub.length q.c] 24))) J3.out); have T6 := Lib.hid tr; have G6 := Lib.hid g7; have S6 := Lib.hid (show w.heap.size + 3 ≤ w6.heap.size from by have h1 := HN.out; have h2 := J2.out.size; have h3 := g7.size; have h4 := heap_lt HR.out.t5; omega); have S7 := Lib.hid (show ∀ o : Obj, w.heap.size + 3 ≤ (w6.alloc o).heap.size from fun o => by have := S6.out; simp; omega); clear tr g6 g7 fz6) | (refine step_appT rfl (.tmp 26) (.tmp 30) rfl (w.heap.size + 3) (v := .slice A k c) (L := L) (by simp [Act.eval]) (HO.out _ ((J2.out.trans G6.out).trans (gr_al _ _))) (A := some ⟨w6.heap.size, 0, none⟩) (M := [q]) (m := 1) (c := 1) rfl (by simp [Act.eval]) (rd_cells (t := 24) Ty.cs_len (al_new _ _)) (by simp) (HS1.out q) (S7.out _) ?_; intro v7 w7 o7 g7 b7; obtain ⟨A7, c7, rfl, -⟩ := o7.form Ty.cs_len; have l7 : (L ++ [q]).length = k + 1 := (by simp [HK.out]); rw [l7] at o7 b7 ⊢; have O7 := Lib.hid o7; have G7 := Lib.hid g7; have B7 := Lib.hid b7; have K7 := Lib.hid (show w7.heap[w.heap.size + 2]? = some (.cells #[iv K, iv 0, .slice A k c] 24 (0, 0)) from (g7.block _ (Nat.lt_of_lt_of_le (by omega) (S7.out _)) (fun e => by have := HB.out _ (J2.out.trans G6.out) _ e.symm; omega)).trans (gr_h (gr_al _ _) (gr_h G6.out J3.out))); obtain ⟨⟨m0, m1, m2⟩, fz7⟩ := cell3 K7.out; have z7 := fz7 2; clear fz7 o7 g7 b7 l7))
          all_goals go_wp2
          all_goals exact ⟨⟨k + 1, A7, c7, by omega, by simp, Lib.hid (ri_step HR.out HG.out.size HE.out HL.out (HO.out _ (gr_refl _)) (J2.out.trans (gr_drew _)).size (J2.out.trans G6.out) T6.out.1 T6.out.2.1 T6.out.2.2 PS.out O7.out G7.out B7.out)⟩, by simp [intOf]; omega⟩
        · obtain rfl : x.sub.length = k := by omega
          obtain ⟨L, ho, hE, hL⟩ := HR.out.ex
          have hk1 : L.length = x.sub.length := by have := congrArg List.length hE; simp at this; omega
          have FN := Lib.hid (fun (V : World) (hV : V.heap.size = wr.heap.size) (st : ∀ j, j ≠ w.heap.size + 1 → V.heap[j]? = wr.heap[j]?) => ri_end HR.out HG.out.size ho hE hL hk1 V hV st)
          have H4 := Lib.hid (set3 (a' := iv K) (b' := iv 0) (c' := .slice A x.sub.length c) HR.out.t4)
          clear hE hL ho hk1
          obtain ⟨-, fz4⟩ := cell3 HR.out.t4
          have y0 := fz4 0
          have y1 := fz4 1
          have y2 := fz4 2
          clear fz4
          go_wp2
          refine bodyPost_ret (results_cell_row (P := Try.prog) rfl _ _ (w.heap.size + 1) _ _ _ _ rfl H4.out rfl rfl rfl) rfl ⟨⟨_, rfl, ?_⟩, ?_⟩
          · rw [ER.out]
            exact FN.out _ (by simp [World.setCell]) fun j hj => ((Below.heap_setCell _ _ _ _ hj).trans (Below.heap_setCell _ _ _ _ hj)).trans (Below.heap_setCell _ _ _ _ hj)
          · exact gr_cell (gr_cell (gr_cell HR.out.gr (by omega) _) (by omega) _) (by omega) _
end Go.Proofs.Ytjlmhfdigoogfaa

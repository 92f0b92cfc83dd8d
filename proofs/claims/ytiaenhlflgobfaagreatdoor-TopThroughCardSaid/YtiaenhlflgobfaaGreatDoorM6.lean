/- Walks and words: Vis, VisA. -/
import Derived.Test.YtiaenhlflgobfaaGreatDoorApp
import Derived.Test.YtiaenhlflgobfaaGreatDoorWin
import Derived.Test.YtiaenhlflgobfaaGreatDoorM5
namespace Go.Proofs.YtiaenhlflgobfaaGreatDoor
open Go.RowKit
mutual
def Ex.vis : Ex → List Ex
  | .mk k n m i e A c s => .mk k n m i e A c s :: visL s
def visL : List Ex → List Ex
  | [] => []
  | x :: l => visL l ++ x.vis
end
theorem vis_eq (x : Ex) : x.vis = x :: visL x.sub := by cases x; simp [Ex.vis, Ex.sub]
theorem visL_append (l m : List Ex) : visL (l ++ m) = visL m ++ visL l := by
  induction l with
  | nil => simp [visL]
  | cons x l ih => simp [visL, ih]
theorem visL_snoc (l : List Ex) (x : Ex) : visL (l ++ [x]) = x.vis ++ visL l := by rw [visL_append]; simp [visL]
mutual
theorem vis_any (p : PE → Bool) (d : Nat) : ∀ x : Ex, x.vis.any (fun y => p y.er) = (x.er.pre d).any fun q => p q.2
  | .mk k n m i e A c s => by
    have h := visL_any p (d + 1) s
    rw [Ex.vis, Ex.er, PE.pre, List.any_cons, List.any_cons, h]
    simp [Ex.er]
theorem visL_any (p : PE → Bool) (d : Nat) : ∀ l : List Ex, (visL l).any (fun y => p y.er) = (pres d (ers l)).any fun q => p q.2
  | [] => by simp [visL]
  | x :: l => by
    rw [visL, ers_cons, pres_cons, List.any_append, List.any_append, vis_any p d x, visL_any p d l, Bool.or_comm]
end
mutual
theorem vis_len (d : Nat) : ∀ x : Ex, x.vis.length = (x.er.pre d).length
  | .mk k n m i e A c s => by
    have h := visL_len (d + 1) s
    rw [Ex.vis, Ex.er, PE.pre, List.length_cons, List.length_cons, h]
theorem visL_len (d : Nat) : ∀ l : List Ex, (visL l).length = (pres d (ers l)).length
  | [] => by simp [visL]
  | x :: l => by
    rw [visL, ers_cons, pres_cons, List.length_append, List.length_append, vis_len d x, visL_len d l, Nat.add_comm]
end
theorem visL_le (l : List Ex) : l.length ≤ (visL l).length := by
  induction l with
  | nil => simp
  | cons x l ih => rw [visL, List.length_append, vis_eq, List.length_cons, List.length_cons]; omega
end Go.Proofs.YtiaenhlflgobfaaGreatDoor
namespace Go.Proofs.YtiaenhlflgobfaaGreatDoor
open Go.RowKit
theorem grown_new {w V V' : World} {b : Option Nat} {row : Option Nat} (g : w.grownBy V b) (h : V.grownBy V' row) (hr : ∀ k, row = some k → w.heap.size ≤ k) : w.grownBy V' b :=
  ⟨h.os.trans g.os, h.tape.trans g.tape, h.output.trans g.output, Nat.le_trans g.size h.size, fun k hk hne => (h.block k (Nat.lt_of_lt_of_le hk g.size) (fun e => by have := hr k e.symm; omega)).trans (g.block k hk hne)⟩
theorem grown_al {w V : World} {b : Option Nat} (g : w.grownBy V b) (o : Obj) : w.grownBy (V.alloc o) b := grown_new g (World.grownBy_alloc V o none) (fun k h => by cases h)
structure VS (x : Ex) (w0 w : World) (B bF : Nat) (p : PE → Bool) (m : Nat) (v : Value) (V : World) (g cap : Nat) (St pre : List Ex) : Prop where
  ev : v = .slice (some ⟨g, 0, none⟩) St.length cap
  o : OR 43 6 Ex.cs V B v St
  gb : w.grownBy V (some bF)
  fb : V.heap[bF]? = some (.cells #[.bool false] 4 (0, 0))
  no : ∀ y ∈ pre, p y.er = false
  e : pre ++ visL St = x.vis
  t : ∀ y ∈ St, y.Rd w0
  em : m = (visL St).length
set_option maxRecDepth 100000 in
set_option maxHeartbeats 4000000 in
attribute [local irreducible] Calls in
theorem visit_any (x : Ex) (w0 w : World) (bA bF : Nat) (p : PE → Bool) (hx : x.Rd w0) (g0 : Gr w0 w) (hb0 : w0.heap.size ≤ bF) (hn : (x.er.pre 1).length ≤ 400) (h0 : w.heap[bF]? = some (.cells #[.bool false] 4 (0, 0)))
    (H : ∀ V (y : Ex), w.grownBy V (some bF) → V.heap[bF]? = some (.cells #[.bool false] 4 (0, 0)) → y.Rd w0 → Calls Tryz.prog 182 #[y.v, .pointer (some ⟨bA, 0, none⟩), .pointer (some ⟨bF, 0, none⟩)] V fun e w' => e = .returned (.bool (!p y.er)) ∧ V.grownBy w' (some bF) ∧ w'.heap[bF]? = some (.cells #[.bool (p y.er)] 4 (0, 0))) :
    Calls Tryz.prog 152 #[x.v, .func (.func 182) #[] #[.pointer (some ⟨bA, 0, none⟩), .pointer (some ⟨bF, 0, none⟩)]] w fun e w' => (∃ r, e = .returned r) ∧ w.grownBy w' (some bF) ∧ w'.heap[bF]? = some (.cells #[.bool (x.vis.any fun y => p y.er)] 4 (0, 0)) := by
  have HH := Lib.hid H
  have VL := Lib.hid (show x.vis.length ≤ 400 by rw [vis_len 1]; exact hn)
  have bl := heap_lt h0
  have BX := Lib.hid (gr_al w (.cells #[iv x.kind, tv x.name, tv x.more, iv x.int, iv x.den, .slice x.A x.sub.length x.c] 43))
  have CX := Lib.hid (al_new w (.cells #[iv x.kind, tv x.name, tv x.more, iv x.int, iv x.den, .slice x.A x.sub.length x.c] 43))
  have S0 := Lib.hid (show VS x w0 w (w.heap.size + 1) bF p (visL [x]).length (.slice (some ⟨w.heap.size + 1, 0, none⟩) 1 1) ((w.alloc (.cells #[iv x.kind, tv x.name, tv x.more, iv x.int, iv x.den, .slice x.A x.sub.length x.c] 43)).alloc (.cells #[iv x.kind, tv x.name, tv x.more, iv x.int, iv x.den, .slice x.A x.sub.length x.c] 43)) (w.heap.size + 1) 1 [x] [] from
    ⟨rfl, by have h := OR.one (e := 43) (cs := Ex.cs) (w := w.alloc (.cells #[iv x.kind, tv x.name, tv x.more, iv x.int, iv x.den, .slice x.A x.sub.length x.c] 43)) (base := w.heap.size + 1) Ex.cs_len x (b := #[iv x.kind, tv x.name, tv x.more, iv x.int, iv x.den, .slice x.A x.sub.length x.c]) (by simp) rfl; simpa using h,
      grown_al (grown_al (World.grownBy.refl w _) _) _, gr_h ((gr_al _ _).trans (gr_al _ _)) h0, by simp, by simp [visL], fun y hy => by rw [List.mem_singleton.1 hy]; exact hx, rfl⟩)
  obtain ⟨c0, c1, c2, c3, c4, c5⟩ : (w.alloc (.cells #[iv x.kind, tv x.name, tv x.more, iv x.int, iv x.den, .slice x.A x.sub.length x.c] 43)).cell? ⟨w.heap.size, 0, none⟩ = some (iv x.kind) ∧ (w.alloc (.cells #[iv x.kind, tv x.name, tv x.more, iv x.int, iv x.den, .slice x.A x.sub.length x.c] 43)).cell? ⟨w.heap.size, 1, none⟩ = some (tv x.name) ∧ (w.alloc (.cells #[iv x.kind, tv x.name, tv x.more, iv x.int, iv x.den, .slice x.A x.sub.length x.c] 43)).cell? ⟨w.heap.size, 2, none⟩ = some (tv x.more) ∧ (w.alloc (.cells #[iv x.kind, tv x.name, tv x.more, iv x.int, iv x.den, .slice x.A x.sub.length x.c] 43)).cell? ⟨w.heap.size, 3, none⟩ = some (iv x.int) ∧ (w.alloc (.cells #[iv x.kind, tv x.name, tv x.more, iv x.int, iv x.den, .slice x.A x.sub.length x.c] 43)).cell? ⟨w.heap.size, 4, none⟩ = some (iv x.den) ∧ (w.alloc (.cells #[iv x.kind, tv x.name, tv x.more, iv x.int, iv x.den, .slice x.A x.sub.length x.c] 43)).cell? ⟨w.heap.size, 5, none⟩ = some (.slice x.A x.sub.length x.c) := by
    refine ⟨?_, ?_, ?_, ?_, ?_, ?_⟩ <;> (rw [Lib.cell_of_heap CX.out]; rfl)
  obtain ⟨mu, hmu⟩ := least_fun (fun m (v : Value) (V : World) => ∃ g cap St pre, VS x w0 w (w.heap.size + 1) bF p m v V g cap St pre)
  have MU := Lib.hid hmu
  clear H hx hn h0 hmu
  unfold Ex.v
  go_enter Tryz.func152, Tryz.ntmps152
  go_wp2
  clear c0 c1 c2 c3 c4 c5
  have GZ := Lib.hid (fun V (g : w.grownBy V (some bF)) => show Gr w0 V from grown_new g0 g (fun k h => by cases h; exact hb0))
  clear g0 hb0
  go_loopw [4, 5] (fun v _ V => ∃ m g cap St pre, Hid (VS x w0 w (w.heap.size + 1) bF p m v V g cap St pre)) (fun v _ V => mu v V)
  case atStart => exact ⟨_, _, _, _, _, S0⟩
  case round =>
    obtain ⟨m0, gg0, cap0, St0, pre0, hS0⟩ := hrel
    obtain ⟨⟨g, cap, St, pre, hS⟩, hmin⟩ := MU.out _ _ ⟨m0, gg0, cap0, St0, pre0, hS0.out⟩
    obtain ⟨q, hq⟩ : ∃ q, mu u4 wr = q := ⟨_, rfl⟩
    rw [hq] at hS
    have HQ := Lib.hid hq
    obtain rfl := hS.ev
    clear hS0 hmin S0 hq
    rcases snoc_cases St with rfl | ⟨St, y, rfl⟩
    · have FF := Lib.hid (show wr.heap[bF]? = some (.cells #[.bool (x.vis.any fun y => p y.er)] 4 (0, 0)) by
        have h1 := hS.e
        simp only [visL, List.append_nil] at h1
        rw [← h1, show (pre.any fun y => p y.er) = false from by rw [List.any_eq_false]; intro y hy; rw [hS.no y hy]; simp]
        exact hS.fb)
      have GB := Lib.hid hS.gb
      clear hS
      go_wp2
      first | go_end0 | refine bodyPost_ret (results_none rfl _ _ _) rfl ?_
      exact ⟨⟨_, rfl⟩, GB.out, FF.out⟩
    · have hvl : (visL (St ++ [y])).length ≤ 400 := by
        have h1 := congrArg List.length hS.e
        rw [List.length_append] at h1
        have := VL.out
        omega
      have hk : St.length ≤ 400 := by have := visL_le (St ++ [y]); simp at this; omega
      obtain ⟨A0, c0', e0, hr0⟩ := hS.o.form Ex.cs_len
      obtain ⟨rfl, -, -⟩ := Value.slice.inj e0
      obtain ⟨a, a1, ea, e1, hb1, d0, d1, d2, d3, d4, d5⟩ : ∃ a a1 : Addr, some (⟨g, 0, none⟩ : Addr) = some a ∧ a.add (St.length * 6) = a1 ∧ a1.block < wr.heap.size ∧ wr.cell? a1 = some (iv y.kind) ∧ wr.cell? ⟨a1.block, a1.off + 1, none⟩ = some (tv y.name) ∧ wr.cell? ⟨a1.block, a1.off + 2, none⟩ = some (tv y.more) ∧ wr.cell? ⟨a1.block, a1.off + 3, none⟩ = some (iv y.int) ∧ wr.cell? ⟨a1.block, a1.off + 4, none⟩ = some (iv y.den) ∧ wr.cell? ⟨a1.block, a1.off + 5, none⟩ = some (.slice y.A y.sub.length y.c) := by
        have hkk : St.length < (St ++ [y]).length := by simp
        obtain ⟨a, e, hb, hc⟩ := hr0.at hkk
        have hy : (St ++ [y])[St.length]'hkk = y := by simp
        rw [hy] at hc
        refine ⟨a, _, e, rfl, by rw [add_block]; exact hb, by simpa using hc 0 _ rfl, ?_, ?_, ?_, ?_, ?_⟩
        · rw [← fld_add _ 1 (by omega), add_add']; exact hc 1 _ rfl
        · rw [← fld_add _ 2 (by omega), add_add']; exact hc 2 _ rfl
        · rw [← fld_add _ 3 (by omega), add_add']; exact hc 3 _ rfl
        · rw [← fld_add _ 4 (by omega), add_add']; exact hc 4 _ rfl
        · rw [← fld_add _ 5 (by omega), add_add']; exact hc 5 _ rfl
      cases ea
      obtain ⟨k, hkk⟩ : ∃ k, St.length = k := ⟨_, rfl⟩
      have hl : (St ++ [y]).length = k + 1 := by simp [hkk]
      have gb := hS.o.lt g rfl
      rw [hl] at hS HQ ⊢
      rw [hkk] at hk e1
      obtain rfl : (⟨g, k * 6, none⟩ : Addr) = a1 := by
        rw [← e1]
        by_cases h : k * 6 = 0
        · rw [h, add_zero']
        · rw [fld_add _ _ h]; simp
      dsimp only at d1 d2 d3 d4 d5
      clear e1
      have kc : k + 1 ≤ cap := by
        rcases hS.o.2 with ⟨h1, _⟩ | ⟨g', cap', cur, e1, hg, hh, hnc, _⟩
        · cases h1
        · have e2 := (Value.slice.inj e1).2.2
          omega
      have kc' : k ≤ cap := by omega
      have HK := Lib.hid hkk
      have ww : IntKind.i64.wrap (((k + 1 : Nat) : Int) - 1) = k := by rw [IntWalk.i64_in _ ⟨by omega, by omega⟩]; omega
      have OS := Lib.hid (show OR 43 6 Ex.cs wr (w.heap.size + 1) (.slice (some ⟨g, 0, none⟩) k cap) St from by
        have h := hS.o
        rw [← HK.out] at h ⊢
        exact OR.short Ex.cs_len h)
      have HS := Lib.hid hS
      have GB := Lib.hid gb
      have HL := Lib.hid (show (visL (St ++ [y])).length = q ∧ (visL St).length ≤ 400 ∧ y.vis.length ≤ 400 from ⟨hS.em.symm, by rw [visL_snoc] at hvl; simp at hvl; omega, by rw [visL_snoc] at hvl; simp at hvl; omega⟩)
      have YR := Lib.hid (hS.t y (by simp))
      have CY := Lib.hid (HH.out (wr.alloc (.cells #[iv y.kind, tv y.name, tv y.more, iv y.int, iv y.den, .slice y.A y.sub.length y.c] 43)) y (grown_al hS.gb _) (gr_h (gr_al _ _) hS.fb) (hS.t y (by simp)))
      have RY := Lib.hid (fun V (h : w.grownBy V (some bF)) => (YR.out.gr (GZ.out V h)).s)
      have PY := Lib.hid (show ∃ post, x.vis = pre ++ y :: post from ⟨visL y.sub ++ visL St, by have h := HS.out.e; rw [visL_snoc, vis_eq] at h; rw [← h]; simp⟩)
      unfold Ex.v at CY
      clear hS hkk hl gb hvl hr0 hb1
      obtain ⟨b, hbp⟩ : ∃ b, p y.er = b := ⟨_, rfl⟩
      rw [hbp] at CY
      have HBP := Lib.hid hbp
      clear hbp
      have lb := bl
      have GT := Lib.hid (fun V (h : (wr.alloc (.cells #[iv y.kind, tv y.name, tv y.more, iv y.int, iv y.den, .slice y.A y.sub.length y.c] 43)).grownBy V (some bF)) => show w.grownBy V (some bF) from ⟨h.os.trans (grown_al HS.out.gb _).os, h.tape.trans (grown_al HS.out.gb _).tape, h.output.trans (grown_al HS.out.gb _).output, Nat.le_trans (grown_al HS.out.gb _).size h.size, fun j hj hne => (h.block j (Nat.lt_of_lt_of_le hj (grown_al HS.out.gb _).size) hne).trans ((grown_al HS.out.gb (.cells #[iv y.kind, tv y.name, tv y.more, iv y.int, iv y.den, .slice y.A y.sub.length y.c] 43)).block j hj hne)⟩)
      cases b with
      | true =>
        go_wp2_with (go_at_call 182; (with_reducible refine CY.out.mono ?_); rintro e w6 ⟨rfl, g6, f6⟩; have G6 := Lib.hid (And.intro g6 f6); clear g6 f6)
        first | go_end0 | refine bodyPost_ret (results_none rfl _ _ _) rfl ?_
        refine ⟨⟨_, rfl⟩, ?_, ?_⟩
        · exact GT.out _ G6.out.1
        · rw [G6.out.2, show (x.vis.any fun y => p y.er) = true from by
            obtain ⟨post, e0⟩ := PY.out
            rw [List.any_eq_true]
            exact ⟨y, by rw [e0]; simp, HBP.out⟩]
      | false =>
        have D5 := Lib.hid (fun V (h : (wr.alloc (.cells #[iv y.kind, tv y.name, tv y.more, iv y.int, iv y.den, .slice y.A y.sub.length y.c] 43)).grownBy V (some bF)) => show V.cell? ⟨wr.heap.size, 5, none⟩ = some (.slice y.A y.sub.length y.c) from h.cell (by rw [Lib.cell_of_heap (al_new _ _)]; rfl) (by have := HS.out.gb.size; simp; omega))
        have OK6 := Lib.hid (fun V (h : (wr.alloc (.cells #[iv y.kind, tv y.name, tv y.more, iv y.int, iv y.den, .slice y.A y.sub.length y.c] 43)).grownBy V (some bF)) => show OR 43 6 Ex.cs V (w.heap.size + 1) (.slice (some ⟨g, 0, none⟩) k cap) St from (OS.out.alloc _).kept h (.inr (by have := GB.out; simp only [Value.ownBlock, ne_eq, Option.some.injEq]; omega)))
        have SZ := Lib.hid (show w.heap.size ≤ wr.heap.size from HS.out.gb.size)
        go_wp2_with (first
          | (go_at_call 182; (with_reducible refine CY.out.mono ?_); rintro e w6 ⟨rfl, g6, f6⟩; have G6 := Lib.hid (And.intro g6 f6); have d6 := D5.out _ g6; clear g6 f6)
          | (at_builtin; refine wpList_app elE rfl (.tmp 26) (.tmp 28) rfl (w.heap.size + 1) (v := .slice (some ⟨g, 0, none⟩) k cap) rfl (OK6.out _ G6.out.1) (M := y.sub) rfl rfl (RY.out _ (GT.out _ G6.out.1)).r (by have h1 := HL.out.2.2; rw [vis_eq] at h1; have h2 := visL_le y.sub; have h3 := HK.out; simp at h1; omega) (by have h1 := G6.out.1.size; have h2 := SZ.out; simp at h1; omega) ?_; intro v7 w7 o7 g7 b7; have B7 := Lib.hid b7; have O7 := Lib.hid o7; have G7 := Lib.hid g7; clear o7 g7 b7))
        obtain ⟨g8, c8, hv8⟩ : ∃ g8 c8, v7 = .slice (some ⟨g8, 0, none⟩) (St ++ y.sub).length c8 := by
          rcases O7.out.2 with ⟨e0, _⟩ | ⟨g', cap', cur, e1, _⟩
          · have h := B7.out
            rw [e0] at h
            simp [Value.ownBlock] at h
          · exact ⟨g', cap', e1⟩
        subst hv8
        have hN : VS x w0 w (w.heap.size + 1) bF p (visL (St ++ y.sub)).length (.slice (some ⟨g8, 0, none⟩) (St ++ y.sub).length c8) w7 g8 c8 (St ++ y.sub) (pre ++ [y]) := by
          refine ⟨rfl, O7.out, grown_new (GT.out _ G6.out.1) G7.out (fun j h => by have := GB.out; simp only [Value.ownBlock, Option.some.injEq] at h; omega), ?_, fun z hz => ?_, ?_, fun z hz => ?_, rfl⟩
          · rw [G7.out.block bF (by have h1 := G6.out.1.size; have h2 := SZ.out; simp at h1; omega) (by have := GB.out; simp only [Value.ownBlock, ne_eq, Option.some.injEq]; omega)]
            exact G6.out.2
          · rcases List.mem_append.1 hz with hz | hz
            · exact HS.out.no z hz
            · rw [List.mem_singleton.1 hz]; exact HBP.out
          · have h := HS.out.e
            rw [visL_snoc, vis_eq] at h
            rw [← h, visL_append]
            simp
          · rcases List.mem_append.1 hz with hz | hz
            · exact HS.out.t z (by simp [hz])
            · exact XRd.hs YR.out.s z hz
        exact ⟨⟨_, _, _, _, _, Lib.hid hN⟩, by
          rw [HQ.out]
          refine Nat.lt_of_le_of_lt ((MU.out _ _ ⟨_, _, _, _, _, hN⟩).2 _ ⟨_, _, _, _, hN⟩) ?_
          have h1 := HL.out.1
          rw [visL_snoc, vis_eq] at h1
          rw [← h1, visL_append]
          simp⟩
end Go.Proofs.YtiaenhlflgobfaaGreatDoor

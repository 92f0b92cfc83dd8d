/- Walks and words: RfA, RfB, RgI, PlB, Cln, Pg0, Pg2, Cmr, Cmt, SoL, Srt, Cpa, Cpt, Rst, Pg3, LkN. -/
import Derived.Test.YtgboboljgcfggaaGreatDoorMa1
import Derived.RangeFuncNested
import Derived.RangeFuncBound
import Derived.RangeFuncCalls
import Derived.RangeFuncLeaves
import Derived.Shelf.Abstract
import Derived.Shelf.RegionOpen
import Derived.OwnWalkIn
import Derived.TacticsInMore
import Derived.LoopNIn
import Derived.LoopIn
import Derived.StillTailTactics
import Derived.Sort.CutIn
import Derived.OrdersIn
import Derived.StillTail
import Derived.StillTactics
import Derived.Sort.Grow
import Derived.Shelf.SlGeneric
import Derived.Shelf.SlSortCmp.SmallK
import Derived.Ground.SlsfProg
import Derived.Test.YtgboboljgcfggaaGreatDoorProg
import Derived.Lib.SliceRun
import Derived.Deep.RegionLaw
import Derived.Deep.DeepCutAuto
namespace Go.Proofs.YtgboboljgcfggaaGreatDoor
open Go.RowKit Go.Maps Go.Shelf
attribute [local go_sem] Oper.semAt_some
abbrev Tg := Nat × Option Sp
def trg (l : List PC) (s : Sp) : Nat → List Ins → List Tg
  | _, [] => []
  | i, x :: r => match tgt l s x with
    | none => trg l s (i + 1) r
    | some t => (i, t) :: trg l s (i + 1) r
def tgV : Option Sp → Value
  | some s => .agg #[.int .i64 s.code, .int .i64 s.block, .bool true]
  | none => .agg #[.int .i64 0, .int .i64 0, .bool false]
theorem trg_drop {l : List PC} {s : Sp} {L : List Ins} {i : Nat} {x : Ins} (h : L[i]? = some x) : trg l s i (L.drop i) = match tgt l s x with
    | none => trg l s (i + 1) (L.drop (i + 1))
    | some t => (i, t) :: trg l s (i + 1) (L.drop (i + 1)) := by
  obtain ⟨hk, e⟩ := List.getElem?_eq_some_iff.1 h
  rw [List.drop_eq_getElem_cons hk, e, trg]
theorem trg_snd (l : List PC) (s : Sp) : ∀ (L : List Ins) (i : Nat), (trg l s i L).map (·.2) = L.filterMap (tgt l s)
  | [], _ => rfl
  | x :: r, i => by
    rw [trg, List.filterMap_cons]
    cases h : tgt l s x with
    | none => exact trg_snd l s r (i + 1)
    | some t => simp only [List.map_cons]; rw [trg_snd l s r (i + 1)]
structure Kp (B : Nat) (own : Nat → Prop) (W W' : World) : Prop where
  os : W'.os = W.os
  tape : W'.tape = W.tape
  output : W'.output = W.output
  size : W.heap.size ≤ W'.heap.size
  same : ∀ k, k < B ∨ own k → W'.heap[k]? = W.heap[k]?
theorem Kp.of {B : Nat} {own : Nat → Prop} {W W' : World} (h : Gr W W') (hB : B ≤ W.heap.size) (ho : ∀ k, own k → k < W.heap.size) : Kp B own W W' :=
  ⟨h.os, h.tape, h.output, h.size, fun k hk => h.block k (by rcases hk with hk | hk; omega; exact ho k hk) (by simp)⟩
theorem Kp.trans {B : Nat} {own : Nat → Prop} {U V W : World} (h : Kp B own U V) (k : Kp B own V W) : Kp B own U W :=
  ⟨k.os.trans h.os, k.tape.trans h.tape, k.output.trans h.output, Nat.le_trans h.size k.size, fun j hj => (k.same j hj).trans (h.same j hj)⟩
theorem Kp.row {B : Nat} {own : Nat → Prop} {W W' : World} {g : Nat} (h : W.grownBy W' (some g)) (hB : B ≤ W.heap.size) (ho : ∀ k, own k → k < W.heap.size) (hg : B ≤ g) (hn : ¬ own g) : Kp B own W W' :=
  ⟨h.os, h.tape, h.output, h.size, fun k hk => h.block k (by rcases hk with hk | hk; omega; exact ho k hk) (by
    intro e
    cases e
    rcases hk with hk | hk
    · omega
    · exact hn hk)⟩
structure Yk (w0 : World) (Ad : Option Addr) (cp nc kb m1 : Nat) (dl : MK Nam) (sc sb b1 b2 B n l : Nat) (X : List Tg) (J : List Tg → (Nat → Prop) → World → Prop) (F : List Tg → Tg → World → Prop) : Prop where
  gr : ∀ pre own W, J pre own W → Gr w0 W ∧ B ≤ W.heap.size
  box : ∀ pre own W, J pre own W → W.heap[b1]? = some (.cells #[.pointer (some ⟨kb, 0, none⟩)] 104 (0, 0)) ∧ W.heap[b2]? = some (.cells #[.int .i64 sc, .int .i64 sb] 107 (0, 0))
  lk : ∀ pre own W, J pre own W → MP Nam.v W m1 dl ∧ ∃ x y, W.heap[kb]? = some (.cells #[.slice Ad nc cp, .map (some m1), x, y] 113 (0, 0))
  lt : ∀ pre own W, J pre own W → ∀ k, own k → k < W.heap.size
  keep : ∀ pre own W W', J pre own W → Kp B own W W' → J pre own W'
  yield : ∀ pre own y W, J pre own W → (∃ post, X = pre ++ y :: post) → YieldAt Fence.wide n Tryz.prog l #[.int .i64 y.1, tgV y.2] W fun e W' => ((∀ k, B ≤ k → k < W.heap.size → ¬ own k → W'.heap[k]? = W.heap[k]?) ∧ W.heap.size ≤ W'.heap.size) ∧ ((e = .returned (.bool true) ∧ ∃ own', (∀ k, own' k → own k ∨ W.heap.size ≤ k) ∧ J (pre ++ [y]) own' W') ∨ (e = .returned (.bool false) ∧ F pre y W'))
theorem refs_any (kb sc sb : Nat) (w : World) :
    Calls Tryz.prog 43 #[.pointer (some ⟨kb, 0, none⟩), .agg #[.int .i64 sc, .int .i64 sb]] w fun e w' => e = .returned (.func (.func 70) #[] #[.pointer (some ⟨w.heap.size, 0, none⟩), .pointer (some ⟨w.heap.size + 1, 0, none⟩)]) ∧ w' = (w.alloc (.cells #[.pointer (some ⟨kb, 0, none⟩)] 104)).alloc (.cells #[.int .i64 sc, .int .i64 sb] 107) := by
  go_enter Tryz.func43, Tryz.ntmps43
  go_wp2
  go_ret
  exact ⟨rfl, rfl⟩
theorem set3c {V : World} {k : Nat} {x0 x1 x2 : Value} {t : TypeId} (h : V.heap[k]? = some (.cells #[x0, x1, x2] t (0, 0))) (u0 u1 u2 : Value) : (((V.setCell ⟨k, 0, none⟩ u0).setCell ⟨k, 1, none⟩ u1).setCell ⟨k, 2, none⟩ u2).heap[k]? = some (.cells #[u0, u1, u2] t (0, 0)) := by
  simp [World.setCell, Array.getElem?_modify, h]
theorem wpIn_to {P : Program} {n : Nat} {c : Code} {Q : Exit → Act → World → Prop} {a : Act} {w : World} (A : Act) (V : World) (h : ∀ K0 : Act → World → Prop, K0 A V → c.wp P (Exit.then K0 (fun _ _ _ => False)) a w) (k : Q .normal A V) : c.wpIn Fence.wide n P Q a w :=
  wpIn_mono (wpIn_wide.2 (h (fun a' w' => Q .normal a' w') k)) fun e a' w' h => by
    cases e with
    | normal => exact h
    | _ => exact h.elim
set_option maxRecDepth 100000 in
set_option maxHeartbeats 4000000 in
theorem refs_in (w0 : World) (Ad : Option Addr) (cp nc kb m1 : Nat) (dl : MK Nam) (sc sb b1 b2 n l : Nat) (hn : 1 ≤ n) (L : List Cod) (hL : CRd w0 Ad L) (hnc : L.length = nc) (c : Cod) (hc : L[sc]? = some c) (b : Blk) (hb : c.bs[sb]? = some b) (hbn : b.ins.length ≤ 9223372036854775807)
    (hdl : LK Nam.Ok dl) (hget : ∀ p i, kget dl ⟨p, i⟩ = (findC (pls L) 0 p i).map Sp.v) (hwf : ∀ x ∈ b.ins, x.op = 4 → (Lit.int .i64 x.a).wf = true ∧ x.name.length ≤ maxLen)
    (J : List Tg → (Nat → Prop) → World → Prop) (F : List Tg → Tg → World → Prop) (W : World) (Y : Yk w0 Ad cp nc kb m1 dl sc sb b1 b2 W.heap.size (n - 1) l (trg (pls L) ⟨sc, sb⟩ 0 b.ins) J F) (h0 : J [] (fun _ => False) W) :
    CallsIn Fence.wide n Tryz.prog 70 #[.func (.yield l) #[] #[], .pointer (some ⟨b1, 0, none⟩), .pointer (some ⟨b2, 0, none⟩)] W fun e W' => (∃ r, e = .returned r) ∧ ((∃ own, J (trg (pls L) ⟨sc, sb⟩ 0 b.ins) own W') ∨ ∃ pre y post, trg (pls L) ⟨sc, sb⟩ 0 b.ins = pre ++ y :: post ∧ F pre y W') := by
  obtain ⟨h1, h2⟩ := Y.box _ _ _ h0
  obtain ⟨h3, x3, y3, h4⟩ := Y.lk _ _ _ h0
  have hw0 := (Y.gr _ _ _ h0).1
  have u1 : W.cell? ⟨b1, 0, none⟩ = some (.pointer (some ⟨kb, 0, none⟩)) := by rw [Lib.cell_of_heap h1]; rfl
  have u2 : W.cell? ⟨b2, 0, none⟩ = some (.int .i64 sc) := by rw [Lib.cell_of_heap h2]; rfl
  have u3 : W.cell? ⟨b2, 1, none⟩ = some (.int .i64 sb) := by rw [Lib.cell_of_heap h2]; rfl
  have u4 : W.cell? ⟨kb, 0, none⟩ = some (.slice Ad nc cp) := by rw [Lib.cell_of_heap h4]; rfl
  obtain ⟨hsc, ec⟩ := List.getElem?_eq_some_iff.1 hc
  obtain ⟨hsb, eb⟩ := List.getElem?_eq_some_iff.1 hb
  have hcm := List.mem_of_getElem? hc
  have hbm := List.mem_of_getElem? hb
  obtain ⟨a, a1, rfl, ha, hab, y0, y1, y2⟩ := (hL.rd.gr hw0).cod (k := sc) hsc
  obtain ⟨q, q1, eq, hq, hqb, z0, z1, z2⟩ := ((hL.c c hcm).gr hw0).b.blk (k := sb) hsb
  rw [ec] at y0 y1 y2
  rw [eb] at z0 z1 z2
  rw [eq] at y1
  obtain ⟨nb, hnb⟩ : ∃ m, c.bs.length = m := ⟨_, rfl⟩
  obtain ⟨ni, hni⟩ : ∃ m, b.ins.length = m := ⟨_, rfl⟩
  rw [hnb] at y1 hsb
  rw [hni] at z2 hbn
  rw [hnc] at hsc
  obtain ⟨bA, hbA⟩ : ∃ m, b.A = m := ⟨_, rfl⟩
  rw [hbA] at z2
  have HI := Lib.hid (fun V (g : Gr w0 V) => show RD 4 Ins.cs V bA b.ins from by have := (hL.c c hcm).i b hbm; rw [hbA] at this; exact this.gr g)
  have HNI := Lib.hid hni
  have YY := Lib.hid Y
  have HDL := Lib.hid hdl
  have HGET := Lib.hid hget
  have HWF := Lib.hid hwf
  have H0 := Lib.hid h0
  obtain ⟨X, hX⟩ : ∃ X, trg (pls L) ⟨sc, sb⟩ 0 b.ins = X := ⟨_, rfl⟩
  rw [hX] at YY ⊢
  have HX0 := Lib.hid hX
  clear hX
  clear Y h0 hL hdl hget hwf hc hb hcm hbm h1 h2 h3 h4 hnb hni hbA ec eb y0 y2 z0 z1 hnc
  refine callsIn_of_wp Tryz.func70 rfl trivial ?_ rfl
  simp only [Tryz.ntmps70, List.size_toArray, List.length_cons, List.length_nil, Nat.reduceAdd, Nat.reduceSub, Array.replicate_succ, Array.replicate_zero, List.push_toArray, List.append_toArray, List.nil_append, List.cons_append]
  gi_upto_region 0 with (fail)
  gi_quiet (fail)
  gi_upto_region 1 with (fail)
  have G0 := Lib.hid (show Gr W (W.drewN nq) from gr_drewN _ _)
  have B0 := Lib.hid (show W.heap.size ≤ (W.drewN nq).heap.size from G0.out.size)
  have X0 := Lib.hid (show ([] : List Tg) ++ trg (pls L) ⟨sc, sb⟩ 0 (b.ins.drop 0) = X from HX0.out)
  have J0 := Lib.hid (YY.out.keep _ _ _ _ H0.out (Kp.of G0.out (Nat.le_refl _) fun k h => h.elim))
  generalize W.drewN nq = W1 at *
  clear u1 u2 u3 u4 y1 z2 ha hab hq hqb
  gi_loopw [22] (fun u V => ∃ (i : Nat) (pre : List Tg) (own : Nat → Prop), i ≤ ni ∧ u = .int .i64 i ∧ Hid (J pre own V ∧ pre ++ trg (pls L) ⟨sc, sb⟩ i (b.ins.drop i) = X)) (fun u _ => ni - (intOf u).toNat)
  case atStart => exact ⟨0, [], _, Nat.zero_le _, rfl, Lib.hid ⟨J0.out, X0.out⟩⟩
  case round =>
    clear J0 X0 B0 G0
    obtain ⟨i, pre, own, hin, rfl, HK⟩ := hrel
    obtain ⟨hj, hx⟩ := HK.out
    have HJ := Lib.hid hj
    have HX := Lib.hid hx
    have HO := Lib.hid (YY.out.lt _ _ _ hj)
    have HB := Lib.hid (YY.out.gr _ _ _ hj).2
    have HG := Lib.hid (YY.out.gr _ _ _ hj).1
    clear hj hx HK
    by_cases hlt : i < ni
    · obtain ⟨e, e1, eE, he, heb, z0, z1, z2, z3⟩ := (HI.out _ HG.out).ins (k := i) (by rw [HNI.out]; exact hlt)
      obtain rfl := eE
      obtain ⟨x, hx⟩ : ∃ x, b.ins[i]'(by rw [HNI.out]; exact hlt) = x := ⟨_, rfl⟩
      have HXI := Lib.hid (show b.ins[i]? = some x from by rw [List.getElem?_eq_getElem (by rw [HNI.out]; exact hlt), hx])
      rw [hx] at z0 z1 z2 z3
      clear hx
      gi_upto_region 5 with (fail)
      obtain ⟨op, hop⟩ : ∃ o, x.op = o := ⟨_, rfl⟩
      rw [hop]
      have HOP := Lib.hid hop
      clear hop z0 z1 z2 z3 he heb
      have H5 := Lib.hid (gr_h (gr_al _ (.cells #[.int .i64 0, .int .i64 0, .bool false] 119)) (al_new wr (.cells #[.int .i64 op, .int .i64 x.a, .int .i64 x.b, .string ⟨x.name.toArray⟩] 71)))
      have H6 := Lib.hid (al_at (wr.alloc (.cells #[.int .i64 op, .int .i64 x.a, .int .i64 x.b, .string ⟨x.name.toArray⟩] 71)) (.cells #[.int .i64 0, .int .i64 0, .bool false] 119) (A := wr.heap.size + 1) (by simp))
      have G8 := Lib.hid ((gr_al wr (.cells #[.int .i64 op, .int .i64 x.a, .int .i64 x.b, .string ⟨x.name.toArray⟩] 71)).trans (gr_al _ (.cells #[.int .i64 0, .int .i64 0, .bool false] 119)))
      obtain ⟨r6, hr6⟩ : ∃ r, wr.heap.size + 1 = r := ⟨_, rfl⟩
      obtain ⟨r5, hr5⟩ : ∃ r, wr.heap.size = r := ⟨_, rfl⟩
      have H66 := Lib.hid (show wr.heap.size ≤ r6 by omega)
      rw [hr6] at H6 ⊢
      rw [hr5] at H5 ⊢
      clear hr5 hr6
      generalize World.alloc _ (.cells #[.int .i64 0, .int .i64 0, .bool false] 119) = W8 at *
      have J8 := YY.out.keep _ _ _ _ HJ.out (Kp.of G8.out HB.out HO.out)
      obtain ⟨h1, h2⟩ := YY.out.box _ _ _ J8
      obtain ⟨h3, x3, y3, h4⟩ := YY.out.lk _ _ _ J8
      have H3 := Lib.hid h3
      have u1 : W8.cell? ⟨b1, 0, none⟩ = some (.pointer (some ⟨kb, 0, none⟩)) := by rw [Lib.cell_of_heap h1]; rfl
      have u2 : W8.cell? ⟨b2, 0, none⟩ = some (.int .i64 sc) := by rw [Lib.cell_of_heap h2]; rfl
      have v4 : W8.cell? ⟨kb, 1, none⟩ = some (.map (some m1)) := by rw [Lib.cell_of_heap h4]; rfl
      have v0 : W8.cell? ⟨r5, 1, none⟩ = some (.int .i64 x.a) := by rw [Lib.cell_of_heap H5.out]; rfl
      have v3 : W8.cell? ⟨r5, 3, none⟩ = some (.string ⟨x.name.toArray⟩) := by rw [Lib.cell_of_heap H5.out]; rfl
      have z0 : W8.cell? ⟨r6, 0, none⟩ = some (.int .i64 0) := by rw [Lib.cell_of_heap H6.out]; rfl
      have z1 : W8.cell? ⟨r6, 1, none⟩ = some (.int .i64 0) := by rw [Lib.cell_of_heap H6.out]; rfl
      have z2 : W8.cell? ⟨r6, 2, none⟩ = some (.bool false) := by rw [Lib.cell_of_heap H6.out]; rfl
      have fz := frz H6.out
      have fz0 := fz 0
      have fz1 := fz 1
      have fz2 := fz 2
      clear h1 h2 h3 h4 J8 fz
      rcases (show op = 4 ∨ op = 5 ∨ (op ≠ 4 ∧ op ≠ 5) from by omega) with rfl | rfl | ⟨n4, n5⟩
      · have HLK := Lib.hid (fun V (g : Gr W8 V) => show (Instr.lookup 109 (.map (some m1)) (.agg #[.string ⟨x.name.toArray⟩, .int .i64 x.a]) true).run Tryz.prog V = .ok (.tuple #[((findC (pls L) 0 x.name x.a).map Sp.v).getD (.agg #[iv 0, iv 0]), .bool ((findC (pls L) 0 x.name x.a).map Sp.v).isSome]) V from by
          obtain ⟨wa, wb⟩ := HWF.out x (List.mem_of_getElem? HXI.out) HOP.out
          have h := (lookup_k ktN (k := ⟨x.name, x.a⟩) (H3.out.keep (g.block _ H3.out.lt (by simp))) HDL.out Tryz.underlying109 (z := .agg #[iv 0, iv 0]) (by kernel_rfl) ⟨wb, wa⟩).2
          rw [HGET.out] at h
          exact h)
        have HT0 := Lib.hid (show tgt (pls L) ⟨sc, sb⟩ x = some (findC (pls L) 0 x.name x.a) from by unfold tgt; rw [if_pos HOP.out])
        obtain ⟨R, hR⟩ : ∃ R, findC (pls L) 0 x.name x.a = R := ⟨_, rfl⟩
        rw [hR] at HLK HT0
        clear hR
        cases R with
        | none =>
          have HT := Lib.hid (show tgt (pls L) ⟨sc, sb⟩ x = some none from HT0.out)
          simp only [Option.map_none, Option.getD_none, Option.isSome_none] at HLK
          have lk1 := HLK.out _ (gr_drew _)
          have dc : ∀ p, W8.drew.cell? p = W8.cell? p := fun _ => rfl
          have df : ∀ p, W8.drew.frozen? p = W8.frozen? p := fun _ => rfl
          gi_upto_region 6 with (fail)
          refine wpIn_to { tmps := #[.func (.yield l) #[] #[], .pointer (some ⟨b1, 0, none⟩), .pointer (some ⟨b2, 0, none⟩), undef, .int .i64 i, .pointer (some ⟨r5, 0, none⟩), .pointer (some ⟨r6, 0, none⟩), .pointer (some ⟨kb, 0, none⟩), .pointer (some ⟨kb, 0, none⟩), .pointer (some ⟨kb, 0, none⟩), .slice (some a) nc cp, .pointer (some ⟨b2, 0, none⟩), .int .i64 sc, .pointer (some a1), .pointer (some ⟨a1.block, a1.off + 1, none⟩), .slice (some q) nb c.bc, .pointer (some ⟨b2, 1, none⟩), .int .i64 sb, .pointer (some q1), .pointer (some ⟨q1.block, q1.off + 2, none⟩), .slice (some e) ni b.c, .int .i64 ni, .int .i64 i, .bool true, .int .i64 i, .pointer (some e1), .agg #[.int .i64 4, .int .i64 x.a, .int .i64 x.b, .string ⟨x.name.toArray⟩], .pointer (some ⟨r5, 0, none⟩), .int .i64 4, .bool true, .bool true, .tuple #[.agg #[.int .i64 0, .int .i64 0], .bool false], .pointer (some ⟨kb, 0, none⟩), .pointer (some ⟨kb, 0, none⟩), .pointer (some ⟨kb, 1, none⟩), .map (some m1), .pointer (some ⟨r5, 3, none⟩), .string ⟨x.name.toArray⟩, .pointer (some ⟨r5, 1, none⟩), .int .i64 x.a, .agg #[.string ⟨x.name.toArray⟩, .int .i64 x.a], .tuple #[.agg #[.int .i64 0, .int .i64 0], .bool false], .agg #[.int .i64 0, .int .i64 0], .bool false, .pointer (some ⟨r6, 0, none⟩), .pointer (some ⟨r6, 2, none⟩), u46, u47, u48, u49, u50, u51, u52, u53, u54, u55, u56, u57, u58, u59], defers := [] } (((W8.drew.setCell ⟨r6, 0, none⟩ (.int .i64 0)).setCell ⟨r6, 1, none⟩ (.int .i64 0)).setCell ⟨r6, 2, none⟩ (.bool false)) (fun Q0 hQ => ?_) ?_
          · have HQ := Lib.hid hQ
            clear hQ
            go_region_law (fail)
            all_goals exact HQ.out
          · clear lk1 dc df
            gi_upto_region 9 with (fail)
            have H9 := Lib.hid (show (((W8.drew.setCell ⟨r6, 0, none⟩ (.int .i64 0)).setCell ⟨r6, 1, none⟩ (.int .i64 0)).setCell ⟨r6, 2, none⟩ (.bool false)).heap[r6]? = some (.cells #[.int .i64 0, .int .i64 0, .bool false] 119 (0, 0)) from set3c (gr_h (gr_drew W8) H6.out) _ _ _)
            have G9 := Lib.hid (show Gr wr (((W8.drew.setCell ⟨r6, 0, none⟩ (.int .i64 0)).setCell ⟨r6, 1, none⟩ (.int .i64 0)).setCell ⟨r6, 2, none⟩ (.bool false)) from gr_cell (gr_cell (gr_cell (G8.out.trans (gr_drew W8)) H66.out _) H66.out _) H66.out _)
            clear u1 u2 v4 v0 v3 z0 z1 z2 fz0 fz1 fz2
            generalize ((W8.drew.setCell ⟨r6, 0, none⟩ (.int .i64 0)).setCell ⟨r6, 1, none⟩ (.int .i64 0)).setCell ⟨r6, 2, none⟩ (.bool false) = W9 at *
            have J9 := Lib.hid (YY.out.keep _ _ _ _ HJ.out (Kp.of G9.out HB.out HO.out))
            have c0 : W9.cell? ⟨r6, 0, none⟩ = some (.int .i64 0) := by rw [Lib.cell_of_heap H9.out]; rfl
            have c1 : W9.cell? ⟨r6, 1, none⟩ = some (.int .i64 0) := by rw [Lib.cell_of_heap H9.out]; rfl
            have c2 : W9.cell? ⟨r6, 2, none⟩ = some (.bool false) := by rw [Lib.cell_of_heap H9.out]; rfl
            have PO := Lib.hid (show pre ++ ((i, none) : Tg) :: trg (pls L) ⟨sc, sb⟩ (i + 1) (b.ins.drop (i + 1)) = X from by
              have h := HX.out
              rw [trg_drop HXI.out, HT.out] at h
              exact h)
            obtain ⟨fn, tmps, assign, body, hy, hR⟩ := YY.out.yield pre own (i, none) W9 J9.out ⟨_, PO.out.symm⟩
            simp only [tgV] at hy
            gi_wp2
            refine hR.mono ?_
            rintro e W3 ⟨⟨hk3, hs3⟩, ⟨rfl, own3, ho3, hJ3⟩ | ⟨rfl, hF3⟩⟩
            · have HN := Lib.hid (show J (pre ++ [(i, none)]) own3 W3 ∧ pre ++ [((i, none) : Tg)] ++ trg (pls L) ⟨sc, sb⟩ (i + 1) (b.ins.drop (i + 1)) = X from ⟨hJ3, by rw [← PO.out]; simp⟩)
              clear hk3 hs3 ho3 hJ3 hR hy c0 c1 c2
              gi_wp2
              exact ⟨⟨i + 1, _, _, hlt, by simp, HN⟩, by simp [intOf]; omega⟩
            · have FF := Lib.hid hF3
              clear hk3 hs3 hF3 hR hy c0 c1 c2
              gi_wp2
              refine bodyPost_ret (results_none rfl _ _ _) rfl ?_
              exact ⟨⟨_, rfl⟩, .inr ⟨pre, (i, none), _, PO.out.symm, FF.out⟩⟩
        | some t =>
          have HT := Lib.hid (show tgt (pls L) ⟨sc, sb⟩ x = some (some t) from HT0.out)
          simp only [Option.map_some, Option.getD_some, Option.isSome_some, Sp.v] at HLK
          have lk1 := HLK.out _ (gr_drew _)
          have dc : ∀ p, W8.drew.cell? p = W8.cell? p := fun _ => rfl
          have df : ∀ p, W8.drew.frozen? p = W8.frozen? p := fun _ => rfl
          gi_upto_region 6 with (fail)
          refine wpIn_to { tmps := #[.func (.yield l) #[] #[], .pointer (some ⟨b1, 0, none⟩), .pointer (some ⟨b2, 0, none⟩), undef, .int .i64 i, .pointer (some ⟨r5, 0, none⟩), .pointer (some ⟨r6, 0, none⟩), .pointer (some ⟨kb, 0, none⟩), .pointer (some ⟨kb, 0, none⟩), .pointer (some ⟨kb, 0, none⟩), .slice (some a) nc cp, .pointer (some ⟨b2, 0, none⟩), .int .i64 sc, .pointer (some a1), .pointer (some ⟨a1.block, a1.off + 1, none⟩), .slice (some q) nb c.bc, .pointer (some ⟨b2, 1, none⟩), .int .i64 sb, .pointer (some q1), .pointer (some ⟨q1.block, q1.off + 2, none⟩), .slice (some e) ni b.c, .int .i64 ni, .int .i64 i, .bool true, .int .i64 i, .pointer (some e1), .agg #[.int .i64 4, .int .i64 x.a, .int .i64 x.b, .string ⟨x.name.toArray⟩], .pointer (some ⟨r5, 0, none⟩), .int .i64 4, .bool true, .bool true, .tuple #[.agg #[.int .i64 t.code, .int .i64 t.block], .bool true], .pointer (some ⟨kb, 0, none⟩), .pointer (some ⟨kb, 0, none⟩), .pointer (some ⟨kb, 1, none⟩), .map (some m1), .pointer (some ⟨r5, 3, none⟩), .string ⟨x.name.toArray⟩, .pointer (some ⟨r5, 1, none⟩), .int .i64 x.a, .agg #[.string ⟨x.name.toArray⟩, .int .i64 x.a], .tuple #[.agg #[.int .i64 t.code, .int .i64 t.block], .bool true], .agg #[.int .i64 t.code, .int .i64 t.block], .bool true, .pointer (some ⟨r6, 0, none⟩), .pointer (some ⟨r6, 2, none⟩), u46, u47, u48, u49, u50, u51, u52, u53, u54, u55, u56, u57, u58, u59], defers := [] } (((W8.drew.setCell ⟨r6, 0, none⟩ (.int .i64 t.code)).setCell ⟨r6, 1, none⟩ (.int .i64 t.block)).setCell ⟨r6, 2, none⟩ (.bool true)) (fun Q0 hQ => ?_) ?_
          · have HQ := Lib.hid hQ
            clear hQ
            go_region_law (fail)
            all_goals exact HQ.out
          · clear lk1 dc df
            gi_upto_region 9 with (fail)
            have H9 := Lib.hid (show (((W8.drew.setCell ⟨r6, 0, none⟩ (.int .i64 t.code)).setCell ⟨r6, 1, none⟩ (.int .i64 t.block)).setCell ⟨r6, 2, none⟩ (.bool true)).heap[r6]? = some (.cells #[.int .i64 t.code, .int .i64 t.block, .bool true] 119 (0, 0)) from set3c (gr_h (gr_drew W8) H6.out) _ _ _)
            have G9 := Lib.hid (show Gr wr (((W8.drew.setCell ⟨r6, 0, none⟩ (.int .i64 t.code)).setCell ⟨r6, 1, none⟩ (.int .i64 t.block)).setCell ⟨r6, 2, none⟩ (.bool true)) from gr_cell (gr_cell (gr_cell (G8.out.trans (gr_drew W8)) H66.out _) H66.out _) H66.out _)
            clear u1 u2 v4 v0 v3 z0 z1 z2 fz0 fz1 fz2
            generalize ((W8.drew.setCell ⟨r6, 0, none⟩ (.int .i64 t.code)).setCell ⟨r6, 1, none⟩ (.int .i64 t.block)).setCell ⟨r6, 2, none⟩ (.bool true) = W9 at *
            have J9 := Lib.hid (YY.out.keep _ _ _ _ HJ.out (Kp.of G9.out HB.out HO.out))
            have c0 : W9.cell? ⟨r6, 0, none⟩ = some (.int .i64 t.code) := by rw [Lib.cell_of_heap H9.out]; rfl
            have c1 : W9.cell? ⟨r6, 1, none⟩ = some (.int .i64 t.block) := by rw [Lib.cell_of_heap H9.out]; rfl
            have c2 : W9.cell? ⟨r6, 2, none⟩ = some (.bool true) := by rw [Lib.cell_of_heap H9.out]; rfl
            have PO := Lib.hid (show pre ++ ((i, some t) : Tg) :: trg (pls L) ⟨sc, sb⟩ (i + 1) (b.ins.drop (i + 1)) = X from by
              have h := HX.out
              rw [trg_drop HXI.out, HT.out] at h
              exact h)
            obtain ⟨fn, tmps, assign, body, hy, hR⟩ := YY.out.yield pre own (i, some t) W9 J9.out ⟨_, PO.out.symm⟩
            simp only [tgV] at hy
            gi_wp2
            refine hR.mono ?_
            rintro e W3 ⟨⟨hk3, hs3⟩, ⟨rfl, own3, ho3, hJ3⟩ | ⟨rfl, hF3⟩⟩
            · have HN := Lib.hid (show J (pre ++ [(i, some t)]) own3 W3 ∧ pre ++ [((i, some t) : Tg)] ++ trg (pls L) ⟨sc, sb⟩ (i + 1) (b.ins.drop (i + 1)) = X from ⟨hJ3, by rw [← PO.out]; simp⟩)
              clear hk3 hs3 ho3 hJ3 hR hy c0 c1 c2
              gi_wp2
              exact ⟨⟨i + 1, _, _, hlt, by simp, HN⟩, by simp [intOf]; omega⟩
            · have FF := Lib.hid hF3
              clear hk3 hs3 hF3 hR hy c0 c1 c2
              gi_wp2
              refine bodyPost_ret (results_none rfl _ _ _) rfl ?_
              exact ⟨⟨_, rfl⟩, .inr ⟨pre, (i, some t), _, PO.out.symm, FF.out⟩⟩
      · have HT := Lib.hid (show tgt (pls L) ⟨sc, sb⟩ x = some (some ⟨sc, x.a⟩) from by unfold tgt; rw [if_neg (by have := HOP.out; omega), if_pos HOP.out])
        gi_upto_region 9 with (fail)
        have H9 := Lib.hid (show (((W8.setCell ⟨r6, 0, none⟩ (.int .i64 sc)).setCell ⟨r6, 1, none⟩ (.int .i64 x.a)).setCell ⟨r6, 2, none⟩ (.bool true)).heap[r6]? = some (.cells #[.int .i64 sc, .int .i64 x.a, .bool true] 119 (0, 0)) from set3c H6.out _ _ _)
        have G9 := Lib.hid (show Gr wr (((W8.setCell ⟨r6, 0, none⟩ (.int .i64 sc)).setCell ⟨r6, 1, none⟩ (.int .i64 x.a)).setCell ⟨r6, 2, none⟩ (.bool true)) from gr_cell (gr_cell (gr_cell G8.out H66.out _) H66.out _) H66.out _)
        clear u1 u2 v4 v0 v3 z0 z1 z2 fz0 fz1 fz2
        generalize ((W8.setCell ⟨r6, 0, none⟩ (.int .i64 sc)).setCell ⟨r6, 1, none⟩ (.int .i64 x.a)).setCell ⟨r6, 2, none⟩ (.bool true) = W9 at *
        have J9 := Lib.hid (YY.out.keep _ _ _ _ HJ.out (Kp.of G9.out HB.out HO.out))
        have c0 : W9.cell? ⟨r6, 0, none⟩ = some (.int .i64 sc) := by rw [Lib.cell_of_heap H9.out]; rfl
        have c1 : W9.cell? ⟨r6, 1, none⟩ = some (.int .i64 x.a) := by rw [Lib.cell_of_heap H9.out]; rfl
        have c2 : W9.cell? ⟨r6, 2, none⟩ = some (.bool true) := by rw [Lib.cell_of_heap H9.out]; rfl
        have PO := Lib.hid (show pre ++ ((i, some ⟨sc, x.a⟩) : Tg) :: trg (pls L) ⟨sc, sb⟩ (i + 1) (b.ins.drop (i + 1)) = X from by
          have h := HX.out
          rw [trg_drop HXI.out, HT.out] at h
          exact h)
        obtain ⟨fn, tmps, assign, body, hy, hR⟩ := YY.out.yield pre own (i, some ⟨sc, x.a⟩) W9 J9.out ⟨_, PO.out.symm⟩
        simp only [tgV] at hy
        gi_wp2
        refine hR.mono ?_
        rintro e W3 ⟨⟨hk3, hs3⟩, ⟨rfl, own3, ho3, hJ3⟩ | ⟨rfl, hF3⟩⟩
        · have HN := Lib.hid (show J (pre ++ [(i, some ⟨sc, x.a⟩)]) own3 W3 ∧ pre ++ [((i, some ⟨sc, x.a⟩) : Tg)] ++ trg (pls L) ⟨sc, sb⟩ (i + 1) (b.ins.drop (i + 1)) = X from ⟨hJ3, by rw [← PO.out]; simp⟩)
          clear hk3 hs3 ho3 hJ3 hR hy c0 c1 c2
          gi_wp2
          exact ⟨⟨i + 1, _, _, hlt, by simp, HN⟩, by simp [intOf]; omega⟩
        · have FF := Lib.hid hF3
          clear hk3 hs3 hF3 hR hy c0 c1 c2
          gi_wp2
          refine bodyPost_ret (results_none rfl _ _ _) rfl ?_
          exact ⟨⟨_, rfl⟩, .inr ⟨pre, (i, some ⟨sc, x.a⟩), _, PO.out.symm, FF.out⟩⟩
      · have HT := Lib.hid (show tgt (pls L) ⟨sc, sb⟩ x = none from by unfold tgt; rw [if_neg (by have := HOP.out; omega), if_neg (by have := HOP.out; omega)])
        have HN := Lib.hid (show J pre own W8 ∧ pre ++ trg (pls L) ⟨sc, sb⟩ (i + 1) (b.ins.drop (i + 1)) = X from ⟨YY.out.keep _ _ _ _ HJ.out (Kp.of G8.out HB.out HO.out), by
          have h := HX.out
          rw [trg_drop HXI.out, HT.out] at h
          exact h⟩)
        gi_wp2
        exact ⟨⟨i + 1, _, _, hlt, by simp, HN⟩, by simp [intOf]; omega⟩
    · obtain rfl : ni = i := by omega
      have FF := Lib.hid (show J X own wr from by
        have h := HX.out
        rw [List.drop_of_length_le (by rw [HNI.out]; exact Nat.le_refl _), trg, List.append_nil] at h
        rw [← h]; exact HJ.out)
      gi_wp2
      first | go_end0 | refine bodyPost_ret (results_none rfl _ _ _) rfl ?_
      exact ⟨⟨_, rfl⟩, .inl ⟨_, FF.out⟩⟩
end Go.Proofs.YtgboboljgcfggaaGreatDoor
namespace Go.Proofs.YtgboboljgcfggaaGreatDoor
open Go.RowKit Go.Maps Go.Shelf
attribute [local go_sem] Oper.semAt_some
def BodyP (b : Nat) (own : Nat → Prop) (I : List Tg → (Nat → Prop) → World → Prop) (E : List Tg → Tg → World → Prop) (pre : List Tg) (y : Tg) (W : World) : Exit → Act → World → Prop
  | .normal, _, W' => ((∀ k, b ≤ k → k < W.heap.size → ¬ own k → W'.heap[k]? = W.heap[k]?) ∧ W.heap.size ≤ W'.heap.size) ∧ ∃ own', (∀ k, own' k → own k ∨ W.heap.size ≤ k) ∧ I (pre ++ [y]) own' W'
  | .ret, _, W' => ((∀ k, b ≤ k → k < W.heap.size → ¬ own k → W'.heap[k]? = W.heap[k]?) ∧ W.heap.size ≤ W'.heap.size) ∧ E pre y W'
  | _, _, _ => False
structure But (l : Nat) (W W' : World) : Prop where
  os : W'.os = W.os
  tape : W'.tape = W.tape
  output : W'.output = W.output
  size : W'.heap.size = W.heap.size
  same : ∀ k, k ≠ l → W'.heap[k]? = W.heap[k]?
theorem But.put (W : World) (l : Nat) (o : Obj) : But l W (W.putObj l o) := ⟨rfl, rfl, rfl, by simp [World.putObj], fun k hk => World.putObj_heap_other (by omega)⟩
theorem But.kp {l B : Nat} {own : Nat → Prop} {W W' : World} (h : But l W W') (hl : B ≤ l) (hn : ¬ own l) : Kp B own W W' :=
  ⟨h.os, h.tape, h.output, by rw [h.size]; exact Nat.le_refl _, fun k hk => h.same k (by
    rintro rfl
    rcases hk with hk | hk
    · omega
    · exact hn hk)⟩
theorem But.below {l : Nat} {W W' : World} (h : But l W W') : Below l W W' := ⟨h.os, h.tape, h.output, by rw [h.size]; exact Nat.le_refl _, fun k hk => h.same k (by omega)⟩
theorem range_r {n : Nat} {Q : Exit → Act → World → Prop} {a : Act} {w0 w : World} {Ad : Option Addr} {cp nc kb m1 : Nat} {dl : MK Nam} {sc sb b1 b2 : Nat} {g : Operand} {ps : Array Tmp} {assign body : Code} (hn : 3 ≤ n)
    (hg : a.eval g = .func (.func 70) #[] #[.pointer (some ⟨b1, 0, none⟩), .pointer (some ⟨b2, 0, none⟩)]) (hps : ps.size = 2) (L : List Cod) (hL : CRd w0 Ad L) (hnc : L.length = nc) (c : Cod) (hc : L[sc]? = some c) (b : Blk) (hb : c.bs[sb]? = some b) (hbn : b.ins.length ≤ 9223372036854775807)
    (hdl : LK Nam.Ok dl) (hget : ∀ p i, kget dl ⟨p, i⟩ = (findC (pls L) 0 p i).map Sp.v) (hwf : ∀ x ∈ b.ins, x.op = 4 → (Lit.int .i64 x.a).wf = true ∧ x.name.length ≤ maxLen) (I : List Tg → (Nat → Prop) → World → Prop) (E : List Tg → Tg → World → Prop)
    (hI : ∀ pre own W, I pre own W → Gr w0 W ∧ w.heap.size ≤ W.heap.size ∧ (W.heap[b1]? = some (.cells #[.pointer (some ⟨kb, 0, none⟩)] 104 (0, 0)) ∧ W.heap[b2]? = some (.cells #[.int .i64 sc, .int .i64 sb] 107 (0, 0))) ∧ (MP Nam.v W m1 dl ∧ ∃ x y, W.heap[kb]? = some (.cells #[.slice Ad nc cp, .map (some m1), x, y] 113 (0, 0))) ∧ ∀ k, own k → k < W.heap.size)
    (hkI : ∀ pre own W W', I pre own W → Kp w.heap.size own W W' → I pre own W') (hkE : ∀ pre y W W', E pre y W → But (w.heap.size + 1) W W' → E pre y W')
    (h0 : I [] (fun _ => False) w)
    (round : ∀ l pre own y W, I pre own W → w.heap.size + 2 ≤ W.heap.size → (∀ k, own k → w.heap.size + 2 ≤ k) → (∃ post, trg (pls L) ⟨sc, sb⟩ 0 b.ins = pre ++ y :: post) → w.heap.size + 1 = l →
      assign.wpIn (Fence.wide.inRound l) (n - 1 - 1) Tryz.prog (Exit.then (fun a₁ W₁ => ((∀ k, w.heap.size ≤ k → k < W.heap.size → ¬ own k → W₁.heap[k]? = W.heap[k]?) ∧ W.heap.size ≤ W₁.heap.size) ∧ ∀ W₂, But l W₁ W₂ → body.wpIn (Fence.wide.inRound l) (n - 1 - 1) Tryz.prog (fun e a' W' => (∀ k, w.heap.size ≤ k → k < W.heap.size → ¬ own k → k ≠ l → W₂.heap[k]? = W.heap[k]?) → BodyP w.heap.size own I E pre y W₂ e a' W') a₁ W₂) (fun _ _ _ => False))
        { tmps := (ps.zip #[.int .i64 y.1, tgV y.2]).foldl (fun tmps (t, a) => tmps.setIfInBounds t a) a.tmps, defers := [] } W)
    (fin : ∀ own W', I (trg (pls L) ⟨sc, sb⟩ 0 b.ins) own W' → (∀ k, own k → w.heap.size + 2 ≤ k) → W'.heap[w.heap.size]? = some (.deferred (some [])) → Q .normal { a with defers := { target := .collected w.heap.size, args := #[] } :: a.defers } W')
    (early : ∀ pre y post W', trg (pls L) ⟨sc, sb⟩ 0 b.ins = pre ++ y :: post → E pre y W' → W'.heap[w.heap.size]? = some (.deferred (some [])) → Q .ret { a with defers := { target := .collected w.heap.size, args := #[] } :: a.defers } W') :
    (Code.rangeFunc g ps assign body).wpIn Fence.wide n Tryz.prog Q a w := by
  refine range_start hg (enters_of Tryz.func70 (by kernel_rfl) rfl) ?_
  intro fn
  generalize hr : ({ state := .ready, pending := none, fn := fn, tmps := _, params := _, assign := _, body := _, defers := w.heap.size } : Loop) = r
  obtain ⟨W1, hW1⟩ : ∃ W1, (w.alloc (.deferred (some []))).alloc (.loop r) = W1 := ⟨_, rfl⟩
  have s1 : W1.heap.size = w.heap.size + 2 := by rw [← hW1]; simp
  have l1 : W1.heap[w.heap.size + 1]? = some (.loop r) := by rw [← hW1]; exact al_at _ _ (by simp)
  have d1 : W1.heap[w.heap.size]? = some (.deferred (some [])) := by rw [← hW1]; exact (Below.heap_alloc _ _ _ (by simp)).trans (al_new w _)
  have bg : Gr w W1 := by rw [← hW1]; exact (gr_al _ _).trans (gr_al _ _)
  rw [hW1]
  clear hW1
  have hj0 : I [] (fun _ => False) W1 := hkI _ _ _ _ h0 (Kp.of bg (Nat.le_refl _) fun k h => h.elim)
  have YL : Yk w0 Ad cp nc kb m1 dl sc sb b1 b2 W1.heap.size (n - 1 - 1) (w.heap.size + 1) (trg (pls L) ⟨sc, sb⟩ 0 b.ins) (fun pre own W => (I pre own W ∧ W1.heap.size ≤ W.heap.size ∧ ∀ k, own k → W1.heap.size ≤ k) ∧ W.heap[w.heap.size + 1]? = some (.loop r) ∧ W.heap[w.heap.size]? = some (.deferred (some [])))
      (fun pre y W => E pre y W ∧ W.heap[w.heap.size + 1]? = some (.loop { r with state := .done, pending := some .ret }) ∧ W.heap[w.heap.size]? = some (.deferred (some []))) := by
    refine ⟨fun pre own W h => ⟨(hI _ _ _ h.1.1).1, h.1.2.1⟩, fun pre own W h => (hI _ _ _ h.1.1).2.2.1, fun pre own W h => (hI _ _ _ h.1.1).2.2.2.1, fun pre own W h => (hI _ _ _ h.1.1).2.2.2.2, ?_, ?_⟩
    · intro pre own W W' ⟨⟨hi, hs, ho⟩, hl, hd⟩ hb
      exact ⟨⟨hkI _ _ _ _ hi ⟨hb.os, hb.tape, hb.output, hb.size, fun k hk => hb.same k (by
        rcases hk with hk | hk
        · left; omega
        · right; exact hk)⟩, Nat.le_trans hs hb.size, ho⟩, (hb.same _ (by left; omega)).trans hl, (hb.same _ (by left; omega)).trans hd⟩
    · intro pre own y W ⟨⟨hi, hs, ho⟩, hl, hd⟩ hpost
      have hyl := run_yield (P := Tryz.prog) (args := #[.int .i64 y.1, tgV y.2]) hl (by rw [← hr]; exact hps.symm)
      refine ⟨_, _, _, _, hyl, roundIn_of_wpIn trivial ?_⟩
      have ea : r.assign = assign := by rw [← hr]
      have eb : r.body = body := by rw [← hr]
      have ep : r.params = ps := by rw [← hr]
      have et : r.tmps = a.tmps := by rw [← hr]
      have R0 := round (w.heap.size + 1) pre own y W hi (by omega) (fun k hk => by have := ho k hk; omega) hpost rfl
      rw [← ea, ← eb, ← ep, ← et] at R0
      refine wpIn_mono R0 ?_
      intro e a₁ W₁ he
      have nl : ¬ own (w.heap.size + 1) := fun h => by have := ho _ h; omega
      have nd : ¬ own w.heap.size := fun h => by have := ho _ h; omega
      cases e with
      | normal =>
        obtain ⟨⟨k1, k2⟩, hbody⟩ := he
        have hl1 : W₁.heap[w.heap.size + 1]? = some (.loop r) := (k1 _ (by omega) (by omega) nl).trans hl
        have hd1 : W₁.heap[w.heap.size]? = some (.deferred (some [])) := (k1 _ (by omega) (by omega) nd).trans hd
        refine ⟨_, run_beginRound hl1 (by rw [← hr]), ?_⟩
        have B2 := But.put W₁ (w.heap.size + 1) (.loop { r with state := .busy })
        refine wpIn_mono (hbody _ B2) ?_
        intro e a₂ W₃ hp0
        have hl2 : (W₁.putObj (w.heap.size + 1) (.loop { r with state := .busy })).heap[w.heap.size + 1]? = some (.loop { r with state := .busy }) := World.putObj_heap_same (heap_lt hl1)
        have hd2 : (W₁.putObj (w.heap.size + 1) (.loop { r with state := .busy })).heap[w.heap.size]? = some (.deferred (some [])) := (B2.same _ (by omega)).trans hd1
        have hp := hp0 fun k h1 h2 h3 h4 => (B2.same k h4).trans (k1 k h1 h2 h3)
        have z2 := B2.size
        have k2' : ∀ k, W1.heap.size ≤ k → k < W.heap.size → ¬ own k → (W₁.putObj (w.heap.size + 1) (.loop { r with state := .busy })).heap[k]? = W.heap[k]? := fun k h1 h2 h3 => (B2.same k (by omega)).trans (k1 k (by omega) h2 h3)
        clear hp0 B2
        generalize W₁.putObj (w.heap.size + 1) (.loop { r with state := .busy }) = W₂ at *
        have lt2 := heap_lt hl2
        cases e with
        | normal =>
          obtain ⟨⟨m1, m2⟩, own', ho', hi3⟩ := hp
          have hl3 := (m1 _ (by omega) lt2 nl).trans hl2
          have hd3 := (m1 _ (Nat.le_refl _) (heap_lt hd2) nd).trans hd2
          have hend := run_endRound (P := Tryz.prog) none hl3
          have ho2 : ∀ k, own' k → W1.heap.size ≤ k := fun k hk => by
            rcases ho' k hk with h | h
            · exact ho k h
            · omega
          have B4 := But.put W₃ (w.heap.size + 1) (.loop { { r with state := .busy } with state := if (none : Option Code).isNone = true then .ready else .done, pending := none })
          refine ⟨_, _, hend, ⟨?_, ?_⟩, .inl ⟨rfl, own', fun k hk => ?_, ⟨hkI _ _ _ _ hi3 (B4.kp (by omega) fun h => by have := ho2 _ h; omega), by rw [B4.size]; omega, ho2⟩, ?_, (B4.same _ (by omega)).trans hd3⟩⟩
          · intro k h1 h2 h3
            rw [B4.same _ (by omega), m1 k (by omega) (by omega) h3, k2' k h1 h2 h3]
          · rw [B4.size]; omega
          · rcases ho' k hk with h | h
            · exact .inl h
            · right; omega
          · rw [World.putObj_heap_same (heap_lt hl3), ← hr]; rfl
        | ret =>
          obtain ⟨⟨m1, m2⟩, hi3⟩ := hp
          have hl3 := (m1 _ (by omega) lt2 nl).trans hl2
          have hd3 := (m1 _ (Nat.le_refl _) (heap_lt hd2) nd).trans hd2
          have hend := run_endRound (P := Tryz.prog) (some .ret) hl3
          have B4 := But.put W₃ (w.heap.size + 1) (.loop { { r with state := .busy } with state := if (some Code.ret : Option Code).isNone = true then .ready else .done, pending := some .ret })
          refine ⟨_, _, hend, ⟨?_, ?_⟩, .inr ⟨rfl, hkE _ _ _ _ hi3 B4, ?_, (B4.same _ (by omega)).trans hd3⟩⟩
          · intro k h1 h2 h3
            rw [B4.same _ (by omega), m1 k (by omega) (by omega) h3, k2' k h1 h2 h3]
          · rw [B4.size]; omega
          · rw [World.putObj_heap_same (heap_lt hl3)]; rfl
        | exit id => exact hp.elim
        | goto t => exact hp.elim
        | panic c => exact hp.elim
        | outgrown => exact hp.elim
      | exit id => exact he
      | goto t => exact he
      | ret => exact he
      | panic c => exact he
      | outgrown => exact he
  have sW1 : w.heap.size ≤ W1.heap.size := by omega
  refine (refs_in w0 Ad cp nc kb m1 dl sc sb b1 b2 (n - 1) (w.heap.size + 1) (by omega) L hL hnc c hc b hb hbn hdl hget hwf _ _ W1 YL ⟨⟨hj0, Nat.le_refl _, fun k h => h.elim⟩, l1, d1⟩).mono ?_
  rintro e W2 ⟨⟨v', rfl⟩, ⟨own, ⟨hi, hs, ho⟩, hl, hd⟩ | ⟨pre, y, post, hp, hE, hl, hd⟩⟩
  · have hend := run_endLoop (P := Tryz.prog) hl (by rw [← hr]; simp)
    have hp : r.pending = none := by rw [← hr]
    rw [hp] at hend
    have B4 := But.put W2 (w.heap.size + 1) (.loop { r with state := .exhausted, pending := none })
    exact ⟨none, _, hend, fin own _ (hkI _ _ _ _ hi (B4.kp (by omega) fun h => by have := ho _ h; omega)) (fun k hk => by have := ho k hk; omega) ((B4.same _ (by omega)).trans hd)⟩
  · have hend := run_endLoop (P := Tryz.prog) hl (by simp)
    refine ⟨some .ret, _, hend, ?_⟩
    have B4 := But.put W2 (w.heap.size + 1) (.loop { r with state := .exhausted, pending := some .ret })
    have hq := early pre y post _ hp (hkE _ _ _ _ hE B4) ((B4.same _ (by omega)).trans hd)
    gi_wp2
    exact hq
end Go.Proofs.YtgboboljgcfggaaGreatDoor
namespace Go.Proofs.YtgboboljgcfggaaGreatDoor
open Go
section
variable {P : Program} {ops : Array Oper} {Q : Exit → Act → World → Prop} {l n : Nat} {md : Region.Mode}
def noDefer (ops : Array Oper) : Bool := ops.all fun o => match o.op with | .defer _ => false | _ => true
theorem noDefer_at (h : noDefer ops = true) {i : Nat} {o : Oper} (hi : ops[i]? = some o) : ∀ c, o.op ≠ .defer c := by
  intro c hc
  unfold noDefer at h
  have h1 := Array.all_eq_true'.1 h o (Array.mem_of_getElem? hi)
  rw [hc] at h1
  cases h1
theorem operIn_of {o : Oper} {a : Act} {w : World} {K : Act → World → Prop} (hd : ∀ c, o.op ≠ .defer c) (h : o.wp P a w K Q) : o.wpIn (Fence.wide.inRound l) n P a w K Q := by
  refine ⟨fun _ _ => trivial, ?_⟩
  rw [Oper.semAt_eq _ _ _ hd]
  unfold Oper.wp at h
  generalize (execOp a.eval o).run P w = r at *
  cases r with
  | ok v w' =>
    cases v with
    | value v => exact h
    | skip => exact h
    | defer d => exact h
    | enter f args => exact ⟨fun h' => (by cases h'), CallsIn.inRound l (callsIn_wide.2 h)⟩
    | row row args => exact ⟨fun h' => (by cases h'), fun c cs _ => let ⟨v, w'', r, s⟩ := h c cs; ⟨v, w'', r, stepsIn_wide.2 s⟩⟩
    | _ => exact h.elim
  | halt h' w' =>
    cases h' with
    | panic v => exact h
    | _ => exact h.elim
theorem wpOpIn_of (hq : ¬ LetsOut Q) (hd : noDefer ops = true) {i : Nat} {K K' : Act → World → Prop} {a : Act} {w : World} (hk : ∀ a w, K a w → K' a w) (h : wpOp P ops Q i K a w) : wpOpIn (Fence.wide.inRound l) n P ops Q i K' a w := by
  unfold wpOp at h
  unfold wpOpIn
  cases hi : ops[i]? with
  | none => rw [hi] at h; exact hk _ _ h
  | some o =>
    rw [hi] at h
    simp only at h ⊢
    split
    · rename_i hw
      rw [if_pos hw] at h
      rcases h with h | h
      · exact Oper.wpIn_mono hk (operIn_of (noDefer_at hd hi) h)
      · exact absurd h.2 hq
    · rename_i hw
      rw [if_neg hw] at h
      exact ⟨fun _ _ => trivial, hk _ _ h⟩
theorem wpAnyIn_of (hq : ¬ LetsOut Q) (hd : noDefer ops = true) : ∀ (f : Nat) (listed : Array Bool) (a : Act) (w : World), wpAny P md ops Q f listed a w → wpAnyIn (Fence.wide.inRound l) n P md ops Q f listed a w
  | 0, _, _, _, h => h
  | f + 1, _, _, _, h => ⟨h.1, fun i hi => wpOpIn_of hq hd (fun a w => wpAnyIn_of hq hd f _ a w) (h.2 i hi)⟩
theorem wpAny_still_tail {w : World} {a : Act} {l : List Oper} (n : Nat) (hB : Region.lexTailB .any l.toArray n = true)
    (h : wpStill P l.toArray w (fun a' => wpList P l.toArray Q (l.drop n) a' w) (l.take n) a) : wpAny P .any l.toArray Q l.toArray.size (Array.replicate l.toArray.size false) a w := by
  simp only [Region.lexTailB, Bool.and_eq_true, decide_eq_true_eq] at hB
  obtain ⟨⟨⟨⟨hsel, hn⟩, hs⟩, hc⟩, hlex⟩ := hB
  have hn' : n < l.length := by simpa using hn
  have htl : (l.take n).length = n := by simp; omega
  have hdl : (l.drop n).length = l.toArray.size - n := by simp
  have inv0 : HeadInv .any l.toArray n (Array.replicate l.toArray.size false) := ⟨by simp, fun j oj _ hl => (by rw [getD_replicate_false] at hl; cases hl), fun t _ ht => getD_in (by simpa using ht) (getD_replicate_false _ _)⟩
  have H := wpAnyL_lex (md := .any) (g := l.toArray.size - n) hsel hs hc hn (l.take n) 0 _ a (fun j hj => by
    have hj' : j < n := by rw [htl] at hj; exact hj
    simp [hj']) (by simpa using htl) (inv0) (by rw [htl]; exact hlex) h
  have h2 := wpAny_of_head (Q' := Q) (g := l.toArray.size - n) (fun listed a' hL => by
    have h3 := wpAny_of_seq (md := .any) (Q' := Q) (l.drop n) n listed a' w (fun j => by simp [List.getElem?_drop]) (by rw [hdl]; exact hL.1) hL.2
    rwa [hdl] at h3) _ _ _ H
  rw [htl, show n + (l.toArray.size - n) = l.toArray.size by omega] at h2
  exact h2
theorem wpIn_round_still_tail {k m : Nat} {id : Nat} {w : World} {a : Act} {l : List Oper} (n : Nat) (hm : P.follows .mixedOrders = true) (hB : Region.lexTailB .any l.toArray n = true) (hd : noDefer l.toArray = true)
    (h : wpStill P l.toArray w.drew (fun a' => wpList P l.toArray (Exit.then (fun a w => Q .normal a w) (fun _ _ _ => False)) (l.drop n) a' w.drew) (l.take n) a) : (Code.region id l.toArray true).wpIn (Fence.wide.inRound k) m P Q a w :=
  wpIn_mono (wpIn_region_any hm (wpAnyIn_of (fun ⟨_, _, h⟩ => h) hd _ _ _ _ (wpAny_still_tail n hB h))) fun e a' w' h => by
    cases e with
    | normal => exact h
    | _ => exact h.elim
end
end Go.Proofs.YtgboboljgcfggaaGreatDoor
namespace Go.Proofs.YtgboboljgcfggaaGreatDoor
open Go.RowKit Go.Maps
theorem fe8_zero : ∀ {L : List Int}, fe8 L = 0 ↔ ∀ x ∈ L, x = 0
  | [] => by simp [fe8]
  | x :: l => by
    rw [fe8]
    by_cases h : x = 0
    · rw [if_pos h, fe8_zero]; simp [h]
    · rw [if_neg h]; simp [h]
theorem errL_zero {L : List Cod} (h : errL L = 0) : ∀ k x, L[k]? = some x → errC x = 0 ∧ x.label ∉ (L.take k).map Cod.label := by
  intro k x hx
  have hk := (List.getElem?_eq_some_iff.1 hx).1
  have h1 := fe8_zero.1 h (errK L k) (List.mem_map.2 ⟨k, List.mem_range.2 hk, rfl⟩)
  unfold errK at h1
  rw [hx] at h1
  simp only at h1
  by_cases h2 : errC x = 0
  · rw [if_neg (by simp [h2])] at h1
    refine ⟨h2, fun h3 => ?_⟩
    rw [if_pos h3] at h1
    cases h1
  · rw [if_pos h2] at h1
    exact absurd h1 h2
theorem labels_nd {L : List Cod} (h : ∀ k x, L[k]? = some x → x.label ∉ (L.take k).map Cod.label) : (L.map Cod.label).Nodup := by
  rw [List.Nodup, List.pairwise_map, List.pairwise_iff_getElem]
  intro i j hi hj hij e
  refine h j L[j] (List.getElem?_eq_getElem hj) (List.mem_map.2 ⟨L[i], ?_, e⟩)
  have : (L.take j)[i]? = some L[i] := by rw [List.getElem?_take, if_pos hij, List.getElem?_eq_getElem hi]
  exact List.mem_of_getElem? this
structure Okc (x : Cod) : Prop where
  l : lab x.label = true
  b : ∀ b ∈ x.bs, errB8 x.bs b = 0
  d : ∀ d ∈ x.ds, 1 ≤ d.id ∧ d.id ≤ 999999 ∧ plainB x.bs d.block = true
  n : (x.ds.map Dcl.id).Nodup
theorem errD_zero {bs : List Blk} {ds : List Dcl} {i : Nat} {x : Dcl} (hx : ds[i]? = some x) (h : errD bs ds i = 0) : 1 ≤ x.id ∧ x.id ≤ 999999 ∧ ordD ds x i = true ∧ plainB bs x.block = true := by
  unfold errD at h
  rw [hx] at h
  simp only at h
  split at h
  · cases h
  · rename_i h1
    split at h
    · cases h
    · rename_i h2
      split at h
      · cases h
      · split at h
        · cases h
        · rename_i h4
          exact ⟨by omega, by omega, by simpa using h2, by simpa using h4⟩
theorem asc_ids {ds : List Dcl} (h : ∀ i x, ds[i]? = some x → ordD ds x i = true) : ∀ (i j : Nat) (x y : Dcl), i < j → ds[i]? = some x → ds[j]? = some y → x.id < y.id := by
  intro i j
  induction j with
  | zero => intro x y hij; omega
  | succ j ih =>
    intro x y hij hx hy
    have hj : j < ds.length := by have := (List.getElem?_eq_some_iff.1 hy).1; omega
    have h1 := h (j + 1) y hy
    have h1 : (match ds[j]? with | some q => decide (q.id < y.id) | none => true) = true := h1
    rw [List.getElem?_eq_getElem hj] at h1
    simp only [decide_eq_true_eq] at h1
    by_cases e : i = j
    · subst e
      rw [List.getElem?_eq_getElem hj] at hx
      cases hx
      exact h1
    · have := ih x ds[j] (by omega) hx (List.getElem?_eq_getElem hj)
      omega
theorem errC_zero {x : Cod} (h : errC x = 0) : Okc x := by
  unfold errC at h
  split at h
  · cases h
  · rename_i h1
    split at h
    · rename_i h2; exact absurd h h2
    · rename_i h2
      have h2 : fe8 (x.bs.map (errB8 x.bs)) = 0 := Decidable.of_not_not h2
      have hd : ∀ i d, x.ds[i]? = some d → 1 ≤ d.id ∧ d.id ≤ 999999 ∧ ordD x.ds d i = true ∧ plainB x.bs d.block = true := fun i d hi =>
        errD_zero hi (fe8_zero.1 h _ (List.mem_map.2 ⟨i, List.mem_range.2 (List.getElem?_eq_some_iff.1 hi).1, rfl⟩))
      refine ⟨by simpa using h1, fun b hb => fe8_zero.1 h2 _ (List.mem_map.2 ⟨b, hb, rfl⟩), fun d hm => ?_, ?_⟩
      · obtain ⟨i, hi⟩ := List.getElem?_of_mem hm
        have := hd i d hi
        exact ⟨this.1, this.2.1, this.2.2.2⟩
      · have ha := asc_ids fun i d hi => (hd i d hi).2.2.1
        rw [List.Nodup, List.pairwise_map, List.pairwise_iff_getElem]
        intro i j hi hj hij e
        have := ha i j _ _ hij (List.getElem?_eq_getElem hi) (List.getElem?_eq_getElem hj)
        omega
theorem dlF_keys : ∀ (L : List Cod) (i : Nat), (dlF i L).map (·.1) = L.flatMap fun c => c.ds.map fun d => (⟨c.label, d.id⟩ : Nam)
  | [], _ => rfl
  | c :: L, i => by
    rw [dlF, List.map_append, dlF_keys L (i + 1), List.flatMap_cons, List.map_map]
    rfl
theorem dlF_nd {L : List Cod} (hl : (L.map Cod.label).Nodup) (hd : ∀ c ∈ L, (c.ds.map Dcl.id).Nodup) (i : Nat) : ((dlF i L).map (·.1)).Nodup := by
  rw [dlF_keys]
  induction L with
  | nil => simp
  | cons c L ih =>
    rw [List.map_cons, List.nodup_cons] at hl
    rw [List.flatMap_cons, List.nodup_append]
    refine ⟨?_, ih hl.2 fun c hc => hd c (by simp [hc]), ?_⟩
    · have := hd c (by simp)
      rw [List.Nodup, List.pairwise_map] at this ⊢
      exact this.imp fun h e => h (congrArg Nam.id e)
    · intro a ha b hb e
      subst e
      obtain ⟨d, _, rfl⟩ := List.mem_map.1 ha
      obtain ⟨c', hc', hb⟩ := List.mem_flatMap.1 hb
      obtain ⟨d', _, e⟩ := List.mem_map.1 hb
      exact hl.1 (List.mem_map.2 ⟨c', hc', congrArg Nam.pack e⟩)
theorem fndK_app {κ : Type} [DecidableEq κ] (k : κ) : ∀ (l m : MK κ) (j : Nat), fndK k (l ++ m) j = match fndK k l j with | some r => some r | none => fndK k m (j + l.length)
  | [], m, j => rfl
  | p :: l, m, j => by
    rw [List.cons_append, fndK, fndK]
    by_cases h : k = p.1
    · rw [if_pos h, if_pos h]
    · rw [if_neg h, if_neg h, fndK_app k l m (j + 1), List.length_cons, show j + 1 + l.length = j + (l.length + 1) from by omega]
theorem fnd_ent (c : Cod) (i : Nat) (p : T) (n : Int) : ∀ (ds : List Dcl) (j : Nat), (fndK (⟨p, n⟩ : Nam) (ds.map (ent i c)) j).map (·.2) = (if c.label = p then ds.find? (fun d => d.id == n) else none).map fun d => (Sp.v ⟨i, d.block⟩)
  | [], j => by simp [fndK]
  | d :: ds, j => by
    rw [List.map_cons, fndK]
    have ih := fnd_ent c i p n ds (j + 1)
    by_cases hl : c.label = p
    · rw [if_pos hl] at ih ⊢
      rw [List.find?_cons]
      by_cases hn : d.id = n
      · rw [if_pos (by simp [ent, hl, hn]), show (d.id == n) = true from by simpa using hn]
        rfl
      · rw [if_neg (by simp [ent, hl, Ne.symm hn]), ih, show (d.id == n) = false from by simpa using hn]
    · rw [if_neg hl] at ih ⊢
      rw [if_neg (by simp [ent, Ne.symm hl]), ih]
theorem dlF_get (p : T) (n : Int) : ∀ (L : List Cod) (i j : Nat), (fndK (⟨p, n⟩ : Nam) (dlF i L) j).map (·.2) = (findC (pls L) i p n).map Sp.v
  | [], i, j => by simp [dlF, fndK, pls, findC]
  | c :: L, i, j => by
    have h1 := fnd_ent c i p n c.ds j
    have h2 := dlF_get p n L (i + 1) (j + (c.ds.map (ent i c)).length)
    rw [dlF, fndK_app]
    have e : findC (pls (c :: L)) i p n = match (if c.label = p then c.ds.find? (fun d => d.id == n) else none) with | some d => some ⟨i, d.block⟩ | none => findC (pls L) (i + 1) p n := rfl
    rw [e]
    generalize (if c.label = p then c.ds.find? (fun d => d.id == n) else none) = q at *
    cases q with
    | some d =>
      cases hf : fndK (⟨p, n⟩ : Nam) (c.ds.map (ent i c)) j with
      | none => rw [hf] at h1; simp at h1
      | some r => rw [hf] at h1; simp at h1 ⊢; exact h1
    | none =>
      cases hf : fndK (⟨p, n⟩ : Nam) (c.ds.map (ent i c)) j with
      | none => simp only; exact h2
      | some r => rw [hf] at h1; simp at h1
theorem plainB_lt {bs : List Blk} {n : Int} (h : plainB bs n = true) : 0 ≤ n ∧ n < bs.length := by
  unfold plainB at h
  simp only [Bool.and_eq_true, decide_eq_true_eq] at h
  refine ⟨h.1, ?_⟩
  cases hb : bs[n.toNat]? with
  | none => rw [hb] at h; simp at h
  | some b => have := (List.getElem?_eq_some_iff.1 hb).1; omega
theorem closB_lt {bs : List Blk} {n : Int} (h : closB bs n = true) : 0 ≤ n ∧ n < bs.length := by
  unfold closB at h
  simp only [Bool.and_eq_true, decide_eq_true_eq] at h
  refine ⟨h.1, ?_⟩
  cases hb : bs[n.toNat]? with
  | none => rw [hb] at h; simp at h
  | some b => have := (List.getElem?_eq_some_iff.1 hb).1; omega
theorem errB8_ins {bs : List Blk} {b : Blk} (h : errB8 bs b = 0) : ∀ x ∈ b.ins, ckI8 bs b.ins.length x.op x.a x.b x.name = 0 := by
  unfold errB8 at h
  split at h
  · cases h
  · split at h
    · cases h
    · intro x hx
      exact fe8_zero.1 h _ (List.mem_map.2 ⟨x, hx, rfl⟩)
theorem errI_four {bs : List Blk} {nb : Nat} {a b : Int} {name : T} (h : ckI8 bs nb 4 a b name = 0) : 1 ≤ a ∧ a ≤ 999999 ∧ lab name = true := by
  unfold ckI8 ckB8 at h
  split at h
  · cases h
  · split at h
    · cases h
    · split at h
      · cases h
      · rename_i h3
        split at h
        · cases h
        · rename_i h4
          refine ⟨?_, ?_, ?_⟩
          · simp [inR8] at h4; omega
          · simp [inR8] at h4; omega
          · simpa using h3
theorem errI_five {bs : List Blk} {nb : Nat} {a b : Int} {name : T} (h : ckI8 bs nb 5 a b name = 0) : closB bs a = true := by
  unfold ckI8 ckB8 at h
  split at h
  · cases h
  · split at h
    · cases h
    · split at h
      · cases h
      · split at h
        · cases h
        · rename_i h4
          simpa [inR8] using h4
theorem lab_len {t : T} (h : lab t = true) : t.length ≤ 90 := by
  unfold lab at h
  simp only [Bool.and_eq_true, decide_eq_true_eq] at h
  exact h.1
theorem wf_small {a : Int} (h1 : -9999999999 ≤ a) (h2 : a ≤ 9999999999) : (Lit.int .i64 a).wf = true := by
  have e : IntKind.i64.min = -9223372036854775808 := by decide
  simp [Lit.wf, e]
  omega
structure Okl (L : List Cod) : Prop where
  c : ∀ x ∈ L, Okc x
  n : (L.map Cod.label).Nodup
theorem okl_of {L : List Cod} (h : errL L = 0) : Okl L := by
  have h1 := errL_zero h
  refine ⟨fun x hx => ?_, labels_nd fun k x hk => (h1 k x hk).2⟩
  obtain ⟨k, hk⟩ := List.getElem?_of_mem hx
  exact errC_zero (h1 k x hk).1
section
variable {L : List Cod}
theorem Okl.keys (h : Okl L) : ((dlF 0 L).map (·.1)).Nodup := dlF_nd h.n (fun c hc => (h.c c hc).n) 0
theorem Okl.get (p : T) (n : Int) : kget (dlF 0 L) ⟨p, n⟩ = (findC (pls L) 0 p n).map Sp.v := dlF_get p n L 0 0
theorem Okl.wf (h : Okl L) : ∀ x ∈ L, ∀ d ∈ x.ds, (Lit.int .i64 d.id).wf = true := fun x hx d hd => by
  obtain ⟨h1, h2, -⟩ := (h.c x hx).d d hd
  exact wf_small (by omega) (by omega)
theorem Okl.four (h : Okl L) {c : Cod} (hc : c ∈ L) {b : Blk} (hb : b ∈ c.bs) : ∀ x ∈ b.ins, x.op = 4 → (Lit.int .i64 x.a).wf = true ∧ x.name.length ≤ maxLen := fun x hx h4 => by
  have h1 := errB8_ins ((h.c c hc).b b hb) x hx
  rw [h4] at h1
  obtain ⟨h2, h3, h4⟩ := errI_four h1
  exact ⟨wf_small (by omega) (by omega), by have := lab_len h4; unfold maxLen; omega⟩
theorem Okl.cs (h : Okl L) : CsOk (pls L) := by
  refine ⟨fun c hc d hd => ?_, fun c hc b hb x hx h5 => ?_⟩
  · obtain ⟨c, hc', rfl⟩ := List.mem_map.1 hc
    have := plainB_lt ((h.c c hc').d d hd).2.2
    simpa [Cod.pl] using this
  · obtain ⟨c, hc', rfl⟩ := List.mem_map.1 hc
    obtain ⟨b, hb', rfl⟩ := List.mem_map.1 hb
    have h1 := errB8_ins ((h.c c hc').b b hb') x hx
    rw [h5] at h1
    have := closB_lt (errI_five h1)
    simpa [Cod.pl] using this
end
end Go.Proofs.YtgboboljgcfggaaGreatDoor
namespace Go.Proofs.YtgboboljgcfggaaGreatDoor
open Go.RowKit
theorem elI : EL 67 71 4 Ins.cs where
  hn _ := rfl
  h1 x u hu := by
    simp only [Ins.cs, List.mem_cons, List.not_mem_nil, or_false] at hu
    rcases hu with rfl | rfl | rfl | rfl <;> rfl
  ht := Tryz.underlying67
  hi := ⟨.agg #[iv 0, iv 0, iv 0, .string ⟨#[]⟩], 40, by kernel_rfl, rfl, by decide⟩
  h0 := by decide
attribute [local irreducible] Calls in
set_option maxRecDepth 100000 in
set_option maxHeartbeats 4000000 in
theorem clone_any (Ad : Option Addr) (cp : Nat) (L : List Ins) (w : World) (hL : RD 4 Ins.cs w Ad L) (hl : L.length ≤ 100000) :
    Calls Tryz.prog 71 #[.slice Ad L.length cp] w fun e w' => ∃ v', e = .returned v' ∧ OR 71 4 Ins.cs w' w.heap.size v' L ∧ Gr w w' := by
  obtain ⟨n, hn⟩ : ∃ n, L.length = n := ⟨_, rfl⟩
  have HN := Lib.hid hn
  have q22 : ∀ (w : World) (a : Option Addr) (n c n' c' : Nat), (binOp .eql 67 (.slice a n c) (.slice none n' c')).run Tryz.prog w = .ok (.bool a.isNone) w := fun w a n c n' c' => Lib.run_eql_slice_nil w _ _ a n c n' c' Tryz.underlying67
  cases Ad with
  | none =>
    have hnil : L = [] := by
      rcases hL with h | ⟨a, e, _⟩
      · exact h
      · cases e
    subst hnil
    clear HN hn
    go_enter Tryz.func71, Tryz.ntmps71
    go_wp2
    go_ret
    exact ⟨_, rfl, OR.nil, gr_refl _⟩
  | some a =>
    rw [hn] at hl ⊢
    have HL := Lib.hid (hL.gr (gr_al w (.cells #[] 71)))
    have HO := Lib.hid (show OR 71 4 Ins.cs (w.alloc (.cells #[] 71)) w.heap.size (.slice (some ⟨w.heap.size, 0, none⟩) 0 0) ([] : List Ins) from or_made (al_new w _) (Nat.le_refl _))
    have G1 := Lib.hid (gr_al w (.cells #[] 71))
    clear hL hn
    go_enter Tryz.func71, Tryz.ntmps71
    go_wp2_with (first | (at_builtin; refine wpList_app elI rfl (.tmp 5) (.tmp 6) rfl w.heap.size rfl HO.out (A := some a) (M := L) (m := n) (c := cp) HN.out rfl HL.out (by have := HN.out; simp; omega) (by simp) ?_; intro v7 w7 o7 g7 b7; have O7 := Lib.hid o7; have G7 := Lib.hid g7; clear o7 g7 b7))
    go_wp2
    go_ret
    exact ⟨_, rfl, O7.out, gr_own G1.out (Nat.le_refl _) G7.out⟩
end Go.Proofs.YtgboboljgcfggaaGreatDoor
namespace Go.Proofs.YtgboboljgcfggaaGreatDoor
open Go.RowKit Go.Maps Go.Shelf
def Mks (B : Nat) (W : World) : List Deferred → Prop
  | [] => True
  | d :: ds => (∃ r, d = ⟨.collected r, #[]⟩ ∧ B ≤ r ∧ W.heap[r]? = some (.deferred (some [])) ∧ ∀ d' ∈ ds, d' ≠ ⟨.collected r, #[]⟩) ∧ Mks B W ds
theorem Mks.keep {B : Nat} {W W' : World} (hk : ∀ k, B ≤ k → W.heap[k]? = some (.deferred (some [])) → W'.heap[k]? = some (.deferred (some []))) : ∀ {ds : List Deferred}, Mks B W ds → Mks B W' ds
  | [], _ => trivial
  | _ :: _, ⟨⟨r, h1, h2, h3, h4⟩, h5⟩ => ⟨⟨r, h1, h2, hk r h2 h3, h4⟩, Mks.keep hk h5⟩
theorem Mks.gr {B : Nat} {W W' : World} {ds : List Deferred} (h : Mks B W ds) (g : Gr W W') : Mks B W' ds := h.keep fun _ _ hr => gr_h g hr
theorem Mks.but {B g : Nat} {W W' : World} {ds : List Deferred} (h : Mks B W ds) (hg : W.grownBy W' (some g)) {c : Array Value} {t : TypeId} {f : Nat × Nat} (hc : W.heap[g]? = some (.cells c t f)) : Mks B W' ds := h.keep fun k _ hr => by
  by_cases e : k = g
  · subst e; rw [hc] at hr; cases hr
  · exact (hg.block k (heap_lt hr) (fun e2 => e (Option.some.inj e2))).trans hr
theorem Mks.lt {B : Nat} {W : World} : ∀ {ds : List Deferred}, Mks B W ds → ∀ r, (⟨.collected r, #[]⟩ : Deferred) ∈ ds → W.heap[r]? = some (.deferred (some []))
  | [], _, _, hr => by cases hr
  | _ :: _, ⟨⟨r, h1, h2, h3, h4⟩, h5⟩, q, hq => by
    rcases List.mem_cons.1 hq with e | e
    · rw [h1] at e
      cases e
      exact h3
    · exact Mks.lt h5 q e
theorem Mks.push {B r : Nat} {W : World} {ds : List Deferred} (h : Mks B W ds) (hB : B ≤ r) (hr : W.heap[r]? = some (.deferred (some []))) (hn : (⟨.collected r, #[]⟩ : Deferred) ∉ ds) : Mks B W (⟨.collected r, #[]⟩ :: ds) :=
  ⟨⟨r, rfl, hB, hr, fun _ hd e => hn (e ▸ hd)⟩, h⟩
structure Tk (B : Nat) (W W' : World) : Prop where
  os : W'.os = W.os
  tape : W'.tape = W.tape
  output : W'.output = W.output
  size : W'.heap.size = W.heap.size
  low : ∀ k, k < B → W'.heap[k]? = W.heap[k]?
  cells : ∀ (k : Nat) (c : Array Value) (t : TypeId) (f : Nat × Nat), W.heap[k]? = some (Obj.cells c t f) → W'.heap[k]? = some (Obj.cells c t f)
theorem leaves_mks {B n : Nat} {F : Fence} {P : Program} {fn : Func} {tmps : Array Value} {R : Ending → World → Prop} : ∀ (ds : List Deferred) (W : World), Mks B W ds → (∀ W', Tk B W W' → LeavesInM F n P fn tmps R [] .returning W') → LeavesInM F n P fn tmps R ds .returning W
  | [], W, _, k => k W ⟨rfl, rfl, rfl, rfl, fun _ _ => rfl, fun _ _ _ _ h => h⟩
  | d :: ds, W, ⟨⟨r, h1, h2, h3, h4⟩, h5⟩, k => by
    subst h1
    refine ⟨by simp, .inl ⟨r, _, rfl, run_takeDeferred h3, ?_⟩⟩
    have ho : ∀ j, j ≠ r → (W.putObj r (.deferred none)).heap[j]? = W.heap[j]? := fun j hj => World.putObj_heap_other (by omega)
    have h6 : ∀ {es : List Deferred}, (∀ d' ∈ es, d' ≠ ⟨.collected r, #[]⟩) → Mks B W es → Mks B (W.putObj r (.deferred none)) es := by
      intro es
      induction es with
      | nil => exact fun _ _ => trivial
      | cons e es ih =>
        intro hne ⟨⟨q, q1, q2, q3, q4⟩, q5⟩
        refine ⟨⟨q, q1, q2, (ho q fun e2 => hne e (by simp) (by rw [q1, e2])).trans q3, q4⟩, ih (fun d' hd => hne d' (by simp [hd])) q5⟩
    refine leaves_mks ds _ (h6 h4 h5) fun W' hT => k W' ⟨hT.os, hT.tape, hT.output, by rw [hT.size]; simp [World.putObj], fun j hj => (hT.low j hj).trans (ho j (by omega)), fun j c t f hj => hT.cells j c t f ((ho j (by rintro rfl; rw [h3] at hj; cases hj)).trans hj)⟩
def relT (K : List Sp) (l : List Ins) (pre : List Tg) : List Ins := pre.foldl (fun l y => match y.2 with | some u => l.modify y.1 (fun x => ⟨x.op, K.idxOf u, x.b, []⟩) | none => l) l
theorem relT_snoc (K : List Sp) (l : List Ins) (pre : List Tg) (j : Nat) (u : Sp) : relT K l (pre ++ [(j, some u)]) = (relT K l pre).modify j (fun x => ⟨x.op, K.idxOf u, x.b, []⟩) := by
  unfold relT
  rw [List.foldl_append]
  rfl
theorem relT_len (K : List Sp) : ∀ (pre : List Tg) (l : List Ins), (relT K l pre).length = l.length
  | [], _ => rfl
  | (j, none) :: r, l => relT_len K r l
  | (j, some u) :: r, l => by
    have h := relT_len K r (l.modify j (fun x => ⟨x.op, K.idxOf u, x.b, []⟩))
    rw [List.length_modify] at h
    exact h
theorem modify_at {α : Type} (P : List α) (x : α) (r : List α) (f : α → α) : (P ++ x :: r).modify P.length f = P ++ f x :: r := by
  rw [List.modify_eq_take_cons_drop (by simp)]
  simp
theorem relT_all {l : List PC} {K : List Sp} {s : Sp} : ∀ (r P : List Ins), (∀ x ∈ r, ∀ t, tgt l s x = some t → ∃ u, t = some u ∧ u ∈ K) → relT K (P ++ r) (trg l s P.length r) = P ++ r.map (relab l K s)
  | [], P, _ => by simp [trg, relT]
  | x :: r, P, h => by
    have ih := fun y => relT_all (l := l) (K := K) (s := s) r (P ++ [y]) (fun z hz => h z (by simp [hz]))
    simp only [List.length_append, List.length_cons, List.length_nil, Nat.zero_add, List.append_assoc, List.cons_append, List.nil_append] at ih
    rw [trg, List.map_cons]
    cases ht : tgt l s x with
    | none =>
      have e : relab l K s x = x := by unfold relab; rw [ht]
      rw [e]
      exact ih x
    | some t =>
      obtain ⟨u, rfl, hu⟩ := h x (by simp) t ht
      have e : relab l K s x = ⟨x.op, K.idxOf u, x.b, []⟩ := by unfold relab; rw [ht]
      rw [e]
      show relT K ((P ++ x :: r).modify P.length _) (trg l s (P.length + 1) r) = _
      rw [modify_at]
      exact ih _
theorem trg_mem {l : List PC} {s : Sp} : ∀ (r : List Ins) (i j : Nat) (t : Option Sp), (j, t) ∈ trg l s i r → ∃ x, r[j - i]? = some x ∧ i ≤ j ∧ tgt l s x = some t
  | [], _, _, _, h => by cases h
  | x :: r, i, j, t, h => by
    rw [trg] at h
    have step0 : (j, t) ∈ trg l s (i + 1) r → ∃ y, (x :: r)[j - i]? = some y ∧ i ≤ j ∧ tgt l s y = some t := fun h => by
      obtain ⟨y, h1, h2, h3⟩ := trg_mem r (i + 1) j t h
      refine ⟨y, ?_, by omega, h3⟩
      rw [show j - i = (j - (i + 1)) + 1 from by omega, List.getElem?_cons_succ]
      exact h1
    cases ht : tgt l s x with
    | none => rw [ht] at h; exact step0 h
    | some u =>
      rw [ht] at h
      rcases List.mem_cons.1 h with e | e
      · cases e
        exact ⟨x, by simp, Nat.le_refl _, ht⟩
      · exact step0 e
structure PgS (w : World) (kb : Nat) (L : List Cod) (K : List Sp) (i : Nat) (v1 : Value) (done : List Blk) (ds : List Deferred) (V : World) : Prop where
  gr : Gr w V
  k : V.heap[w.heap.size]? = some (.cells #[.pointer (some ⟨kb, 0, none⟩)] 104 (0, 0))
  r : V.heap[w.heap.size + 1]? = some (.cells #[.slice none 0 0, .slice none 0 0] 26 (0, 0))
  p : V.heap[w.heap.size + 2]? = some (.cells #[v1, .slice none 0 0] 26 (0, 0))
  o : OR 69 3 Blk.cs V (w.heap.size + 3) v1 done
  ins : ∀ b ∈ done, RD 4 Ins.cs V b.A b.ins ∧ b.ins.length ≤ 100000 ∧ ∀ a, b.A = some a → w.heap.size + 3 ≤ a.block ∧ a.block < V.heap.size ∧ some a.block ≠ v1.ownBlock
  e : done.map Blk.pb = (K.take i).map (blkP (pls L) K)
  mks : Mks (w.heap.size + 3) V ds
section
variable {w V V' : World} {kb : Nat} {L : List Cod} {K : List Sp} {i : Nat} {v1 : Value} {done : List Blk} {ds : List Deferred}
theorem PgS.go (h : PgS w kb L K i v1 done ds V) (g : Gr V V') : PgS w kb L K i v1 done ds V' :=
  ⟨h.gr.trans g, gr_h g h.k, gr_h g h.r, gr_h g h.p, h.o.gr g, fun b hb => ⟨(h.ins b hb).1.gr g, (h.ins b hb).2.1, fun a e => have q := (h.ins b hb).2.2 a e; ⟨q.1, Nat.lt_of_lt_of_le q.2.1 g.size, q.2.2⟩⟩, h.e, h.mks.gr g⟩
theorem PgS.c (h : PgS w kb L K i v1 done ds V) : V.cell? ⟨w.heap.size, 0, none⟩ = some (.pointer (some ⟨kb, 0, none⟩)) ∧ V.cell? ⟨w.heap.size + 2, 0, none⟩ = some v1 ∧ V.cell? ⟨w.heap.size + 2, 1, none⟩ = some (.slice none 0 0) ∧ ∀ j, V.frozen? ⟨w.heap.size + 2, j, none⟩ = false :=
  ⟨by rw [Lib.cell_of_heap h.k]; rfl, by rw [Lib.cell_of_heap h.p]; rfl, by rw [Lib.cell_of_heap h.p]; rfl, frz h.p⟩
theorem PgS.put (h : PgS w kb L K i v1 done ds V) {W W' : World} {v' : Value} {b : Blk} (g : Gr V W) (o' : OR 69 3 Blk.cs W' (w.heap.size + 3) v' (done ++ [b])) (g' : W.grownBy W' v1.ownBlock) (hv : v'.ownBlock = v1.ownBlock ∨ v'.ownBlock = some W.heap.size)
    (hb : RD 4 Ins.cs W b.A b.ins) (hbl : b.ins.length ≤ 100000) (ha : ∀ a, b.A = some a → w.heap.size + 3 ≤ a.block ∧ a.block < W.heap.size ∧ some a.block ≠ v1.ownBlock) {s : Sp} (hs : K[i]? = some s) (he : b.pb = blkP (pls L) K s) :
    PgS w kb L K (i + 1) v' (done ++ [b]) ds (W'.setCell ⟨w.heap.size + 2, 0, none⟩ v') := by
  have hW := h.go g
  have hlt := hW.o.lt
  have hk := heap_lt hW.k
  have hr := heap_lt hW.r
  have hp := heap_lt hW.p
  have own : ∀ j, v1.ownBlock = some j → w.heap.size + 3 ≤ j := fun j hj => (hlt j hj).1
  have st : ∀ j, j < W.heap.size → v1.ownBlock ≠ some j → W'.heap[j]? = W.heap[j]? := fun j hj hn => g'.block j hj (fun e => hn e.symm)
  have st2 : ∀ j, j < W.heap.size → v1.ownBlock ≠ some j → j ≠ w.heap.size + 2 → (W'.setCell ⟨w.heap.size + 2, 0, none⟩ v').heap[j]? = W.heap[j]? := fun j hj hn h2 => (Below.heap_setCell _ _ _ _ (by show j ≠ w.heap.size + 2; exact h2)).trans (st j hj hn)
  have sz : W.heap.size ≤ (W'.setCell ⟨w.heap.size + 2, 0, none⟩ v').heap.size := by have := g'.size; simpa [World.setCell] using this
  have hw : w.heap.size + 3 ≤ W.heap.size := by omega
  have lo : ∀ j, j < w.heap.size + 3 → v1.ownBlock ≠ some j := fun j hj e => by have := own j e; omega
  have rdk : ∀ (A : Option Addr) (M : List Ins), RD 4 Ins.cs W A M → (∀ a, A = some a → w.heap.size + 3 ≤ a.block ∧ some a.block ≠ v1.ownBlock) → RD 4 Ins.cs (W'.setCell ⟨w.heap.size + 2, 0, none⟩ v') A M := fun A M hR hA =>
    (hR.but g' (fun a e => (hA a e).2)).but (grown_set (w := W') (w.heap.size + 2) 0 v') (fun a e e2 => by have := (hA a e).1; have := Option.some.inj e2; omega)
  refine ⟨⟨g'.os.trans hW.gr.os, g'.tape.trans hW.gr.tape, g'.output.trans hW.gr.output, by have := hW.gr.size; omega, fun j hj hn => (st2 j (by omega) (lo j (by omega)) (by omega)).trans (hW.gr.block j hj hn)⟩, ?_, ?_, ?_, ?_, ?_, ?_, ?_⟩
  · exact (st2 _ hk (lo _ (by omega)) (by omega)).trans hW.k
  · exact (st2 _ hr (lo _ (by omega)) (by omega)).trans hW.r
  · have h1 := (st _ hp (lo _ (by omega))).trans hW.p
    simp [World.setCell, Array.getElem?_modify, h1]
  · refine o'.kept (grown_set _ _ _) ?_
    cases hq : v'.ownBlock with
    | none => exact .inl rfl
    | some j =>
      right
      intro e
      cases e
      have := (o'.lt _ hq).1
      omega
  · intro x hx
    have nov : ∀ a : Addr, a.block < W.heap.size → some a.block ≠ v1.ownBlock → some a.block ≠ v'.ownBlock := fun a h1 h2 e => by
      rcases hv with h3 | h3
      · exact h2 (e.trans h3)
      · have := Option.some.inj (e.trans h3); omega
    rcases List.mem_append.1 hx with hx | hx
    · obtain ⟨h1, h2, h3⟩ := hW.ins x hx
      refine ⟨rdk _ _ h1 (fun a e => ⟨(h3 a e).1, (h3 a e).2.2⟩), h2, fun a e => ⟨(h3 a e).1, Nat.lt_of_lt_of_le (h3 a e).2.1 sz, nov a (h3 a e).2.1 (h3 a e).2.2⟩⟩
    · simp at hx
      subst hx
      exact ⟨rdk _ _ hb (fun a e => ⟨(ha a e).1, (ha a e).2.2⟩), hbl, fun a e => ⟨(ha a e).1, Nat.lt_of_lt_of_le (ha a e).2.1 sz, nov a (ha a e).2.1 (ha a e).2.2⟩⟩
  · rw [List.map_append, h.e, List.take_add_one, hs, List.map_append]
    simp [he]
  · refine hW.mks.keep fun j hj hr => ?_
    rw [st2 j (heap_lt hr) ?_ (by omega), hr]
    intro e
    rcases hW.o.2 with ⟨e2, -⟩ | ⟨gg, cap, cur, e2, -, hh, -⟩
    · subst e2; cases e
    · subst e2
      simp only [Value.ownBlock, Option.some.injEq] at e
      subst e
      rw [hh] at hr
      cases hr
end
end Go.Proofs.YtgboboljgcfggaaGreatDoor
namespace Go.Proofs.YtgboboljgcfggaaGreatDoor
open Go.RowKit Go.Maps Go.Shelf
theorem gr_opt {w V W : World} {r : Option Nat} (g : Gr w V) (h : V.grownBy W r) (hr : ∀ j, r = some j → w.heap.size ≤ j) : Gr w W :=
  ⟨h.os.trans g.os, h.tape.trans g.tape, h.output.trans g.output, Nat.le_trans g.size h.size, fun j hj _ => (h.block j (Nat.lt_of_lt_of_le hj g.size) (fun e => by have := hr j e.symm; omega)).trans (g.block j hj (by simp))⟩
theorem or_at {α : Type} {e : TypeId} {n B : Nat} {cs : α → List Value} {W W' : World} {v : Value} {L : List α} (h : OR e n cs W B v L) (hk : ∀ j, v.ownBlock = some j → W'.heap[j]? = W.heap[j]?) : OR e n cs W' B v L := by
  obtain ⟨h0, h1⟩ := h
  refine ⟨h0, ?_⟩
  rcases h1 with h1 | ⟨g, cap, cur, rfl, hb, hh, r⟩
  · exact .inl h1
  · exact .inr ⟨g, cap, cur, rfl, hb, (hk g rfl).trans hh, r⟩
theorem but_gr {w W W' : World} {l : Nat} (g : Gr w W) (h : But l W W') (hl : w.heap.size ≤ l) : Gr w W' :=
  ⟨h.os.trans g.os, h.tape.trans g.tape, h.output.trans g.output, by rw [h.size]; exact g.size, fun k hk hn => (h.same k (by omega)).trans (g.block k hk hn)⟩
theorem flat_mod {C : List Ins} {k : Nat} (u : Int) (h : k < C.length) : ((C.flatMap Ins.cs).set (k * 4 + 1) (iv u)).set (k * 4 + 3) (tv []) = (C.modify k (fun x => ⟨x.op, u, x.b, []⟩)).flatMap Ins.cs := by
  induction C generalizing k with
  | nil => simp at h
  | cons a C ih =>
    cases k with
    | zero => simp [Ins.cs]
    | succ k =>
      have h2 := ih (k := k) (by simpa using h)
      rw [List.modify_succ_cons, List.flatMap_cons, List.flatMap_cons, ← h2]
      simp only [Ins.cs, Nat.succ_mul, List.cons_append, List.nil_append]
      rw [show k * 4 + 4 + 1 = k * 4 + 1 + 4 from by omega, show k * 4 + 4 + 3 = k * 4 + 3 + 4 from by omega]
      simp
theorem elB : EL 23 69 3 Blk.cs where
  hn _ := rfl
  h1 x u hu := by
    simp only [Blk.cs, List.mem_cons, List.not_mem_nil, or_false] at hu
    rcases hu with rfl | rfl | rfl <;> rfl
  ht := Tryz.underlying23
  hi := ⟨.agg #[iv 0, .bool false, .slice none 0 0], 40, by kernel_rfl, rfl, by decide⟩
  h0 := by decide
theorem blk_form {w : World} {B n : Nat} {v : Value} {D : List Blk} {b : Blk} (hn : D.length = n) (o : OR 69 3 Blk.cs w B v (D ++ [b])) : ∃ A c, v = .slice A (n + 1) c := by
  obtain ⟨A, c, e, -⟩ := o.form elB.hn
  exact ⟨A, c, by rw [e, List.length_append, hn]; rfl⟩
structure RgI (V6 : World) (B : Nat) (v : Value) (K : List Sp) (l0 : List Ins) (pre : List Tg) (W : World) : Prop where
  g : V6.grownBy W v.ownBlock
  o : OR 71 4 Ins.cs W B v (relT K l0 pre)
section
variable {V6 W W' : World} {B : Nat} {v : Value} {K : List Sp} {l0 : List Ins} {pre : List Tg}
theorem RgI.same (h : RgI V6 B v K l0 pre W) (hb : ∀ j, v.ownBlock = some j → j < V6.heap.size) (os : W'.os = W.os) (tp : W'.tape = W.tape) (ot : W'.output = W.output) (sz : W.heap.size ≤ W'.heap.size) (hk : ∀ k, k < V6.heap.size → W'.heap[k]? = W.heap[k]?) : RgI V6 B v K l0 pre W' :=
  ⟨⟨os.trans h.g.os, tp.trans h.g.tape, ot.trans h.g.output, Nat.le_trans h.g.size sz, fun k h1 h2 => (hk k h1).trans (h.g.block k h1 h2)⟩, or_at h.o fun j hj => hk j (hb j hj)⟩
theorem RgI.kp (h : RgI V6 B v K l0 pre W) (hb : ∀ j, v.ownBlock = some j → j < V6.heap.size) {own : Nat → Prop} (k : Kp V6.heap.size own W W') : RgI V6 B v K l0 pre W' :=
  h.same hb k.os k.tape k.output k.size fun j hj => k.same j (.inl hj)
theorem RgI.gr (h : RgI V6 B v K l0 pre W) (hb : ∀ j, v.ownBlock = some j → j < V6.heap.size) (g : Gr W W') : RgI V6 B v K l0 pre W' :=
  h.same hb g.os g.tape g.output g.size fun j hj => g.block j (Nat.lt_of_lt_of_le hj h.g.size) (by simp)
theorem RgI.but (h : RgI V6 B v K l0 pre W) (hb : ∀ j, v.ownBlock = some j → j < V6.heap.size) {l : Nat} (g : But l W W') (hl : V6.heap.size ≤ l) : RgI V6 B v K l0 pre W' :=
  h.same hb g.os g.tape g.output (by rw [g.size]; exact Nat.le_refl _) fun j hj => g.same j (by omega)
theorem RgI.old (h : RgI V6 B v K l0 pre W) {k : Nat} {o : Obj} (hk : V6.heap[k]? = some o) (hn : v.ownBlock ≠ some k) : W.heap[k]? = some o := (h.g.block k (heap_lt hk) (fun e => hn e.symm)).trans hk
theorem RgI.cells {A : Option Addr} {n c : Nat} (h : RgI V6 B (.slice A n c) K l0 pre W) (hn : l0.length = n) {j : Nat} (hj : j < n) : ∃ g, A = some ⟨g, 0, none⟩ ∧ (∃ x, W.cell? ⟨g, j * 4 + 1, none⟩ = some x) ∧ (∃ x, W.cell? ⟨g, j * 4 + 3, none⟩ = some x) ∧ ∀ i, W.frozen? ⟨g, i, none⟩ = false := by
  have hl := relT_len K pre l0
  have ho : W.ownsRow B 71 4 (.slice A n c) n ((relT K l0 pre).flatMap Ins.cs) := by have h2 := h.o; unfold OR at h2; rwa [hl, hn] at h2
  rcases ho.2 with ⟨e, h0⟩ | ⟨g, cap, cur, e, -⟩
  · omega
  · cases e
    have fl := flat_len Ins.cs 4 (fun _ => rfl) (relT K l0 pre)
    rw [hl, hn] at fl
    exact ⟨g, rfl, ⟨_, (ho.cellAt (j * 4 + 1) (by omega)).trans (List.getElem?_eq_getElem (by omega))⟩, ⟨_, (ho.cellAt (j * 4 + 3) (by omega)).trans (List.getElem?_eq_getElem (by omega))⟩, fun i => ho.frozenAt i⟩
theorem RgI.put {g n c : Nat} (h : RgI V6 B (.slice (some ⟨g, 0, none⟩) n c) K l0 pre W) (hn : l0.length = n) {j : Nat} (hj : j < n) (u : Sp) : RgI V6 B (.slice (some ⟨g, 0, none⟩) n c) K l0 (pre ++ [(j, some u)]) ((W.setCell ⟨g, j * 4 + 1, none⟩ (iv (K.idxOf u))).setCell ⟨g, j * 4 + 3, none⟩ (tv [])) := by
  have hl := relT_len K pre l0
  have ho : W.ownsRow B 71 4 (.slice (some ⟨g, 0, none⟩) n c) n ((relT K l0 pre).flatMap Ins.cs) := by have h2 := h.o; unfold OR at h2; rwa [hl, hn] at h2
  have s1 := ho.stored (j * 4 + 1) (iv (K.idxOf u))
  have s2 := s1.1.stored (j * 4 + 3) (tv [])
  refine ⟨(h.g.trans s1.2).trans s2.2, ?_⟩
  unfold OR
  rw [relT_len, hn, relT_snoc, ← flat_mod _ (by omega)]
  exact s2.1
end
end Go.Proofs.YtgboboljgcfggaaGreatDoor
namespace Go.Proofs.YtgboboljgcfggaaGreatDoor
open Go.RowKit
theorem op_callS {o : Oper} {a : Act} {w : World} {x y : Tmp} {u v : T} {r : Value} (ho : o.op = .call { callee := .value (.func 75), args := #[.tmp x, .tmp y], argTypes := #[9, 9] }) (h : a.eval (.tmp x) = tv u) (h' : a.eval (.tmp y) = tv v) (hC : Calls Tryz.prog 75 #[tv u, tv v] w fun e w'' => e = .returned r ∧ w'' = w) :
    ∃ f args, (execOp a.eval o).run Tryz.prog w = .ok (.enter f args) w ∧ Calls Tryz.prog f args w fun e w'' => e = .returned r ∧ w'' = w := by
  refine ⟨75, #[tv u, tv v], ?_, hC⟩
  unfold Act.eval at h h'
  clear hC
  obtain ⟨d, op, t, ps, af, gu⟩ := o
  simp only at ho
  subst ho
  go_simp
theorem op_callI {o : Oper} {a : Act} {w : World} {x y : Tmp} {u v : Int} {r : Value} (ho : o.op = .call { callee := .value (.func 76), args := #[.tmp x, .tmp y], argTypes := #[3, 3] }) (h : a.eval (.tmp x) = iv u) (h' : a.eval (.tmp y) = iv v) (hC : Calls Tryz.prog 76 #[iv u, iv v] w fun e w'' => e = .returned r ∧ w'' = w) :
    ∃ f args, (execOp a.eval o).run Tryz.prog w = .ok (.enter f args) w ∧ Calls Tryz.prog f args w fun e w'' => e = .returned r ∧ w'' = w := by
  refine ⟨76, #[iv u, iv v], ?_, hC⟩
  unfold Act.eval at h h'
  clear hC
  obtain ⟨d, op, t, ps, af, gu⟩ := o
  simp only at ho
  subst ho
  go_simp
theorem op_faN {o : Oper} {a : Act} {w : World} {x : Tmp} {i g f : Nat} (hd : o.dst.isSome = true) (hT : i = 0 ∨ i = 1) (ho : o.op = .fieldAddr 33 (.tmp x) i) (h : a.eval (.tmp x) = .pointer (some ⟨g, f, none⟩)) : (execOp a.eval o).run Tryz.prog w = .ok (nx o (.pointer (some ⟨g, f + i, none⟩))) w := by
  rw [nx_some hd]
  unfold Act.eval at h
  obtain ⟨d, op, t, ps, af, gu⟩ := o
  simp only at ho
  subst ho
  rcases hT with rfl | rfl <;> go_simp
set_option maxRecDepth 100000 in
set_option maxHeartbeats 2000000 in
theorem compare_any (p : T) (i : Int) (q : T) (j : Int) (w : World) : Calls Tryz.prog 54 #[.agg #[tv p, .int .i64 i], .agg #[tv q, .int .i64 j]] w fun e w' => e = .returned (.int .i64 (cN p i q j)) ∧ Below w.heap.size w w' := by
  have C1 := fun W => cmpStr_any p q W
  have C2 := fun W => cmpInt_any i j W
  have C3 := fun g W h0 h1 => or2_any (cS p q) (cI i j) g W h0 h1
  have E : Hid ((if cS p q ≠ 0 then cS p q else cI i j) = cN p i q j) := Lib.hid rfl
  rw [E.out] at C3
  generalize cN p i q j = r at *
  generalize cS p q = a at *
  generalize cI i j = b at *
  have H1 := Lib.hid C1
  have H2 := Lib.hid C2
  have H3 := Lib.hid C3
  have NN : ∀ o o', (((w.alloc o).alloc o').drew.alloc (.cells #[iv a, iv b] 3)).cell? ⟨w.heap.size + 1 + 1, 0, none⟩ = some (iv a) ∧ (((w.alloc o).alloc o').drew.alloc (.cells #[iv a, iv b] 3)).cell? ⟨w.heap.size + 1 + 1, 1, none⟩ = some (iv b) := fun o o' => by
    have h := al_new ((w.alloc o).alloc o').drew (.cells #[iv a, iv b] 3)
    rw [show ((w.alloc o).alloc o').drew.heap.size = w.heap.size + 1 + 1 by simp] at h
    exact ⟨by rw [Lib.cell_of_heap h]; rfl, by rw [Lib.cell_of_heap h]; rfl⟩
  have NN := Lib.hid NN
  have bel : ∀ o o' o'' n, Below w.heap.size w ((((w.alloc o).alloc o').drewN n).alloc o'') := fun o o' o'' n => let h := bel3 w o o' o''; ⟨h.os, h.tape, h.output, h.size, h.block⟩
  have BEL := Lib.hid bel
  clear C1 C2 C3 E bel
  go_enter Tryz.func54, Tryz.ntmps54
  go_wp2
  have k0 := al_new w (.cells #[tv p, .int .i64 i] 33)
  have k1 := al_new (w.alloc (.cells #[tv p, .int .i64 i] 33)) (.cells #[tv q, .int .i64 j] 33)
  have c0 : ((w.alloc (.cells #[tv p, .int .i64 i] 33)).alloc (.cells #[tv q, .int .i64 j] 33)).cell? ⟨w.heap.size, 0, none⟩ = some (tv p) := by rw [World.cell?_of_block (w := w.alloc (.cells #[tv p, .int .i64 i] 33)) (Below.heap_alloc _ _ _ (by simp)), Lib.cell_of_heap k0]; rfl
  have c1 : ((w.alloc (.cells #[tv p, .int .i64 i] 33)).alloc (.cells #[tv q, .int .i64 j] 33)).cell? ⟨w.heap.size, 1, none⟩ = some (iv i) := by rw [World.cell?_of_block (w := w.alloc (.cells #[tv p, .int .i64 i] 33)) (Below.heap_alloc _ _ _ (by simp)), Lib.cell_of_heap k0]; rfl
  have sz : (w.alloc (.cells #[tv p, .int .i64 i] 33)).heap.size = w.heap.size + 1 := by simp
  rw [sz] at k1
  have c2 : ((w.alloc (.cells #[tv p, .int .i64 i] 33)).alloc (.cells #[tv q, .int .i64 j] 33)).cell? ⟨w.heap.size + 1, 0, none⟩ = some (tv q) := by rw [Lib.cell_of_heap k1]; rfl
  have c3 : ((w.alloc (.cells #[tv p, .int .i64 i] 33)).alloc (.cells #[tv q, .int .i64 j] 33)).cell? ⟨w.heap.size + 1, 1, none⟩ = some (iv j) := by rw [Lib.cell_of_heap k1]; rfl
  refine wp_phaseT [false, false, false, false, false, false, false, false, false, false] [[]] [Value.pointer (some ⟨w.heap.size, 0, none⟩), tv p, Value.pointer (some ⟨w.heap.size + 1, 0, none⟩), tv q, iv a, Value.pointer (some ⟨w.heap.size, 1, none⟩), iv i, Value.pointer (some ⟨w.heap.size + 1, 1, none⟩), iv j, iv b] [_] 0 10 (by decide) (by kernel_rfl) (by kernel_rfl) (by kernel_rfl) (by kernel_rfl) rfl (by kernel_rfl) (fun _ => by kernel_rfl) (fun _ => by kernel_rfl) rfl rfl ⟨?_, ?_, ?_, ?_, ?_, ?_, ?_, ?_, ?_, ?_, trivial⟩ rfl (by kernel_rfl) ?_
  · intro kk aa hk E
    have h2 : aa.eval (.tmp 2) = Value.pointer (some ⟨w.heap.size, 0, none⟩) := (E 2 (by kernel_rfl)).trans (by kernel_rfl)
    exact obl_pure (by kernel_rfl) rfl hk fun w => op_faN rfl (.inl rfl) rfl h2
  · intro kk aa hk E
    have h5 : aa.eval (.tmp 5) = Value.pointer (some ⟨w.heap.size, 0, none⟩) := (E 5 (by kernel_rfl)).trans (by kernel_rfl)
    refine obl_read (ks := [0]) (by kernel_rfl) (by kernel_rfl) rfl hk ⟨?_, trivial⟩
    · intro w' hw; cases hw; exact op_load1 rfl (by decide) rfl h5 c0
  · intro kk aa hk E
    have h3 : aa.eval (.tmp 3) = Value.pointer (some ⟨w.heap.size + 1, 0, none⟩) := (E 3 (by kernel_rfl)).trans (by kernel_rfl)
    exact obl_pure (by kernel_rfl) rfl hk fun w => op_faN rfl (.inl rfl) rfl h3
  · intro kk aa hk E
    have h7 : aa.eval (.tmp 7) = Value.pointer (some ⟨w.heap.size + 1, 0, none⟩) := (E 7 (by kernel_rfl)).trans (by kernel_rfl)
    refine obl_read (ks := [0]) (by kernel_rfl) (by kernel_rfl) rfl hk ⟨?_, trivial⟩
    · intro w' hw; cases hw; exact op_load1 rfl (by decide) rfl h7 c2
  · intro kk aa hk E
    have h6 : aa.eval (.tmp 6) = tv p := (E 6 (by kernel_rfl)).trans (by kernel_rfl)
    have h8 : aa.eval (.tmp 8) = tv q := (E 8 (by kernel_rfl)).trans (by kernel_rfl)
    refine obl_call (ks := [0]) (by kernel_rfl) (by kernel_rfl) rfl hk ⟨?_, trivial⟩
    · intro w' hw; cases hw; exact op_callS rfl h6 h8 (H1.out _)
  · intro kk aa hk E
    have h2 : aa.eval (.tmp 2) = Value.pointer (some ⟨w.heap.size, 0, none⟩) := (E 2 (by kernel_rfl)).trans (by kernel_rfl)
    exact obl_pure (by kernel_rfl) rfl hk fun w => op_faN rfl (.inr rfl) rfl h2
  · intro kk aa hk E
    have h10 : aa.eval (.tmp 10) = Value.pointer (some ⟨w.heap.size, 1, none⟩) := (E 10 (by kernel_rfl)).trans (by kernel_rfl)
    refine obl_read (ks := [0]) (by kernel_rfl) (by kernel_rfl) rfl hk ⟨?_, trivial⟩
    · intro w' hw; cases hw; exact op_load1 rfl (by decide) rfl h10 c1
  · intro kk aa hk E
    have h3 : aa.eval (.tmp 3) = Value.pointer (some ⟨w.heap.size + 1, 0, none⟩) := (E 3 (by kernel_rfl)).trans (by kernel_rfl)
    exact obl_pure (by kernel_rfl) rfl hk fun w => op_faN rfl (.inr rfl) rfl h3
  · intro kk aa hk E
    have h12 : aa.eval (.tmp 12) = Value.pointer (some ⟨w.heap.size + 1, 1, none⟩) := (E 12 (by kernel_rfl)).trans (by kernel_rfl)
    refine obl_read (ks := [0]) (by kernel_rfl) (by kernel_rfl) rfl hk ⟨?_, trivial⟩
    · intro w' hw; cases hw; exact op_load1 rfl (by decide) rfl h12 c3
  · intro kk aa hk E
    have h11 : aa.eval (.tmp 11) = iv i := (E 11 (by kernel_rfl)).trans (by kernel_rfl)
    have h13 : aa.eval (.tmp 13) = iv j := (E 13 (by kernel_rfl)).trans (by kernel_rfl)
    refine obl_call (ks := [0]) (by kernel_rfl) (by kernel_rfl) rfl hk ⟨?_, trivial⟩
    · intro w' hw; cases hw; exact op_callI rfl h11 h13 (H2.out _)
  intro af haf
  simp only [List.take_succ_cons, List.take_zero, finA, Act.put, List.setIfInBounds_toArray, List.set_cons_succ, List.set_cons_zero] at haf
  subst haf
  simp only [List.drop_succ_cons, List.drop_zero]
  clear k0 k1 c0 c1 c2 c3 sz
  go_wp2_with (go_at_call 74; refine (H3.out _ _ (NN.out _ _).1 (NN.out _ _).2).mono ?_; rintro e w1 ⟨rfl, rfl⟩)
  go_ret
  exact ⟨rfl, BEL.out _ _ _ 1⟩
end Go.Proofs.YtgboboljgcfggaaGreatDoor
namespace Go.Proofs.YtgboboljgcfggaaGreatDoor
open Go.RowKit
theorem grow3 (w : World) (o o' o'' : Obj) : (((w.alloc o).alloc o').drewN 1).alloc o'' = Sort.grow (w.drewN 1) #[o, o', o''] := by
  rw [Sort.alloc_eq_grow, Sort.alloc_eq_grow, Sort.alloc_eq_grow]
  show Sort.grow (Sort.grow (Sort.grow (w.drewN 1) #[o]) #[o']) #[o''] = _
  rw [Sort.grow_grow, Sort.grow_grow]
  rfl
theorem op_faS {o : Oper} {a : Act} {w : World} {x : Tmp} {g f : Nat} (hd : o.dst.isSome = true) (ho : o.op = .fieldAddr 79 (.tmp x) 0) (h : a.eval (.tmp x) = .pointer (some ⟨g, f, none⟩)) : (execOp a.eval o).run Tryz.prog w = .ok (nx o (.pointer (some ⟨g, f, none⟩))) w := by
  rw [nx_some hd]
  unfold Act.eval at h
  obtain ⟨d, op, t, ps, af, gu⟩ := o
  simp only at ho
  subst ho
  go_simp
set_option maxRecDepth 100000 in
set_option maxHeartbeats 2000000 in
theorem cmpStt_any (p : T) (i u : Int) (q : T) (j v : Int) (w : World) : Calls Tryz.prog 73 #[.agg #[tv p, .int .i64 i, .int .i64 u], .agg #[tv q, .int .i64 j, .int .i64 v]] w fun e w' => e = .returned (.int .i64 (cN p i q j)) ∧ ∃ os, w' = Sort.grow (w.drewN 1) os := by
  have C1 := fun W => cmpStr_any p q W
  have C2 := fun W => cmpInt_any i j W
  have C3 := fun g W h0 h1 => or2_any (cS p q) (cI i j) g W h0 h1
  have E : Hid ((if cS p q ≠ 0 then cS p q else cI i j) = cN p i q j) := Lib.hid rfl
  rw [E.out] at C3
  generalize cN p i q j = r at *
  generalize cS p q = a at *
  generalize cI i j = b at *
  have H1 := Lib.hid C1
  have H2 := Lib.hid C2
  have H3 := Lib.hid C3
  have NN : ∀ o o', (((w.alloc o).alloc o').drew.alloc (.cells #[iv a, iv b] 3)).cell? ⟨w.heap.size + 1 + 1, 0, none⟩ = some (iv a) ∧ (((w.alloc o).alloc o').drew.alloc (.cells #[iv a, iv b] 3)).cell? ⟨w.heap.size + 1 + 1, 1, none⟩ = some (iv b) := fun o o' => by
    have h := al_new ((w.alloc o).alloc o').drew (.cells #[iv a, iv b] 3)
    rw [show ((w.alloc o).alloc o').drew.heap.size = w.heap.size + 1 + 1 by simp] at h
    exact ⟨by rw [Lib.cell_of_heap h]; rfl, by rw [Lib.cell_of_heap h]; rfl⟩
  have NN := Lib.hid NN
  clear C1 C2 C3 E
  go_enter Tryz.func73, Tryz.ntmps73
  go_wp2
  have k0 := al_new w (.cells #[tv p, .int .i64 i, .int .i64 u] 79)
  have k1 := al_new (w.alloc (.cells #[tv p, .int .i64 i, .int .i64 u] 79)) (.cells #[tv q, .int .i64 j, .int .i64 v] 79)
  have c0 : ((w.alloc (.cells #[tv p, .int .i64 i, .int .i64 u] 79)).alloc (.cells #[tv q, .int .i64 j, .int .i64 v] 79)).cell? ⟨w.heap.size, 0, none⟩ = some (tv p) := by rw [World.cell?_of_block (w := w.alloc (.cells #[tv p, .int .i64 i, .int .i64 u] 79)) (Below.heap_alloc _ _ _ (by simp)), Lib.cell_of_heap k0]; rfl
  have c1 : ((w.alloc (.cells #[tv p, .int .i64 i, .int .i64 u] 79)).alloc (.cells #[tv q, .int .i64 j, .int .i64 v] 79)).cell? ⟨w.heap.size, 1, none⟩ = some (iv i) := by rw [World.cell?_of_block (w := w.alloc (.cells #[tv p, .int .i64 i, .int .i64 u] 79)) (Below.heap_alloc _ _ _ (by simp)), Lib.cell_of_heap k0]; rfl
  have sz : (w.alloc (.cells #[tv p, .int .i64 i, .int .i64 u] 79)).heap.size = w.heap.size + 1 := by simp
  rw [sz] at k1
  have c2 : ((w.alloc (.cells #[tv p, .int .i64 i, .int .i64 u] 79)).alloc (.cells #[tv q, .int .i64 j, .int .i64 v] 79)).cell? ⟨w.heap.size + 1, 0, none⟩ = some (tv q) := by rw [Lib.cell_of_heap k1]; rfl
  have c3 : ((w.alloc (.cells #[tv p, .int .i64 i, .int .i64 u] 79)).alloc (.cells #[tv q, .int .i64 j, .int .i64 v] 79)).cell? ⟨w.heap.size + 1, 1, none⟩ = some (iv j) := by rw [Lib.cell_of_heap k1]; rfl
  refine wp_phaseT [false, false, false, false, false, false, false, false, false, false, false, false, false, false] [[]] [Value.pointer (some ⟨w.heap.size, 0, none⟩), Value.pointer (some ⟨w.heap.size, 0, none⟩), tv p, Value.pointer (some ⟨w.heap.size + 1, 0, none⟩), Value.pointer (some ⟨w.heap.size + 1, 0, none⟩), tv q, iv a, Value.pointer (some ⟨w.heap.size, 0, none⟩), Value.pointer (some ⟨w.heap.size, 1, none⟩), iv i, Value.pointer (some ⟨w.heap.size + 1, 0, none⟩), Value.pointer (some ⟨w.heap.size + 1, 1, none⟩), iv j, iv b] [_] 0 14 (by decide) (by kernel_rfl) (by kernel_rfl) (by kernel_rfl) (by kernel_rfl) rfl (by kernel_rfl) (fun _ => by kernel_rfl) (fun _ => by kernel_rfl) rfl rfl ⟨?_, ?_, ?_, ?_, ?_, ?_, ?_, ?_, ?_, ?_, ?_, ?_, ?_, ?_, trivial⟩ rfl (by kernel_rfl) ?_
  · intro kk aa hk E
    have h2 : aa.eval (.tmp 2) = Value.pointer (some ⟨w.heap.size, 0, none⟩) := (E 2 (by kernel_rfl)).trans (by kernel_rfl)
    exact obl_pure (by kernel_rfl) rfl hk fun w => op_faS rfl rfl h2
  · intro kk aa hk E
    have h5 : aa.eval (.tmp 5) = Value.pointer (some ⟨w.heap.size, 0, none⟩) := (E 5 (by kernel_rfl)).trans (by kernel_rfl)
    exact obl_pure (by kernel_rfl) rfl hk fun w => op_faN rfl (.inl rfl) rfl h5
  · intro kk aa hk E
    have h6 : aa.eval (.tmp 6) = Value.pointer (some ⟨w.heap.size, 0, none⟩) := (E 6 (by kernel_rfl)).trans (by kernel_rfl)
    refine obl_read (ks := [0]) (by kernel_rfl) (by kernel_rfl) rfl hk ⟨?_, trivial⟩
    · intro w' hw; cases hw; exact op_load1 rfl (by decide) rfl h6 c0
  · intro kk aa hk E
    have h3 : aa.eval (.tmp 3) = Value.pointer (some ⟨w.heap.size + 1, 0, none⟩) := (E 3 (by kernel_rfl)).trans (by kernel_rfl)
    exact obl_pure (by kernel_rfl) rfl hk fun w => op_faS rfl rfl h3
  · intro kk aa hk E
    have h8 : aa.eval (.tmp 8) = Value.pointer (some ⟨w.heap.size + 1, 0, none⟩) := (E 8 (by kernel_rfl)).trans (by kernel_rfl)
    exact obl_pure (by kernel_rfl) rfl hk fun w => op_faN rfl (.inl rfl) rfl h8
  · intro kk aa hk E
    have h9 : aa.eval (.tmp 9) = Value.pointer (some ⟨w.heap.size + 1, 0, none⟩) := (E 9 (by kernel_rfl)).trans (by kernel_rfl)
    refine obl_read (ks := [0]) (by kernel_rfl) (by kernel_rfl) rfl hk ⟨?_, trivial⟩
    · intro w' hw; cases hw; exact op_load1 rfl (by decide) rfl h9 c2
  · intro kk aa hk E
    have h7 : aa.eval (.tmp 7) = tv p := (E 7 (by kernel_rfl)).trans (by kernel_rfl)
    have h10 : aa.eval (.tmp 10) = tv q := (E 10 (by kernel_rfl)).trans (by kernel_rfl)
    refine obl_call (ks := [0]) (by kernel_rfl) (by kernel_rfl) rfl hk ⟨?_, trivial⟩
    · intro w' hw; cases hw; exact op_callS rfl h7 h10 (H1.out _)
  · intro kk aa hk E
    have h2 : aa.eval (.tmp 2) = Value.pointer (some ⟨w.heap.size, 0, none⟩) := (E 2 (by kernel_rfl)).trans (by kernel_rfl)
    exact obl_pure (by kernel_rfl) rfl hk fun w => op_faS rfl rfl h2
  · intro kk aa hk E
    have h12 : aa.eval (.tmp 12) = Value.pointer (some ⟨w.heap.size, 0, none⟩) := (E 12 (by kernel_rfl)).trans (by kernel_rfl)
    exact obl_pure (by kernel_rfl) rfl hk fun w => op_faN rfl (.inr rfl) rfl h12
  · intro kk aa hk E
    have h13 : aa.eval (.tmp 13) = Value.pointer (some ⟨w.heap.size, 1, none⟩) := (E 13 (by kernel_rfl)).trans (by kernel_rfl)
    refine obl_read (ks := [0]) (by kernel_rfl) (by kernel_rfl) rfl hk ⟨?_, trivial⟩
    · intro w' hw; cases hw; exact op_load1 rfl (by decide) rfl h13 c1
  · intro kk aa hk E
    have h3 : aa.eval (.tmp 3) = Value.pointer (some ⟨w.heap.size + 1, 0, none⟩) := (E 3 (by kernel_rfl)).trans (by kernel_rfl)
    exact obl_pure (by kernel_rfl) rfl hk fun w => op_faS rfl rfl h3
  · intro kk aa hk E
    have h15 : aa.eval (.tmp 15) = Value.pointer (some ⟨w.heap.size + 1, 0, none⟩) := (E 15 (by kernel_rfl)).trans (by kernel_rfl)
    exact obl_pure (by kernel_rfl) rfl hk fun w => op_faN rfl (.inr rfl) rfl h15
  · intro kk aa hk E
    have h16 : aa.eval (.tmp 16) = Value.pointer (some ⟨w.heap.size + 1, 1, none⟩) := (E 16 (by kernel_rfl)).trans (by kernel_rfl)
    refine obl_read (ks := [0]) (by kernel_rfl) (by kernel_rfl) rfl hk ⟨?_, trivial⟩
    · intro w' hw; cases hw; exact op_load1 rfl (by decide) rfl h16 c3
  · intro kk aa hk E
    have h14 : aa.eval (.tmp 14) = iv i := (E 14 (by kernel_rfl)).trans (by kernel_rfl)
    have h17 : aa.eval (.tmp 17) = iv j := (E 17 (by kernel_rfl)).trans (by kernel_rfl)
    refine obl_call (ks := [0]) (by kernel_rfl) (by kernel_rfl) rfl hk ⟨?_, trivial⟩
    · intro w' hw; cases hw; exact op_callI rfl h14 h17 (H2.out _)
  intro af haf
  simp only [List.take_succ_cons, List.take_zero, finA, Act.put, List.setIfInBounds_toArray, List.set_cons_succ, List.set_cons_zero] at haf
  subst haf
  simp only [List.drop_succ_cons, List.drop_zero]
  clear k0 k1 c0 c1 c2 c3 sz
  go_wp2_with (go_at_call 74; refine (H3.out _ _ (NN.out _ _).1 (NN.out _ _).2).mono ?_; rintro e w1 ⟨rfl, rfl⟩)
  go_ret
  exact ⟨rfl, #[Obj.cells #[tv p, .int .i64 i, .int .i64 u] 79, Obj.cells #[tv q, .int .i64 j, .int .i64 v] 79, Obj.cells #[iv a, iv b] 3], grow3 _ _ _ _⟩
end Go.Proofs.YtgboboljgcfggaaGreatDoor
namespace Go.Proofs
open Go.Shelf
def Tryz.sortS_ren : Go.Shelf.Ren := ⟨fun | 6 => 72 | 15 => 97 | 14 => 96 | 28 => 125 | 29 => 126 | 20 => 117 | 21 => 118 | 22 => 119 | 23 => 120 | 24 => 121 | 25 => 122 | 26 => 123 | 27 => 124 | 46 => 154 | 47 => 155 | 48 => 156 | 49 => 157 | 50 => 158 | 57 => 166 | n => n, fun | 22 => 24 | 24 => 79 | 25 => 155 | 3 => 3 | 39 => 181 | 0 => 0 | 53 => 211 | 55 => 42 | 4 => 4 | 46 => 205 | 45 => 204 | 50 => 148 | 5 => 5 | 9 => 9 | 66 => 221 | 70 => 225 | 76 => 230 | 77 => 231 | n => n, fun | n => n⟩
theorem Tryz.sortS : Go.Proofs.SlLaysF0.n6 Tryz.prog Tryz.sortS_ren := {
  mixed := by kernel_rfl
  f6 := ⟨Tryz.f72.name, by decide, Tryz.func72.trans (congrArg some (by kernel_rfl))⟩
  f14 := ⟨Tryz.f96.name, by decide, Tryz.func96.trans (congrArg some (by kernel_rfl))⟩
  f15 := Tryz.func97.trans (congrArg some (by kernel_rfl))
  f20 := ⟨Tryz.f117.name, by decide, Tryz.func117.trans (congrArg some (by kernel_rfl))⟩
  f21 := ⟨Tryz.f118.name, by decide, Tryz.func118.trans (congrArg some (by kernel_rfl))⟩
  f22 := ⟨Tryz.f119.name, by decide, Tryz.func119.trans (congrArg some (by kernel_rfl))⟩
  f23 := ⟨Tryz.f120.name, by decide, Tryz.func120.trans (congrArg some (by kernel_rfl))⟩
  f24 := ⟨Tryz.f121.name, by decide, Tryz.func121.trans (congrArg some (by kernel_rfl))⟩
  f25 := ⟨Tryz.f122.name, by decide, Tryz.func122.trans (congrArg some (by kernel_rfl))⟩
  f26 := ⟨Tryz.f123.name, by decide, Tryz.func123.trans (congrArg some (by kernel_rfl))⟩
  f27 := ⟨Tryz.f124.name, by decide, Tryz.func124.trans (congrArg some (by kernel_rfl))⟩
  f28 := Tryz.func125.trans (congrArg some (by kernel_rfl))
  f29 := Tryz.func126.trans (congrArg some (by kernel_rfl))
  f46 := ⟨Tryz.f154.name, by decide, Tryz.func154.trans (congrArg some (by kernel_rfl))⟩
  f47 := Tryz.func155.trans (congrArg some (by kernel_rfl))
  f48 := Tryz.func156.trans (congrArg some (by kernel_rfl))
  f49 := ⟨Tryz.f157.name, by decide, Tryz.func157.trans (congrArg some (by kernel_rfl))⟩
  f50 := ⟨Tryz.f158.name, by decide, Tryz.func158.trans (congrArg some (by kernel_rfl))⟩
  f57 := ⟨Tryz.f166.name, by decide, Tryz.func166.trans (congrArg some (by kernel_rfl))⟩
  t0 := Tryz.underlying0
  a0 := Tryz.isAgg0
  z0 := Tryz.sizeOf0
  v0 := Tryz.zeroValue0
  t3 := Tryz.underlying3
  a3 := Tryz.isAgg3
  z3 := Tryz.sizeOf3
  v3 := Tryz.zeroValue3
  t4 := Tryz.underlying4
  a4 := Tryz.isAgg4
  z4 := Tryz.sizeOf4
  v4 := Tryz.zeroValue4
  t5 := Tryz.underlying5
  a5 := Tryz.isAgg5
  z5 := Tryz.sizeOf5
  v5 := Tryz.zeroValue5
  t9 := Tryz.underlying9
  a9 := Tryz.isAgg9
  z9 := Tryz.sizeOf9
  v9 := Tryz.zeroValue9
  t22 := Tryz.underlying24
  a22 := Tryz.isAgg24
  z22 := Tryz.sizeOf24
  v22 := Tryz.zeroValue24
  t25 := Tryz.underlying155
  a25 := Tryz.isAgg155
  z25 := Tryz.sizeOf155
  v25 := Tryz.zeroValue155
  t39 := Tryz.underlying181
  a39 := Tryz.isAgg181
  z39 := Tryz.sizeOf181
  v39 := Tryz.zeroValue181
  t45 := Tryz.underlying204
  a45 := Tryz.isAgg204
  z45 := Tryz.sizeOf204
  v45 := Tryz.zeroValue204
  t46 := Tryz.underlying205
  a46 := Tryz.isAgg205
  z46 := Tryz.sizeOf205
  v46 := Tryz.zeroValue205
  t50 := Tryz.underlying148
  a50 := Tryz.isAgg148
  z50 := Tryz.sizeOf148
  v50 := Tryz.zeroValue148
  t53 := Tryz.underlying211
  a53 := Tryz.isAgg211
  z53 := Tryz.sizeOf211
  v53 := Tryz.zeroValue211
  t55 := Tryz.underlying42
  a55 := Tryz.isAgg42
  z55 := Tryz.sizeOf42
  v55 := Tryz.zeroValue42
  t66 := Tryz.underlying221
  a66 := Tryz.isAgg221
  z66 := Tryz.sizeOf221
  v66 := Tryz.zeroValue221
  t70 := Tryz.underlying225
  a70 := Tryz.isAgg225
  z70 := Tryz.sizeOf225
  v70 := Tryz.zeroValue225
  t76 := Tryz.underlying230
  a76 := Tryz.isAgg230
  z76 := Tryz.sizeOf230
  v76 := Tryz.zeroValue230
  t77 := Tryz.underlying231
  a77 := Tryz.isAgg231
  z77 := Tryz.sizeOf231
  v77 := Tryz.zeroValue231 }
end Go.Proofs
namespace Go.Proofs.YtgboboljgcfggaaGreatDoor
open Go.RowKit Go.Shelf Go.Sort
def cfS (x y : Stt) : Int := cN x.pack x.id y.pack y.id
theorem cfS_lt (x y : Stt) : ltOf cfS x y = nmLt x.pack x.id y.pack y.id := by
  have h := cN_lt x.pack x.id y.pack y.id
  unfold ltOf cfS
  cases hq : nmLt x.pack x.id y.pack y.id
  · rw [hq] at h
    simp at h ⊢
    omega
  · rw [hq] at h
    simp at h ⊢
    omega
theorem ltS_iff (x y : Stt) : ltOf cfS x y = true ↔ nlt x y := by rw [cfS_lt]; exact Iff.rfl
theorem swoS : Sort.SWO (ltOf cfS) where
  irrefl x := by
    have h := nlt_irr x
    rw [← ltS_iff] at h
    simpa using h
  trans x y z h k := by
    rw [ltS_iff] at *
    exact nlt_tr h k
  ntrans x y z h k := by
    have h1 : ¬ nlt x y := by rw [← ltS_iff, h]; simp
    have h2 : ¬ nlt y z := by rw [← ltS_iff, k]; simp
    have h3 : ¬ nlt x z := by
      intro h3
      rcases nlt_tri x y with h4 | h4 | h4
      · exact h1 h4
      · apply h2
        rw [nlt_iff] at h3 ⊢
        rw [← h4.1, ← h4.2]
        exact h3
      · exact h2 (nlt_tr h4 h3)
    rw [← ltS_iff] at h3
    simpa using h3
theorem len_any (n : Nat) (W : World) (h : n ≤ 12) : Calls Tryz.prog 97 #[.int .u64 n] W fun e w' => (∃ l : Int, e = .returned (.int .i64 l)) ∧ w' = W := by
  have h64 : Calls Tryz.prog 126 #[.int .u64 n] W fun e w' => (∃ l : Int, e = .returned (.int .i64 l)) ∧ w' = W := by
    rcases n with _ | _ | _ | _ | _ | _ | _ | _ | _ | _ | _ | _ | _ | n
    all_goals first
      | (go_enter Tryz.func126, Tryz.ntmps126
         go_wp2
         go_ret
         exact ⟨⟨_, rfl⟩, rfl⟩)
      | omega
  go_enter Tryz.func97, Tryz.ntmps97
  go_wp2_with (go_at_call 126; refine h64.mono ?_; rintro e w' ⟨⟨l, rfl⟩, rfl⟩)
  go_ret
  exact ⟨⟨_, rfl⟩, rfl⟩
instance : Inhabited Stt := ⟨⟨[], 0, 0⟩⟩
theorem flatK_list (L : List Stt) : (flatK Stt.cs 3 L.toArray).toList = L.flatMap Stt.cs := by
  apply List.ext_getElem?
  intro t
  have hs : (flatK Stt.cs 3 L.toArray).toList.length = L.length * 3 := by simp
  by_cases ht : t < L.length * 3
  · have e0 : t / 3 < L.length := by omega
    have e1 : t % 3 < 3 := Nat.mod_lt _ (by omega)
    have e2 : t / 3 * 3 + t % 3 = t := by omega
    have h1 := get_flatK Stt.cs 3 L.toArray t (by simpa using ht)
    have h2 := flat_at Stt.cs 3 (fun _ => rfl) e1 L (t / 3) (List.getElem?_eq_getElem e0)
    rw [e2] at h2
    rw [h2, Array.getElem?_toList, Array.getElem?_eq_getElem (by simpa using ht)]
    rw [getElem!_pos (flatK Stt.cs 3 L.toArray) t (by simpa using ht)] at h1
    rw [h1, getElem!_pos L.toArray (t / 3) (by simpa using e0)]
    have e3 : t % 3 < (Stt.cs L[t / 3]).length := e1
    rw [List.getElem?_eq_getElem e3]
    rw [List.getElem_toArray]
    exact congrArg some (getElem!_pos (Stt.cs L[t / 3]) (t % 3) e3)
  · rw [List.getElem?_eq_none (by rw [hs]; omega), List.getElem?_eq_none (by rw [flat_len Stt.cs 3 (fun _ => rfl)]; omega)]
theorem put_row {B g cap n : Nat} {L M : List Stt} {w : World} (o : OR 79 3 Stt.cs w B (.slice (some ⟨g, 0, none⟩) n cap) L) (hn : L.length = n) (hm : M.length = n) (q : Nat) (os : Array Obj) :
    OR 79 3 Stt.cs (sortWorldK Stt.cs 3 w g 0 q M.toArray os) B (.slice (some ⟨g, 0, none⟩) n cap) M ∧ w.grownBy (sortWorldK Stt.cs 3 w g 0 q M.toArray os) (some g) := by
  have hlt := (o.lt g rfl).2
  have gr : w.grownBy (sortWorldK Stt.cs 3 w g 0 q M.toArray os) (some g) := by
    refine ⟨rfl, rfl, rfl, ?_, fun k hk hne => ?_⟩
    · simp [sortWorldK, Sort.grow, putRowK, Sort.putRow, Sort.mapBlock, Sort.ahead]
    · rw [sortWorldK, Sort.heap_grow_old _ _ (by simpa [putRowK, Sort.putRow, Sort.mapBlock, Sort.ahead] using hk)]
      simp only [putRowK, Sort.putRow, Sort.mapBlock, Sort.ahead, Array.getElem?_modify]
      rw [if_neg (fun e => hne (by rw [e]))]
  refine ⟨?_, gr⟩
  have h2 := o
  unfold OR at h2 ⊢
  rw [hn] at h2
  rw [hm]
  obtain ⟨e0, e1⟩ := h2
  refine ⟨by rw [flat_len Stt.cs 3 (fun _ => rfl), hm], ?_⟩
  rcases e1 with ⟨e1, -⟩ | ⟨g', cap', cur, e1, hb, hh, hnc, hmx, hs, hx⟩
  · cases e1
  · simp only [Value.slice.injEq, Option.some.injEq, Addr.mk.injEq, and_true, true_and] at e1
    obtain ⟨rfl, rfl⟩ := e1
    refine .inr ⟨g, cap, Sort.putCells id 0 (flatK Stt.cs 3 M.toArray) cur, rfl, hb, ?_, hnc, hmx, by simpa [Sort.putCells] using hs, ?_⟩
    · rw [sortWorldK, Sort.heap_grow_old _ _ (by simpa [putRowK, Sort.putRow, Sort.mapBlock, Sort.ahead] using hlt)]
      simp only [putRowK, Sort.putRow, Sort.mapBlock, Sort.ahead, Array.getElem?_modify, if_true, hh, Option.map_some, Sort.onCells]
    · rw [← flatK_list]
      apply List.ext_getElem?
      intro t
      have hsz : (flatK Stt.cs 3 M.toArray).size = n * 3 := by simp [hm]
      rw [List.getElem?_take]
      by_cases ht : t < n * 3
      · rw [if_pos ht]
        have hc : t < cur.size := by omega
        rw [Array.getElem?_toList, Array.getElem?_toList, Array.getElem?_eq_getElem (by simpa [Sort.putCells] using hc), Array.getElem?_eq_getElem (by omega)]
        simp only [Sort.putCells, Array.getElem_mapIdx]
        rw [if_pos (by omega), Nat.sub_zero, getElem!_pos _ _ (by omega)]
        rfl
      · rw [if_neg ht, List.getElem?_eq_none (by simp [hm]; omega)]
theorem sort_nil (w : World) : Calls Tryz.prog 72 #[.slice none 0 0, .func (.func 73) #[] #[]] w fun e w' => e = .returned (.tuple #[]) ∧ w' = w := by
  have hi : Calls Tryz.prog 117 #[.slice none 0 0, .int .i64 0, .int .i64 0, .func (.func 73) #[] #[]] w fun e w' => e = .returned (.tuple #[]) ∧ w' = w := by
    go_enter Tryz.func117, Tryz.ntmps117
    go_wp2
    refine wp_loop_rounds 1 ?_
    rw [rounds_succ]
    go_wp2
    go_end0
    exact ⟨rfl, rfl⟩
  have hp : ∀ l : Int, Calls Tryz.prog 96 #[.slice none 0 0, .int .i64 0, .int .i64 0, .int .i64 l, .func (.func 73) #[] #[]] w fun e w' => e = .returned (.tuple #[]) ∧ w' = w := fun l => by
    go_enter Tryz.func96, Tryz.ntmps96
    go_wp2
    refine wp_loop_rounds 1 ?_
    rw [rounds_succ]
    go_wp2_with (go_at_call 117; refine hi.mono ?_; rintro e w' ⟨rfl, hw⟩; have hw := hw.symm; subst hw)
    (try simp only [Exit.inBlock, Exit.then]); refine bodyPost_ret (results_none rfl _ _ _) rfl ?_
    exact ⟨rfl, rfl⟩
  have hl := len_any 0 w (by omega)
  go_enter Tryz.func72, Tryz.ntmps72
  go_wp2_with (first | (go_at_call 97; refine hl.mono ?_; rintro e w' ⟨⟨l, rfl⟩, hw⟩; have hw := hw.symm; subst hw) | (go_at_call 96; refine (hp _).mono ?_; rintro e w' ⟨rfl, hw⟩; have hw := hw.symm; subst hw))
  go_end0
  exact ⟨rfl, rfl⟩
theorem sort_own (B : Nat) (v : Value) (L : List Stt) (w : World) (o : OR 79 3 Stt.cs w B v L) (hl : L.length ≤ 12) :
    Calls Tryz.prog 72 #[v, .func (.func 73) #[] #[]] w fun e w' => e = .returned (.tuple #[]) ∧ ∃ M : List Stt, M.Perm L ∧ M.Pairwise (fun a b => ¬ nlt b a) ∧ OR 79 3 Stt.cs w' B v M ∧ w.grownBy w' v.ownBlock := by
  rcases o.2 with ⟨rfl, h⟩ | ⟨b, cap, cur, rfl, hg, hh, hnc, hm, hs, hx⟩
  · obtain rfl := List.eq_nil_of_length_eq_zero h
    refine (sort_nil w).mono ?_
    rintro e w' ⟨rfl, rfl⟩
    exact ⟨rfl, [], .nil, .nil, OR.nil, World.grownBy.refl _ _⟩
  · have eg : ∀ args w, (callFunc 73 args).run Tryz.prog w = .ok (.enter 73 args) w := enters_of Tryz.func73 (by kernel_rfl) rfl
    have hH : HoldsK Stt.cs 3 w b 0 L.toArray := by
      intro t ht
      have ho : w.ownsRow B 79 3 (.slice (some ⟨b, 0, none⟩) L.length cap) L.length (L.flatMap Stt.cs) := o
      have ht' : t < L.length * 3 := by simpa using ht
      refine ⟨?_, by rw [Nat.zero_add]; exact ho.frozenAt t⟩
      rw [Nat.zero_add, ho.cellAt t ht', ← flatK_list, Array.getElem?_toList, Array.getElem?_eq_getElem ht, getElem!_pos (flatK Stt.cs 3 L.toArray) t ht]
      rfl
    have hcmp : CmpLays Tryz.prog 73 #[] Stt.cs 3 cfS b 0 L.toArray.size w := fun m os dk _ x y => by
      refine (cmpStt_any x.pack x.id x.block y.pack y.id y.block _).mono ?_
      rintro e w' ⟨he, os', hw⟩
      exact ⟨he, 1, os', hw⟩
    have hcon := AnyQ.slices_SortFunc_small_sorted Tryz.sortS 3 Tryz.isAgg79 Tryz.sizeOf79 Stt.cs (fun _ => rfl) (fun x u hu => by
      simp only [Stt.cs, List.mem_cons, List.not_mem_nil, or_false] at hu
      rcases hu with rfl | rfl | rfl <;> rfl) cfS 73 #[] swoS b 0 cap L.toArray w eg hcmp hH (heap_lt hh) (by simpa using hl) len_any
    change Calls Tryz.prog 72 _ _ _ at hcon
    refine (show Calls Tryz.prog 72 #[.slice (some ⟨b, 0, none⟩) L.toArray.size cap, .func (.func 73) #[] #[]] w _ from hcon).mono ?_
    rintro e w' ⟨rfl, d', n, os, ⟨hsz, -, hp⟩, hsrt, rfl⟩
    have hsz2 : d'.size = L.length := by simpa using hsz
    have e1 : d'.extract 0 L.toArray.size = d' := by rw [← hsz]; simp
    have e2 : L.toArray.extract 0 L.toArray.size = L.toArray := by simp
    rw [e1, e2] at hp
    have hpl : d'.toList.Perm L := by simpa using hp
    obtain ⟨h1, h2⟩ := put_row o rfl (M := d'.toList) (by simpa using hsz2) n os
    refine ⟨rfl, d'.toList, hpl, ?_, h1, h2⟩
    rw [List.pairwise_iff_getElem]
    intro i j hi hj hij
    have h3 := hsrt i j (Nat.zero_le _) hij (by rw [← hsz]; simpa using hj)
    rw [getElem!_pos d' j (by simpa using hj), getElem!_pos d' i (by simpa using hi)] at h3
    rw [← ltS_iff]
    simpa using h3
end Go.Proofs.YtgboboljgcfggaaGreatDoor
namespace Go.Proofs.YtgboboljgcfggaaGreatDoor
open Go.RowKit
theorem cmpS_snoc (x y : Stt) : ∀ l : List Stt, cmpS (l ++ [y, x]) = if y = x then cmpS (l ++ [y]) else cmpS (l ++ [y]) ++ [x]
  | [] => by
    simp only [List.nil_append, cmpS]
    split
    · rename_i h; subst h; rfl
    · rfl
  | [z] => by
    show cmpS [z, y, x] = if y = x then cmpS [z, y] else cmpS [z, y] ++ [x]
    by_cases h1 : z = y <;> by_cases h2 : y = x <;> simp [cmpS, h1, h2]
  | z :: u :: l => by
    have ih := cmpS_snoc x y (u :: l)
    simp only [List.cons_append] at ih ⊢
    rw [cmpS, cmpS, ih]
    by_cases h1 : z = u <;> by_cases h2 : y = x <;> simp [h1, h2]
theorem cmpS_take {L : List Stt} {k : Nat} {x y : Stt} (hx : L[k + 1]? = some x) (hy : L[k]? = some y) : cmpS (L.take (k + 1 + 1)) = if y = x then cmpS (L.take (k + 1)) else cmpS (L.take (k + 1)) ++ [x] := by
  rw [List.take_add_one (i := k + 1), List.take_add_one (i := k), hx, hy]
  have h := cmpS_snoc x y (L.take k)
  simpa using h
theorem take_one_cmp (L : List Stt) : cmpS (L.take 1) = L.take 1 := by
  cases L with
  | nil => rfl
  | cons a l => simp [cmpS]
structure CI (B g cap n : Nat) (L : List Stt) (w : World) (j kk : Nat) (V : World) : Prop where
  ex : ∃ C : List Stt, OR 79 3 Stt.cs V B (.slice (some ⟨g, 0, none⟩) n cap) C ∧ C.length = n ∧ C.take kk = cmpS (L.take j) ∧ C.drop kk = L.drop kk
  g : w.grownBy V (some g)
  lt : kk < j
  pos : 1 ≤ kk
theorem CI.at {B g cap n : Nat} {L : List Stt} {w V : World} {j kk : Nat} (h : CI B g cap n L w j kk V) {i : Nat} (hi : kk ≤ i) (hn : i < n) {x : Stt} (hx : L[i]? = some x) : V.cell? ⟨g, i * 3, none⟩ = some (.string ⟨x.pack.toArray⟩) ∧ V.cell? ⟨g, i * 3 + 1, none⟩ = some (.int .i64 x.id) ∧ V.cell? ⟨g, i * 3 + 2, none⟩ = some (.int .i64 x.block) ∧ ∀ j, V.frozen? ⟨g, j, none⟩ = false := by
  obtain ⟨C, ho, hc, -, hd⟩ := h.ex
  have hxi : C[i]? = some x := by
    have h1 := congrArg (fun l => l[i - kk]?) hd
    simp only [List.getElem?_drop, show kk + (i - kk) = i from by omega] at h1
    rw [h1, hx]
  have ho' : V.ownsRow B 79 3 (.slice (some ⟨g, 0, none⟩) n cap) n (C.flatMap Stt.cs) := by have h2 := ho; unfold OR at h2; rwa [hc] at h2
  have q : ∀ m u, m < 3 → (Stt.cs x)[m]? = some u → V.cell? ⟨g, i * 3 + m, none⟩ = some u := fun m u hm hu => by
    rw [ho'.cellAt (i * 3 + m) (by omega), flat_at Stt.cs 3 (fun _ => rfl) hm C i hxi]
    exact hu
  exact ⟨q 0 _ (by omega) rfl, q 1 _ (by omega) rfl, q 2 _ (by omega) rfl, fun m => ho'.frozenAt m⟩
theorem flat_set {C : List Stt} {k : Nat} (x : Stt) (h : k < C.length) : (((C.flatMap Stt.cs).set (k * 3) (tv x.pack)).set (k * 3 + 1) (iv x.id)).set (k * 3 + 2) (iv x.block) = (C.set k x).flatMap Stt.cs := by
  induction C generalizing k with
  | nil => simp at h
  | cons a C ih =>
    cases k with
    | zero => simp [Stt.cs]
    | succ k =>
      have h2 := ih (k := k) (by simpa using h)
      rw [List.set_cons_succ, List.flatMap_cons, List.flatMap_cons, ← h2]
      simp only [Stt.cs, Nat.succ_mul, List.cons_append, List.nil_append]
      rw [show k * 3 + 3 + 1 = k * 3 + 1 + 3 from by omega, show k * 3 + 3 + 2 = k * 3 + 2 + 3 from by omega]
      simp
theorem CI.put {B g cap n : Nat} {L : List Stt} {w V : World} {j kk : Nat} (h : CI B g cap n L w j kk V) (hj : j < n) {x : Stt} (hn : cmpS (L.take (j + 1)) = cmpS (L.take j) ++ [x]) : CI B g cap n L w (j + 1) (kk + 1) (((V.setCell ⟨g, kk * 3, none⟩ (tv x.pack)).setCell ⟨g, kk * 3 + 1, none⟩ (iv x.id)).setCell ⟨g, kk * 3 + 2, none⟩ (iv x.block)) := by
  obtain ⟨C, ho, hc, ht, hd⟩ := h.ex
  have hlt := h.lt
  have ho' : V.ownsRow B 79 3 (.slice (some ⟨g, 0, none⟩) n cap) n (C.flatMap Stt.cs) := by have h2 := ho; unfold OR at h2; rwa [hc] at h2
  have s1 := ho'.stored (kk * 3) (tv x.pack)
  have s2 := s1.1.stored (kk * 3 + 1) (iv x.id)
  have s3 := s2.1.stored (kk * 3 + 2) (iv x.block)
  refine ⟨⟨C.set kk x, ?_, by simpa using hc, ?_, ?_⟩, ((h.g.trans s1.2).trans s2.2).trans s3.2, by omega, by have := h.pos; omega⟩
  · unfold OR
    rw [List.length_set, hc, ← flat_set x (by omega)]
    exact s3.1
  · rw [hn, ← ht, List.take_add_one, List.getElem?_set_self (by omega), List.take_set_of_le (by omega)]
    rfl
  · rw [List.drop_set_of_lt (by omega)]
    have h1 := congrArg (fun l => l.drop 1) hd
    simpa only [List.drop_drop] using h1
theorem CI.skip {B g cap n : Nat} {L : List Stt} {w V : World} {j kk : Nat} (h : CI B g cap n L w j kk V) (hn : cmpS (L.take (j + 1)) = cmpS (L.take j)) : CI B g cap n L w (j + 1) kk V :=
  ⟨by rw [hn]; exact h.ex, h.g, by have := h.lt; omega, h.pos⟩
theorem CI.drewN {B g cap n : Nat} {L : List Stt} {w V : World} {j kk : Nat} (h : CI B g cap n L w j kk V) (m : Nat) : CI B g cap n L w j kk (V.drewN m) := by
  obtain ⟨C, ho, r⟩ := h.ex
  exact ⟨⟨C, ho.gr (gr_drewN _ _), r⟩, h.g.trans (World.grownBy.but (gr_drewN _ _) _), h.lt, h.pos⟩
theorem setCells_row {B g cap n : Nat} {xs : List Value} : ∀ (vs : List Value) (o : Nat) (V : World), V.ownsRow B 79 3 (.slice (some ⟨g, 0, none⟩) n cap) n xs → xs.length ≤ o → (V.setCells g o vs).ownsRow B 79 3 (.slice (some ⟨g, 0, none⟩) n cap) n xs ∧ V.grownBy (V.setCells g o vs) (some g)
  | [], o, V, h, _ => ⟨h, World.grownBy.refl _ _⟩
  | u :: vs, o, V, h, ho => by
    have s1 := h.stored o u
    rw [List.set_eq_of_length_le ho] at s1
    have s2 := setCells_row vs (o + 1) _ s1.1 (by omega)
    rw [World.setCells]
    exact ⟨s2.1, s1.2.trans s2.2⟩
theorem CI.cut {B g cap n : Nat} {L : List Stt} {w V : World} {kk : Nat} (h : CI B g cap n L w n kk V) (hl : L.length = n) (vs : List Value) : ∃ c', OR 79 3 Stt.cs (V.setCells g (kk * 3) vs) B (.slice (some ⟨g, 0, none⟩) kk cap) (cmpS L) ∧ kk = (cmpS L).length ∧ w.grownBy (V.setCells g (kk * 3) vs) (some g) ∧ c' = cap := by
  obtain ⟨C, ho, hc, ht, hd⟩ := h.ex
  have hlt := h.lt
  rw [List.take_of_length_le (Nat.le_of_eq hl)] at ht
  have hk : (cmpS L).length = kk := by rw [← ht, List.length_take]; omega
  have h2 := ho
  unfold OR at h2
  rw [hc] at h2
  have h3 : V.ownsRow B 79 3 (.slice (some ⟨g, 0, none⟩) kk cap) kk ((cmpS L).flatMap Stt.cs) := by
    obtain ⟨e0, e1⟩ := h2
    refine ⟨by rw [flat_len Stt.cs 3 (fun _ => rfl), hk], ?_⟩
    rcases e1 with ⟨e1, -⟩ | ⟨g', cap', cur, e1, hb, hh, hnc, hm, hs, hx⟩
    · cases e1
    · simp only [Value.slice.injEq, Option.some.injEq, Addr.mk.injEq, and_true, true_and] at e1
      obtain ⟨rfl, rfl⟩ := e1
      refine .inr ⟨g, cap, cur, rfl, hb, hh, by omega, hm, hs, ?_⟩
      rw [← ht]
      have e5 : cur.toList.take (kk * 3) = (cur.toList.take (n * 3)).take (kk * 3) := by rw [List.take_take, Nat.min_eq_left (by omega)]
      rw [e5, hx]
      conv => lhs; rw [← List.take_append_drop kk C]
      rw [List.flatMap_append, List.take_append_of_le_length (by rw [flat_len Stt.cs 3 (fun _ => rfl), List.length_take, hc]; omega)]
      rw [List.take_of_length_le (by rw [flat_len Stt.cs 3 (fun _ => rfl), List.length_take, hc]; omega)]
  have h4 := setCells_row vs (kk * 3) V h3 (by rw [flat_len Stt.cs 3 (fun _ => rfl), hk]; exact Nat.le_refl _)
  exact ⟨cap, by unfold OR; rw [hk]; exact h4.1, hk.symm, h.g.trans h4.2, rfl⟩
end Go.Proofs.YtgboboljgcfggaaGreatDoor
namespace Go.Proofs.YtgboboljgcfggaaGreatDoor
open Go.RowKit
theorem stt_ne {x y : Stt} (h : x ≠ y) : (x.pack == y.pack) = false ∨ ((x.pack == y.pack) = true ∧ (x.id == y.id) = false) ∨ ((x.pack == y.pack) = true ∧ (x.id == y.id) = true ∧ (x.block == y.block) = false) := by
  obtain ⟨a, b, c⟩ := x
  obtain ⟨d, e, f⟩ := y
  by_cases h1 : a = d
  · by_cases h2 : b = e
    · right; right
      refine ⟨by simpa using h1, by simpa using h2, ?_⟩
      simpa using fun h3 => h (by rw [h1, h2, h3])
    · right; left
      exact ⟨by simpa using h1, by simpa using h2⟩
  · left
    simpa using h1
def CpP (B g cap : Nat) (L : List Stt) (w : World) (e : Ending) (w' : World) : Prop := e = .returned (.slice (some ⟨g, 0, none⟩) (cmpS L).length cap) ∧ OR 79 3 Stt.cs w' B (.slice (some ⟨g, 0, none⟩) (cmpS L).length cap) (cmpS L) ∧ w.grownBy w' (some g)
theorem CpP.same {B g cap n : Nat} {L : List Stt} {w w' : World} (h : OR 79 3 Stt.cs w B (.slice (some ⟨g, 0, none⟩) n cap) L) (hn : L.length = n) (e : cmpS L = L) (hg : Gr w w') : CpP B g cap L w (.returned (.slice (some ⟨g, 0, none⟩) n cap)) w' := by
  unfold CpP
  rw [e, hn]
  exact ⟨rfl, h.gr hg, World.grownBy.but hg _⟩
theorem clear_row {B g cap n kk : Nat} {L : List Stt} {w V : World} (h : CI B g cap n L w n kk V) (hk : kk < n) (ty : TypeId) (c : Nat) : ∃ vs, (Builtin.clear_ #[24] ty #[.slice (some ⟨g, kk * 3, none⟩) (n - kk) c]).run Tryz.prog V = .ok (.tuple #[]) (V.setCells g (kk * 3) vs) := by
  obtain ⟨C, ho, hc, -, -⟩ := h.ex
  have ho' : V.ownsRow B 79 3 (.slice (some ⟨g, 0, none⟩) n cap) n (C.flatMap Stt.cs) := by have h2 := ho; unfold OR at h2; rwa [hc] at h2
  have hz : ∀ W, (zeroValue 79).run Tryz.prog W = .ok (.agg #[.string ⟨#[]⟩, iv 0, iv 0]) W := Tryz.zeroValue79
  obtain ⟨vs, hvs⟩ : ∃ vs, (Builtin.zeroCells (Value.agg #[.string ⟨#[]⟩, iv 0, iv 0]).cells (n - kk)).toList = vs := ⟨_, rfl⟩
  have hlen : vs.length = (n - kk) * 3 := by rw [← hvs]; simp [Builtin.zeroCells, Value.cells]
  have h1 : ∀ v ∈ vs, v.oneCell' = true := by
    intro v hv
    rw [← hvs] at hv
    simp [Builtin.zeroCells, Value.cells] at hv
    obtain ⟨a, _, rfl⟩ := hv
    have h3 : a % 3 < 3 := Nat.mod_lt _ (by omega)
    generalize a % 3 = q at h3
    rcases q with _ | _ | _ | q
    · rfl
    · rfl
    · rfl
    · omega
  have hst := run_storeCells_cells (P := Tryz.prog) g (kk * 3) vs 0 V (fun j hj => by
      rw [Nat.add_zero]
      rw [ho'.cellAt _ (by omega)]
      rw [List.getElem?_eq_getElem (by rw [flat_len Stt.cs 3 (fun _ => rfl), hc]; omega)]
      rfl) (fun j _ => ho'.frozenAt _) h1
  simp only [Nat.add_zero] at hst
  obtain ⟨d, hd⟩ : ∃ d, n - kk = d + 1 := ⟨n - kk - 1, by omega⟩
  refine ⟨vs, ?_⟩
  rw [hd] at hvs ⊢
  simp [Builtin.clear_, run_underlying Tryz.underlying24, hz, hvs, hst]
attribute [local irreducible] Calls in
set_option maxRecDepth 100000 in
set_option maxHeartbeats 4000000 in
theorem compact_any (B g cap n : Nat) (L : List Stt) (w : World) (o : OR 79 3 Stt.cs w B (.slice (some ⟨g, 0, none⟩) n cap) L) (hn : L.length = n) (hl : n ≤ 100000) (hc : n ≤ cap) (hcm : cap ≤ 9223372036854775807) :
    Calls Tryz.prog 77 #[.slice (some ⟨g, 0, none⟩) n cap] w (CpP B g cap L w) := by
  have HN := Lib.hid hn
  have HO := Lib.hid o
  have HR := Lib.hid (show ∀ V, Gr w V → ∀ k x, L[k]? = some x → V.cell? ⟨g, k * 3, none⟩ = some (.string ⟨x.pack.toArray⟩) ∧ V.cell? ⟨g, k * 3 + 1, none⟩ = some (.int .i64 x.id) ∧ V.cell? ⟨g, k * 3 + 2, none⟩ = some (.int .i64 x.block) from fun V gv k x h => by
    obtain ⟨A0, c0, e0, hr⟩ := OR.form (cs := Stt.cs) (n := 3) (fun _ => rfl) (o.gr gv)
    cases e0
    obtain ⟨hkl, hx⟩ := List.getElem?_eq_some_iff.1 h
    obtain ⟨a, a1, e1, e2, -, q0, q1, q2⟩ := hr.stt hkl
    cases e1
    rw [hx] at q0 q1 q2
    have ea : a1 = ⟨g, k * 3, none⟩ := by
      rw [← e2]
      by_cases h0 : k * 3 = 0
      · rw [h0]; rfl
      · rw [fld_add _ _ h0]; simp
    subst ea
    exact ⟨q0, q1, q2⟩)
  clear hn o
  by_cases h2 : n < 2
  · have hs := CpP.same (w' := w) HO.out HN.out (by
      have h3 := take_one_cmp L
      have h4 := HN.out
      rwa [List.take_of_length_le (by omega)] at h3) (gr_refl _)
    have HS := Lib.hid hs
    clear hs
    go_enter Tryz.func77, Tryz.ntmps77
    go_wp2
    go_ret
    exact HS.out
  · go_enter Tryz.func77, Tryz.ntmps77
    go_wp2
    go_loopw [3] (fun u V => ∃ k : Nat, 1 ≤ k ∧ k ≤ n ∧ u = .int .i64 k ∧ Hid (Gr w V ∧ cmpS (L.take k) = L.take k)) (fun u _ => n - (intOf u).toNat)
    case atStart => exact ⟨1, Nat.le_refl _, by omega, rfl, Lib.hid ⟨gr_refl _, take_one_cmp L⟩⟩
    case round =>
      obtain ⟨k, hk1, hk, rfl, HG⟩ := hrel
      by_cases hlt : k < n
      · obtain ⟨j, rfl⟩ : ∃ j, k = j + 1 := ⟨k - 1, by omega⟩
        obtain ⟨x, hx⟩ : ∃ x, L[j + 1]? = some x := ⟨_, List.getElem?_eq_getElem (by rw [HN.out]; exact hlt)⟩
        obtain ⟨y, hy⟩ : ∃ y, L[j]? = some y := ⟨_, List.getElem?_eq_getElem (by rw [HN.out]; omega)⟩
        obtain ⟨x0, x1, x2⟩ := HR.out _ HG.out.1 (j + 1) x hx
        obtain ⟨y0, y1, y2⟩ := HR.out _ HG.out.1 j y hy
        have HX := Lib.hid (show L[j + 1]? = some x ∧ L[j]? = some y from ⟨hx, hy⟩)
        clear hx hy
        by_cases hxy : x = y
        · subst hxy
          have HE := Lib.hid (show cmpS (L.take (j + 1 + 1)) = L.take (j + 1) from by rw [cmpS_take HX.out.1 HX.out.2, if_pos rfl, HG.out.2])
          go_upto_region 6 with (fail)
          go_quiet (fail)
          generalize hV : World.drewN wr _ = V1
          have G1 := Lib.hid (show Gr w V1 from by rw [← hV]; exact HG.out.1.trans (gr_drewN _ _))
          clear hV x0 x1 x2 y0 y1 y2
          go_wp2
          go_loopw [3, 5] (fun u v V => ∃ kk m : Nat, j + 2 + m ≤ n ∧ u = .int .i64 kk ∧ v = .int .i64 ((m + 1 : Nat) : Int) ∧ Hid (CI B g cap n L w (j + 2 + m) kk V)) (fun _ v _ => n - (intOf v).toNat)
          case atStart => exact ⟨j + 1, 0, by omega, rfl, rfl, Lib.hid ⟨⟨L, HO.out.gr G1.out, HN.out, HE.out.symm, rfl⟩, World.grownBy.but G1.out _, by omega, by omega⟩⟩
          case round =>
            obtain ⟨kk, m, hm, rfl, rfl, HC⟩ := hrel
            have hkk := HC.out.lt
            by_cases hlt2 : j + 2 + m < n
            · obtain ⟨x2, hx2⟩ : ∃ x, L[j + 2 + m]? = some x := ⟨_, List.getElem?_eq_getElem (by rw [HN.out]; exact hlt2)⟩
              obtain ⟨y2, hy2⟩ : ∃ y, L[j + 1 + m]? = some y := ⟨_, List.getElem?_eq_getElem (by rw [HN.out]; omega)⟩
              obtain ⟨p0, p1, p2, fz⟩ := HC.out.at (by omega) hlt2 hx2
              obtain ⟨q0, q1, q2, -⟩ := HC.out.at (i := j + 1 + m) (by omega) (by omega) hy2
              rw [show (j + 2 + m) * 3 = (j + 1) * 3 + (m + 1) * 3 from by omega] at p0 p1 p2
              rw [show (j + 1 + m) * 3 = (j + 1) * 3 + m * 3 from by omega] at q0 q1 q2
              obtain ⟨n2, hn2⟩ : ∃ n2, n - (j + 1) = n2 := ⟨_, rfl⟩
              have hm2 : m + 1 < n2 := by omega
              have hkn : kk < n := by omega
              obtain ⟨z, hz⟩ : ∃ z, L[kk]? = some z := ⟨_, List.getElem?_eq_getElem (by rw [HN.out]; exact hkn)⟩
              obtain ⟨r0, r1, r2, -⟩ := HC.out.at (i := kk) (by omega) hkn hz
              have f0 := fz (kk * 3)
              have f1 := fz (kk * 3 + 1)
              have f2 := fz (kk * 3 + 2)
              have TK := Lib.hid (cmpS_take (k := j + 1 + m) (by rw [show j + 1 + m + 1 = j + 2 + m from by omega]; exact hx2) hy2)
              rw [hn2]
              clear fz hx2 hy2 hz
              by_cases he : x2 = y2
              · subst he
                have CN := Lib.hid (HC.out.skip (by
                  have h := TK.out
                  rw [if_pos rfl] at h
                  rw [show j + 2 + m + 1 = j + 1 + m + 1 + 1 from by omega, show j + 2 + m = j + 1 + m + 1 from by omega]
                  exact h))
                go_upto_region 11 with (fail)
                go_quiet (fail)
                go_wp2
                exact ⟨⟨kk, m + 1, by omega, rfl, by simp, Lib.hid (CN.out.drewN _)⟩, by simp [intOf]; omega⟩
              · have CN := Lib.hid (fun e => HC.out.drewN e)
                have NE := Lib.hid (stt_ne he)
                have NX := Lib.hid (show cmpS (L.take (j + 2 + m + 1)) = cmpS (L.take (j + 2 + m)) ++ [x2] from by
                  have h := TK.out
                  rw [if_neg (fun e => he e.symm)] at h
                  rw [show j + 2 + m + 1 = j + 1 + m + 1 + 1 from by omega, show j + 2 + m = j + 1 + m + 1 from by omega]
                  exact h)
                clear he
                rcases NE.out with e1 | ⟨e1, e2⟩ | ⟨e1, e2, e3⟩
                all_goals go_upto_region 11 with (fail)
                all_goals go_quiet (fail)
                all_goals go_wp2
                all_goals exact ⟨⟨kk + 1, m + 1, by omega, by simp, by simp, Lib.hid ((CN.out _).put hlt2 NX.out)⟩, by simp [intOf]; omega⟩
            · have hjn : j + 2 + m = n := by omega
              have HC2 := Lib.hid (show CI B g cap n L w n kk wr from by rw [← hjn] at HC ⊢; exact HC.out)
              have hkn : kk < n := by omega
              obtain ⟨vs, cl⟩ := clear_row HC2.out hkn 0 (cap - kk)
              have n1 : n - (j + 1) = m + 1 := by omega
              rw [n1]
              go_wp2
              go_ret
              obtain ⟨c', h1, h2, h3, -⟩ := HC2.out.cut HN.out vs
              exact ⟨by rw [h2]; rfl, by rw [← h2]; exact h1, h3⟩
        · have NE := Lib.hid (stt_ne hxy)
          have NX := Lib.hid (show cmpS (L.take (j + 1 + 1)) = L.take (j + 1 + 1) from by rw [cmpS_take HX.out.1 HX.out.2, if_neg (fun e => hxy e.symm), HG.out.2, List.take_add_one (i := j + 1), HX.out.1]; rfl)
          clear hxy
          rcases NE.out with e1 | ⟨e1, e2⟩ | ⟨e1, e2, e3⟩
          all_goals go_upto_region 6 with (fail)
          all_goals go_quiet (fail)
          all_goals go_wp2
          all_goals exact ⟨⟨j + 1 + 1, by omega, by omega, by simp, Lib.hid ⟨HG.out.1.trans (gr_drewN _ _), NX.out⟩⟩, by simp [intOf]; omega⟩
      · obtain rfl : n = k := by omega
        have hs := CpP.same (w' := wr) HO.out HN.out (by
          have h := HG.out.2
          rwa [List.take_of_length_le (Nat.le_of_eq HN.out)] at h) HG.out.1
        have HS := Lib.hid hs
        clear hs
        go_wp2
        go_ret
        exact HS.out
theorem compact_nil (w : World) : Calls Tryz.prog 77 #[.slice none 0 0] w fun e w' => e = .returned (.slice none 0 0) ∧ w' = w := by
  go_enter Tryz.func77, Tryz.ntmps77
  go_wp2
  go_ret
  exact ⟨rfl, rfl⟩
theorem compact_own (B : Nat) (v : Value) (L : List Stt) (w : World) (o : OR 79 3 Stt.cs w B v L) (hl : L.length ≤ 100000) :
    Calls Tryz.prog 77 #[v] w fun e w' => ∃ v', e = .returned v' ∧ OR 79 3 Stt.cs w' B v' (cmpS L) ∧ w.grownBy w' v.ownBlock := by
  rcases o.2 with ⟨rfl, h⟩ | ⟨g, cap, cur, rfl, hg, hh, hnc, hm, hs, hx⟩
  · obtain rfl := List.eq_nil_of_length_eq_zero h
    refine (compact_nil w).mono ?_
    rintro e w' ⟨rfl, rfl⟩
    exact ⟨_, rfl, OR.nil, World.grownBy.refl _ _⟩
  · refine (compact_any B g cap L.length L w o rfl hl hnc (by unfold maxLen at hm; omega)).mono ?_
    rintro e w' ⟨rfl, h2, h3⟩
    exact ⟨_, rfl, h2, h3⟩
end Go.Proofs.YtgboboljgcfggaaGreatDoor
namespace Go.Proofs.YtgboboljgcfggaaGreatDoor
open Go.RowKit
theorem elT : EL 24 79 3 Stt.cs where
  hn _ := rfl
  h1 x u hu := by
    simp only [Stt.cs, List.mem_cons, List.not_mem_nil, or_false] at hu
    rcases hu with rfl | rfl | rfl <;> rfl
  ht := Tryz.underlying24
  hi := ⟨.agg #[.string ⟨#[]⟩, iv 0, iv 0], 32, by kernel_rfl, rfl, by decide⟩
  h0 := by decide
end Go.Proofs.YtgboboljgcfggaaGreatDoor
namespace Go.Proofs.YtgboboljgcfggaaGreatDoor
open Go.RowKit Go.Maps Go.Shelf
attribute [local go_sem] Oper.semAt_some
def Nam.cs (n : Nam) : List Value := [tv n.pack, iv n.id]
theorem RD.nam {w : World} {Ad : Option Addr} {L : List Nam} (h : RD 2 Nam.cs w Ad L) {k : Nat} (hk : k < L.length) : ∃ a a1 : Addr, Ad = some a ∧ a.add (k * 2) = a1 ∧ a1.block < w.heap.size ∧ w.cell? a1 = some (.string ⟨L[k].pack.toArray⟩) ∧ w.cell? ⟨a1.block, a1.off + 1, none⟩ = some (.int .i64 L[k].id) := by
  obtain ⟨a, e, hb, hc⟩ := h.at hk
  refine ⟨a, _, e, rfl, by rw [add_block]; exact hb, by simpa using hc 0 _ rfl, ?_⟩
  rw [← fld_add _ 1 (by omega), add_add']; exact hc 1 _ rfl
def rootN (L : List Cod) (K : List Sp) (n : T × Int) : Int := match findC (pls L) 0 n.1 n.2 with | some s => (K.idxOf s : Int) | none => 0
def stN (L : List Cod) (K : List Sp) (n : Nam) : Stt := stOf (rootN L K) (n.pack, n.id)
def PgP (L : List Cod) (K : List Sp) (R : List Nam) (w : World) (e : Ending) (w' : World) : Prop := ∃ X : Prg, e = .returned X.v ∧ X.Rd w' ∧ X.bs.map Blk.pb = progB (pls L) K ∧ X.ss = startsOf (rootN L K) (R.map fun n => (n.pack, n.id)) ∧ Gr w w' ∧ ∀ b ∈ X.bs, b.ins.length ≤ 100000
theorem results_prog {fn : Func} {p : Tmp} (h : fn.results = #[.cell p 26]) (tmps : Array Value) (w : World) (a : Addr) (x y : Value) (hp : tmps.getD p undef = .pointer (some a)) (h0 : w.cell? a = some x) (h1 : w.cell? ⟨a.block, a.off + 1, none⟩ = some y) : (results fn tmps).run Tryz.prog w = .ok (.agg #[x, y]) w := by
  have ha := Tryz.isAgg26
  have hz := Tryz.sizeOf26
  rw [results_cell1 h, hp]
  simp [go_sem, ha, hz, loadVar, h0, h1]
structure SgS (w V : World) (v1 v2 : Value) (ss : List Stt) (W : World) : Prop where
  g : V.grownBy W (some (w.heap.size + 2))
  p : W.heap[w.heap.size + 2]? = some (.cells #[v1, v2] 26 (0, 0))
  o : OR 79 3 Stt.cs W V.heap.size v2 ss
section
variable {w V W W' W1 W2 : World} {v1 v2 v' : Value} {ss M : List Stt}
theorem SgS.gw (h : SgS w V v1 v2 ss W) (g : Gr w V) : Gr w W := gr_own g (by omega) h.g
theorem SgS.go (h : SgS w V v1 v2 ss W) (g : Gr W W') : SgS w V v1 v2 ss W' := ⟨h.g.trans (World.grownBy.but g _), gr_h g h.p, h.o.gr g⟩
theorem SgS.c (h : SgS w V v1 v2 ss W) : W.cell? ⟨w.heap.size + 2, 0, none⟩ = some v1 ∧ W.cell? ⟨w.heap.size + 2, 1, none⟩ = some v2 ∧ ∀ j, W.frozen? ⟨w.heap.size + 2, j, none⟩ = false :=
  ⟨by rw [Lib.cell_of_heap h.p]; rfl, by rw [Lib.cell_of_heap h.p]; rfl, frz h.p⟩
theorem SgS.put (h : SgS w V v1 v2 ss W) (hV : w.heap.size + 2 < V.heap.size) (o' : OR 79 3 Stt.cs W1 V.heap.size v' M) (g' : W.grownBy W1 v2.ownBlock) : SgS w V v1 v' M (W1.setCell ⟨w.heap.size + 2, 1, none⟩ v') := by
  have own : ∀ j, v2.ownBlock = some j → V.heap.size ≤ j := fun j hj => (h.o.lt j hj).1
  have hp := heap_lt h.p
  have st : ∀ j, j < V.heap.size → W1.heap[j]? = W.heap[j]? := fun j hj => g'.block j (by have := h.g.size; omega) (fun e => by have := own j e.symm; omega)
  refine ⟨⟨g'.os.trans h.g.os, g'.tape.trans h.g.tape, g'.output.trans h.g.output, ?_, fun j hj hn => ?_⟩, ?_, ?_⟩
  · have := h.g.size
    have := g'.size
    simp only [World.setCell, Array.size_modify]
    omega
  · exact (Below.heap_setCell _ _ _ _ (by show j ≠ w.heap.size + 2; exact fun e => hn (by rw [e]))).trans ((st j hj).trans (h.g.block j hj hn))
  · have h1 := (st _ hV).trans h.p
    simp [World.setCell, Array.getElem?_modify, h1]
  · refine o'.kept (grown_set _ _ _) ?_
    cases hq : v'.ownBlock with
    | none => exact .inl rfl
    | some j => right; intro e; cases e; have := (o'.lt _ hq).1; omega
theorem SgS.row (h : SgS w V v1 v2 ss W) (hV : w.heap.size + 2 < V.heap.size) (o' : OR 79 3 Stt.cs W1 V.heap.size v2 M) (g' : W.grownBy W1 v2.ownBlock) : SgS w V v1 v2 M W1 := by
  have own : ∀ j, v2.ownBlock = some j → V.heap.size ≤ j := fun j hj => (h.o.lt j hj).1
  have st : ∀ j, j < V.heap.size → W1.heap[j]? = W.heap[j]? := fun j hj => g'.block j (by have := h.g.size; omega) (fun e => by have := own j e.symm; omega)
  exact ⟨⟨g'.os.trans h.g.os, g'.tape.trans h.g.tape, g'.output.trans h.g.output, Nat.le_trans h.g.size g'.size, fun j hj hn => (st j hj).trans (h.g.block j hj hn)⟩, (st _ hV).trans h.p, o'⟩
end
theorem stt_form {w : World} {B n : Nat} {v : Value} {D : List Stt} (hn : D.length = n) (o : OR 79 3 Stt.cs w B v D) : ∃ A c, v = .slice A n c := by
  obtain ⟨A, c, e, -⟩ := o.form elT.hn
  exact ⟨A, c, by rw [e, hn]⟩
theorem sorted_ok {L : List Cod} {K : List Sp} {R : List Nam} {M : List Stt} (hp : M.Perm (R.map (stN L K))) (hs : M.Pairwise (fun a b => ¬ nlt b a)) : cmpS M = startsOf (rootN L K) (R.map fun n => (n.pack, n.id)) := by
  refine cmpS_eq (by rw [List.map_map]; exact hp) ?_
  have hm : ∀ a ∈ M, ∃ n : Nam, a = stN L K n := fun a ha => by
    obtain ⟨n, -, e⟩ := List.mem_map.1 ((hp.mem_iff).1 ha)
    exact ⟨n, e.symm⟩
  refine (List.Pairwise.and_mem.1 hs).imp fun {a b} ⟨ha, hb, h⟩ => ?_
  obtain ⟨m, rfl⟩ := hm a ha
  obtain ⟨n, rfl⟩ := hm b hb
  rcases nlt_tri (stN L K m) (stN L K n) with h1 | h1 | h1
  · exact .inl h1
  · right
    have e1 : m.pack = n.pack := h1.1
    have e2 : m.id = n.id := h1.2
    unfold stN
    rw [e1, e2]
  · exact absurd h1 h
end Go.Proofs.YtgboboljgcfggaaGreatDoor
namespace Go.Proofs.YtgboboljgcfggaaGreatDoor
open Go.RowKit Go.Maps
theorem own_in {v v' : Value} {m M : Nat} (h : v'.ownBlock = v.ownBlock ∨ v'.ownBlock = some m) (hm : M ≤ m) : ∀ j, v'.ownBlock = some j → v.ownBlock = some j ∨ M ≤ j := fun j hj => by
  rcases h with h | h
  · exact .inl (h ▸ hj)
  · right; have := Option.some.inj (h.symm.trans hj); omega
attribute [local irreducible] Calls in
set_option maxRecDepth 100000 in
set_option maxHeartbeats 4000000 in
theorem need2_any (kb m1 m2 base : Nat) (Ad : Option Addr) (cp n : Nat) (dl : MK Nam) (K : List Sp) (v : Value) (x : Sp) (w : World) (h : LM kb m1 m2 base Ad cp n dl K v w) (hk : x.Key) (hl : K.length ≤ 100000) (hb : base ≤ w.heap.size) :
    Calls Tryz.prog 42 #[.pointer (some ⟨kb, 0, none⟩), .agg #[.int .i64 x.code, .int .i64 x.block]] w fun e w' => e = .returned (.tuple #[]) ∧ ∃ v', LM kb m1 m2 base Ad cp n dl (addS K x) v' w' ∧ NF kb m2 base v w w' ∧ ∀ j, v'.ownBlock = some j → v.ownBlock = some j ∨ w.heap.size ≤ j := by
  have GW := Lib.hid (gr_al w (.cells #[.int .i64 x.code, .int .i64 x.block] 107))
  have HX := Lib.hid (fun V (g : Gr (w.alloc (.cells #[.int .i64 x.code, .int .i64 x.block] 107)) V) => (show V.cell? ⟨w.heap.size, 0, none⟩ = some (.int .i64 x.code) ∧ V.cell? ⟨w.heap.size, 1, none⟩ = some (.int .i64 x.block) from by
    have h := gr_h g (al_new w (.cells #[.int .i64 x.code, .int .i64 x.block] 107))
    exact ⟨by rw [Lib.cell_of_heap h]; rfl, by rw [Lib.cell_of_heap h]; rfl⟩))
  have HXB := Lib.hid (al_new w (.cells #[.int .i64 x.code, .int .i64 x.block] 107))
  have H1 := Lib.hid (h.gr (gr_al w (.cells #[.int .i64 x.code, .int .i64 x.block] 107)))
  have H := Lib.hid h
  have hkb := heap_lt h.h
  obtain ⟨A1, c1, e1, -⟩ := h.o.form elS.hn
  obtain ⟨nk, hnk⟩ : ∃ m, K.length = m := ⟨_, rfl⟩
  have HNK := Lib.hid hnk
  rw [hnk] at e1 hl
  subst e1
  clear h hnk
  go_enter Tryz.func42, Tryz.ntmps42
  go_upto_region 1 with (fail)
  generalize hW1 : World.alloc w _ = W1 at *
  have HS1 := Lib.hid (show W1.heap.size = w.heap.size + 1 from by rw [← hW1]; simp)
  clear hW1
  obtain ⟨x0, x1⟩ := HX.out _ (gr_refl _)
  obtain ⟨⟨-, -, k2, k3⟩, fz⟩ := H1.out.hd
  have f3 := fz 3
  have LKK := Lib.hid (fun V (g : Gr W1 V) => show (Instr.lookup 110 (.map (some m2)) (.agg #[.int .i64 x.code, .int .i64 x.block]) true).run Tryz.prog V = .ok (.tuple #[((if x ∈ K then some (iv (K.idxOf x)) else none).getD (iv 0)), .bool (if x ∈ K then some (iv (K.idxOf x)) else none).isSome]) V from by
    have h := (lookup_k ktS (H1.out.gr g).n (H1.out.gr g).ln Tryz.underlying110 (z := iv 0) (by kernel_rfl) hk).2
    rw [numL_get] at h
    exact h)
  have HKY := Lib.hid hk
  clear hk
  by_cases hx : x ∈ K
  · simp only [if_pos hx] at LKK
    have lk0 := LKK.out _ (gr_refl W1)
    have lk1 := LKK.out _ (gr_drew W1)
    have lk2 := fun n => LKK.out _ (gr_drewN W1 n)
    have HE := Lib.hid (show addS K x = K from by unfold addS; rw [if_pos hx])
    clear hx fz
    go_quiet (fail)
    go_wp2
    go_end0
    exact ⟨rfl, _, by rw [HE.out]; exact H1.out.gr (gr_drewN _ _), NF.of (GW.out.trans (gr_drewN _ _)), fun j hj => .inl hj⟩
  · simp only [if_neg hx] at LKK
    have lk0 := LKK.out _ (gr_refl W1)
    have lk1 := LKK.out _ (gr_drew W1)
    have lk2 := fun n => LKK.out _ (gr_drewN W1 n)
    have HNX := Lib.hid hx
    clear hx fz
    go_quiet (fail)
    generalize hW2 : World.drewN W1 _ = W2
    have G2 := Lib.hid (show Gr W1 W2 from by rw [← hW2]; exact gr_drewN _ _)
    clear hW2 x0 x1 k2 k3 f3 lk0 lk1 lk2 LKK
    have H2 := Lib.hid (H1.out.gr G2.out)
    obtain ⟨x0, x1⟩ := HX.out _ G2.out
    obtain ⟨⟨-, -, k2, k3⟩, fz⟩ := H2.out.hd
    go_upto_region 3 with (fail)
    go_still_tail 10, (by kernel_rfl)
    change wpList _ _ _ _ _ W2.drew
    generalize hW3 : W2.drew = W3
    have G3 := Lib.hid (show Gr W2 W3 from by rw [← hW3]; exact gr_drew _)
    clear hW3 x0 x1 k2 k3 fz
    have H3 := Lib.hid (H2.out.gr G3.out)
    have up := (show (Instr.mapUpdate 110 (.map (some m2)) (.agg #[.int .i64 x.code, .int .i64 x.block]) (iv nk)).run Tryz.prog W3 = .ok () (setM Sp.v W3 m2 (numL K ++ [(x, iv nk)])) from update_k ktS H3.out.n H3.out.ln Tryz.underlying110 HKY.out (numL_no HNX.out) (iv nk))
    go_upto_region 4 with (fail)
    clear up
    have hlt := H3.out.lt
    have hne := H3.out.ne
    have hown := H3.out.o.lt
    have hk3 := heap_lt H3.out.h
    have HW4 := Lib.hid (show Gr (setM Sp.v W3 m2 (numL K ++ [(x, iv K.length)])) (setM Sp.v W3 m2 (numL K ++ [(x, iv nk)])) from by rw [HNK.out]; exact gr_refl _)
    have HK4 := Lib.hid (show (setM Sp.v W3 m2 (numL K ++ [(x, iv nk)])).heap[kb]? = some (.cells #[.slice Ad n cp, .map (some m1), .map (some m2), .slice A1 nk c1] 113 (0, 0)) from (setM_other hne.2.1).trans H3.out.h)
    have HX4 := Lib.hid (show (setM Sp.v W3 m2 (numL K ++ [(x, iv nk)])).heap[w.heap.size]? = some (.cells #[.int .i64 x.code, .int .i64 x.block] 107 (0, 0)) from (setM_other (by have := H.out.n.lt; omega)).trans (gr_h (G2.out.trans G3.out) HXB.out))
    have HO4 := Lib.hid (show OR 107 2 Sp.cs (setM Sp.v W3 m2 (numL K ++ [(x, iv nk)])) base (.slice A1 nk c1) K from H3.out.o.kept (grown_setM _ _ _) (by
      cases hq : (Value.slice A1 nk c1).ownBlock with
      | none => exact .inl rfl
      | some j => right; intro e2; have := (hown j hq).1; cases e2; omega))
    have HB4 := Lib.hid (show base ≤ (setM Sp.v W3 m2 (numL K ++ [(x, iv nk)])).heap.size from by rw [setM_size]; have := G3.out.size; have := G2.out.size; have := HS1.out; omega)
    have HZ4 := Lib.hid (show w.heap.size ≤ (setM Sp.v W3 m2 (numL K ++ [(x, iv nk)])).heap.size from by rw [setM_size]; have := G3.out.size; have := G2.out.size; have := HS1.out; omega)
    generalize hW4 : setM Sp.v W3 m2 (numL K ++ [(x, iv nk)]) = W4 at *
    clear hW4
    have k3 : W4.cell? ⟨kb, 3, none⟩ = some (.slice A1 nk c1) := by rw [Lib.cell_of_heap HK4.out]; rfl
    have x0 : W4.cell? ⟨w.heap.size, 0, none⟩ = some (.int .i64 x.code) := by rw [Lib.cell_of_heap HX4.out]; rfl
    have x1 : W4.cell? ⟨w.heap.size, 1, none⟩ = some (.int .i64 x.block) := by rw [Lib.cell_of_heap HX4.out]; rfl
    have k3a := gr_c (gr_al W4 (.cells #[.int .i64 x.code, .int .i64 x.block] 107)) k3
    have HOA := Lib.hid (HO4.out.alloc (.cells #[.int .i64 x.code, .int .i64 x.block] 107))
    have HBA := Lib.hid (show base ≤ (W4.alloc (.cells #[.int .i64 x.code, .int .i64 x.block] 107)).heap.size from by have := HB4.out; simp; omega)
    have HLT := Lib.hid hlt
    have HOW := Lib.hid (fun j (hj : (Value.slice A1 nk c1).ownBlock = some j) => (hown j hj).1)
    clear hne hown hk3 hlt hkb
    go_region_law (first | (refine step_app elS rfl (.tmp 31) (.tmp 33) rfl base rfl HOA.out (A := some ⟨W4.heap.size, 0, none⟩) (M := [x]) (m := 1) (c := 1) rfl rfl (rd_cells (t := 107) elS.hn (al_new _ _)) (by have := HNK.out; simp; omega) HBA.out ?_; intro v7 w7 o7 g7 b7; obtain ⟨A7, c7, rfl⟩ := app_val HNK.out o7; have O7 := Lib.hid o7; have G7 := Lib.hid g7; have B7 := Lib.hid b7; obtain ⟨q7, fz7⟩ := LM.mid HK4.out HOW.out HLT.out.1 ((gr_al _ _).trans (gr_drew _)) g7; have z7 := fz7 3; clear o7 g7 b7 fz7))
    all_goals go_wp2
    all_goals go_end0
    all_goals obtain ⟨L1, L2⟩ := H3.out.put HNX.out HKY.out (HW4.out.trans ((gr_al _ _).trans (gr_drew _))) O7.out G7.out
    all_goals exact ⟨rfl, _, L1, L2.pre (GW.out.trans (G2.out.trans G3.out)), own_in B7.out (by have := HZ4.out; simp; omega)⟩
end Go.Proofs.YtgboboljgcfggaaGreatDoor

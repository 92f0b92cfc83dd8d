/- The walks and the words of the family link, part 7: Awk, Awl, ChkF, Cnt, Gre, LkC, Ndd, Opn, PlE, Vpl. -/
import Derived.Test.YtgboboljgcfggaaDoorM6
import Derived.Deep.QuietTactic
import Derived.Test.YtgboboljgcfggaaDoorTie
import Derived.Test.YtgboboljgcfggaaDoorCards
import Derived.ProofKit
import Derived.OpenShut
import Derived.LaidMore
import Derived.Lay
import Derived.SevenTiedAt
import Derived.Stop.Joined
import Derived.Deep.Slices
import Derived.ChangeSlices
import Derived.Lib.SmallJoins
namespace Go.Proofs.YtgboboljgcfggaaDoor
open Go.RowKit Go.Maps

def exR : Ins := ⟨7, 0, 0, []⟩
def exCod (bA A1 A2 dA : Option Addr) : Cod := ⟨[109], bA, 3, [⟨0, false, A1, 2, [⟨4, 2, 0, [109]⟩, exR]⟩, ⟨0, false, A2, 2, [⟨1, 1, 0, []⟩, exR]⟩, ⟨0, false, A2, 2, [⟨1, 1, 0, []⟩, exR]⟩], dA, 3, [⟨1, 1, 0⟩, ⟨2, 1, 2⟩, ⟨3, 1, 1⟩]⟩
def exN : Nam := ⟨[109], 1⟩
theorem exV (bA A1 A2 dA : Option Addr) : linkV [exCod bA A1 A2 dA] [exN] = (0, [⟨0, false, [⟨4, 1, 0, []⟩, exR]⟩, ⟨0, false, [⟨1, 1, 0, []⟩, exR]⟩], [⟨[109], 1, 0⟩]) := by kernel_rfl
theorem results_cell3 {fn : Func} {p : Tmp} (h : fn.results = #[.cell p 49]) (tmps : Array Value) (w : World) (a : Addr) (x y z : Value) (hp : tmps.getD p undef = .pointer (some a)) (h0 : w.cell? a = some x) (h1 : w.cell? ⟨a.block, a.off + 1, none⟩ = some y) (h2 : w.cell? ⟨a.block, a.off + 2, none⟩ = some z) : (results fn tmps).run Tryd.prog w = .ok (.agg #[x, y, z]) w := by
  have ha := Tryd.isAgg49
  have hz := Tryd.sizeOf49
  rw [results_cell1 h, hp]
  simp [go_sem, ha, hz, loadVar, h0, h1, h2]
theorem al8 (w : World) (o0 o1 o2 o3 o4 o5 o6 o7 : Obj) : ((((((((w.alloc o0).alloc o1).alloc o2).alloc o3).alloc o4).alloc o5).alloc o6).alloc o7).heap[w.heap.size]? = some o0 ∧ ((((((((w.alloc o0).alloc o1).alloc o2).alloc o3).alloc o4).alloc o5).alloc o6).alloc o7).heap[w.heap.size + 2]? = some o2 ∧ ((((((((w.alloc o0).alloc o1).alloc o2).alloc o3).alloc o4).alloc o5).alloc o6).alloc o7).heap[w.heap.size + 4]? = some o4 ∧ ((((((((w.alloc o0).alloc o1).alloc o2).alloc o3).alloc o4).alloc o5).alloc o6).alloc o7).heap[w.heap.size + 6]? = some o6 ∧ ((((((((w.alloc o0).alloc o1).alloc o2).alloc o3).alloc o4).alloc o5).alloc o6).alloc o7).heap[w.heap.size + 7]? = some o7 ∧ Gr w ((((((((w.alloc o0).alloc o1).alloc o2).alloc o3).alloc o4).alloc o5).alloc o6).alloc o7) :=
  ⟨gr_h (((((((gr_al _ _).trans (gr_al _ _)).trans (gr_al _ _)).trans (gr_al _ _)).trans (gr_al _ _)).trans (gr_al _ _)).trans (gr_al _ _)) (al_at _ _ (by simp)), gr_h (((((gr_al _ _).trans (gr_al _ _)).trans (gr_al _ _)).trans (gr_al _ _)).trans (gr_al _ _)) (al_at _ _ (by simp)), gr_h (((gr_al _ _).trans (gr_al _ _)).trans (gr_al _ _)) (al_at _ _ (by simp)), gr_h (gr_al _ _) (al_at _ _ (by simp)), al_at _ _ (by simp), (((((((gr_al _ _).trans (gr_al _ _)).trans (gr_al _ _)).trans (gr_al _ _)).trans (gr_al _ _)).trans (gr_al _ _)).trans (gr_al _ _)).trans (gr_al _ _)⟩
set_option maxRecDepth 100000 in
set_option maxHeartbeats 4000000 in
theorem code_any (w : World) : Calls Tryd.prog 24 #[] w fun e w' => ∃ bA A1 A2 dA, e = .returned (exCod bA A1 A2 dA).v ∧ (exCod bA A1 A2 dA).Rd w' ∧ Gr w w' := by
  go_enter Tryd.func24, Tryd.ntmps24
  go_wp2
  have key : ∀ (W : World) (m : Nat), W.heap[m]? = some (.cells #[.string ⟨#[109]⟩, .slice (some ⟨m + 6, 0, none⟩) 3 3, .slice (some ⟨m + 7, 0, none⟩) 3 3] 49 (0, 0)) →
      W.heap[m + 2]? = some (.cells #[.int .i64 1, .int .i64 1, .int .i64 0, .string ⟨#[]⟩, .int .i64 7, .int .i64 0, .int .i64 0, .string ⟨#[]⟩] 63 (0, 0)) →
      W.heap[m + 4]? = some (.cells #[.int .i64 4, .int .i64 2, .int .i64 0, .string ⟨#[109]⟩, .int .i64 7, .int .i64 0, .int .i64 0, .string ⟨#[]⟩] 63 (0, 0)) →
      W.heap[m + 6]? = some (.cells #[.int .i64 0, .bool false, .slice (some ⟨m + 4, 0, none⟩) 2 2, .int .i64 0, .bool false, .slice (some ⟨m + 2, 0, none⟩) 2 2, .int .i64 0, .bool false, .slice (some ⟨m + 2, 0, none⟩) 2 2] 61 (0, 0)) →
      W.heap[m + 7]? = some (.cells #[.int .i64 1, .int .i64 1, .int .i64 0, .int .i64 2, .int .i64 1, .int .i64 2, .int .i64 3, .int .i64 1, .int .i64 1] 116 (0, 0)) →
      (exCod (some ⟨m + 6, 0, none⟩) (some ⟨m + 4, 0, none⟩) (some ⟨m + 2, 0, none⟩) (some ⟨m + 7, 0, none⟩)).Rd W := fun W m h0 h2 h4 h6 h7 => by
    refine ⟨rd_cells (t := 61) (fun _ => rfl) h6, fun x hx => ?_, rd_cells (t := 116) (fun _ => rfl) h7⟩
    have e2 : RD 4 Ins.cs W (some ⟨m + 2, 0, none⟩) [⟨1, 1, 0, []⟩, exR] := rd_cells (t := 63) (fun _ => rfl) h2
    have e4 : RD 4 Ins.cs W (some ⟨m + 4, 0, none⟩) [⟨4, 2, 0, [109]⟩, exR] := rd_cells (t := 63) (fun _ => rfl) h4
    change x ∈ [_, _, _] at hx
    simp only [List.mem_cons, List.not_mem_nil, or_false] at hx
    rcases hx with rfl | rfl | rfl
    · exact e4
    · exact e2
    · exact e2
  refine bodyPost_ret (results_cell3 rfl _ _ ⟨w.heap.size, 0, none⟩ (.string ⟨#[109]⟩) (.slice (some ⟨w.heap.size + 6, 0, none⟩) 3 3) (.slice (some ⟨w.heap.size + 7, 0, none⟩) 3 3) rfl (by rw [Lib.cell_of_heap (al8 w _ _ _ _ _ _ _ _).1]; rfl) (by rw [Lib.cell_of_heap (al8 w _ _ _ _ _ _ _ _).1]; rfl) (by rw [Lib.cell_of_heap (al8 w _ _ _ _ _ _ _ _).1]; rfl)) rfl ⟨_, _, _, _, rfl, key _ w.heap.size (al8 w _ _ _ _ _ _ _ _).1 (al8 w _ _ _ _ _ _ _ _).2.1 (al8 w _ _ _ _ _ _ _ _).2.2.1 (al8 w _ _ _ _ _ _ _ _).2.2.2.1 (al8 w _ _ _ _ _ _ _ _).2.2.2.2.1, (al8 w _ _ _ _ _ _ _ _).2.2.2.2.2⟩
end Go.Proofs.YtgboboljgcfggaaDoor
namespace Go.Proofs.YtgboboljgcfggaaDoor
open Go.RowKit Go.Maps

theorem ex_len (X : Prg) (h : X.bs.map Blk.pb = [⟨0, false, [⟨4, 1, 0, []⟩, exR]⟩, ⟨0, false, [⟨1, 1, 0, []⟩, exR]⟩]) (hs : X.ss = [⟨[109], 1, 0⟩]) : X.Len := by
  have hb : ∀ b ∈ X.bs, b.ins = [⟨4, 1, 0, []⟩, exR] ∨ b.ins = [⟨1, 1, 0, []⟩, exR] := fun b hb => by
    have h1 : b.pb ∈ X.bs.map Blk.pb := List.mem_map.2 ⟨b, hb, rfl⟩
    rw [h] at h1
    simp only [List.mem_cons, List.not_mem_nil, or_false] at h1
    rcases h1 with e | e
    · exact .inl (congrArg PB.ins e)
    · exact .inr (congrArg PB.ins e)
  have hl := congrArg List.length h
  simp at hl
  refine ⟨by omega, by rw [hs]; simp, fun b hb' => ?_, fun b hb' x hx => ?_, fun s hs' => ?_⟩
  · rcases hb b hb' with e | e <;> rw [e] <;> simp
  · rcases hb b hb' with e | e
    · rw [e] at hx
      simp only [List.mem_cons, List.not_mem_nil, or_false] at hx
      rcases hx with rfl | rfl <;> simp [exR]
    · rw [e] at hx
      simp only [List.mem_cons, List.not_mem_nil, or_false] at hx
      rcases hx with rfl | rfl <;> simp [exR]
  · rw [hs] at hs'
    simp only [List.mem_cons, List.not_mem_nil, or_false] at hs'
    subst hs'
    simp
theorem ex_st (X : Prg) (h : X.bs.map Blk.pb = [⟨0, false, [⟨4, 1, 0, []⟩, exR]⟩, ⟨0, false, [⟨1, 1, 0, []⟩, exR]⟩]) (hs : X.ss = [⟨[109], 1, 0⟩]) : stR X exN = (0, 0) := by
  have he : errP X = 0 := by rw [errP_pl, h, hs]; kernel_rfl
  unfold stR
  rw [if_neg (fun h => h he), hs]
  rfl
theorem ex_sp (bA A1 A2 dA : Option Addr) : (spots (pls [exCod bA A1 A2 dA])).length ≤ 100000 := by
  have h : (spots (pls [exCod bA A1 A2 dA])).length = 3 := by rfl
  omega
theorem ex_lim (bA A1 A2 dA : Option Addr) : (exCod bA A1 A2 dA).Lim ∧ (∀ b ∈ (exCod bA A1 A2 dA).bs, b.ins.length ≤ 100000) := by
  have hb : ∀ b ∈ (exCod bA A1 A2 dA).bs, b.ins = [⟨4, 2, 0, [109]⟩, exR] ∨ b.ins = [⟨1, 1, 0, []⟩, exR] := fun b hb => by
    change b ∈ [_, _, _] at hb
    simp only [List.mem_cons, List.not_mem_nil, or_false] at hb
    rcases hb with rfl | rfl | rfl
    · exact .inl rfl
    · exact .inr rfl
    · exact .inr rfl
  refine ⟨⟨by simp [exCod], by simp [exCod], by simp [exCod], fun b hb' => ?_, fun b hb' x hx => ?_⟩, fun b hb' => ?_⟩
  · rcases hb b hb' with e | e <;> rw [e] <;> simp
  · rcases hb b hb' with e | e
    · rw [e] at hx
      simp only [List.mem_cons, List.not_mem_nil, or_false] at hx
      rcases hx with rfl | rfl <;> simp [exR]
    · rw [e] at hx
      simp only [List.mem_cons, List.not_mem_nil, or_false] at hx
      rcases hx with rfl | rfl <;> simp [exR]
  · rcases hb b hb' with e | e <;> rw [e] <;> simp
attribute [local irreducible] Calls in
set_option maxRecDepth 100000 in
set_option maxHeartbeats 4000000 in
theorem awake_any (w : World) : Calls Tryd.prog 8 #[] w fun e w' => e = .returned (.bool true) ∧ Gr w w' := by
  have CC := Lib.hid (code_any w)
  have LK := Lib.hid (fun (V : World) (b1 b2 : Nat) (bA A1 A2 dA : Option Addr) (hc : CRd V (some ⟨b1, 0, none⟩) [exCod bA A1 A2 dA]) (hn : RD 2 Nam.cs V (some ⟨b2, 0, none⟩) [exN]) => show Calls Tryd.prog 9 #[.slice (some ⟨b1, 0, none⟩) 1 1, .slice (some ⟨b2, 0, none⟩) 1 1] V (fun e w' => ∃ X : Prg, e = .returned (.tuple #[X.v, iv 0]) ∧ X.Rd w' ∧ X.bs.map Blk.pb = [⟨0, false, [⟨4, 1, 0, []⟩, exR]⟩, ⟨0, false, [⟨1, 1, 0, []⟩, exR]⟩] ∧ X.ss = [⟨[109], 1, 0⟩] ∧ Gr V w') from by
    refine (link_any V _ _ 1 1 1 1 [exCod bA A1 A2 dA] [exN] hc rfl (by omega) (fun x hx => ?_) (fun x hx => ?_) (ex_sp bA A1 A2 dA) hn rfl (by omega) (fun n hn => ?_)).mono ?_
    · simp only [List.mem_cons, List.not_mem_nil, or_false] at hx; subst hx; exact (ex_lim _ _ _ _).1
    · simp only [List.mem_cons, List.not_mem_nil, or_false] at hx; subst hx; exact (ex_lim _ _ _ _).2
    · simp only [List.mem_cons, List.not_mem_nil, or_false] at hn; subst hn; exact ⟨by decide, by decide⟩
    · rintro e w' ⟨X, rfl, h1, h2, h3, h4, -⟩
      rw [exV] at h2 h3 ⊢
      exact ⟨X, rfl, h1, h2, h3, h4⟩)
  go_enter Tryd.func8, Tryd.ntmps8
  go_upto_region 1 with (fail)
  unfold Cod.v at CC
  have ST := Lib.hid (fun (V : World) (X : Prg) (hX : X.Rd V) (h : X.bs.map Blk.pb = [⟨0, false, [⟨4, 1, 0, []⟩, exR]⟩, ⟨0, false, [⟨1, 1, 0, []⟩, exR]⟩]) (hs : X.ss = [⟨[109], 1, 0⟩]) => show Calls Tryd.prog 14 #[X.v, .agg #[.string ⟨#[109]⟩, .int .i64 1]] V (fun e w' => e = .returned (.tuple #[iv 0, iv 0]) ∧ Gr V w') from by
    have h2 := start_any X exN V hX (ex_len X h hs)
    rw [ex_st X h hs] at h2
    exact h2)
  unfold Prg.v at LK ST
  go_upto_region 2 with (first
    | (go_at_call 24; refine CC.out.mono ?_; rintro e w1 ⟨bA, A1, A2, dA, rfl, c1, g1⟩; have C1 := Lib.hid c1; have G1 := Lib.hid g1; clear c1 g1)
    | (go_at_call 9; refine (LK.out _ _ _ bA A1 A2 dA ⟨rd_cells (t := 49) (fun _ => rfl) (gr_h (gr_al _ _) (al_new w1 _)), fun c hc => by simp only [List.mem_cons, List.not_mem_nil, or_false] at hc; subst hc; exact C1.out.gr ((gr_al _ _).trans (gr_al _ _))⟩ (rd_cells (t := 39) (fun _ => rfl) (al_at _ _ (by simp)))).mono ?_; rintro e w2 ⟨⟨bA2, bc2, bs2, sA2, sc2, ss2⟩, rfl, x1, x2, x3, g2⟩; have XR := Lib.hid x1; have XB := Lib.hid x2; have XS := Lib.hid x3; have G2 := Lib.hid g2; clear x1 x2 x3 g2))
  obtain ⟨nb, hnb⟩ : ∃ n, bs2.length = n := ⟨_, rfl⟩
  obtain ⟨ns, hns⟩ : ∃ n, ss2.length = n := ⟨_, rfl⟩
  have hnb2 : nb = 2 := by have h := congrArg List.length XB.out; simp at h; rw [← hnb]; exact h
  subst hnb2
  simp only [hnb, hns]
  have GX := Lib.hid (G1.out.trans (((gr_al _ _).trans (gr_al _ _)).trans (G2.out.trans (gr_al w2 (.cells #[.slice bA2 2 bc2, .slice sA2 ns sc2] 29)))))
  have XR3 := Lib.hid (XR.out.below (below_of (gr_al w2 (.cells #[.slice bA2 2 bc2, .slice sA2 ns sc2] 29))))
  have X3 := Lib.hid (al_new w2 (.cells #[.slice bA2 2 bc2, .slice sA2 ns sc2] 29))
  obtain ⟨b1, hb1⟩ : ∃ m, w2.heap.size = m := ⟨_, rfl⟩
  rw [hb1] at X3 ⊢
  generalize w2.alloc (.cells #[.slice bA2 2 bc2, .slice sA2 ns sc2] 29) = W3 at *
  have SC := Lib.hid (by have h := ST.out W3 _ XR3.out XB.out XS.out; simp only [hnb, hns] at h; exact h)
  have p0 : W3.cell? ⟨b1, 0, none⟩ = some (.slice bA2 2 bc2) := by rw [Lib.cell_of_heap X3.out]; rfl
  have p1 : W3.cell? ⟨b1, 1, none⟩ = some (.slice sA2 ns sc2) := by rw [Lib.cell_of_heap X3.out]; rfl
  have HNB := Lib.hid hnb
  clear ST LK CC hnb hns hb1 XR G1 G2 C1
  go_upto_region 3 with (go_at_call 14; refine SC.out.mono ?_; rintro e W4 ⟨rfl, g4⟩; have G4 := Lib.hid g4; clear g4)
  have p0 := gr_c G4.out p0
  obtain ⟨x0, x1, hbs⟩ : ∃ x0 x1, bs2 = [x0, x1] := by
    match bs2, HNB.out with
    | [x0, x1], _ => exact ⟨x0, x1, rfl⟩
  subst hbs
  have hx0 : x0.ins = [⟨4, 1, 0, []⟩, exR] := by have h := XB.out; simp only [List.map_cons, List.map_nil, List.cons.injEq] at h; exact congrArg PB.ins h.1
  obtain ⟨a, a1, eA, ha, -, -, -, y2⟩ := (XR3.out.b.gr G4.out).blk (k := 0) (by simp)
  have hir : RD 4 Ins.cs W4 x0.A x0.ins := (XR3.out.i x0 (by simp)).gr G4.out
  obtain ⟨d, d1, eD, hd, -, z0, z1, z2, z3⟩ := hir.ins (k := 0) (by rw [hx0]; simp)
  simp only [hx0] at z0 z1 z2 z3
  simp only [List.getElem_cons_zero] at y2 z0 z1 z2 z3
  rw [hx0, eD] at y2
  have eA' : bA2 = some a := eA
  rw [eA'] at p0
  go_wp2
  go_ret
  exact ⟨rfl, GX.out.trans G4.out⟩
end Go.Proofs.YtgboboljgcfggaaDoor
namespace Go.Proofs.YtgboboljgcfggaaDoor
open Go.RowKit

set_option maxRecDepth 100000 in
set_option maxHeartbeats 8000000 in
theorem rcheck_any (p : Prg) (w : World) (hp : p.Rd w) (hb : p.bs.length ≤ 9223372036854775807) (hs : p.ss.length ≤ 9223372036854775807) (hi : ∀ b ∈ p.bs, b.ins.length ≤ 9223372036854775807) (hnp : ∀ s ∈ p.ss, s.pack.length ≤ 9223372036854775807) :
    Calls Tryd.prog 35 #[p.v] w fun e w' => e = .returned (.int .i64 (errP p)) ∧ Below w.heap.size w w' := by
  unfold Prg.v
  obtain ⟨W, hW⟩ : ∃ W, W = w.alloc (.cells #[.slice p.bA p.bs.length p.bc, .slice p.sA p.ss.length p.sc] 29) := ⟨_, rfl⟩
  have hB0 : Below w.heap.size w W := by rw [hW]; exact (Below.refl _ _).alloc (Nat.le_refl _) _
  have hbx : W.heap[w.heap.size]? = some (.cells #[.slice p.bA p.bs.length p.bc, .slice p.sA p.ss.length p.sc] 29 (0, 0)) := by rw [hW]; exact al_new w _
  have ALL := Lib.hid (fun (V : World) (h : Below W.heap.size W V) => show p.Rd V ∧ V.cell? ⟨w.heap.size, 0, none⟩ = some (.slice p.bA p.bs.length p.bc) ∧ V.cell? ⟨w.heap.size, 1, none⟩ = some (.slice p.sA p.ss.length p.sc) from by
    have hk := (h.block _ (heap_lt hbx)).trans hbx
    exact ⟨(hp.below hB0).below h, by rw [Lib.cell_of_heap hk]; rfl, by rw [Lib.cell_of_heap hk]; rfl⟩)
  obtain ⟨-, x0, x1⟩ := ALL.out W (Below.refl _ _)
  have HB0 := Lib.hid hB0
  have HW := Lib.hid hW
  clear hW hB0 hbx hp
  go_enter Tryd.func35, Tryd.ntmps35
  go_wp2
  rw [← HW.out]
  go_loopw [3, 4] (fun c i wr => ∃ k : Nat, k ≤ p.bs.length ∧ i = .int .i64 k ∧ c = .int .i64 (cntW (p.bs.take k)) ∧ Hid (Below W.heap.size W wr)) (fun _ i _ => p.bs.length - (intOf i).toNat)
  case atStart => exact ⟨0, Nat.zero_le _, rfl, rfl, Lib.hid (Below.refl _ _)⟩
  case round =>
    obtain ⟨k, hk, rfl, rfl, HB⟩ := hrel
    by_cases hlt : k < p.bs.length
    · obtain ⟨hpr, y0, y1⟩ := ALL.out wr HB.out
      obtain ⟨a, a1, hA, ha, hab, c0, c1, c2⟩ := hpr.b.blk hlt
      have hcs := cntW_succ hlt
      have HCS := Lib.hid hcs
      rw [hA] at y0
      clear hcs hpr x0 x1 hA
      go_wp2
      exact ⟨⟨k + 1, by omega, by simp, by rw [HCS.out], HB⟩, by simp [intOf]; omega⟩
    · obtain rfl : k = p.bs.length := by omega
      rw [List.take_length]
      obtain ⟨hpr, y0, y1⟩ := ALL.out wr HB.out
      have HB1 := Lib.hid (HB0.out.trans (HB.out.mono HB0.out.size))
      by_cases h4 : 2000 < p.bs.length ∨ 20000 < cntW p.bs
      · have hE : Hid (errP p = 4) := Lib.hid (by unfold errP; rw [if_pos h4])
        clear hpr x0 x1
        by_cases h5 : 2000 < p.bs.length
        · have z1 : (2000 : Int) < (p.bs.length : Int) := by omega
          go_wp2
          go_ret
          exact ⟨by rw [hE.out]; rfl, HB1.out⟩
        · have z1 : ¬ (2000 : Int) < (p.bs.length : Int) := by omega
          have z2 : 20000 < cntW p.bs := h4.resolve_left h5
          go_wp2
          go_ret
          exact ⟨by rw [hE.out]; rfl, HB1.out⟩
      · have z1 : ¬ (2000 : Int) < (p.bs.length : Int) := by omega
        have z2 : ¬ 20000 < cntW p.bs := fun h => h4 (.inr h)
        have hE : Hid (errP p = if fe (p.bs.map (errB p.bs)) ≠ 0 then fe (p.bs.map (errB p.bs)) else fe ((List.range p.ss.length).map (errS p.bs p.ss))) := Lib.hid (by unfold errP; rw [if_neg h4])
        clear hpr x0 x1 HB1 h4
        have FB := Lib.hid (Nat.le_refl 0)
        go_wp2
        go_loopw [5, 6, 7, 8] (fun i _ _ _ wr => ∃ k : Nat, k ≤ p.bs.length ∧ i = .int .i64 k ∧ Hid (Below W.heap.size W wr) ∧ Hid (fe ((p.bs.map (errB p.bs)).take k) = 0)) (fun i _ _ _ _ => p.bs.length - (intOf i).toNat)
        case atStart => exact ⟨0, Nat.zero_le _, rfl, HB, Lib.hid rfl⟩
        case round =>
          clear HB
          obtain ⟨k, hk, rfl, HB, HF⟩ := hrel
          by_cases hlt : k < p.bs.length
          · obtain ⟨hpr, y0', y1'⟩ := ALL.out wr HB.out
            obtain ⟨a, a1, hA, ha, hab, c0, c1, c2⟩ := hpr.b.blk hlt
            have hA' := Lib.hid hA
            obtain ⟨blk, hblk⟩ : ∃ blk, blk = p.bs[k] := ⟨_, rfl⟩
            rw [← hblk] at c0 c1 c2
            have HBK := Lib.hid hblk
            have hml : k < (p.bs.map (errB p.bs)).length := by simpa using hlt
            obtain ⟨f1, f2⟩ := fe_at hml HF.out
            rw [List.getElem_map, ← hblk] at f1 f2
            have F1 := Lib.hid f1
            have F2 := Lib.hid f2
            have hbm : blk ∈ p.bs := by rw [hblk]; exact List.getElem_mem hlt
            have hil := hi blk hbm
            have HBM := Lib.hid hbm
            have WI : ∀ V, Calls Tryd.prog 62 #[.int .i64 blk.cap, .int .i64 0, .int .i64 1000] V fun e w' => e = .returned (.bool (decide (0 ≤ blk.cap) && decide (blk.cap ≤ 1000))) ∧ w' = V := fun V => within_any blk.cap 0 1000 V
            rw [hA] at y0'
            have yl := heap_lt_cell y0'
            have y0a := fun o => cell_al y0' yl o
            have y1a := fun o => cell_al y1' yl o
            clear f1 f2 hpr hblk hA hbm y0 y1
            by_cases hc : blk.cap < 0 ∨ 1000 < blk.cap
            · have e2 : errB p.bs blk = 2 := by unfold errB; rw [if_pos hc]
              have hE2 : Hid (errP p = 2) := Lib.hid (by rw [hE.out, F1.out (by rw [e2]; decide), e2]; rfl)
              have HB1 := fun o => Lib.hid (HB0.out.trans ((HB.out.alloc HB.out.size o).mono HB0.out.size))
              clear e2
              have hw0 : (decide (0 ≤ blk.cap) && decide (blk.cap ≤ 1000)) = false := by
                rcases hc with h | h
                · simp [show ¬ 0 ≤ blk.cap by omega]
                · simp [show ¬ blk.cap ≤ 1000 by omega]
              rw [hw0] at WI
              have WI := Lib.hid WI
              clear hw0 hc
              go_wp2_with (go_at_call 62; refine (WI.out _).mono ?_; rintro e w3 ⟨rfl, rfl⟩)
              go_ret
              exact ⟨by rw [hE2.out]; rfl, (HB1 _).out⟩
            · have hc0 : ¬ blk.cap < 0 := fun h => hc (.inl h)
              have hc1 : ¬ 1000 < blk.cap := fun h => hc (.inr h)
              have eB : Hid (errB p.bs blk = fe (errI p.bs blk)) := Lib.hid (by unfold errB; rw [if_neg hc])
              have eL : (errI p.bs blk).length = blk.ins.length := by simp [errI]
              have HBA := fun o => Lib.hid (HB.out.alloc HB.out.size o)
              have kn := fun o => Lib.hid (al_new wr o)
              have hw0 : (decide (0 ≤ blk.cap) && decide (blk.cap ≤ 1000)) = true := by simp; omega
              rw [hw0] at WI
              have WI := Lib.hid WI
              clear hw0 hc hc0 hc1
              go_wp2_with (go_at_call 62; refine (WI.out _).mono ?_; rintro e w3 ⟨rfl, rfl⟩)
              generalize hM7 : wr.heap.size = M7 at *
              have kn7 := kn (.cells #[.int .i64 blk.cap, .bool blk.param, .slice blk.A blk.ins.length blk.c] 61)
              have hb7 := HBA (.cells #[.int .i64 blk.cap, .bool blk.param, .slice blk.A blk.ins.length blk.c] 61)
              clear kn HBA
              generalize wr.alloc (.cells #[.int .i64 blk.cap, .bool blk.param, .slice blk.A blk.ins.length blk.c] 61) = V7 at *
              have ALL7 := Lib.hid (fun (v : World) (h : Below V7.heap.size V7 v) => show (p.Rd v ∧ v.cell? ⟨w.heap.size, 0, none⟩ = some (.slice p.bA p.bs.length p.bc) ∧ v.cell? ⟨w.heap.size, 1, none⟩ = some (.slice p.sA p.ss.length p.sc)) ∧ v.cell? ⟨M7, 0, none⟩ = some (.int .i64 blk.cap) ∧ v.cell? ⟨M7, 1, none⟩ = some (.bool blk.param) ∧ v.cell? ⟨M7, 2, none⟩ = some (.slice blk.A blk.ins.length blk.c) ∧ Below W.heap.size W v from by
                have hk := (h.block _ (heap_lt kn7.out)).trans kn7.out
                have hb := hb7.out.trans (h.mono hb7.out.size)
                exact ⟨ALL.out v hb, by rw [Lib.cell_of_heap hk]; rfl, by rw [Lib.cell_of_heap hk]; rfl, by rw [Lib.cell_of_heap hk]; rfl, hb⟩)
              clear hM7 hb7 kn7
              go_loopw [7, 8] (fun i _ v => ∃ j : Nat, j ≤ blk.ins.length ∧ i = .int .i64 j ∧ Hid (Below V7.heap.size V7 v) ∧ Hid (fe ((errI p.bs blk).take j) = 0)) (fun i _ _ => blk.ins.length - (intOf i).toNat)
              case atStart => exact ⟨0, Nat.zero_le _, rfl, Lib.hid (Below.refl _ _), Lib.hid rfl⟩
              case round =>
                obtain ⟨j, hj, rfl, HV, HG⟩ := hrel
                obtain ⟨⟨pv, y0, y1⟩, d0, d1, d2, bv⟩ := ALL7.out _ HV.out
                by_cases hjl : j < blk.ins.length
                · obtain ⟨b', b1, hbA, hb1, hbb, i0, i1, i2, i3⟩ := (pv.i blk HBM.out).ins hjl
                  obtain ⟨x, hx⟩ : ∃ x, x = blk.ins[j] := ⟨_, rfl⟩
                  rw [← hx] at i0 i1 i2 i3
                  have hxm : x ∈ blk.ins := by rw [hx]; exact List.getElem_mem hjl
                  obtain ⟨g1, g2⟩ := fe_at (L := errI p.bs blk) (by rw [eL]; exact hjl) HG.out
                  have eg : (errI p.bs blk)[j]'(by rw [eL]; exact hjl) = ckI p.bs blk.ins.length x.op x.a x.b x.name := by simp [errI, hx]
                  rw [eg] at g1 g2
                  have G1 := Lib.hid g1
                  have G2 := Lib.hid g2
                  have CK : ∀ V, Below wr.heap.size wr V → Calls Tryd.prog 63 #[.agg #[.slice p.bA p.bs.length p.bc, .slice p.sA p.ss.length p.sc], .agg #[.int .i64 blk.cap, .bool blk.param, .slice blk.A blk.ins.length blk.c], .agg #[.int .i64 x.op, .int .i64 x.a, .int .i64 x.b, .string ⟨x.name.toArray⟩]] V fun e w' => e = .returned (.int .i64 (ckI p.bs blk.ins.length x.op x.a x.b x.name)) ∧ Below wr.heap.size wr w' := fun V hV =>
                    (instr_any p blk x.op x.a x.b x.name V (pv.below hV) hb).mono fun e w' h => ⟨h.1, hV.trans (h.2.mono hV.size)⟩
                  have bdr : Below wr.heap.size wr wr.drew := ⟨rfl, rfl, rfl, Nat.le_refl _, fun _ _ => rfl⟩
                  have BDR := Lib.hid bdr
                  have eRet : ckI p.bs blk.ins.length x.op x.a x.b x.name ≠ 0 → errP p = ckI p.bs blk.ins.length x.op x.a x.b x.name := fun h => by
                    have h1 := g1 h
                    have h2 : errB p.bs blk = ckI p.bs blk.ins.length x.op x.a x.b x.name := eB.out.trans h1
                    have h3 := F1.out (by rw [h2]; exact h)
                    rw [hE.out, h3, h2, if_pos h]
                  have ER := Lib.hid eRet
                  generalize ckI p.bs blk.ins.length x.op x.a x.b x.name = ck at *
                  have BV := Lib.hid bv
                  rw [hbA] at d2 CK
                  have CK := Lib.hid CK
                  clear g1 g2 eg hbA hx hxm pv bv bdr eRet c0 c1 c2 y0' y1' y0a y1a
                  by_cases hck : ck = 0
                  · have t1 : (ck != 0) = false := by simp [hck]
                    have G3 := Lib.hid (G2.out hck)
                    have NB : ∀ w', Below wr.heap.size wr w' → Below V7.heap.size V7 w' := fun w' h => HV.out.trans (h.mono HV.out.size)
                    have NB := Lib.hid NB
                    clear hck
                    go_wp2
                    go_still_tail 7, (by kernel_rfl)
                    change wpList _ _ _ _ _ wr.drew
                    have CK2 := Lib.hid (CK.out _ BDR.out)
                    generalize wr.drew = w5 at CK2 ⊢
                    go_wp2_with (go_at_call 63; refine CK2.out.mono ?_; rintro e w3 ⟨rfl, b3⟩; have B3 := Lib.hid b3; clear b3)
                    exact ⟨⟨j + 1, by omega, by simp, Lib.hid (NB.out _ B3.out), G3⟩, by simp [intOf]; omega⟩
                  · have t1 : (ck != 0) = true := by simpa using hck
                    have E3 := Lib.hid (ER.out hck)
                    have NB : ∀ w', Below wr.heap.size wr w' → Below w.heap.size w w' := fun w' h => HB0.out.trans ((BV.out.trans (h.mono BV.out.size)).mono HB0.out.size)
                    have NB := Lib.hid NB
                    clear hck
                    go_wp2
                    go_still_tail 7, (by kernel_rfl)
                    change wpList _ _ _ _ _ wr.drew
                    have CK2 := Lib.hid (CK.out _ BDR.out)
                    generalize wr.drew = w5 at CK2 ⊢
                    go_wp2_with (go_at_call 63; refine CK2.out.mono ?_; rintro e w3 ⟨rfl, b3⟩; have B3 := Lib.hid b3; clear b3)
                    go_ret
                    exact ⟨by rw [E3.out]; rfl, NB.out _ B3.out⟩
                · obtain rfl : j = blk.ins.length := by omega
                  have h0 := HG.out
                  rw [← eL, List.take_length] at h0
                  have F3 := Lib.hid (F2.out (by rw [eB.out]; exact h0))
                  have BV := Lib.hid bv
                  clear h0 pv bv c0 c1 c2 y0' y1' y0a y1a
                  go_wp2
                  exact ⟨⟨k + 1, by omega, by simp, BV, F3⟩, by simp [intOf]; omega⟩
          · obtain rfl : k = p.bs.length := by omega
            have h0 := HF.out
            rw [show (p.bs.map (errB p.bs)).take p.bs.length = p.bs.map (errB p.bs) from List.take_of_length_le (by simp)] at h0
            have hE3 : Hid (errP p = fe ((List.range p.ss.length).map (errS p.bs p.ss))) := Lib.hid (by rw [hE.out, h0]; rfl)
            obtain ⟨hpr, y0, y1⟩ := ALL.out wr HB.out
            clear h0 HF hE hpr
            go_wp2
            clear y0 y1
            go_loopw [9, 10] (fun i _ wr => ∃ k : Nat, k ≤ p.ss.length ∧ i = .int .i64 k ∧ Hid (Below W.heap.size W wr) ∧ Hid (fe (((List.range p.ss.length).map (errS p.bs p.ss)).take k) = 0)) (fun i _ _ => p.ss.length - (intOf i).toNat)
            case atStart => exact ⟨0, Nat.zero_le _, rfl, HB, Lib.hid rfl⟩
            case round =>
              clear HB
              obtain ⟨k, hk, rfl, HB, HF⟩ := hrel
              by_cases hlt : k < p.ss.length
              · obtain ⟨hpr, y0, y1⟩ := ALL.out _ HB.out
                obtain ⟨a, a1, hA, ha, hab, c0, c1, c2⟩ := hpr.s.stt hlt
                obtain ⟨s, hs'⟩ : ∃ s, s = p.ss[k] := ⟨_, rfl⟩
                rw [← hs'] at c0 c1 c2
                have hsm : s ∈ p.ss := by rw [hs']; exact List.getElem_mem hlt
                have hsk : p.ss[k]? = some s := by rw [hs']; simp [hlt]
                obtain ⟨f1, f2⟩ := fe_at (L := (List.range p.ss.length).map (errS p.bs p.ss)) (by simpa using hlt) HF.out
                have eg : ((List.range p.ss.length).map (errS p.bs p.ss))[k]'(by simpa using hlt) = errS p.bs p.ss k := by simp
                rw [eg] at f1 f2
                have ER : Hid (errS p.bs p.ss k ≠ 0 → errP p = errS p.bs p.ss k) := Lib.hid fun h => hE3.out.trans (f1 h)
                have F2 := Lib.hid f2
                rw [hA] at y1
                have yl := heap_lt_cell y0
                have y0a := fun o => cell_al y0 yl o
                have y1a := fun o => cell_al y1 yl o
                have LA : ∀ V, Calls Tryd.prog 64 #[tv s.pack] V fun e w' => e = .returned (.bool (lab s.pack)) ∧ w' = V := fun V => rLabel_any s.pack V (hnp s hsm)
                have LA := Lib.hid LA
                have HSK := Lib.hid hsk
                have HPR := Lib.hid hpr
                have HA := Lib.hid hA
                have NB : ∀ o w', Below (wr.alloc o).heap.size (wr.alloc o) w' → Below W.heap.size W w' ∧ Below w.heap.size w w' := fun o w' h => by
                  have h1 := HB.out.trans (((bAl wr o).trans (h.mono (by simp))).mono HB.out.size)
                  exact ⟨h1, HB0.out.trans (h1.mono HB0.out.size)⟩
                have N0 := Lib.hid (fun o => NB o _ (Below.refl _ _))
                have NB := Lib.hid NB
                have hwl : IntKind.i64.wrap ((p.bs.length : Int) - 1) = (p.bs.length : Int) - 1 := IntWalk.i64_in _ (by omega)
                have W1 : ∀ V, Calls Tryd.prog 62 #[.int .i64 s.id, .int .i64 1, .int .i64 999999] V fun e w' => e = .returned (.bool (decide (1 ≤ s.id) && decide (s.id ≤ 999999))) ∧ w' = V := fun V => within_any s.id 1 999999 V
                have W2 : ∀ V, Calls Tryd.prog 62 #[.int .i64 s.block, .int .i64 0, .int .i64 ((p.bs.length : Int) - 1)] V fun e w' => e = .returned (.bool (decide (0 ≤ s.block) && decide (s.block ≤ (p.bs.length : Int) - 1))) ∧ w' = V := fun V => within_any s.block 0 _ V
                clear f1 f2 eg hsm hsk hpr hA hs'
                cases hlab : lab s.pack with
                | false =>
                  have E6 : Hid (errP p = 6) := Lib.hid (by
                    have : errS p.bs p.ss k = 6 := by unfold errS; rw [HSK.out]; simp only [hlab, if_true]
                    rw [ER.out (by rw [this]; decide), this])
                  rw [hlab] at LA
                  clear hlab W1 W2 hwl
                  go_wp2_with (go_at_call 64; refine (LA.out _).mono ?_; rintro e w3 ⟨rfl, rfl⟩)
                  go_ret
                  exact ⟨by rw [E6.out]; rfl, (N0.out _).2⟩
                | true =>
                  rw [hlab] at LA
                  have E2 : (s.id < 1 ∨ 999999 < s.id ∨ plainB p.bs s.block = false) → errP p = 2 := fun hbad => by
                    have : errS p.bs p.ss k = 2 := by unfold errS; rw [HSK.out]; simp only [hlab, Bool.true_eq_false, if_false, if_pos hbad]
                    rw [ER.out (by rw [this]; decide), this]
                  have E2 := Lib.hid E2
                  by_cases hb1 : 1 ≤ s.id ∧ s.id ≤ 999999
                  · have r1 : (decide (1 ≤ s.id) && decide (s.id ≤ 999999)) = true := by simp [hb1.1, hb1.2]
                    rw [r1] at W1
                    have W1 := Lib.hid W1
                    by_cases hb2 : 0 ≤ s.block ∧ s.block ≤ (p.bs.length : Int) - 1
                    · have r2 : (decide (0 ≤ s.block) && decide (s.block ≤ (p.bs.length : Int) - 1)) = true := by simp [hb2.1, hb2.2]
                      rw [r2] at W2
                      have W2 := Lib.hid W2
                      obtain ⟨m, hm⟩ : ∃ m : Nat, s.block = m := ⟨s.block.toNat, by omega⟩
                      have hml : m < p.bs.length := by omega
                      obtain ⟨ab, ab1, hbA, hab1, habb, d0, d1, d2⟩ := HPR.out.b.blk hml
                      obtain ⟨bk, hbk⟩ : ∃ bk, bk = p.bs[m] := ⟨_, rfl⟩
                      rw [← hbk] at d0 d1 d2
                      have hpl : plainB p.bs s.block = ((bk.cap == 0) && !bk.param) := by
                        unfold plainB
                        rw [hm, hbk]
                        simp [hml]
                      have e0 := fun o => cell_al d0 habb o
                      have e1' := fun o => cell_al d1 habb o
                      have e2' := fun o => cell_al d2 habb o
                      rw [hbA] at y0 y0a
                      have RPL : ∀ V, Calls Tryd.prog 65 #[.agg #[.int .i64 bk.cap, .bool bk.param, .slice bk.A bk.ins.length bk.c]] V fun e w' => e = .returned (.bool ((bk.cap == 0) && !bk.param)) ∧ Below V.heap.size V w' := fun V => rPlain_any bk V
                      rw [hm] at W2
                      have m1 : (0 : Int) ≤ (m : Int) := by omega
                      have m2 : (m : Int) < (p.bs.length : Int) := by omega
                      have m3 : ((m : Int)).toNat = m := by omega
                      rw [hm] at c2
                      have BOX : ∀ w', Below (wr.alloc (.cells #[.string ⟨s.pack.toArray⟩, .int .i64 s.id, .int .i64 m] 43)).heap.size (wr.alloc (.cells #[.string ⟨s.pack.toArray⟩, .int .i64 s.id, .int .i64 m] 43)) w' → w'.cell? ⟨wr.heap.size, 0, none⟩ = some (.string ⟨s.pack.toArray⟩) ∧ w'.cell? ⟨wr.heap.size, 1, none⟩ = some (.int .i64 s.id) ∧ w'.cell? ⟨wr.heap.size, 2, none⟩ = some (.int .i64 m) ∧ w'.cell? ⟨w.heap.size, 1, none⟩ = some (.slice (some a) p.ss.length p.sc) := fun w' h => by
                        have k3 := (h.block wr.heap.size (by simp)).trans (al_new wr _)
                        obtain ⟨_, k4, k5⟩ := ALL.out w' (NB.out _ _ h).1
                        rw [HA.out] at k5
                        exact ⟨by rw [Lib.cell_of_heap k3]; rfl, by rw [Lib.cell_of_heap k3]; rfl, by rw [Lib.cell_of_heap k3]; rfl, k5⟩
                      have BOX := Lib.hid BOX
                      clear d0 d1 d2 r1 r2 hbA
                      cases hpp : ((bk.cap == 0) && !bk.param) with
                      | false =>
                        have E3 := Lib.hid (E2.out (.inr (.inr (hpl.trans hpp))))
                        rw [hpp] at RPL
                        have RPL := Lib.hid RPL
                        clear hpl hpp hlab hb1 hb2 hm hbk
                        go_wp2_with (first | (go_at_call 64; refine (LA.out _).mono ?_; rintro e w3 ⟨rfl, rfl⟩) | (go_at_call 62; with_reducible refine (W1.out _).mono ?_; rintro e w3 ⟨rfl, rfl⟩) | (go_at_call 62; with_reducible refine (W2.out _).mono ?_; rintro e w3 ⟨rfl, rfl⟩) | (go_at_call 65; refine (RPL.out _).mono ?_; rintro e w4 ⟨rfl, b4⟩; have B4 := Lib.hid (NB.out _ _ b4); clear b4))
                        go_ret
                        exact ⟨by rw [E3.out]; rfl, B4.out.2⟩
                      | true =>
                        rw [hpp] at RPL
                        have RPL := Lib.hid RPL
                        have ES : Hid (errS p.bs p.ss k = ordS p.ss s k) := Lib.hid (by
                          unfold errS
                          rw [HSK.out]
                          have hbad : ¬ (s.id < 1 ∨ 999999 < s.id ∨ plainB p.bs s.block = false) := by
                            rw [hpl, hpp]
                            simp
                            omega
                          simp only [hlab, Bool.true_eq_false, if_false, if_neg hbad])
                        clear hpl hpp hlab hb1 hb2 hm hbk E2
                        go_wp2_with (first | (go_at_call 64; refine (LA.out _).mono ?_; rintro e w3 ⟨rfl, rfl⟩) | (go_at_call 62; with_reducible refine (W1.out _).mono ?_; rintro e w3 ⟨rfl, rfl⟩) | (go_at_call 62; with_reducible refine (W2.out _).mono ?_; rintro e w3 ⟨rfl, rfl⟩) | (go_at_call 65; refine (RPL.out _).mono ?_; rintro e w4 ⟨rfl, b4⟩; obtain ⟨q0, q1, q2, q4⟩ := BOX.out w4 b4; have B4 := Lib.hid (NB.out _ _ b4); clear b4))
                        by_cases hk0 : k = 0
                        · subst hk0
                          have F3 := Lib.hid (F2.out (by rw [ES.out]; rfl))
                          have D4 := Lib.hid (fun n => show Below W.heap.size W (w4.drewN n) from ⟨B4.out.1.os, B4.out.1.tape, B4.out.1.output, B4.out.1.size, B4.out.1.block⟩)
                          clear ES ER
                          go_quiet (fail)
                          go_wp2
                          exact ⟨⟨1, by omega, rfl, Lib.hid (D4.out _), F3⟩, by simp [intOf]; omega⟩
                        · obtain ⟨j, hkj⟩ : ∃ j, k = j + 1 := ⟨k - 1, by omega⟩
                          have hjl : j < p.ss.length := by omega
                          obtain ⟨a', e1, hA', he1, heb, v0, v1, v2⟩ := (ALL.out w4 B4.out.1).1.s.stt hjl
                          obtain rfl : a' = a := by have := HA.out; rw [hA'] at this; exact Option.some.inj this
                          obtain ⟨q, hq⟩ : ∃ q, q = p.ss[j] := ⟨_, rfl⟩
                          rw [← hq] at v0 v1 v2
                          have hqk : p.ss[j]? = some q := by rw [hq]; simp [hjl]
                          have eo : errS p.bs p.ss k = if nmLt q.pack q.id s.pack s.id then 0 else 10 := by
                            rw [ES.out, hkj, ordS_succ hqk]
                          have CMP : ∀ V, Calls Tryd.prog 61 #[.agg #[.string ⟨q.pack.toArray⟩, .int .i64 q.id], .agg #[.string ⟨s.pack.toArray⟩, .int .i64 s.id]] V fun e w' => e = .returned (.bool (nmLt q.pack q.id s.pack s.id)) ∧ Below V.heap.size V w' := fun V => less_any q.pack q.id s.pack s.id V
                          have EO := Lib.hid eo
                          have w1' : IntKind.i64.wrap ((k : Int) - 1) = (j : Int) := by rw [IntWalk.i64_in _ (by omega)]; omega
                          have w2' : (0 : Int) < (k : Int) := by omega
                          have w2n : 0 < k := by omega
                          have w3' : ((j : Int)).toNat = j := by omega
                          have w4' : (0 : Int) ≤ (j : Int) := by omega
                          have w5' : (j : Int) < (p.ss.length : Int) := by omega
                          have D4 := Lib.hid (fun n (w' : World) (h : Below (w4.drewN n).heap.size (w4.drewN n) w') => show Below W.heap.size W w' ∧ Below w.heap.size w w' from by
                            have h1 : Below W.heap.size W w' := B4.out.1.trans (Below.mono (⟨h.os, h.tape, h.output, h.size, h.block⟩ : Below w4.heap.size w4 w') B4.out.1.size)
                            exact ⟨h1, HB0.out.trans (h1.mono HB0.out.size)⟩)
                          generalize nmLt q.pack q.id s.pack s.id = LT at *
                          clear eo hqk hq hA' hkj ES
                          cases LT with
                          | true =>
                            have CMP := Lib.hid CMP
                            have F3 := Lib.hid (F2.out (by rw [EO.out]; rfl))
                            go_still_tail 12, (by kernel_rfl)
                            change wpList _ _ _ _ _ w4.drew
                            generalize hw5 : w4.drew = w5
                            have d5 : ∀ w', Below w5.heap.size w5 w' → Below W.heap.size W w' ∧ Below w.heap.size w w' := fun w' h => D4.out 1 w' (by subst hw5; exact h)
                            have D5 := Lib.hid d5
                            clear d5 hw5 D4
                            go_wp2_with (go_at_call 61; refine (CMP.out _).mono ?_; rintro e w6 ⟨rfl, b6⟩; have B6 := Lib.hid (D5.out _ b6); clear b6)
                            exact ⟨⟨k + 1, by omega, by simp, Lib.hid B6.out.1, F3⟩, by simp [intOf]; omega⟩
                          | false =>
                            have CMP := Lib.hid CMP
                            have E10 : Hid (errP p = 10) := Lib.hid (by rw [ER.out (by rw [EO.out]; decide), EO.out]; rfl)
                            go_still_tail 12, (by kernel_rfl)
                            change wpList _ _ _ _ _ w4.drew
                            generalize hw5 : w4.drew = w5
                            have d5 : ∀ w', Below w5.heap.size w5 w' → Below W.heap.size W w' ∧ Below w.heap.size w w' := fun w' h => D4.out 1 w' (by subst hw5; exact h)
                            have D5 := Lib.hid d5
                            clear d5 hw5 D4
                            go_wp2_with (go_at_call 61; refine (CMP.out _).mono ?_; rintro e w6 ⟨rfl, b6⟩; have B6 := Lib.hid (D5.out _ b6); clear b6)
                            go_ret
                            exact ⟨by rw [E10.out]; rfl, B6.out.2⟩
                    · have r2 : (decide (0 ≤ s.block) && decide (s.block ≤ (p.bs.length : Int) - 1)) = false := by
                        rcases Decidable.not_and_iff_not_or_not.1 hb2 with h | h
                        · simp [h]
                        · simp [h]
                      rw [r2] at W2
                      have W2 := Lib.hid W2
                      have E3 := Lib.hid (E2.out (.inr (.inr (by
                        unfold plainB
                        rcases Decidable.not_and_iff_not_or_not.1 hb2 with h | h
                        · simp [h]
                        · rw [List.getElem?_eq_none (show p.bs.length ≤ s.block.toNat by omega)]; simp))))
                      clear hb1 hb2 r1 r2 hlab
                      go_wp2_with (first | (go_at_call 64; refine (LA.out _).mono ?_; rintro e w3 ⟨rfl, rfl⟩) | (go_at_call 62; with_reducible refine (W1.out _).mono ?_; rintro e w3 ⟨rfl, rfl⟩) | (go_at_call 62; with_reducible refine (W2.out _).mono ?_; rintro e w3 ⟨rfl, rfl⟩))
                      go_ret
                      exact ⟨by rw [E3.out]; rfl, (N0.out _).2⟩
                  · have r1 : (decide (1 ≤ s.id) && decide (s.id ≤ 999999)) = false := by
                      rcases Decidable.not_and_iff_not_or_not.1 hb1 with h | h
                      · simp [h]
                      · simp [h]
                    rw [r1] at W1
                    have W1 := Lib.hid W1
                    have E3 := Lib.hid (E2.out (by omega))
                    clear hb1 r1 hlab W2
                    go_wp2_with (first | (go_at_call 64; refine (LA.out _).mono ?_; rintro e w3 ⟨rfl, rfl⟩) | (go_at_call 62; with_reducible refine (W1.out _).mono ?_; rintro e w3 ⟨rfl, rfl⟩))
                    go_ret
                    exact ⟨by rw [E3.out]; rfl, (N0.out _).2⟩
              · obtain rfl : k = p.ss.length := by omega
                have h0 := HF.out
                rw [List.take_of_length_le (by simp)] at h0
                obtain ⟨-, y0, y1⟩ := ALL.out _ HB.out
                have E0 : Hid (errP p = 0) := Lib.hid (by rw [hE3.out, h0])
                have HB1 := Lib.hid (HB0.out.trans (HB.out.mono HB0.out.size))
                clear h0
                go_wp2
                go_ret
                exact ⟨by rw [E0.out]; rfl, HB1.out⟩
end Go.Proofs.YtgboboljgcfggaaDoor
namespace Go.Proofs.YtgboboljgcfggaaDoor
open Go.RowKit Go.Maps

def Ic (z : Int) : List Value := [iv z]
theorem RD.num {w : World} {Ad : Option Addr} {L : List Int} (h : RD 1 Ic w Ad L) {k : Nat} {x : Int} (hx : L[k]? = some x) : ∃ a a1 : Addr, Ad = some a ∧ a.add k = a1 ∧ w.cell? a1 = some (.int .i64 x) := by
  obtain ⟨hk, e2⟩ := List.getElem?_eq_some_iff.1 hx
  obtain ⟨a, e, hb, hc⟩ := h.at hk
  rw [e2] at hc
  exact ⟨a, _, e, rfl, by simpa using hc 0 _ rfl⟩
theorem RD.nam' {w : World} {Ad : Option Addr} {L : List Nam} (h : RD 2 Nam.cs w Ad L) {k : Nat} {x : Nam} (hx : L[k]? = some x) : ∃ a a1 : Addr, Ad = some a ∧ a.add (k * 2) = a1 ∧ w.cell? a1 = some (.string ⟨x.pack.toArray⟩) ∧ w.cell? ⟨a1.block, a1.off + 1, none⟩ = some (.int .i64 x.id) := by
  obtain ⟨hk, e2⟩ := List.getElem?_eq_some_iff.1 hx
  obtain ⟨a, a1, e, h1, -, h2, h3⟩ := h.nam hk
  rw [e2] at h2 h3
  exact ⟨a, a1, e, h1, h2, h3⟩
/-- What Index answers. -/
def IxP (P : Prop) (w : World) (e : Ending) (w' : World) : Prop := Gr w w' ∧ ∃ r : Int, e = .returned (.int .i64 r) ∧ (0 ≤ r ↔ P)
theorem ix_yes {P : Prop} {w w' : World} (g : Gr w w') (h : P) (k : Nat) : IxP P w (.returned (.int .i64 k)) w' := ⟨g, k, rfl, fun _ => h, fun _ => by omega⟩
theorem ix_no {P : Prop} {w w' : World} (g : Gr w w') (h : ¬ P) : IxP P w (.returned (.int .i64 (-1))) w' := ⟨g, -1, rfl, fun h2 => by omega, fun h2 => absurd h2 h⟩
theorem take_no {α : Type} {L : List α} {k : Nat} {x y : α} (hy : L[k]? = some y) (h : x ∉ L.take k) (hn : y ≠ x) : x ∉ L.take (k + 1) := fun hx => by
  rw [List.take_add_one, hy, List.mem_append] at hx
  rcases hx with hx | hx
  · exact h hx
  · simp at hx; exact hn hx.symm
set_option maxRecDepth 100000 in
set_option maxHeartbeats 4000000 in
theorem indexI_any (Ad : Option Addr) (cp : Nat) (L : List Int) (x : Int) (w : World) (hL : RD 1 Ic w Ad L) (hl : L.length ≤ 9223372036854775807) : Calls Tryd.prog 37 #[.slice Ad L.length cp, .int .i64 x] w (IxP (x ∈ L) w) := by
  obtain ⟨n, hn⟩ : ∃ n, L.length = n := ⟨_, rfl⟩
  have HN := Lib.hid hn
  have HL := Lib.hid hL
  rw [hn] at hl ⊢
  clear hL hn
  go_enter Tryd.func37, Tryd.ntmps37
  go_wp2
  go_loop [8] (fun u => ∃ k : Nat, k ≤ n ∧ u = .int .i64 k ∧ Hid (x ∉ L.take k)) (fun u => n - (intOf u).toNat)
  case atStart => exact ⟨0, Nat.zero_le _, rfl, Lib.hid (by simp)⟩
  case round =>
    obtain ⟨k, hk, rfl, HG⟩ := hrel
    by_cases hlt : k < n
    · obtain ⟨y, hy⟩ : ∃ y, L[k]? = some y := ⟨_, List.getElem?_eq_getElem (by rw [HN.out]; exact hlt)⟩
      obtain ⟨a, a1, rfl, ha, y0⟩ := HL.out.num hy
      have HY := Lib.hid hy
      clear hy
      by_cases he : x = y
      · have e1 : (x == y) = true := by simpa using he
        have HM := Lib.hid (show x ∈ L from by rw [he]; exact List.mem_of_getElem? HY.out)
        clear he
        go_wp2
        go_ret
        exact ix_yes (gr_refl _) HM.out k
      · have e1 : (x == y) = false := by simpa using he
        have HX := Lib.hid (take_no HY.out HG.out (fun e => he e.symm))
        clear he
        go_wp2
        exact ⟨⟨k + 1, by omega, by simp, HX⟩, by simp [intOf]; omega⟩
    · obtain rfl : n = k := by omega
      have HX := Lib.hid (show x ∉ L from by have h := HG.out; rwa [List.take_of_length_le (Nat.le_of_eq HN.out)] at h)
      go_wp2
      go_ret
      exact ix_no (gr_refl _) HX.out
theorem bool_ix {P : Prop} [Decidable P] {r : Int} (h : 0 ≤ r ↔ P) : decide (0 ≤ r) = decide P := decide_eq_decide.2 h
theorem containsI_any (Ad : Option Addr) (cp : Nat) (L : List Int) (x : Int) (w : World) (hL : RD 1 Ic w Ad L) (hl : L.length ≤ 9223372036854775807) : Calls Tryd.prog 13 #[.slice Ad L.length cp, .int .i64 x] w fun e w' => e = .returned (.bool (decide (x ∈ L))) ∧ Gr w w' := by
  have IX := Lib.hid (indexI_any Ad cp L x w hL hl)
  clear hL
  go_enter Tryd.func13, Tryd.ntmps13
  go_wp2_with (go_at_call 37; refine IX.out.mono ?_; rintro e w1 ⟨g1, r, rfl, hr⟩; have G1 := Lib.hid g1; have HR := Lib.hid (bool_ix hr); clear hr g1)
  go_ret
  exact ⟨by rw [← HR.out]; rfl, G1.out⟩
set_option maxRecDepth 100000 in
set_option maxHeartbeats 4000000 in
theorem indexN_any (Ad : Option Addr) (cp : Nat) (L : List Nam) (x : Nam) (w : World) (hL : RD 2 Nam.cs w Ad L) (hl : L.length ≤ 9223372036854775807) : Calls Tryd.prog 38 #[.slice Ad L.length cp, .agg #[.string ⟨x.pack.toArray⟩, .int .i64 x.id]] w (IxP (x ∈ L) w) := by
  obtain ⟨n, hn⟩ : ∃ n, L.length = n := ⟨_, rfl⟩
  have HN := Lib.hid hn
  have HL := Lib.hid (fun V (g : Gr w V) => hL.gr g)
  rw [hn] at hl ⊢
  have G0 := Lib.hid (gr_al w (.cells #[.string ⟨x.pack.toArray⟩, .int .i64 x.id] 39))
  have HB := Lib.hid (fun V (g : Gr (w.alloc (.cells #[.string ⟨x.pack.toArray⟩, .int .i64 x.id] 39)) V) => (show V.cell? ⟨w.heap.size, 0, none⟩ = some (.string ⟨x.pack.toArray⟩) ∧ V.cell? ⟨w.heap.size, 1, none⟩ = some (.int .i64 x.id) from by
    have h := gr_h g (al_new w (.cells #[.string ⟨x.pack.toArray⟩, .int .i64 x.id] 39))
    exact ⟨by rw [Lib.cell_of_heap h]; rfl, by rw [Lib.cell_of_heap h]; rfl⟩))
  clear hL hn
  go_enter Tryd.func38, Tryd.ntmps38
  go_wp2
  generalize w.alloc (.cells #[.string ⟨x.pack.toArray⟩, .int .i64 x.id] 39) = W0 at *
  go_loopw [8] (fun u V => ∃ k : Nat, k ≤ n ∧ u = .int .i64 k ∧ Hid (Gr W0 V ∧ x ∉ L.take k)) (fun u _ => n - (intOf u).toNat)
  case atStart => exact ⟨0, Nat.zero_le _, rfl, Lib.hid ⟨gr_refl _, by simp⟩⟩
  case round =>
    obtain ⟨k, hk, rfl, HG⟩ := hrel
    by_cases hlt : k < n
    · obtain ⟨y, hy⟩ : ∃ y, L[k]? = some y := ⟨_, List.getElem?_eq_getElem (by rw [HN.out]; exact hlt)⟩
      obtain ⟨a, a1, eA, ha, y0, y1⟩ := (HL.out _ (G0.out.trans HG.out.1)).nam' hy
      subst eA
      obtain ⟨x0, x1⟩ := HB.out _ HG.out.1
      have HY := Lib.hid hy
      clear hy
      have NE : (x.pack == y.pack && x.id == y.id) = false → y ≠ x := fun h e => by subst e; simp at h
      have NE := Lib.hid NE
      cases e1 : (x.pack == y.pack) with
      | false =>
        have HX := Lib.hid (take_no HY.out HG.out.2 (NE.out (by rw [e1]; rfl)))
        go_upto_region 4 with (fail)
        go_quiet (fail)
        go_wp2
        exact ⟨⟨k + 1, by omega, by simp, Lib.hid ⟨HG.out.1.trans (gr_drewN _ _), HX.out⟩⟩, by simp [intOf]; omega⟩
      | true =>
        cases e2 : (x.id == y.id) with
        | false =>
          have HX := Lib.hid (take_no HY.out HG.out.2 (NE.out (by rw [e1, e2]; rfl)))
          go_upto_region 4 with (fail)
          go_quiet (fail)
          go_wp2
          exact ⟨⟨k + 1, by omega, by simp, Lib.hid ⟨HG.out.1.trans (gr_drewN _ _), HX.out⟩⟩, by simp [intOf]; omega⟩
        | true =>
          have HM := Lib.hid (show x ∈ L from by
            have h1 : x = y := by
              obtain ⟨a, b⟩ := x
              obtain ⟨c, d⟩ := y
              simp at e1 e2
              rw [e1, e2]
            rw [h1]; exact List.mem_of_getElem? HY.out)
          go_upto_region 4 with (fail)
          go_quiet (fail)
          go_wp2
          go_ret
          exact ix_yes (G0.out.trans (HG.out.1.trans (gr_drewN _ _))) HM.out k
    · obtain rfl : n = k := by omega
      have HX := Lib.hid (show x ∉ L from by have h := HG.out.2; rwa [List.take_of_length_le (Nat.le_of_eq HN.out)] at h)
      go_wp2
      go_ret
      exact ix_no (G0.out.trans HG.out.1) HX.out
theorem containsN_any (Ad : Option Addr) (cp : Nat) (L : List Nam) (x : Nam) (w : World) (hL : RD 2 Nam.cs w Ad L) (hl : L.length ≤ 9223372036854775807) : Calls Tryd.prog 15 #[.slice Ad L.length cp, .agg #[.string ⟨x.pack.toArray⟩, .int .i64 x.id]] w fun e w' => e = .returned (.bool (decide (x ∈ L))) ∧ Gr w w' := by
  have G0 := Lib.hid (gr_al w (.cells #[.string ⟨x.pack.toArray⟩, .int .i64 x.id] 39))
  have IX := Lib.hid (indexN_any Ad cp L x (w.alloc (.cells #[.string ⟨x.pack.toArray⟩, .int .i64 x.id] 39)) (hL.gr G0.out) hl)
  have h := al_new w (.cells #[.string ⟨x.pack.toArray⟩, .int .i64 x.id] 39)
  have x0 : (w.alloc (.cells #[.string ⟨x.pack.toArray⟩, .int .i64 x.id] 39)).cell? ⟨w.heap.size, 0, none⟩ = some (.string ⟨x.pack.toArray⟩) := by rw [Lib.cell_of_heap h]; rfl
  have x1 : (w.alloc (.cells #[.string ⟨x.pack.toArray⟩, .int .i64 x.id] 39)).cell? ⟨w.heap.size, 1, none⟩ = some (.int .i64 x.id) := by rw [Lib.cell_of_heap h]; rfl
  clear hL h
  go_enter Tryd.func15, Tryd.ntmps15
  go_wp2_with (go_at_call 38; refine IX.out.mono ?_; rintro e w1 ⟨g1, r, rfl, hr⟩; have G1 := Lib.hid g1; have HR := Lib.hid (bool_ix hr); clear hr g1)
  go_ret
  exact ⟨by rw [← HR.out]; rfl, G0.out.trans G1.out⟩
end Go.Proofs.YtgboboljgcfggaaDoor
namespace Go.Proofs.YtgboboljgcfggaaDoor
open Go.RowKit Go.Maps

def SmB (b : Blk) : Prop := b.ins.length ≤ 100 ∧ ∀ x ∈ b.ins, x.name.length ≤ 120
/-- A code of the sizes of the statements. -/
structure SmC (c : Cod) : Prop where
  l : c.label.length ≤ 120
  d : c.ds.length ≤ 20
  b : c.bs.length ≤ 60
  i : ∀ b ∈ c.bs, SmB b
/-- What Great answers: false only where it is small. -/
def GtP (P : Prop) (w : World) (e : Ending) (w' : World) : Prop := Gr w w' ∧ ∃ g : Bool, e = .returned (.bool g) ∧ (g = false → P)
theorem gt_yes {P : Prop} {w w' : World} (g : Gr w w') : GtP P w (.returned (.bool true)) w' := ⟨g, true, rfl, fun h => by cases h⟩
theorem gt_no {P : Prop} {w w' : World} (g : Gr w w') (h : P) : GtP P w (.returned (.bool false)) w' := ⟨g, false, rfl, fun _ => h⟩
theorem gt_any {P : Prop} {w w' : World} {b : Bool} (g : Gr w w') (h : b = false → P) : GtP P w (.returned (.bool b)) w' := ⟨g, b, rfl, h⟩
theorem SmC.lim {c : Cod} (h : SmC c) : c.Lim := ⟨by have := h.l; omega, by have := h.b; omega, by have := h.d; omega, fun b hb => by have := (h.i b hb).1; omega, fun b hb x hx => by have := (h.i b hb).2 x hx; omega⟩
set_option maxRecDepth 100000 in
set_option maxHeartbeats 4000000 in
theorem greatB_any (Ad : Option Addr) (cp : Nat) (bs : List Blk) (w : World) (hb : RD 3 Blk.cs w Ad bs) (hi : ∀ b ∈ bs, RD 4 Ins.cs w b.A b.ins) : Calls Tryd.prog 50 #[.slice Ad bs.length cp] w (GtP (bs.length ≤ 60 ∧ ∀ b ∈ bs, SmB b) w) := by
  obtain ⟨n, hn⟩ : ∃ n, bs.length = n := ⟨_, rfl⟩
  have HN := Lib.hid hn
  have HB := Lib.hid hb
  have HI := Lib.hid hi
  rw [hn]
  clear hb hi hn
  by_cases h60 : 60 < n
  · go_enter Tryd.func50, Tryd.ntmps50
    go_wp2
    go_ret
    exact gt_yes (gr_refl _)
  · go_enter Tryd.func50, Tryd.ntmps50
    go_wp2
    go_loop [3] (fun u => ∃ k : Nat, k ≤ n ∧ u = .int .i64 k ∧ Hid (∀ b ∈ bs.take k, SmB b)) (fun u => n - (intOf u).toNat)
    case atStart => exact ⟨0, Nat.zero_le _, rfl, Lib.hid (by simp)⟩
    case round =>
      obtain ⟨k, hk, rfl, HG⟩ := hrel
      by_cases hlt : k < n
      · obtain ⟨b, hbk⟩ : ∃ b, bs[k]? = some b := ⟨_, List.getElem?_eq_getElem (by rw [HN.out]; exact hlt)⟩
        obtain ⟨a, a1, rfl, ha, hab, y0, y1, y2⟩ := HB.out.blk (k := k) (by rw [HN.out]; exact hlt)
        have hbi : bs[k]'(by rw [HN.out]; exact hlt) = b := by rw [List.getElem?_eq_getElem (by rw [HN.out]; exact hlt)] at hbk; exact Option.some.inj hbk
        rw [hbi] at y0 y1 y2
        have HBK := Lib.hid hbk
        obtain ⟨m, hm⟩ : ∃ m, b.ins.length = m := ⟨_, rfl⟩
        have HM := Lib.hid hm
        have HR := Lib.hid (HI.out b (List.mem_of_getElem? hbk))
        rw [hm] at y2
        obtain ⟨bA, hbA⟩ : ∃ x, b.A = x := ⟨_, rfl⟩
        rw [hbA] at y2 HR
        clear hbi hbk hm hbA
        by_cases h100 : 100 < m
        · go_wp2
          go_ret
          exact gt_yes (gr_refl _)
        · go_wp2
          go_loop [4] (fun u => ∃ j : Nat, j ≤ m ∧ u = .int .i64 j ∧ Hid (∀ x ∈ b.ins.take j, x.name.length ≤ 120)) (fun u => m - (intOf u).toNat)
          case atStart => exact ⟨0, Nat.zero_le _, rfl, Lib.hid (by simp)⟩
          case round =>
            obtain ⟨j, hj, rfl, HJ⟩ := hrel
            by_cases hjt : j < m
            · obtain ⟨x, hx⟩ : ∃ x, b.ins[j]? = some x := ⟨_, List.getElem?_eq_getElem (by rw [HM.out]; exact hjt)⟩
              obtain ⟨d, d1, eD, hd, -, z0, z1, z2, z3⟩ := HR.out.ins (k := j) (by rw [HM.out]; exact hjt)
              have hxi : b.ins[j]'(by rw [HM.out]; exact hjt) = x := by rw [List.getElem?_eq_getElem (by rw [HM.out]; exact hjt)] at hx; exact Option.some.inj hx
              rw [hxi] at z0 z1 z2 z3
              rw [eD] at y2
              have NX := Lib.hid (show x.name.length ≤ 120 → ∀ y ∈ b.ins.take (j + 1), y.name.length ≤ 120 from fun h y hy => by
                rw [List.take_add_one, hx, List.mem_append] at hy
                rcases hy with hy | hy
                · exact HJ.out y hy
                · simp at hy; subst hy; exact h)
              clear hxi hx
              by_cases h120 : 120 < x.name.length
              · have h120' : (120 : Int) < (x.name.length : Int) := by omega
                go_wp2
                go_ret
                exact gt_yes (gr_refl _)
              · have h120' : ¬ (120 : Int) < (x.name.length : Int) := by omega
                have N2 := Lib.hid (NX.out (by omega))
                go_wp2
                exact ⟨⟨j + 1, by omega, by simp, N2⟩, by simp [intOf]; omega⟩
            · obtain rfl : m = j := by omega
              have NB := Lib.hid (show ∀ y ∈ bs.take (k + 1), SmB y from fun y hy => by
                rw [List.take_add_one, HBK.out, List.mem_append] at hy
                rcases hy with hy | hy
                · exact HG.out y hy
                · simp at hy
                  subst hy
                  have h := HJ.out
                  rw [List.take_of_length_le (Nat.le_of_eq HM.out)] at h
                  exact ⟨by rw [HM.out]; omega, h⟩)
              go_wp2
              exact ⟨⟨k + 1, by omega, by simp, NB⟩, by simp [intOf]; omega⟩
      · obtain rfl : n = k := by omega
        go_wp2
        go_ret
        refine gt_no (gr_refl _) ⟨by omega, ?_⟩
        have h := HG.out
        rwa [List.take_of_length_le (Nat.le_of_eq HN.out)] at h
set_option maxRecDepth 100000 in
set_option maxHeartbeats 4000000 in
theorem greatC_any (c : Cod) (w : World) (hc : c.Rd w) : Calls Tryd.prog 23 #[.agg #[.string ⟨c.label.toArray⟩, .slice c.bA c.bs.length c.bc, .slice c.dA c.ds.length c.dc]] w (GtP (SmC c) w) := by
  have hb := al_new w (.cells #[.string ⟨c.label.toArray⟩, .slice c.bA c.bs.length c.bc, .slice c.dA c.ds.length c.dc] 49)
  have G0 := Lib.hid (gr_al w (.cells #[.string ⟨c.label.toArray⟩, .slice c.bA c.bs.length c.bc, .slice c.dA c.ds.length c.dc] 49))
  have GB := Lib.hid (greatB_any c.bA c.bc c.bs (w.alloc (.cells #[.string ⟨c.label.toArray⟩, .slice c.bA c.bs.length c.bc, .slice c.dA c.ds.length c.dc] 49)) (hc.b.gr G0.out) (fun b hb => (hc.i b hb).gr G0.out))
  have c0 : (w.alloc (.cells #[.string ⟨c.label.toArray⟩, .slice c.bA c.bs.length c.bc, .slice c.dA c.ds.length c.dc] 49)).cell? ⟨w.heap.size, 0, none⟩ = some (.string ⟨c.label.toArray⟩) := by rw [Lib.cell_of_heap hb]; rfl
  have c1 : (w.alloc (.cells #[.string ⟨c.label.toArray⟩, .slice c.bA c.bs.length c.bc, .slice c.dA c.ds.length c.dc] 49)).cell? ⟨w.heap.size, 1, none⟩ = some (.slice c.bA c.bs.length c.bc) := by rw [Lib.cell_of_heap hb]; rfl
  have c2 : (w.alloc (.cells #[.string ⟨c.label.toArray⟩, .slice c.bA c.bs.length c.bc, .slice c.dA c.ds.length c.dc] 49)).cell? ⟨w.heap.size, 2, none⟩ = some (.slice c.dA c.ds.length c.dc) := by rw [Lib.cell_of_heap hb]; rfl
  clear hb hc
  by_cases h1 : 120 < c.label.length
  · have h1' : (120 : Int) < (c.label.length : Int) := by omega
    go_enter Tryd.func23, Tryd.ntmps23
    go_wp2
    go_ret
    exact gt_yes G0.out
  · have h1' : ¬ (120 : Int) < (c.label.length : Int) := by omega
    by_cases h2 : 20 < c.ds.length
    · have h2' : (20 : Int) < (c.ds.length : Int) := by omega
      go_enter Tryd.func23, Tryd.ntmps23
      go_wp2
      go_ret
      exact gt_yes G0.out
    · have h2' : ¬ (20 : Int) < (c.ds.length : Int) := by omega
      go_enter Tryd.func23, Tryd.ntmps23
      go_wp2_with (go_at_call 50; refine GB.out.mono ?_; rintro e w1 ⟨g1, g, rfl, hg⟩; have G1 := Lib.hid g1; have HG := Lib.hid hg; clear hg g1)
      go_ret
      exact gt_any (G0.out.trans G1.out) fun h => ⟨by omega, by omega, (HG.out h).1, (HG.out h).2⟩
set_option maxRecDepth 100000 in
set_option maxHeartbeats 4000000 in
theorem great_any (Ad : Option Addr) (cp : Nat) (L : List Cod) (w : World) (hL : CRd w Ad L) (hl : L.length ≤ 9223372036854775807) : Calls Tryd.prog 7 #[.slice Ad L.length cp] w (GtP (L.length ≤ 4 ∧ ∀ c ∈ L, SmC c) w) := by
  obtain ⟨n, hn⟩ : ∃ n, L.length = n := ⟨_, rfl⟩
  have HN := Lib.hid hn
  have HL := Lib.hid (fun V (g : Gr w V) => hL.gr g)
  rw [hn] at hl ⊢
  clear hL hn
  go_enter Tryd.func7, Tryd.ntmps7
  go_wp2
  go_loopw [3] (fun u V => ∃ k : Nat, k ≤ n ∧ u = .int .i64 k ∧ Hid (Gr w V ∧ ∀ c ∈ L.take k, SmC c)) (fun u _ => n - (intOf u).toNat)
  case atStart => exact ⟨0, Nat.zero_le _, rfl, Lib.hid ⟨gr_refl _, by simp⟩⟩
  case round =>
    obtain ⟨k, hk, rfl, HG⟩ := hrel
    by_cases hlt : k < n
    · obtain ⟨c, hc⟩ : ∃ c, L[k]? = some c := ⟨_, List.getElem?_eq_getElem (by rw [HN.out]; exact hlt)⟩
      obtain ⟨a, a1, rfl, ha, hab, y0, y1, y2⟩ := (HL.out _ HG.out.1).rd.cod (k := k) (by rw [HN.out]; exact hlt)
      have hci : L[k]'(by rw [HN.out]; exact hlt) = c := by rw [List.getElem?_eq_getElem (by rw [HN.out]; exact hlt)] at hc; exact Option.some.inj hc
      rw [hci] at y0 y1 y2
      have GC := Lib.hid (greatC_any c wr ((HL.out _ HG.out.1).c c (List.mem_of_getElem? hc)))
      have NX := Lib.hid (show SmC c → ∀ y ∈ L.take (k + 1), SmC y from fun h y hy => by
        rw [List.take_add_one, hc, List.mem_append] at hy
        rcases hy with hy | hy
        · exact HG.out.2 y hy
        · simp at hy; subst hy; exact h)
      clear hci hc
      go_wp2_with (go_at_call 23; refine GC.out.mono ?_; rintro e w1 ⟨g1, g, rfl, hg⟩; have G1 := Lib.hid g1; have HH := Lib.hid hg; clear g1 hg; cases g)
      · exact ⟨⟨k + 1, by omega, by simp, Lib.hid ⟨HG.out.1.trans G1.out, NX.out (HH.out (by simp))⟩⟩, by simp [intOf]; omega⟩
      · go_ret
        exact gt_yes (HG.out.1.trans G1.out)
    · obtain rfl : n = k := by omega
      have FIN := Lib.hid (show ∀ c ∈ L, SmC c from by have h := HG.out.2; rwa [List.take_of_length_le (Nat.le_of_eq HN.out)] at h)
      go_wp2
      go_ret
      refine gt_any HG.out.1 fun h => ⟨?_, FIN.out⟩
      simp at h
      omega
end Go.Proofs.YtgboboljgcfggaaDoor
namespace Go.Proofs.YtgboboljgcfggaaDoor
open Go.RowKit Go.Maps

attribute [local irreducible] Calls in
set_option maxRecDepth 100000 in
set_option maxHeartbeats 2000000 in
theorem rcheckCodes_any (Ad : Option Addr) (cp : Nat) (L : List Cod) (w : World) (hL : CRd w Ad L) (hl : L.length ≤ 9223372036854775807) (hi : ∀ x ∈ L, x.Lim) : Calls Tryd.prog 30 #[.slice Ad L.length cp] w fun e w' => e = .returned (.int .i64 (errL L)) ∧ Gr w w' := by
  have HC := Lib.hid (fun V (g : Gr w V) => (hL.gr g).rd)
  have CK := Lib.hid (fun V (g : Gr w V) (x : Cod) (hx : x ∈ L) => show Calls Tryd.prog 60 #[.agg #[.string ⟨x.label.toArray⟩, .slice x.bA x.bs.length x.bc, .slice x.dA x.ds.length x.dc]] V (fun e w' => e = .returned (.int .i64 (errC x)) ∧ Gr V w') from rcheck8_any x V ((hL.gr g).c x hx) (hi x hx))
  have EK := Lib.hid (fun k x (h : L[k]? = some x) => errK_at h)
  have EL := Lib.hid (show ((List.range L.length).map (errK L)).length = L.length from by rw [List.length_map, List.length_range])
  obtain ⟨r, hr⟩ : ∃ r, errL L = r := ⟨_, rfl⟩
  have ER := Lib.hid (show r = fe8 ((List.range L.length).map (errK L)) from by rw [← hr]; rfl)
  obtain ⟨E, hE⟩ : ∃ E, (List.range L.length).map (errK L) = E := ⟨_, rfl⟩
  simp only [hE] at EK EL ER
  rw [hr]
  obtain ⟨n, hn⟩ : ∃ n, L.length = n := ⟨_, rfl⟩
  have HN := Lib.hid hn
  rw [hn] at hl EL ⊢
  clear hL hi hE hr hn
  go_enter Tryd.func30, Tryd.ntmps30
  go_wp2
  go_loopw [3] (fun i V => ∃ k : Nat, k ≤ n ∧ i = .int .i64 k ∧ Hid (Gr w V ∧ fe8 (E.take k) = 0)) (fun i _ => n - (intOf i).toNat)
  case atStart => exact ⟨0, Nat.zero_le _, rfl, Lib.hid ⟨gr_refl _, rfl⟩⟩
  case round =>
    obtain ⟨k, hk, rfl, HK⟩ := hrel
    obtain ⟨gm, hfe⟩ := HK.out
    have GM := Lib.hid gm
    have FE := Lib.hid hfe
    clear gm hfe HK
    by_cases hlt : k < n
    · obtain ⟨a, a1, eA, ha, hab, y0, y1, y2⟩ := (HC.out _ GM.out).cod (k := k) (by rw [HN.out]; exact hlt)
      obtain rfl := eA
      obtain ⟨x, hx⟩ : ∃ x, L[k]'(by rw [HN.out]; exact hlt) = x := ⟨_, rfl⟩
      have HXI := Lib.hid (show L[k]? = some x from by rw [List.getElem?_eq_getElem (by rw [HN.out]; exact hlt), hx])
      rw [hx] at y0 y1 y2
      have CX := Lib.hid (fun V (g : Gr wr V) => CK.out V (GM.out.trans g) x (List.mem_of_getElem? HXI.out))
      have FA := Lib.hid (fe8_fail (EK.out k x HXI.out) FE.out)
      obtain ⟨z, hz⟩ : ∃ z, errC x = z := ⟨_, rfl⟩
      simp only [hz] at CX FA
      have YB := Lib.hid (fun V (g : Gr wr V) => gr_c g y0)
      clear hx hz
      by_cases hz0 : z = 0
      · subst hz0
        go_upto_region 7 with (first | (go_at_call 60; (with_reducible refine (CX.out _ (gr_refl _)).mono ?_); rintro e w6 ⟨rfl, g6⟩; have G6 := Lib.hid g6; clear g6))
        clear y0 y1 y2
        have G0 := Lib.hid (gr_refl w6)
        go_wp2
        go_loopw [5] (fun i V => ∃ j : Nat, j ≤ k ∧ i = .int .i64 j ∧ Hid (Gr w6 V ∧ x.label ∉ (L.take j).map Cod.label)) (fun i _ => k - (intOf i).toNat)
        case atStart => exact ⟨0, Nat.zero_le _, rfl, Lib.hid ⟨G0.out, by simp⟩⟩
        case round =>
          obtain ⟨j, hj, rfl, HJ⟩ := hrel
          obtain ⟨gj, hno⟩ := HJ.out
          have GJ := Lib.hid gj
          have HNO := Lib.hid hno
          clear gj hno HJ
          have y0 := YB.out _ (G6.out.trans GJ.out)
          by_cases hjl : j < k
          · have hjn : j < n := by omega
            obtain ⟨b, b1, eB, hb, hbb, v0, -, -⟩ := (HC.out _ (GM.out.trans (G6.out.trans GJ.out))).cod (k := j) (by rw [HN.out]; exact hjn)
            obtain rfl := Option.some.inj eB
            obtain ⟨y, hy⟩ : ∃ y, L[j]'(by rw [HN.out]; exact hjn) = y := ⟨_, rfl⟩
            have HYI := Lib.hid (show L[j]? = some y from by rw [List.getElem?_eq_getElem (by rw [HN.out]; exact hjn), hy])
            rw [hy] at v0
            clear hy
            by_cases he : y.label = x.label
            · have hb1 : (y.label == x.label) = true := by simpa using he
              have hin : x.label ∈ (L.take k).map Cod.label := by
                refine List.mem_map.2 ⟨y, ?_, he⟩
                rw [List.mem_take_iff_getElem]
                obtain ⟨h1, h2⟩ := List.getElem?_eq_some_iff.1 HYI.out
                exact ⟨j, by omega, h2⟩
              have hfin : r = 7 := ER.out.trans (by have h := FA.out.1; rw [if_neg (by simp), if_pos hin] at h; exact h (by decide))
              subst hfin
              clear he hin FA ER
              go_upto_region 10 with (fail)
              go_quiet (fail)
              go_wp2
              go_ret
              exact ⟨rfl, (GM.out.trans (G6.out.trans GJ.out)).trans (gr_drewN _ _)⟩
            · have hb1 : (y.label == x.label) = false := by simpa using he
              have HNX := Lib.hid (show x.label ∉ (L.take (j + 1)).map Cod.label from by
                rw [List.take_add_one, HYI.out, List.map_append, List.mem_append]
                rintro (h | h)
                · exact HNO.out h
                · simp at h; exact he h.symm)
              clear he
              go_upto_region 10 with (fail)
              go_quiet (fail)
              go_wp2
              exact ⟨⟨j + 1, hjl, by simp, Lib.hid ⟨GJ.out.trans (gr_drewN _ _), HNX.out⟩⟩, by simp [intOf]; omega⟩
          · obtain rfl : k = j := by omega
            have hok : fe8 (E.take (k + 1)) = 0 := by have h := FA.out.2; rw [if_neg (by simp), if_neg HNO.out] at h; exact h rfl
            have HOK := Lib.hid hok
            clear hok
            go_wp2
            exact ⟨⟨k + 1, hlt, by simp, Lib.hid ⟨GM.out.trans (G6.out.trans GJ.out), HOK.out⟩⟩, by simp [intOf]; omega⟩
      · have hb0 : (z != 0) = true := by simpa using hz0
        have hfin : r = z := ER.out.trans (by have h := FA.out.1; rw [if_pos hz0] at h; exact h hz0)
        subst hfin
        clear hz0 FA ER
        go_wp2_with (first | (go_at_call 60; (with_reducible refine (CX.out _ (gr_refl _)).mono ?_); rintro e w6 ⟨rfl, g6⟩; have G6 := Lib.hid g6; clear g6))
        go_ret
        exact ⟨rfl, GM.out.trans G6.out⟩
    · obtain rfl : n = k := by omega
      have h0 := FE.out
      rw [List.take_of_length_le (by rw [EL.out]; exact Nat.le_refl _), ← ER.out] at h0
      subst h0
      go_wp2
      go_ret
      exact ⟨rfl, GM.out⟩
end Go.Proofs.YtgboboljgcfggaaDoor
namespace Go.Proofs.YtgboboljgcfggaaDoor
open Go.RowKit Go.Maps

theorem elZ : EL 35 3 1 Ic where
  hn _ := rfl
  h1 x u hu := by
    simp only [Ic, List.mem_cons, List.not_mem_nil, or_false] at hu
    subst hu
    rfl
  ht := Tryd.underlying35
  hi := ⟨iv 0, 8, by kernel_rfl, rfl, by decide⟩
  h0 := by decide
def refL (l : List Ins) : List Int := (l.filter fun x => x.op == 4 || x.op == 5).map Ins.a
theorem refL_snoc {l : List Ins} {m : Nat} {x : Ins} (hx : l[m]? = some x) : refL (l.take (m + 1)) = refL (l.take m) ++ (if x.op = 4 ∨ x.op = 5 then [x.a] else []) := by
  unfold refL
  rw [List.take_add_one, hx, List.filter_append, List.map_append]
  congr 1
  by_cases h4 : x.op = 4
  · simp [h4]
  · by_cases h5 : x.op = 5
    · simp [h5]
    · simp [h4, h5]
theorem addI_in {k : List Int} {x : Int} (h : x ∈ k) : addI k x = k := if_pos h
theorem addI_no {k : List Int} {x : Int} (h : x ∉ k) : addI k x = k ++ [x] := if_neg h
theorem int_form {w : World} {B : Nat} {v : Value} {D : List Int} (o : OR 3 1 Ic w B v D) : ∃ A c, v = .slice A D.length c ∧ RD 1 Ic w A D := o.form elZ.hn
/-- A row of numbers of the call's own, in a slice. -/
structure ZS (w : World) (B : Nat) (s : Value) (k : List Int) (V : World) : Prop where
  gr : Gr w V
  o : OR 3 1 Ic V B s k
  hb : w.heap.size ≤ B
  hV : B ≤ V.heap.size
theorem ZS.go {w V V' : World} {B : Nat} {s : Value} {k : List Int} (h : ZS w B s k V) (g : Gr V V') : ZS w B s k V' := ⟨h.gr.trans g, h.o.gr g, h.hb, Nat.le_trans h.hV g.size⟩
theorem ZS.app {w V V' W : World} {B : Nat} {s s' : Value} {k : List Int} {x : Int} (h : ZS w B s k V) (g : Gr V V') (o' : OR 3 1 Ic W B s' (k ++ [x])) (g' : V'.grownBy W s.ownBlock) : ZS w B s' (k ++ [x]) W :=
  ⟨OR.grow (h.gr.trans g) (h.o.gr g) h.hb g', o', h.hb, Nat.le_trans (Nat.le_trans h.hV g.size) g'.size⟩
theorem ndd_step {pb : List PB} {f i : Nat} {k : List Int} {m : Nat} {b : PB} (hk : k[i]? = some (m : Int)) (hb : pb[m]? = some b) : nddL pb (f + 1) i k = nddL pb f (i + 1) ((refL b.ins).foldl addI k) := by
  have hm := (List.getElem?_eq_some_iff.1 hb).1
  rw [nddL, hk]
  simp only
  rw [if_neg (by omega), Int.toNat_natCast, List.getD_eq_getElem?_getD, hb]
  rfl
theorem ndd_end {pb : List PB} {f i : Nat} {k : List Int} (hk : k[i]? = none) : nddL pb (f + 1) i k = some k := by rw [nddL, hk]
theorem fold_nu {n : Nat} {k r : List Int} (h : Nu n k) (hr : ∀ a ∈ r, 0 ≤ a ∧ a < n) : Nu n (r.foldl addI k) := ⟨foldI_nodup _ _ h.nd, fun y hy => by
  rcases (foldI_mem _ _ _).1 hy with h1 | h1
  · exact h.ok y h1
  · exact hr y h1⟩
theorem refL_mem {l : List Ins} {j : Nat} {a : Int} (h : a ∈ refL (l.take j)) : a ∈ refL l := by
  unfold refL at h ⊢
  obtain ⟨x, hx, rfl⟩ := List.mem_map.1 h
  obtain ⟨h1, h2⟩ := List.mem_filter.1 hx
  exact List.mem_map.2 ⟨x, List.mem_filter.2 ⟨List.mem_of_mem_take h1, h2⟩, rfl⟩
attribute [local irreducible] Calls in
set_option maxRecDepth 100000 in
set_option maxHeartbeats 8000000 in
theorem needed_any (X : Prg) (w : World) (hX : X.Rd w) (hr : ∀ b ∈ X.bs.map Blk.pb, ∀ a ∈ refI b, 0 ≤ a ∧ a < (X.bs.map Blk.pb).length) (hs : Nu X.bs.length ((X.ss.map Stt.block).foldl addI [])) (hbl : X.bs.length ≤ 100000) (hsl : X.ss.length ≤ 100000) (hil : ∀ b ∈ X.bs, b.ins.length ≤ 100000) :
    Calls Tryd.prog 12 #[X.v] w fun e w' => ∃ v r, e = .returned v ∧ nddL (X.bs.map Blk.pb) (X.bs.length + 1) 0 ((X.ss.map Stt.block).foldl addI []) = some r ∧ OR 3 1 Ic w' w.heap.size v r ∧ Gr w w' := by
  unfold Prg.v
  obtain ⟨nb, hnb⟩ : ∃ m, X.bs.length = m := ⟨_, rfl⟩
  obtain ⟨ns, hns⟩ : ∃ m, X.ss.length = m := ⟨_, rfl⟩
  obtain ⟨A0, hA0⟩ : ∃ m, X.bA = m := ⟨_, rfl⟩
  have HA0 := Lib.hid hA0
  rw [hA0]
  clear hA0
  have HX := Lib.hid (fun V (g : Gr w V) => hX.below (below_of g))
  have HR := Lib.hid hr
  have HS := Lib.hid hs
  have HI := Lib.hid hil
  have HNB := Lib.hid hnb
  have HNS := Lib.hid hns
  rw [hnb] at hbl
  rw [hns] at hsl
  rw [hnb, hns]
  have G0 := Lib.hid (gr_al w (.cells #[.slice A0 nb X.bc, .slice X.sA ns X.sc] 29))
  have PB := Lib.hid (al_new w (.cells #[.slice A0 nb X.bc, .slice X.sA ns X.sc] 29))
  clear hX hr hs hil hnb hns
  go_enter Tryd.func12, Tryd.ntmps12
  go_upto_region 2 with (fail)
  generalize w.alloc (.cells #[.slice A0 nb X.bc, .slice X.sA ns X.sc] 29) = W0 at *
  have Z0 := Lib.hid (show ZS W0 W0.heap.size (.slice none 0 0) ((([] : List Stt).map Stt.block).foldl addI []) W0 from ⟨gr_refl _, OR.nil, Nat.le_refl _, Nat.le_refl _⟩)
  have HZ0 := Lib.hid (show w.heap.size ≤ W0.heap.size from G0.out.size)
  have p1 : W0.cell? ⟨w.heap.size, 1, none⟩ = some (.slice X.sA ns X.sc) := by rw [Lib.cell_of_heap PB.out]; rfl
  obtain ⟨B, hB⟩ : ∃ m, W0.heap.size = m := ⟨_, rfl⟩
  rw [hB] at Z0 HZ0
  clear hB
  go_upto_region 3 with (fail)
  go_loopw [3, 12] (fun s u V => ∃ j : Nat, j ≤ ns ∧ u = .int .i64 j ∧ Hid (ZS W0 B s (((X.ss.take j).map Stt.block).foldl addI []) V)) (fun _ u _ => ns - (intOf u).toNat)
  case atStart => exact ⟨0, Nat.zero_le _, rfl, Z0⟩
  case round =>
    clear Z0 p1
    obtain ⟨j, hj, rfl, HZ⟩ := hrel
    by_cases hlt : j < ns
    · obtain ⟨s, hs⟩ : ∃ s, X.ss[j]? = some s := ⟨_, List.getElem?_eq_getElem (by rw [HNS.out]; exact hlt)⟩
      obtain ⟨a, a1, eA, ha, hab, y0, y1, y2⟩ := (HX.out _ (G0.out.trans HZ.out.gr)).s.stt (k := j) (by rw [HNS.out]; exact hlt)
      have hsi : X.ss[j]'(by rw [HNS.out]; exact hlt) = s := by rw [List.getElem?_eq_getElem (by rw [HNS.out]; exact hlt)] at hs; exact Option.some.inj hs
      rw [hsi] at y0 y1 y2
      rw [eA]
      have hfold : ((X.ss.take (j + 1)).map Stt.block).foldl addI [] = addI (((X.ss.take j).map Stt.block).foldl addI []) s.block := by
        rw [List.take_add_one, hs, Option.toList_some, List.map_append, List.foldl_append]; rfl
      obtain ⟨k, hk⟩ : ∃ k, ((X.ss.take j).map Stt.block).foldl addI [] = k := ⟨_, rfl⟩
      rw [hk] at HZ hfold
      have hkl : k.length ≤ j := by
        have h := foldI_pre ((X.ss.take j).map Stt.block) []
        have h2 : ∀ (r k : List Int), (r.foldl addI k).length ≤ k.length + r.length := by
          intro r
          induction r with
          | nil => intro k; simp
          | cons x r ih => intro k; have := ih (addI k x); have h3 : (addI k x).length ≤ k.length + 1 := by unfold addI; split <;> simp
                           simp only [List.foldl_cons, List.length_cons]; omega
        have h3 := h2 ((X.ss.take j).map Stt.block) []
        rw [hk] at h3
        simp at h3
        omega
      have HF := Lib.hid hfold
      obtain ⟨Ak, ck, e3, hrd⟩ := int_form HZ.out.o
      subst e3
      obtain ⟨nk, hnk⟩ : ∃ m, k.length = m := ⟨_, rfl⟩
      have HNK := Lib.hid hnk
      have CT := Lib.hid (fun V (g : Gr wr V) => show Calls Tryd.prog 13 #[.slice Ak nk ck, .int .i64 s.block] V (fun e w' => e = .returned (.bool (decide (s.block ∈ k))) ∧ Gr V w') from by
        have h := containsI_any Ak ck k s.block V (hrd.gr g) (by omega)
        rw [hnk] at h
        exact h)
      rw [hnk] at HZ hkl
      clear hs hsi hfold hk hrd hnk
      rw [HNK.out]
      have SB := Lib.hid (fun V (g : Gr (wr.alloc (.cells #[.string ⟨s.pack.toArray⟩, .int .i64 s.id, .int .i64 s.block] 43)) V) => show V.cell? ⟨wr.heap.size, 2, none⟩ = some (.int .i64 s.block) from by rw [Lib.cell_of_heap (gr_h g (al_new wr _))]; rfl)
      have GS := Lib.hid (gr_al wr (.cells #[.string ⟨s.pack.toArray⟩, .int .i64 s.id, .int .i64 s.block] 43))
      by_cases hin : s.block ∈ k
      · have HD := Lib.hid (decide_eq_true hin)
        have HA := Lib.hid (addI_in hin)
        clear hin
        go_wp2_with (go_at_call 13; refine (CT.out _ GS.out).mono ?_; rintro e w1 ⟨rfl, g1⟩; rw [HD.out]; have G1 := Lib.hid g1; clear g1)
        exact ⟨⟨j + 1, by omega, by simp, Lib.hid (by rw [HF.out, HA.out]; exact HZ.out.go (GS.out.trans G1.out))⟩, by simp [intOf]; omega⟩
      · have HD := Lib.hid (decide_eq_false hin)
        have HA := Lib.hid (addI_no hin)
        clear hin
        go_wp2_with (first
          | (go_at_call 13; refine (CT.out _ GS.out).mono ?_; rintro e w1 ⟨rfl, g1⟩; rw [HD.out]; have G1 := Lib.hid g1; have sb1 := SB.out _ g1; have HZ1 := Lib.hid (HZ.out.go (GS.out.trans g1)); clear g1)
          | (at_builtin; refine wpList_app elZ rfl (.tmp 21) (.tmp 24) rfl B rfl (HZ1.out.o.gr (gr_al _ _)) (M := [s.block]) (m := 1) (c := 1) rfl rfl (rd_cells (t := 3) elZ.hn (al_new _ _)) (by have := HNK.out; simp; omega) (by have := HZ1.out.hV; simp; omega) ?_; intro v7 w7 o7 g7 h7; have O7 := Lib.hid o7; have G7 := Lib.hid g7; clear o7 g7 h7))
        exact ⟨⟨j + 1, by omega, by simp, Lib.hid (by rw [HF.out, HA.out]; exact HZ1.out.app (gr_al _ _) O7.out G7.out)⟩, by simp [intOf]; omega⟩
    · obtain rfl : ns = j := by omega
      have Z1 := Lib.hid (show ZS W0 B u3 ((X.ss.map Stt.block).foldl addI []) wr from by have h := HZ.out; rwa [List.take_of_length_le (Nat.le_of_eq HNS.out)] at h)
      clear HZ
      go_upto_region 9 with (fail)
      have p0f := Lib.hid (fun V (g : Gr W0 V) => show V.cell? ⟨w.heap.size, 0, none⟩ = some (.slice A0 nb X.bc) from by rw [Lib.cell_of_heap (gr_h g PB.out)]; rfl)
      obtain ⟨pbs, hpbs⟩ : ∃ q, X.bs.map Blk.pb = q := ⟨_, rfl⟩
      obtain ⟨K0, hK0⟩ : ∃ q, (X.ss.map Stt.block).foldl addI [] = q := ⟨_, rfl⟩
      rw [hK0] at HS Z1
      rw [hpbs] at HR
      have HPB := Lib.hid hpbs
      have HK0 := Lib.hid hK0
      have HPL := Lib.hid (show pbs.length = nb from by rw [← hpbs, List.length_map]; exact HNB.out)
      have HSN := Lib.hid (show Nu nb K0 from by have h := HS.out; rwa [HNB.out] at h)
      clear hpbs hK0 HS
      go_loopw [3, 6] (fun s u V => ∃ (i : Nat) (k : List Int), u = .int .i64 i ∧ Hid (ZS W0 B s k V ∧ Nu nb k ∧ i ≤ k.length ∧ nddL pbs (nb + 1) 0 K0 = nddL pbs (nb + 1 - i) i k)) (fun _ u _ => nb + 1 - (intOf u).toNat)
      case atStart => exact ⟨0, K0, rfl, Lib.hid ⟨Z1.out, HSN.out, Nat.zero_le _, rfl⟩⟩
      case round =>
        clear Z1 HSN
        obtain ⟨i, k, rfl, HH⟩ := hrel
        have HZ := Lib.hid HH.out.1
        have HNU := Lib.hid HH.out.2.1
        have HIK := Lib.hid HH.out.2.2
        have hkn := HNU.out.len
        clear HH
        obtain ⟨Ak, ck, e3, hrd⟩ := int_form HZ.out.o
        subst e3
        obtain ⟨nk, hnk⟩ : ∃ m, k.length = m := ⟨_, rfl⟩
        have HNK := Lib.hid hnk
        rw [hnk] at HZ hkn
        rw [hnk]
        have hik : i ≤ nk := by rw [← hnk]; exact HIK.out.1
        have HRD := Lib.hid hrd
        clear hrd hnk
        have p0 := p0f.out _ HZ.out.gr
        by_cases hlt : i < nk
        · obtain ⟨n, hn⟩ : ∃ n, k[i]? = some n := ⟨_, List.getElem?_eq_getElem (by rw [HNK.out]; exact hlt)⟩
          obtain ⟨n1, n2⟩ := HNU.out.ok n (List.mem_of_getElem? hn)
          obtain ⟨m, rfl⟩ : ∃ m : Nat, n = (m : Int) := ⟨n.toNat, by omega⟩
          have hm : m < nb := by omega
          obtain ⟨b, hb⟩ : ∃ b, X.bs[m]? = some b := ⟨_, List.getElem?_eq_getElem (by rw [HNB.out]; exact hm)⟩
          obtain ⟨a, a1, eA, ha, y0⟩ := HRD.out.num hn
          obtain ⟨d, d1, eD, hd, -, z0, z1, z2⟩ := (HX.out _ (G0.out.trans HZ.out.gr)).b.blk (k := m) (by rw [HNB.out]; exact hm)
          have hbi : X.bs[m]'(by rw [HNB.out]; exact hm) = b := by rw [List.getElem?_eq_getElem (by rw [HNB.out]; exact hm)] at hb; exact Option.some.inj hb
          rw [hbi] at z0 z1 z2
          subst eA
          rw [HA0.out] at eD
          subst eD
          have hbm := List.mem_of_getElem? hb
          have HST := Lib.hid (ndd_step (f := nb - i) hn (by rw [← HPB.out, List.getElem?_map, hb]; rfl : pbs[m]? = some b.pb))
          have HBR := Lib.hid (show ∀ a ∈ refL b.ins, 0 ≤ a ∧ a < (nb : Int) from fun a ha => by
            have h := HR.out b.pb (by rw [← HPB.out]; exact List.mem_map.2 ⟨b, hbm, rfl⟩) a ha
            rw [HPL.out] at h
            exact h)
          have HXI := Lib.hid (fun V (g : Gr w V) => (HX.out V g).i b hbm)
          have hil := HI.out b hbm
          obtain ⟨mi, hmi⟩ : ∃ q, b.ins.length = q := ⟨_, rfl⟩
          have HMI := Lib.hid hmi
          rw [hmi] at z2 hil
          obtain ⟨bA, hbA⟩ : ∃ q, b.A = q := ⟨_, rfl⟩
          rw [hbA] at z2 HXI
          clear hn hb hbi hbm hmi hbA n1 n2
          go_upto_region 11 with (fail)
          go_quiet (fail)
          generalize hV : World.drewN wr _ = V2
          have G2 := Lib.hid (show Gr wr V2 from by rw [← hV]; exact gr_drewN _ _)
          clear hV
          have HZ2 := Lib.hid (HZ.out.go G2.out)
          have p0 := gr_c G2.out p0
          have y0 := gr_c G2.out y0
          have z2 := gr_c G2.out z2
          go_upto_region 13 with (fail)
          go_quiet (fail)
          generalize hV : World.drewN V2 _ = V3
          have G3 := Lib.hid (show Gr V2 V3 from by rw [← hV]; exact gr_drewN _ _)
          clear hV
          have HZ3 := Lib.hid (HZ2.out.go G3.out)
          clear HZ HZ2 p0 y0 z0 z1 z2
          go_upto_region 14 with (fail)
          have q1 : decide (nb ≤ m) = false := decide_eq_false (by omega)
          have q2 : decide ((m : Int) < 0) = false := decide_eq_false (by omega)
          simp only [q1, q2, Bool.or_false]
          clear q1 q2
          go_loopw [3, 59] (fun s u V => ∃ j : Nat, j ≤ mi ∧ u = .int .i64 j ∧ Hid (ZS W0 B s ((refL (b.ins.take j)).foldl addI k) V)) (fun _ u _ => mi - (intOf u).toNat)
          case atStart => exact ⟨0, Nat.zero_le _, rfl, Lib.hid (by simpa [refL] using HZ3.out)⟩
          case round =>
            clear HZ3
            obtain ⟨j, hj, rfl, HZ⟩ := hrel
            by_cases hjt : j < mi
            · obtain ⟨x, hx⟩ : ∃ x, b.ins[j]? = some x := ⟨_, List.getElem?_eq_getElem (by rw [HMI.out]; exact hjt)⟩
              obtain ⟨e, e1, eE, he, -, x0, x1, x2, x3⟩ := (HXI.out _ (G0.out.trans HZ.out.gr)).ins (k := j) (by rw [HMI.out]; exact hjt)
              have hxi : b.ins[j]'(by rw [HMI.out]; exact hjt) = x := by rw [List.getElem?_eq_getElem (by rw [HMI.out]; exact hjt)] at hx; exact Option.some.inj hx
              rw [hxi] at x0 x1 x2 x3
              subst eE
              have hq0 := (fold_nu HNU.out (r := refL (b.ins.take j)) (fun a ha => HBR.out a (refL_mem ha))).len
              obtain ⟨q, hq⟩ : ∃ q, (refL (b.ins.take j)).foldl addI k = q := ⟨_, rfl⟩
              rw [hq] at HZ hq0
              have HF := Lib.hid (show (x.op = 4 ∨ x.op = 5) → (refL (b.ins.take (j + 1))).foldl addI k = addI q x.a from fun h => by rw [refL_snoc hx, if_pos h, List.foldl_append, hq]; rfl)
              have HFN := Lib.hid (show ¬ (x.op = 4 ∨ x.op = 5) → (refL (b.ins.take (j + 1))).foldl addI k = q from fun h => by rw [refL_snoc hx, if_neg h, List.append_nil, hq])
              obtain ⟨Aq, cq, e3, hrq⟩ := int_form HZ.out.o
              subst e3
              obtain ⟨nq, hnq⟩ : ∃ m, q.length = m := ⟨_, rfl⟩
              have HNQ := Lib.hid hnq
              have CT := Lib.hid (fun V (g : Gr wr V) => show Calls Tryd.prog 13 #[.slice Aq nq cq, .int .i64 x.a] V (fun e w' => e = .returned (.bool (decide (x.a ∈ q))) ∧ Gr V w') from by
                have h := containsI_any Aq cq q x.a V (hrq.gr g) (by omega)
                rw [hnq] at h
                exact h)
              rw [hnq] at HZ hq0
              rw [hnq]
              clear hxi hx hq hrq hnq
              have GS := Lib.hid (gr_al wr (.cells #[.int .i64 x.op, .int .i64 x.a, .int .i64 x.b, .string ⟨x.name.toArray⟩] 63))
              have sb0 : (wr.alloc (.cells #[.int .i64 x.op, .int .i64 x.a, .int .i64 x.b, .string ⟨x.name.toArray⟩] 63)).cell? ⟨wr.heap.size, 0, none⟩ = some (.int .i64 x.op) := by rw [Lib.cell_of_heap (al_new wr _)]; rfl
              have sb1 : (wr.alloc (.cells #[.int .i64 x.op, .int .i64 x.a, .int .i64 x.b, .string ⟨x.name.toArray⟩] 63)).cell? ⟨wr.heap.size, 1, none⟩ = some (.int .i64 x.a) := by rw [Lib.cell_of_heap (al_new wr _)]; rfl
              generalize x.op = op at *
              by_cases h4 : op = 4
              · subst h4
                by_cases hin : x.a ∈ q
                · have HD := Lib.hid (decide_eq_true hin)
                  have HA := Lib.hid (addI_in hin)
                  clear hin
                  go_wp2_with (go_at_call 13; refine (CT.out _ GS.out).mono ?_; rintro e w1 ⟨rfl, g1⟩; rw [HD.out]; have G1 := Lib.hid g1; clear g1)
                  exact ⟨⟨j + 1, by omega, by simp, Lib.hid (by rw [HF.out (by simp), HA.out]; exact HZ.out.go (GS.out.trans G1.out))⟩, by simp [intOf]; omega⟩
                · have HD := Lib.hid (decide_eq_false hin)
                  have HA := Lib.hid (addI_no hin)
                  clear hin
                  go_wp2_with (first
                    | (go_at_call 13; refine (CT.out _ GS.out).mono ?_; rintro e w1 ⟨rfl, g1⟩; rw [HD.out]; have G1 := Lib.hid g1; have sb1 := gr_c g1 sb1; have HZ1 := Lib.hid (HZ.out.go (GS.out.trans g1)); clear g1)
                    | (at_builtin; refine wpList_app elZ rfl (.tmp 78) (.tmp 81) rfl B rfl (HZ1.out.o.gr (gr_al _ _)) (M := [x.a]) (m := 1) (c := 1) rfl rfl (rd_cells (t := 3) elZ.hn (al_new _ _)) (by have := HNQ.out; simp; omega) (by have := HZ1.out.hV; simp; omega) ?_; intro v7 w7 o7 g7 h7; have O7 := Lib.hid o7; have G7 := Lib.hid g7; clear o7 g7 h7))
                  exact ⟨⟨j + 1, by omega, by simp, Lib.hid (by rw [HF.out (by simp), HA.out]; exact HZ1.out.app (gr_al _ _) O7.out G7.out)⟩, by simp [intOf]; omega⟩
              · by_cases h5 : op = 5
                · subst h5
                  by_cases hin : x.a ∈ q
                  · have HD := Lib.hid (decide_eq_true hin)
                    have HA := Lib.hid (addI_in hin)
                    clear hin
                    go_wp2_with (go_at_call 13; refine (CT.out _ GS.out).mono ?_; rintro e w1 ⟨rfl, g1⟩; rw [HD.out]; have G1 := Lib.hid g1; clear g1)
                    exact ⟨⟨j + 1, by omega, by simp, Lib.hid (by rw [HF.out (by simp), HA.out]; exact HZ.out.go (GS.out.trans G1.out))⟩, by simp [intOf]; omega⟩
                  · have HD := Lib.hid (decide_eq_false hin)
                    have HA := Lib.hid (addI_no hin)
                    clear hin
                    go_wp2_with (first
                      | (go_at_call 13; refine (CT.out _ GS.out).mono ?_; rintro e w1 ⟨rfl, g1⟩; rw [HD.out]; have G1 := Lib.hid g1; have sb1 := gr_c g1 sb1; have HZ1 := Lib.hid (HZ.out.go (GS.out.trans g1)); clear g1)
                      | (at_builtin; refine wpList_app elZ rfl (.tmp 78) (.tmp 81) rfl B rfl (HZ1.out.o.gr (gr_al _ _)) (M := [x.a]) (m := 1) (c := 1) rfl rfl (rd_cells (t := 3) elZ.hn (al_new _ _)) (by have := HNQ.out; simp; omega) (by have := HZ1.out.hV; simp; omega) ?_; intro v7 w7 o7 g7 h7; have O7 := Lib.hid o7; have G7 := Lib.hid g7; clear o7 g7 h7))
                    exact ⟨⟨j + 1, by omega, by simp, Lib.hid (by rw [HF.out (by simp), HA.out]; exact HZ1.out.app (gr_al _ _) O7.out G7.out)⟩, by simp [intOf]; omega⟩
                · have e4 : (op == 4) = false := by simpa using h4
                  have e5 : (op == 5) = false := by simpa using h5
                  have FN := Lib.hid (HFN.out (fun h => h.elim h4 h5))
                  clear h4 h5
                  go_wp2
                  exact ⟨⟨j + 1, by omega, by simp, Lib.hid (by rw [FN.out]; exact HZ.out.go GS.out)⟩, by simp [intOf]; omega⟩
            · obtain rfl : mi = j := by omega
              have hfin := HZ.out
              rw [List.take_of_length_le (Nat.le_of_eq HMI.out)] at hfin
              have NX := Lib.hid (show ZS W0 B u3 ((refL b.ins).foldl addI k) wr ∧ Nu nb ((refL b.ins).foldl addI k) ∧ i + 1 ≤ ((refL b.ins).foldl addI k).length ∧ nddL pbs (nb + 1) 0 K0 = nddL pbs (nb + 1 - (i + 1)) (i + 1) ((refL b.ins).foldl addI k) from ⟨hfin, fold_nu HNU.out HBR.out, by
                obtain ⟨e, he⟩ := foldI_pre (refL b.ins) k
                rw [he, List.length_append]
                have := HNK.out
                omega, by
                have h := HST.out
                rw [HIK.out.2, show nb + 1 - i = nb - i + 1 from by omega, h, show nb + 1 - (i + 1) = nb - i from by omega]
                rfl⟩)
              clear hfin
              go_wp2
              exact ⟨⟨i + 1, _, by simp, NX⟩, by simp [intOf]; omega⟩
        · obtain rfl : nk = i := by omega
          have HE := Lib.hid (show nddL pbs (nb + 1) 0 K0 = some k from by
            rw [HIK.out.2, show nb + 1 - nk = nb - nk + 1 from by omega]
            exact ndd_end (List.getElem?_eq_none (Nat.le_of_eq HNK.out)))
          go_wp2
          go_ret
          refine ⟨_, k, rfl, by rw [HPB.out, HK0.out]; exact HE.out, ?_, G0.out.trans HZ.out.gr⟩
          have h := HZ.out.o
          exact ⟨h.1, h.2.imp id fun ⟨g, cap, cur, q1, q2, q3⟩ => ⟨g, cap, cur, q1, Nat.le_trans HZ0.out q2, q3⟩⟩
end Go.Proofs.YtgboboljgcfggaaDoor
namespace Go.Proofs.YtgboboljgcfggaaDoor
open Go.ChangeShapes Go.WideShapes Go.ChangeAt Go.RowKit Go.Joins Go.Deep

theorem own : ownKnob Tryd.prog.godebug = none := by kernel_rfl
theorem laidOut : laidOutB Tryd.prog = true := by kernel_rfl

section
variable {H : Type} {enc : TypeId × Value → H} {P : Program} {W : World} {base : Nat} {spare : Nat → Bool} {held : Bool}
/-- A slice of records that came in. -/
theorem open_recs {α : Type} [Inhabited α] {t e : TypeId} {n : Nat} {cs : α → List Value} {ok : α → Prop} (ht : P.underlying t = some (.slice e)) (hn : P.cellsOf e = n) (h0 : 0 < n)
    (hr : ∀ (k : Nat) (vs : List Value) (y : DataW H × List MemPlace), DataW.trod enc P W base spare held k e vs = some y → vs.length = n → ∃ x : α, vs = cs x ∧ ok x)
    {fuel : Nat} {v : Value} {x : DataW H × List MemPlace} (h : DataW.trod enc P W base spare held fuel t [v] = some x) :
    ∃ (A : Option Addr) (c : Nat) (L : List α), v = .slice A L.length c ∧ L.length ≤ 9223372036854775807 ∧ RD n cs W A L ∧ ∀ x ∈ L, ok x := by
  rcases open_slice ht h with ⟨e1, _⟩ | ⟨a, len, cap, m, k, D, Pl, e1, hb, hl, hm, hmm, _, hx⟩
  · have e1 : v = .slice none 0 0 := by simpa using e1
    exact ⟨none, 0, [], e1, by simp, .inl rfl, by simp⟩
  · have e1 : v = .slice (some a) len cap := by simpa using e1
    have hlm : len ≤ m := by rw [hmm]; split <;> omega
    have hm' : cap ≤ 9223372036854775807 := by unfold maxLen at hm; omega
    rw [hn] at hx
    obtain ⟨X, hX⟩ := choose_lt (α := α) (n := m) (p := fun i x => (∀ j v, (cs x)[j]? = some v → W.cell? (a.add (i * n + j)) = some v) ∧ (cs x).length = n ∧ ok x) (fun i hi => by
      obtain ⟨cs', h1, h2⟩ := hx i hi
      obtain ⟨_, hlen, hcell⟩ := World.cells?_some h1
      obtain ⟨x, rfl, hok⟩ := hr k cs' _ h2 hlen
      refine ⟨x, fun j v hj => ?_, hlen, hok⟩
      have hjn : j < n := by
        rcases Nat.lt_or_ge j n with h' | h'
        · exact h'
        · rw [List.getElem?_eq_none (by omega)] at hj; cases hj
      rw [← add_add', hcell j hjn]
      exact hj)
    refine ⟨some a, cap, (List.range len).map X, by simpa using e1, by simp; omega, ?_, fun x hx' => ?_⟩
    · rcases Nat.eq_zero_or_pos len with h9 | h9
      · left; subst h9; simp
      · refine .inr ⟨a, rfl, ?_, fun j y hj i v hi => ?_⟩
        · obtain ⟨h1, h2, _⟩ := hX 0 (by omega)
          have h3 := h1 0 _ (List.getElem?_eq_getElem (by omega))
          have := World.block_lt_of_cell? W _ h3
          rwa [add_block] at this
        · rw [List.getElem?_map] at hj
          by_cases hjl : j < len
          · rw [List.getElem?_range hjl] at hj
            simp only [Option.map_some, Option.some.injEq] at hj
            subst hj
            exact (hX j (by omega)).1 i v hi
          · rw [List.getElem?_eq_none (by simp; omega)] at hj; simp at hj
    · obtain ⟨i, hi, rfl⟩ := List.mem_map.1 hx'
      rw [List.mem_range] at hi
      exact (hX i (by omega)).2.2
end
section
variable {H : Type} {enc : TypeId × Value → H} {W : World} {base : Nat} {spare : Nat → Bool} {held : Bool}
instance : Inhabited Ins := ⟨⟨0, 0, 0, []⟩⟩
instance : Inhabited Stt := ⟨⟨[], 0, 0⟩⟩
instance : Inhabited Blk := ⟨⟨0, false, none, 0, []⟩⟩
instance : Inhabited Dcl := ⟨⟨0, 0, 0⟩⟩
instance : Inhabited Cod := ⟨⟨[], none, 0, [], none, 0, []⟩⟩
instance : Inhabited Nam := ⟨⟨[], 0⟩⟩
theorem list2 {α : Type} {l : List α} (h : l.length = 2) : ∃ a b, l = [a, b] := by
  match l, h with
  | [a, b], _ => exact ⟨a, b, rfl⟩
theorem list3 {α : Type} {l : List α} (h : l.length = 3) : ∃ a b c, l = [a, b, c] := by
  match l, h with
  | [a, b, c], _ => exact ⟨a, b, c, rfl⟩
theorem list4 {α : Type} {l : List α} (h : l.length = 4) : ∃ a b c d, l = [a, b, c, d] := by
  match l, h with
  | [a, b, c, d], _ => exact ⟨a, b, c, d, rfl⟩
set_option maxRecDepth 100000 in
theorem read_ins (k : Nat) (vs : List Value) (y : DataW H × List MemPlace) (h : DataW.trod enc Tryd.prog W base spare held k 63 vs = some y) (hl : vs.length = 4) : ∃ x : Ins, vs = x.cs ∧ x.name.length ≤ 9223372036854775807 := by
  obtain ⟨y0, y1, y2, y3, n, _, _, h0, h1, h2, h3⟩ := trod_struct4 Tryd.underlying63 h
  obtain ⟨a, b, c, d, rfl⟩ := list4 hl
  have c3 : Tryd.prog.cellsOf 3 = 1 := by kernel_rfl
  have c9 : Tryd.prog.cellsOf 9 = 1 := by kernel_rfl
  simp only [c3, c9, List.drop_zero, List.drop_succ_cons, List.take_succ_cons, List.take_zero] at h0 h1 h2 h3
  obtain ⟨n0, e0, _⟩ := DataW.trod_int Tryd.underlying3 h0
  obtain ⟨n1, e1, _⟩ := DataW.trod_int Tryd.underlying3 h1
  obtain ⟨n2, e2, _⟩ := DataW.trod_int Tryd.underlying3 h2
  obtain ⟨s, e3, _, hs⟩ := DataW.trod_string Tryd.underlying9 h3
  simp only [List.cons.injEq, and_true] at e0 e1 e2 e3
  subst e0; subst e1; subst e2; subst e3
  refine ⟨⟨n0, n1, n2, s.data.toList⟩, rfl, ?_⟩
  have : s.data.toList.length = s.size := Array.length_toList
  show s.data.toList.length ≤ _
  rw [this]
  unfold maxLen at hs
  omega
set_option maxRecDepth 100000 in
theorem read_stt (k : Nat) (vs : List Value) (y : DataW H × List MemPlace) (h : DataW.trod enc Tryd.prog W base spare held k 43 vs = some y) (hl : vs.length = 3) : ∃ x : Stt, vs = x.cs ∧ x.pack.length ≤ 9223372036854775807 := by
  obtain ⟨y0, y1, n, _, _, h0, h1⟩ := trod_struct2 Tryd.underlying43 h
  obtain ⟨a, b, c, rfl⟩ := list3 hl
  have c3 : Tryd.prog.cellsOf 3 = 1 := by kernel_rfl
  have c9 : Tryd.prog.cellsOf 9 = 1 := by kernel_rfl
  have cN : Tryd.prog.cellsOf 39 = 2 := by kernel_rfl
  simp only [c3, cN, List.drop_zero, List.drop_succ_cons, List.take_succ_cons, List.take_zero] at h0 h1
  obtain ⟨z0, z1, n', _, _, g0, g1⟩ := trod_struct2 Tryd.underlying39 h0
  simp only [c3, c9, List.drop_zero, List.drop_succ_cons, List.take_succ_cons, List.take_zero] at g0 g1
  obtain ⟨s, e0, _, hs⟩ := DataW.trod_string Tryd.underlying9 g0
  obtain ⟨n1, e1, _⟩ := DataW.trod_int Tryd.underlying3 g1
  obtain ⟨n2, e2, _⟩ := DataW.trod_int Tryd.underlying3 h1
  simp only [List.cons.injEq, and_true] at e0 e1 e2
  subst e0; subst e1; subst e2
  refine ⟨⟨s.data.toList, n1, n2⟩, rfl, ?_⟩
  have : s.data.toList.length = s.size := Array.length_toList
  show s.data.toList.length ≤ _
  rw [this]
  unfold maxLen at hs
  omega
set_option maxRecDepth 100000 in
theorem read_nam (k : Nat) (vs : List Value) (y : DataW H × List MemPlace) (h : DataW.trod enc Tryd.prog W base spare held k 39 vs = some y) (hl : vs.length = 2) : ∃ x : Nam, vs = x.cs ∧ x.Ok := by
  obtain ⟨y0, y1, n, _, _, h0, h1⟩ := trod_struct2 Tryd.underlying39 h
  obtain ⟨a, b, rfl⟩ := list2 hl
  have c3 : Tryd.prog.cellsOf 3 = 1 := by kernel_rfl
  have c9 : Tryd.prog.cellsOf 9 = 1 := by kernel_rfl
  simp only [c3, c9, List.drop_zero, List.drop_succ_cons, List.take_succ_cons, List.take_zero] at h0 h1
  obtain ⟨s, e0, _, hs⟩ := DataW.trod_string Tryd.underlying9 h0
  obtain ⟨n1, e1, _, hw⟩ := DataW.trod_int Tryd.underlying3 h1
  simp only [List.cons.injEq, and_true] at e0 e1
  subst e0; subst e1
  refine ⟨⟨s.data.toList, n1⟩, rfl, ?_, hw⟩
  have : s.data.toList.length = s.size := Array.length_toList
  show s.data.toList.length ≤ _
  rw [this]
  unfold maxLen at hs ⊢
  omega
set_option maxRecDepth 100000 in
theorem read_dcl (k : Nat) (vs : List Value) (y : DataW H × List MemPlace) (h : DataW.trod enc Tryd.prog W base spare held k 116 vs = some y) (hl : vs.length = 3) : ∃ x : Dcl, vs = x.cs ∧ True := by
  obtain ⟨y0, y1, y2, n, _, _, h0, h1, h2⟩ := trod_struct3 Tryd.underlying116 h
  obtain ⟨a, b, c, rfl⟩ := list3 hl
  have c3 : Tryd.prog.cellsOf 3 = 1 := by kernel_rfl
  simp only [c3, List.drop_zero, List.drop_succ_cons, List.take_succ_cons, List.take_zero] at h0 h1 h2
  obtain ⟨n0, e0, _⟩ := DataW.trod_int Tryd.underlying3 h0
  obtain ⟨n1, e1, _⟩ := DataW.trod_int Tryd.underlying3 h1
  obtain ⟨n2, e2, _⟩ := DataW.trod_int Tryd.underlying3 h2
  simp only [List.cons.injEq, and_true] at e0 e1 e2
  subst e0; subst e1; subst e2
  exact ⟨⟨n0, n1, n2⟩, rfl, trivial⟩
def BlkOk (W : World) (x : Blk) : Prop := RD 4 Ins.cs W x.A x.ins ∧ x.ins.length ≤ 9223372036854775807 ∧ ∀ i ∈ x.ins, i.name.length ≤ 9223372036854775807
set_option maxRecDepth 100000 in
theorem read_blk (k : Nat) (vs : List Value) (y : DataW H × List MemPlace) (h : DataW.trod enc Tryd.prog W base spare held k 61 vs = some y) (hl : vs.length = 3) : ∃ x : Blk, vs = x.cs ∧ BlkOk W x := by
  obtain ⟨y0, y1, y2, n, _, _, h0, h1, h2⟩ := trod_struct3 Tryd.underlying61 h
  obtain ⟨a, b, c, rfl⟩ := list3 hl
  have c3 : Tryd.prog.cellsOf 3 = 1 := by kernel_rfl
  have c4 : Tryd.prog.cellsOf 4 = 1 := by kernel_rfl
  have cL : Tryd.prog.cellsOf 59 = 1 := by kernel_rfl
  simp only [c3, c4, cL, List.drop_zero, List.drop_succ_cons, List.take_succ_cons, List.take_zero] at h0 h1 h2
  obtain ⟨n0, e0, _⟩ := DataW.trod_int Tryd.underlying3 h0
  obtain ⟨q, e1, _⟩ := DataW.trod_bool Tryd.underlying4 h1
  obtain ⟨A, cc, L, e2, hl2, hrd, hok⟩ := open_recs (ok := fun x : Ins => x.name.length ≤ 9223372036854775807) Tryd.underlying59 (show Tryd.prog.cellsOf 63 = 4 by kernel_rfl) (by decide) (fun k vs y h hl => read_ins k vs y h hl) h2
  simp only [List.cons.injEq, and_true] at e0 e1
  subst e0; subst e1; subst e2
  exact ⟨⟨n0, q, A, cc, L⟩, rfl, hrd, hl2, hok⟩
def CodOk (W : World) (c : Cod) : Prop := c.Rd W ∧ c.Lim
set_option maxRecDepth 100000 in
theorem read_cod (k : Nat) (vs : List Value) (y : DataW H × List MemPlace) (h : DataW.trod enc Tryd.prog W base spare held k 49 vs = some y) (hl : vs.length = 3) : ∃ x : Cod, vs = x.cs ∧ CodOk W x := by
  obtain ⟨y0, y1, y2, n, _, _, h0, h1, h2⟩ := trod_struct3 Tryd.underlying49 h
  obtain ⟨a, b, c, rfl⟩ := list3 hl
  have c9 : Tryd.prog.cellsOf 9 = 1 := by kernel_rfl
  have cB : Tryd.prog.cellsOf 26 = 1 := by kernel_rfl
  have cD : Tryd.prog.cellsOf 47 = 1 := by kernel_rfl
  simp only [c9, cB, cD, List.drop_zero, List.drop_succ_cons, List.take_succ_cons, List.take_zero] at h0 h1 h2
  obtain ⟨s, e0, _, hs⟩ := DataW.trod_string Tryd.underlying9 h0
  obtain ⟨bA, bc, L, e1, hl1, hrd1, hok1⟩ := open_recs (ok := BlkOk W) Tryd.underlying26 (show Tryd.prog.cellsOf 61 = 3 by kernel_rfl) (by decide) (fun k vs y h hl => read_blk k vs y h hl) h1
  obtain ⟨dA, dc, M, e2, hl2, hrd2, _⟩ := open_recs (ok := fun _ : Dcl => True) Tryd.underlying47 (show Tryd.prog.cellsOf 116 = 3 by kernel_rfl) (by decide) (fun k vs y h hl => read_dcl k vs y h hl) h2
  simp only [List.cons.injEq, and_true] at e0
  subst e0; subst e1; subst e2
  refine ⟨⟨s.data.toList, bA, bc, L, dA, dc, M⟩, rfl, ⟨hrd1, fun x hx => (hok1 x hx).1, hrd2⟩, ⟨?_, hl1, hl2, fun b hb => (hok1 b hb).2.1, fun b hb => (hok1 b hb).2.2⟩⟩
  have : s.data.toList.length = s.size := Array.length_toList
  show s.data.toList.length ≤ _
  rw [this]
  unfold maxLen at hs
  omega
set_option maxRecDepth 100000 in
/-- Codes that came in. -/
theorem open_cods {r : Reach} {b0 : Nat} {v : Value} {d : DataW H} {ps : List MemPlace} (hv : Value.okWide Tryd.prog W r b0 22 v) (h : DataW.Trod enc Tryd.prog W base spare held 22 v d ps) : ∃ (A : Option Addr) (c : Nat) (L : List Cod), v = .slice A L.length c ∧ L.length ≤ 9223372036854775807 ∧ CRd W A L ∧ ∀ x ∈ L, x.Lim := by
  have hs : ∃ A n c, v = .slice A n c := by
    simp only [Value.okWide, Tryd.underlying22, Cell.okWide] at hv
    cases v <;> simp_all [Cell.ok]
  obtain ⟨A, n, c, rfl⟩ := hs
  obtain ⟨fuel, hf⟩ := h
  obtain ⟨A', c', L, e, hl, hr, hok⟩ := open_recs (ok := CodOk W) Tryd.underlying22 (show Tryd.prog.cellsOf 49 = 3 by kernel_rfl) (by decide) (fun k vs y h hl => read_cod k vs y h hl) hf
  exact ⟨A', c', L, e, hl, ⟨hr, fun c hc => (hok c hc).1⟩, fun c hc => (hok c hc).2⟩
set_option maxRecDepth 100000 in
/-- Names that came in. -/
theorem open_nams {r : Reach} {b0 : Nat} {v : Value} {d : DataW H} {ps : List MemPlace} (hv : Value.okWide Tryd.prog W r b0 23 v) (h : DataW.Trod enc Tryd.prog W base spare held 23 v d ps) : ∃ (A : Option Addr) (c : Nat) (L : List Nam), v = .slice A L.length c ∧ L.length ≤ 9223372036854775807 ∧ RD 2 Nam.cs W A L ∧ ∀ x ∈ L, x.Ok := by
  have hs : ∃ A n c, v = .slice A n c := by
    simp only [Value.okWide, Tryd.underlying23, Cell.okWide] at hv
    cases v <;> simp_all [Cell.ok]
  obtain ⟨A, n, c, rfl⟩ := hs
  obtain ⟨fuel, hf⟩ := h
  obtain ⟨A', c', L, e, hl, hr, hok⟩ := open_recs (ok := Nam.Ok) Tryd.underlying23 (show Tryd.prog.cellsOf 39 = 2 by kernel_rfl) (by decide) (fun k vs y h hl => read_nam k vs y h hl) hf
  exact ⟨A', c', L, e, hl, hr, hok⟩
set_option maxRecDepth 100000 in
/-- A program that came in. -/
theorem open_prg {r : Reach} {b0 : Nat} {v : Value} {d : DataW H} {ps : List MemPlace} (hv : Value.okWide Tryd.prog W r b0 29 v) (h : DataW.Trod enc Tryd.prog W base spare held 29 v d ps) : ∃ p : Prg, v = p.v ∧ p.Rd W ∧ p.Len := by
  obtain ⟨v0, v1, y0, y1, n, rfl, _, _, h0, h1⟩ := open_agg2 Tryd.underlying29 (by kernel_rfl) (by kernel_rfl) hv h
  obtain ⟨A, c, L, rfl, hl, hrd, hok⟩ := open_recs (ok := BlkOk W) Tryd.underlying26 (show Tryd.prog.cellsOf 61 = 3 by kernel_rfl) (by decide) (fun k vs y h hl => read_blk k vs y h hl) h0
  obtain ⟨A', c', L', rfl, hl', hrd', hok'⟩ := open_recs (ok := fun x : Stt => x.pack.length ≤ 9223372036854775807) Tryd.underlying27 (show Tryd.prog.cellsOf 43 = 3 by kernel_rfl) (by decide) (fun k vs y h hl => read_stt k vs y h hl) h1
  exact ⟨⟨A, c, L, A', c', L'⟩, rfl, ⟨hrd, fun x hx => (hok x hx).1, hrd'⟩, ⟨hl, hl', fun b hb => (hok b hb).2.1, fun b hb => (hok b hb).2.2, hok'⟩⟩
end
end Go.Proofs.YtgboboljgcfggaaDoor
namespace Go.Proofs.YtgboboljgcfggaaDoor

def dig (n : Nat) : List UInt8 := if h : n < 128 then [UInt8.ofNat n] else UInt8.ofNat (n % 128 + 128) :: dig (n / 128)
termination_by n
decreasing_by omega

theorem dig_small {n : Nat} (h : n < 128) : dig n = [UInt8.ofNat n] := by rw [dig, dif_pos h]
theorem dig_large {n : Nat} (h : ¬ n < 128) : dig n = UInt8.ofNat (n % 128 + 128) :: dig (n / 128) := by rw [dig, dif_neg h]

theorem dig_ne (n : Nat) : dig n ≠ [] := by
  by_cases h : n < 128
  · simp [dig_small h]
  · simp [dig_large h]
theorem dig_len (n : Nat) : (dig n).length ≤ n + 1 := by
  induction n using Nat.strongRecOn with
  | ind n ih =>
    by_cases h : n < 128
    · simp [dig_small h]
    · rw [dig_large h]
      have := ih (n / 128) (by omega)
      simp only [List.length_cons]
      omega

def onePut (x : T) : T := dig x.length ++ x
def giF : Nat → Nat → Nat → Nat → T → Nat × Nat × Int
  | 0, _, _, _, _ => (0, 0, 13)
  | _ + 1, _, _, _, [] => (0, 0, 12)
  | f + 1, i, n, u, d :: r => if 128 ≤ d.toNat then giF f (i + 1) (n + (d.toNat - 128) * u) (u * 128) r
    else if (d.toNat = 0 ∧ 0 < i) ∨ 1099511627776 < n + d.toNat * u then (0, 0, 13) else (n + d.toNat * u, i + 1, 0)
def gi (l : T) : Nat × Nat × Int := giF 6 0 0 1 l

theorem byte_lo' {m : Nat} (h : m < 128) : (UInt8.ofNat m).toNat = m := by simp; omega
theorem byte_hi' (m : Nat) : (UInt8.ofNat (m % 128 + 128)).toNat = m % 128 + 128 := by simp; omega

theorem giF_put : ∀ (f i n u m : Nat) (r : T), 0 < f → m < 128 ^ f → (0 < i → 0 < m) → n + m * u ≤ 1099511627776 → giF f i n u (dig m ++ r) = (n + m * u, i + (dig m).length, 0)
  | 0, _, _, _, _, _, h0, _, _, _ => absurd h0 (by omega)
  | f + 1, i, n, u, m, r, _, h, hi, hm => by
    by_cases hs : m < 128
    · rw [dig_small hs]
      simp only [List.singleton_append, giF, byte_lo' hs, List.length_singleton]
      rw [if_neg (by omega), if_neg]
      rintro (⟨h1, h2⟩ | h1)
      · have := hi h2; omega
      · omega
    · have e : n + m % 128 * u + m / 128 * (u * 128) = n + m * u := by
        have : m * u = (m % 128 + 128 * (m / 128)) * u := by rw [Nat.mod_add_div]
        rw [this, Nat.add_mul]
        have : m / 128 * (u * 128) = 128 * (m / 128) * u := by rw [Nat.mul_comm u 128, ← Nat.mul_assoc, Nat.mul_comm (m / 128) 128]
        omega
      have ih := giF_put f (i + 1) (n + m % 128 * u) (u * 128) (m / 128) r (by rcases Nat.eq_zero_or_pos f with rfl | h0; (simp at h; omega); exact h0) (by rw [Nat.pow_succ] at h; omega) (fun _ => by omega) (by omega)
      rw [dig_large hs]
      simp only [List.cons_append, giF, byte_hi', List.length_cons]
      rw [if_pos (by omega), Nat.add_sub_cancel, ih, e]
      simp only [Prod.mk.injEq, true_and, and_true]
      omega

theorem gi_put {n : Nat} (h : n ≤ 1099511627776) (r : T) : gi (dig n ++ r) = (n, (dig n).length, 0) := by
  unfold gi
  have h6 : (128 : Nat) ^ 6 = 4398046511104 := by decide
  rw [giF_put 6 0 0 1 n r (by omega) (by omega) (by omega) (by omega)]
  simp

theorem giF_inv : ∀ (f i n u : Nat) (l : T) (v k : Nat), giF f i n u l = (v, k, 0) → ∃ (m : Nat) (r : T), l = dig m ++ r ∧ v = n + m * u ∧ k = i + (dig m).length ∧ (0 < i → 0 < m) ∧ v ≤ 1099511627776
  | 0, _, _, _, _, _, _, h => by simp [giF] at h
  | _ + 1, _, _, _, [], _, _, h => by simp [giF] at h
  | f + 1, i, n, u, d :: r, v, k, h => by
    simp only [giF] at h
    have hd : d.toNat < 256 := UInt8.toNat_lt d
    by_cases h1 : 128 ≤ d.toNat
    · rw [if_pos h1] at h
      obtain ⟨m, r', e1, e2, e3, e4, e5⟩ := giF_inv f (i + 1) _ _ r v k h
      have hm := e4 (by omega)
      refine ⟨d.toNat - 128 + 128 * m, r', ?_, ?_, ?_, fun _ => by omega, e5⟩
      · rw [dig_large (by omega), e1]
        have a1 : (d.toNat - 128 + 128 * m) % 128 + 128 = d.toNat := by omega
        have a2 : (d.toNat - 128 + 128 * m) / 128 = m := by omega
        rw [a1, a2]
        simp
      · rw [e2, Nat.add_mul]
        have : m * (u * 128) = 128 * m * u := by rw [Nat.mul_comm u 128, ← Nat.mul_assoc, Nat.mul_comm m 128]
        omega
      · have a2 : (d.toNat - 128 + 128 * m) / 128 = m := by omega
        rw [e3, dig_large (n := d.toNat - 128 + 128 * m) (by omega), a2, List.length_cons]
        omega
    · rw [if_neg h1] at h
      by_cases h2 : (d.toNat = 0 ∧ 0 < i) ∨ 1099511627776 < n + d.toNat * u
      · rw [if_pos h2] at h; simp at h
      · rw [if_neg h2] at h
        simp only [Prod.mk.injEq, and_true] at h
        refine ⟨d.toNat, r, ?_, h.1.symm, ?_, ?_, ?_⟩
        · rw [dig_small (by omega)]; simp
        · rw [dig_small (by omega)]; simp; omega
        · intro hi
          have := not_or.1 h2
          have h3 := this.1
          omega
        · have := not_or.1 h2
          omega
theorem gi_inv {l : T} {v k : Nat} (h : gi l = (v, k, 0)) : ∃ r : T, l = dig v ++ r ∧ k = (dig v).length ∧ v ≤ 1099511627776 := by
  obtain ⟨m, r, e1, e2, e3, -, e5⟩ := giF_inv 6 0 0 1 l v k h
  have : m = v := by omega
  subst this
  exact ⟨r, e1, by omega, e5⟩
theorem giF_err : ∀ (f i n u : Nat) (l : T), (giF f i n u l).2.2 ≠ 0 → (giF f i n u l).1 = 0 ∧ (giF f i n u l).2.1 = 0
  | 0, _, _, _, _ => by simp [giF]
  | _ + 1, _, _, _, [] => by simp [giF]
  | f + 1, i, n, u, d :: r => by
    simp only [giF]
    split
    · exact giF_err f _ _ _ r
    · split <;> simp

/-- A text at the beginning of bytes. -/
def gt (l : T) : T × Nat × Int :=
  if (gi l).2.2 ≠ 0 then ([], 0, (gi l).2.2) else if 65536 < (gi l).1 then ([], 0, 13) else if l.length - (gi l).2.1 < (gi l).1 then ([], 0, 12) else ((l.drop (gi l).2.1).take (gi l).1, (gi l).2.1 + (gi l).1, 0)
theorem gt_put {x : T} (h : x.length ≤ 65536) (r : T) : gt (onePut x ++ r) = (x, (onePut x).length, 0) := by
  have e : gi (onePut x ++ r) = (x.length, (dig x.length).length, 0) := by
    unfold onePut
    rw [List.append_assoc]
    exact gi_put (by omega) _
  unfold gt
  rw [e]
  simp only [ne_eq, not_true_eq_false, if_false]
  rw [if_neg (by omega), if_neg (by simp [onePut])]
  simp [onePut]
theorem gt_inv {l x : T} {k : Nat} (h : gt l = (x, k, 0)) : ∃ r : T, l = onePut x ++ r ∧ k = (onePut x).length ∧ x.length ≤ 65536 := by
  unfold gt at h
  by_cases h0 : (gi l).2.2 ≠ 0
  · rw [if_pos h0] at h; simp only [Prod.mk.injEq] at h; exact absurd h.2.2 h0
  rw [if_neg h0] at h
  by_cases h1 : 65536 < (gi l).1
  · rw [if_pos h1] at h; simp at h
  rw [if_neg h1] at h
  by_cases h2 : l.length - (gi l).2.1 < (gi l).1
  · rw [if_pos h2] at h; simp at h
  rw [if_neg h2] at h
  obtain ⟨r, e1, e2, e3⟩ := gi_inv (l := l) (v := (gi l).1) (k := (gi l).2.1) (by
    have : (gi l).2.2 = 0 := by simpa using h0
    rw [← this])
  simp only [Prod.mk.injEq, and_true] at h
  generalize (gi l).1 = n at *
  generalize (gi l).2.1 = m at *
  have hr : l.drop m = r := by rw [e1, e2]; simp
  have hl : l.length = m + r.length := by rw [e1, e2]; simp
  rw [hr] at h
  have hx : x.length = n := by rw [← h.1]; simp; omega
  refine ⟨r.drop n, ?_, ?_, by omega⟩
  · unfold onePut
    rw [hx, ← h.1, List.append_assoc, List.take_append_drop, e1]
  · unfold onePut
    rw [hx, List.length_append, hx, ← h.2, e2]

/-- A reader: what is left, and whether something was wrong. -/
structure RS where
  rest : T
  bad : Bool
deriving DecidableEq
def rdN (s : RS) : Int × RS := if (gi s.rest).2.2 = 0 then ((gi s.rest).1, ⟨s.rest.drop (gi s.rest).2.1, s.bad⟩) else (0, ⟨s.rest, true⟩)
def rdT (s : RS) : T × RS := if (gt s.rest).2.2 = 0 then ((gt s.rest).1, ⟨s.rest.drop (gt s.rest).2.1, s.bad⟩) else ([], ⟨s.rest, true⟩)
def sgn (n : Int) : Int := if n % 2 = 1 then -(n / 2) else n / 2
def flag (c : Bool) (s : RS) : RS := ⟨s.rest, s.bad || c⟩
/-- A list of n elements; it ends where something is wrong. -/
def rdL {α : Type} (rd : RS → α × RS) : Nat → RS → List α → List α × RS
  | 0, s, acc => (acc, s)
  | n + 1, s, acc => if s.bad then (acc, s) else rdL rd n (rd s).2 (acc ++ [(rd s).1])
def rdI (st : Bool) (s : RS) : Ins × RS :=
  let a := rdN s
  let b := rdN a.2
  let c := rdN (flag (st && b.1 == 1) b.2)
  let d := rdT c.2
  (⟨a.1, sgn b.1, c.1, d.1⟩, d.2)
def rdB (st : Bool) (s : RS) : PB × RS :=
  let a := rdN s
  let b := rdN a.2
  let c := rdN (flag (st && decide (1 < b.1)) b.2)
  let d := rdL (rdI st) c.1.toNat c.2 []
  (⟨a.1, b.1 == 1, d.1⟩, d.2)
def rdS (s : RS) : Stt × RS :=
  let a := rdT s
  let b := rdN a.2
  let c := rdN b.2
  (⟨a.1, b.1, c.1⟩, c.2)
/-- A program. -/
structure PP where
  bs : List PB
  ss : List Stt
deriving DecidableEq
def rdP (st : Bool) (s : RS) : PP × RS :=
  let a := rdN s
  let b := rdL (rdB st) a.1.toNat a.2 []
  let c := rdN b.2
  let d := rdL rdS c.1.toNat c.2 []
  (⟨b.1, d.1⟩, d.2)
/-- Encodings. -/
def eN (n : Int) : T := dig n.toNat
def eA (a : Int) : T := if a < 0 then dig (2 * (-a).toNat + 1) else dig (2 * a.toNat)
def eI (x : Ins) : T := eN x.op ++ eA x.a ++ eN x.b ++ onePut x.name
def eL {α : Type} (e : α → T) (l : List α) : T := (l.map e).flatten
def eB (b : PB) : T := eN b.cap ++ eN (if b.param then 1 else 0) ++ eN b.ins.length ++ eL eI b.ins
def eS (x : Stt) : T := onePut x.pack ++ eN x.id ++ eN x.block
def eP (p : PP) : T := eN p.bs.length ++ eL eB p.bs ++ eN p.ss.length ++ eL eS p.ss
/-- What can be encoded. -/
def nOk (n : Int) : Prop := 0 ≤ n ∧ n ≤ 1099511627776
def aOk (a : Int) : Prop := -500000000000 ≤ a ∧ a ≤ 500000000000
structure IOk (x : Ins) : Prop where
  op : nOk x.op
  a : aOk x.a
  b : nOk x.b
  n : x.name.length ≤ 65536
structure BOk (b : PB) : Prop where
  cap : nOk b.cap
  l : b.ins.length ≤ 1000000
  i : ∀ x ∈ b.ins, IOk x
structure SOk (x : Stt) : Prop where
  p : x.pack.length ≤ 65536
  i : nOk x.id
  b : nOk x.block
structure POk (p : PP) : Prop where
  bl : p.bs.length ≤ 1000000
  sl : p.ss.length ≤ 1000000
  b : ∀ x ∈ p.bs, BOk x
  s : ∀ x ∈ p.ss, SOk x
theorem rdN_enc {n : Int} (h : nOk n) (r : T) : rdN ⟨eN n ++ r, false⟩ = (n, ⟨r, false⟩) := by
  unfold rdN eN
  have h1 := gi_put (n := n.toNat) (by have := h.2; omega) r
  rw [h1]
  have := h.1
  simp only [if_pos, List.drop_left]
  congr 1
  omega
theorem rdT_enc {x : T} (h : x.length ≤ 65536) (r : T) : rdT ⟨onePut x ++ r, false⟩ = (x, ⟨r, false⟩) := by
  unfold rdT
  rw [gt_put h r]
  simp only [if_pos, List.drop_left]
theorem rdL_enc {α : Type} {rd : RS → α × RS} {e : α → T} : ∀ (l : List α) (acc : List α) (r : T), (∀ x ∈ l, ∀ r, rd ⟨e x ++ r, false⟩ = (x, ⟨r, false⟩)) → rdL rd l.length ⟨eL e l ++ r, false⟩ acc = (acc ++ l, ⟨r, false⟩)
  | [], acc, r, _ => by simp [rdL, eL]
  | x :: l, acc, r, h => by
    rw [List.length_cons, rdL, if_neg (by simp)]
    have e1 : eL e (x :: l) ++ r = e x ++ (eL e l ++ r) := by simp [eL]
    rw [e1, h x (by simp), rdL_enc l (acc ++ [x]) r fun y hy => h y (by simp [hy])]
    simp
theorem rdA_enc {a : Int} (h : aOk a) (r : T) : ∃ n : Int, rdN ⟨eA a ++ r, false⟩ = (n, ⟨r, false⟩) ∧ sgn n = a ∧ n ≠ 1 := by
  unfold eA
  obtain ⟨h1, h2⟩ := h
  by_cases hn : a < 0
  · rw [if_pos hn]
    refine ⟨((2 * (-a).toNat + 1 : Nat) : Int), ?_, ?_, by omega⟩
    · have := rdN_enc (n := ((2 * (-a).toNat + 1 : Nat) : Int)) ⟨by omega, by omega⟩ r
      unfold eN at this
      rwa [Int.toNat_natCast] at this
    · unfold sgn
      rw [if_pos (by omega)]
      omega
  · rw [if_neg hn]
    refine ⟨((2 * a.toNat : Nat) : Int), ?_, ?_, by omega⟩
    · have := rdN_enc (n := ((2 * a.toNat : Nat) : Int)) ⟨by omega, by omega⟩ r
      unfold eN at this
      rwa [Int.toNat_natCast] at this
    · unfold sgn
      rw [if_neg (by omega)]
      omega
theorem flag_false (s : RS) : flag false s = s := by unfold flag; simp
theorem rdI_enc (st : Bool) {x : Ins} (h : IOk x) (r : T) : rdI st ⟨eI x ++ r, false⟩ = (x, ⟨r, false⟩) := by
  unfold rdI eI
  simp only [List.append_assoc]
  rw [rdN_enc h.op]
  obtain ⟨n, h1, h2, h3⟩ := rdA_enc h.a (eN x.b ++ (onePut x.name ++ r))
  simp only
  rw [h1]
  simp only
  rw [show (st && n == 1) = false from by simp [h3], flag_false, rdN_enc h.b]
  simp only
  rw [rdT_enc h.n, h2]
theorem rdB_enc (st : Bool) {x : PB} (h : BOk x) (r : T) : rdB st ⟨eB x ++ r, false⟩ = (x, ⟨r, false⟩) := by
  unfold rdB eB
  simp only [List.append_assoc]
  rw [rdN_enc h.cap]
  simp only
  rw [rdN_enc (n := if x.param = true then 1 else 0) ⟨by split <;> omega, by split <;> omega⟩]
  simp only
  have hp : decide (1 < (if x.param = true then (1 : Int) else 0)) = false := by split <;> simp
  rw [hp, Bool.and_false, flag_false, rdN_enc ⟨by omega, by have := h.l; omega⟩]
  simp only [Int.toNat_natCast]
  rw [rdL_enc x.ins [] r fun y hy r => rdI_enc st (h.i y hy) r]
  obtain ⟨c, p, i⟩ := x
  cases p <;> simp
theorem rdS_enc {x : Stt} (h : SOk x) (r : T) : rdS ⟨eS x ++ r, false⟩ = (x, ⟨r, false⟩) := by
  unfold rdS eS
  simp only [List.append_assoc]
  rw [rdT_enc h.p]
  simp only
  rw [rdN_enc h.i]
  simp only
  rw [rdN_enc h.b]
theorem rdP_enc (st : Bool) {p : PP} (h : POk p) (r : T) : rdP st ⟨eP p ++ r, false⟩ = (p, ⟨r, false⟩) := by
  unfold rdP eP
  simp only [List.append_assoc]
  rw [rdN_enc ⟨by omega, by have := h.bl; omega⟩]
  simp only [Int.toNat_natCast]
  rw [rdL_enc p.bs [] _ fun y hy r => rdB_enc st (h.b y hy) r]
  simp only
  rw [rdN_enc ⟨by omega, by have := h.sl; omega⟩]
  simp only [Int.toNat_natCast]
  rw [rdL_enc p.ss [] _ fun y hy r => rdS_enc (h.s y hy) r]
  simp
/-- What a reader has read where nothing was wrong. -/
def Rev {α : Type} (e : α → T) (x : α × RS) (s : RS) : Prop := x.2.bad = false → s.bad = false ∧ s.rest = e x.1 ++ x.2.rest
theorem rdN_inv (s : RS) : Rev eN (rdN s) s := by
  unfold rdN Rev
  split
  · rename_i h
    intro hb
    obtain ⟨r, e1, e2, -⟩ := gi_inv (l := s.rest) (v := (gi s.rest).1) (k := (gi s.rest).2.1) (by rw [← h])
    refine ⟨hb, ?_⟩
    show s.rest = eN ((gi s.rest).1 : Int) ++ s.rest.drop (gi s.rest).2.1
    unfold eN
    rw [Int.toNat_natCast, e2]
    conv => lhs; rw [e1]
    conv => rhs; rhs; rhs; rw [e1]
    rw [List.drop_left]
  · intro hb; cases hb
theorem rdN_nn (s : RS) : 0 ≤ (rdN s).1 := by
  unfold rdN
  split <;> simp
theorem rdT_inv (s : RS) : Rev onePut (rdT s) s := by
  unfold rdT Rev
  split
  · rename_i h
    intro hb
    obtain ⟨r, e1, e2, -⟩ := gt_inv (l := s.rest) (x := (gt s.rest).1) (k := (gt s.rest).2.1) (by rw [← h])
    refine ⟨hb, ?_⟩
    show s.rest = onePut (gt s.rest).1 ++ s.rest.drop (gt s.rest).2.1
    rw [e2]
    conv => lhs; rw [e1]
    conv => rhs; rhs; rhs; rw [e1]
    rw [List.drop_left]
  · intro hb; cases hb
theorem rdL_inv {α : Type} {rd : RS → α × RS} {e : α → T} (h : ∀ s, Rev e (rd s) s) : ∀ (n : Nat) (s : RS) (acc : List α), (rdL rd n s acc).2.bad = false → ∃ l, (rdL rd n s acc).1 = acc ++ l ∧ l.length = n ∧ s.bad = false ∧ s.rest = eL e l ++ (rdL rd n s acc).2.rest
  | 0, s, acc, hb => ⟨[], by simp [rdL], rfl, hb, by simp [rdL, eL]⟩
  | n + 1, s, acc, hb => by
    rw [rdL] at hb ⊢
    split at hb
    · rename_i h1
      rw [h1] at hb
      cases hb
    · rename_i h1
      rw [if_neg h1]
      obtain ⟨l, e1, e2, e3, e4⟩ := rdL_inv h n _ _ hb
      obtain ⟨f1, f2⟩ := h s e3
      refine ⟨(rd s).1 :: l, by rw [e1]; simp, by simp [e2], f1, ?_⟩
      rw [f2, e4]
      simp [eL]
theorem flag_bad {c : Bool} {s : RS} (h : (flag c s).bad = false) : s.bad = false ∧ c = false := by
  unfold flag at h
  simpa using h
theorem eA_sgn {n : Int} (h0 : 0 ≤ n) (h1 : n ≠ 1) : eA (sgn n) = eN n := by
  unfold eA sgn eN
  split
  · rename_i h
    rw [if_pos (by omega)]
    congr 1
    omega
  · rename_i h
    rw [if_neg (by omega)]
    congr 1
    omega
theorem rdI_inv (s : RS) : Rev eI (rdI true s) s := by
  unfold rdI Rev
  simp only
  have hn := rdN_nn (rdN s).2
  have hA := rdN_inv s
  generalize rdN s = a at *
  have hB := rdN_inv a.2
  generalize rdN a.2 = b at *
  have hC := rdN_inv (flag (true && b.1 == 1) b.2)
  generalize rdN (flag (true && b.1 == 1) b.2) = c at *
  have hD := rdT_inv c.2
  generalize rdT c.2 = d at *
  intro hb
  obtain ⟨d1, d2⟩ := hD hb
  obtain ⟨c1, c2⟩ := hC d1
  obtain ⟨b1, b2⟩ := flag_bad c1
  obtain ⟨b3, b4⟩ := hB b1
  obtain ⟨a1, a2⟩ := hA b3
  refine ⟨a1, ?_⟩
  have c3 : b.2.rest = eN c.1 ++ c.2.rest := c2
  rw [a2, b4, c3, d2]
  unfold eI
  simp only
  rw [eA_sgn hn (by simpa using b2)]
  simp
theorem rdB_inv (s : RS) : Rev eB (rdB true s) s := by
  unfold rdB Rev
  simp only
  have hn := rdN_nn (rdN s).2
  have hA := rdN_inv s
  generalize rdN s = a at *
  have hB := rdN_inv a.2
  generalize rdN a.2 = b at *
  have hC := rdN_inv (flag (true && decide (1 < b.1)) b.2)
  have hcn := rdN_nn (flag (true && decide (1 < b.1)) b.2)
  generalize rdN (flag (true && decide (1 < b.1)) b.2) = c at *
  have hD := rdL_inv rdI_inv c.1.toNat c.2 []
  generalize rdL (rdI true) c.1.toNat c.2 [] = d at *
  intro hb
  obtain ⟨l, d1, d2, d3, d4⟩ := hD hb
  obtain ⟨c1, c2⟩ := hC d3
  obtain ⟨b1, b2⟩ := flag_bad c1
  obtain ⟨b3, b4⟩ := hB b1
  obtain ⟨a1, a2⟩ := hA b3
  refine ⟨a1, ?_⟩
  have c3 : b.2.rest = eN c.1 ++ c.2.rest := c2
  rw [a2, b4, c3, d4]
  unfold eB
  simp only
  have h1 : ¬ 1 < b.1 := by simpa using b2
  have hp : (if (b.1 == 1) = true then (1 : Int) else 0) = b.1 := by
    by_cases h : b.1 = 1
    · simp [h]
    · rw [if_neg (by simpa using h)]; omega
  rw [hp, d1]
  simp only [List.nil_append]
  rw [show (l.length : Int) = c.1 from by rw [d2]; exact Int.toNat_of_nonneg hcn]
  simp
theorem rdS_inv (s : RS) : Rev eS (rdS s) s := by
  unfold rdS Rev
  simp only
  have hA := rdT_inv s
  generalize rdT s = a at *
  have hB := rdN_inv a.2
  generalize rdN a.2 = b at *
  have hC := rdN_inv b.2
  generalize rdN b.2 = c at *
  intro hb
  obtain ⟨c1, c2⟩ := hC hb
  obtain ⟨b1, b2⟩ := hB c1
  obtain ⟨a1, a2⟩ := hA b1
  refine ⟨a1, ?_⟩
  rw [a2, b2, c2]
  unfold eS
  simp
theorem rdP_inv (s : RS) : Rev eP (rdP true s) s := by
  unfold rdP Rev
  simp only
  have hA := rdN_inv s
  have han := rdN_nn s
  generalize rdN s = a at *
  have hB := rdL_inv rdB_inv a.1.toNat a.2 []
  generalize rdL (rdB true) a.1.toNat a.2 [] = b at *
  have hC := rdN_inv b.2
  have hcn := rdN_nn b.2
  generalize rdN b.2 = c at *
  have hD := rdL_inv rdS_inv c.1.toNat c.2 []
  generalize rdL rdS c.1.toNat c.2 [] = d at *
  intro hb
  obtain ⟨m, d1, d2, d3, d4⟩ := hD hb
  obtain ⟨c1, c2⟩ := hC d3
  obtain ⟨l, b1, b2, b3, b4⟩ := hB c1
  obtain ⟨a1, a2⟩ := hA b3
  refine ⟨a1, ?_⟩
  unfold eP
  simp only
  rw [d1, b1]
  simp only [List.nil_append]
  rw [show (l.length : Int) = a.1 from by rw [b2]; exact Int.toNat_of_nonneg han, show (m.length : Int) = c.1 from by rw [d2]; exact Int.toNat_of_nonneg hcn]
  rw [a2, b4, c2, d4]
  simp
/-- Both ways of reading: strict, or by encoding again. -/
theorem rd_both {s : T} {V : PP → Prop} (hV : ∀ p, V p → POk p) {p : PP} : ((rdP true ⟨s, false⟩) = (p, ⟨[], false⟩) ∧ V p) ↔ ∃ r, rdP false ⟨s, false⟩ = (p, ⟨r, false⟩) ∧ V p ∧ eP p = s := by
  constructor
  · rintro ⟨h, hv⟩
    have h1 := rdP_inv ⟨s, false⟩
    unfold Rev at h1
    rw [h] at h1
    have h2 := (h1 rfl).2
    have h3 : s = eP p := by simpa using h2
    refine ⟨[], ?_, hv, h3.symm⟩
    have := rdP_enc false (hV p hv) []
    rw [List.append_nil, ← h3] at this
    exact this
  · rintro ⟨r, h, hv, rfl⟩
    have := rdP_enc true (hV p hv) []
    rw [List.append_nil] at this
    exact ⟨this, hv⟩
end Go.Proofs.YtgboboljgcfggaaDoor
namespace Go.Proofs.YtgboboljgcfggaaDoor
open Go.RowKit Go.Maps

theorem linkV_ok {L : List Cod} {R : List Nam} (h : (linkV L R).1 = 0) : ∃ K0 K, errL L = 0 ∧ rootsK (pls L) [] (R.map Nam.pr) = some K0 ∧ bfs (pls L) (fuelL L) 0 K0 = some (some K) ∧ errQ (progB (pls L) K) (startsOf (rootN L K) (R.map Nam.pr)) = 0 ∧ linkV L R = (0, progB (pls L) K, startsOf (rootN L K) (R.map Nam.pr)) := by
  by_cases he : errL L = 0
  · cases hr : rootsK (pls L) [] (R.map Nam.pr) with
    | none =>
      have e : linkV L R = (8, [], []) := by unfold linkV; rw [if_neg (by simpa using he), hr]
      rw [e] at h; cases h
    | some K0 =>
      cases hb : bfs (pls L) (fuelL L) 0 K0 with
      | none =>
        have e : linkV L R = (21, [], []) := by unfold linkV; rw [if_neg (by simpa using he), hr]; simp only [hb]
        rw [e] at h; cases h
      | some o =>
        cases o with
        | none =>
          have e : linkV L R = (21, [], []) := by unfold linkV; rw [if_neg (by simpa using he), hr]; simp only [hb]
          rw [e] at h; cases h
        | some K =>
          by_cases hq : errQ (progB (pls L) K) (startsOf (rootN L K) (R.map Nam.pr)) = 0
          · exact ⟨K0, K, he, rfl, hb, hq, by unfold linkV; rw [if_neg (by simpa using he), hr]; simp only [hb]; rw [if_neg (by simpa using hq)]⟩
          · have e : linkV L R = (errQ (progB (pls L) K) (startsOf (rootN L K) (R.map Nam.pr)), [], []) := by unfold linkV; rw [if_neg (by simpa using he), hr]; simp only [hb]; rw [if_pos hq]
            rw [e] at h; exact absurd h hq
  · have e : linkV L R = (errL L, [], []) := by unfold linkV; rw [if_pos he]
    rw [e] at h; exact absurd h he
theorem linkV_bad {L : List Cod} {R : List Nam} (h : (linkV L R).1 ≠ 0) : (linkV L R).2.1 = [] ∧ (linkV L R).2.2 = [] := by
  unfold linkV at h ⊢
  split
  · exact ⟨rfl, rfl⟩
  · split
    · exact ⟨rfl, rfl⟩
    · split
      · split
        · exact ⟨rfl, rfl⟩
        · exfalso
          rename_i h1 o1 K0 h2 o K h3 h4
          rw [if_neg h1] at h
          simp only [h2, h3] at h
          rw [if_neg h4] at h
          exact h rfl
      · exact ⟨rfl, rfl⟩
theorem nil_kn (l : List PC) : Kn l [] := ⟨List.nodup_nil, fun _ h => by cases h⟩
/-- What a program that was linked fulfils. -/
structure Vld (L : List Cod) (R : List Nam) (X : Prg) : Prop where
  e : errP X = 0
  r : ∀ b ∈ X.bs.map Blk.pb, ∀ a ∈ refI b, 0 ≤ a ∧ a < (X.bs.map Blk.pb).length
  u : Nu X.bs.length ((X.ss.map Stt.block).foldl addI [])
  n : ∀ r, nddL (X.bs.map Blk.pb) (X.bs.length + 1) 0 ((X.ss.map Stt.block).foldl addI []) = some r → r.length = X.bs.length ∧ ∀ j : Nat, j < X.bs.length → (j : Int) ∈ r
  s : ∀ n ∈ R, (stR X n).2 = 0
  m : ∀ s ∈ X.ss, (⟨s.pack, s.id⟩ : Nam) ∈ R
  lb : X.bs.length ≤ (spots (pls L)).length
  ls : X.ss.length ≤ R.length
  ln : ∀ b ∈ X.bs, ∀ x ∈ b.ins, x.name.length ≤ 9223372036854775807
theorem pr_mem {R : List Nam} {n : T × Int} (h : n ∈ R.map Nam.pr) : (⟨n.1, n.2⟩ : Nam) ∈ R := by
  obtain ⟨m, hm, rfl⟩ := List.mem_map.1 h
  exact hm
theorem vld_of {L : List Cod} {R : List Nam} {X : Prg} (h : (linkV L R).1 = 0) (hB : X.bs.map Blk.pb = (linkV L R).2.1) (hS : X.ss = (linkV L R).2.2) (hl : ∀ x ∈ L, x.Lim) : Vld L R X := by
  obtain ⟨K0, K, he, hr, hb, hq, e⟩ := linkV_ok h
  rw [e] at hB hS
  simp only at hB hS
  have cs := (okl_of he).cs
  have kn0 : Kn (pls L) K0 := rootsK_kn cs _ _ _ (nil_kn _) hr
  have F := bfs_fnd cs _ 0 K0 K kn0 (Nat.zero_le _) hb
  obtain ⟨e0, hpre⟩ := F.pre
  have hsub : ∀ s ∈ K0, s ∈ K := fun s hs => by rw [hpre, List.mem_append]; exact .inl hs
  have hlen : X.bs.length = K.length := by
    have h1 := congrArg List.length hB
    unfold progB at h1
    simpa using h1
  obtain ⟨q1, q2, -⟩ := rootsK_mem _ _ _ hr
  have cl : ∀ s ∈ K, ∀ x ∈ (blkAt (pls L) s).ins, ∀ t, tgt (pls L) s x = some t → ∃ u, t = some u ∧ u ∈ K := fun s hs => by
    obtain ⟨j, hj⟩ := List.getElem?_of_mem hs
    exact F.cl j s (Nat.zero_le _) hj
  have root : ∀ n ∈ R.map Nam.pr, ∃ s, s ∈ K0 ∧ findC (pls L) 0 n.1 n.2 = some s ∧ rootN L K n = K.idxOf s := fun n hn => by
    obtain ⟨s, h1, h2⟩ := q1 n hn
    exact ⟨s, h2, h1, by unfold rootN; rw [h1]⟩
  have h1 : ∀ a ∈ X.ss.map Stt.block, ∃ s, s ∈ K0 ∧ a = K.idxOf s := fun a ha => by
    obtain ⟨y, hy, rfl⟩ := List.mem_map.1 ha
    rw [hS] at hy
    obtain ⟨n, hn, rfl⟩ := (startsOf_mem _ _ _).1 hy
    obtain ⟨s, h1, -, h3⟩ := root n hn
    exact ⟨s, h1, h3⟩
  have h2 : ∀ s ∈ K0, (K.idxOf s : Int) ∈ X.ss.map Stt.block := fun s hs => by
    rcases q2 s hs with h | ⟨n, hn, h⟩
    · cases h
    · refine List.mem_map.2 ⟨stOf (rootN L K) n, ?_, ?_⟩
      · rw [hS]
        exact (startsOf_mem _ _ _).2 ⟨n, hn, rfl⟩
      · show rootN L K n = _
        unfold rootN
        rw [h]
  obtain ⟨r, n1, n2, n3, n4⟩ := linked_needed cs kn0 hb h1 h2
  have hEP : errP X = 0 := by rw [errP_pl, hB, hS]; exact hq
  refine ⟨hEP, ?_, ?_, ?_, ?_, ?_, ?_, ?_, ?_⟩
  · intro b hb2 a ha
    rw [hB] at hb2
    have hpl : (X.bs.map Blk.pb).length = K.length := by rw [List.length_map, hlen]
    rw [hpl]
    unfold progB at hb2
    obtain ⟨s, hs, rfl⟩ := List.mem_map.1 hb2
    obtain ⟨x, hx, u, ht, rfl⟩ := (refI_relab (cl s hs)).1 ha
    obtain ⟨u', e, hu⟩ := cl s hs x hx _ ht
    cases e
    have := idx_lt hu
    omega
  · refine ⟨foldI_nodup _ _ List.nodup_nil, fun y hy => ?_⟩
    rcases (foldI_mem _ _ _).1 hy with h | h
    · cases h
    · obtain ⟨s, hs, rfl⟩ := h1 y h
      have := idx_lt (hsub s hs)
      rw [hlen]
      omega
  · intro r' hr'
    rw [hB, hlen, n1] at hr'
    cases hr'
    rw [hlen]
    exact ⟨n2, n3⟩
  · intro n hn
    have hn2 : n.pr ∈ R.map Nam.pr := List.mem_map.2 ⟨n, hn, rfl⟩
    unfold stR
    rw [if_neg (by simpa using hEP)]
    cases hf : X.ss.find? (fun s => s.pack == n.pack && s.id == n.id) with
    | some s => rfl
    | none =>
      have h3 := List.find?_eq_none.1 hf (stOf (rootN L K) n.pr) (by rw [hS]; exact (startsOf_mem _ _ _).2 ⟨_, hn2, rfl⟩)
      simp [stOf, Nam.pr] at h3
  · intro s hs
    rw [hS] at hs
    obtain ⟨n, hn, rfl⟩ := (startsOf_mem _ _ _).1 hs
    exact pr_mem hn
  · rw [hlen]; exact F.kn.len
  · rw [hS]
    have h3 := starts_len (rootN L K) (R.map Nam.pr) []
    unfold startsOf
    simpa using h3
  · intro b hb2
    exact names_ok hl F.kn (by rw [← hB]; exact List.mem_map.2 ⟨b, hb2, rfl⟩)
end Go.Proofs.YtgboboljgcfggaaDoor

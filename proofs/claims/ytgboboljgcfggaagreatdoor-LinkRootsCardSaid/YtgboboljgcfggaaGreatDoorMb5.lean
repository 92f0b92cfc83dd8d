/- Walks and words: RunBk, RunBl, RunBm, RunBn, Ren, RunBo, Siz, Sag. -/
import Derived.Test.YtgboboljgcfggaaGreatDoorMb4
import Derived.LoopTactic
import Derived.Deep.CutRange
namespace Go.Proofs.YtgboboljgcfggaaGreatDoor
open Go.RowKit
theorem heap_sc (w : World) (r j : Nat) (u : Value) {k : Nat} (h : k ≠ r) : (w.setCell ⟨r, j, none⟩ u).heap[k]? = w.heap[k]? := Below.heap_setCell _ _ _ _ h
theorem own_slice {w : World} {B T sz n : Nat} {v : Value} {xs : List Value} (h : w.ownsRow B T sz v n xs) : ∃ A c, v = .slice A n c := by
  rcases h.2 with ⟨e, rfl⟩ | ⟨g, cap, cur, e, _⟩
  · exact ⟨none, 0, e⟩
  · exact ⟨_, _, e⟩
def oM (M : AM) : Obj := .cells #[.slice M.p.bA M.p.bs.length M.p.bc, .slice M.p.sA M.p.ss.length M.p.sc, .slice M.sA M.S.length M.sc, .slice M.fA M.F.length M.fc, iv M.steps, .int .u64 M.seed, .bool M.done, iv M.err] 50
def oR (M : AM) (mb : Nat) : Obj := .cells #[.slice M.p.bA M.p.bs.length M.p.bc, .slice M.p.sA M.p.ss.length M.p.sc, .slice M.sA M.S.length M.sc, .slice M.fA M.F.length M.fc, iv M.steps, .int .u64 M.seed, .bool M.done, iv M.err, .map none, .map (some mb)] 165
theorem frs_one (L : List Fr) : ∀ u ∈ L.flatMap Fr.cs, u.oneCell' = true := fun u hu => by
  obtain ⟨f, _, h⟩ := List.mem_flatMap.1 hu
  simp [Fr.cs] at h
  rcases h with rfl | rfl | rfl <;> rfl
theorem rd_src {α : Type} {n : Nat} {cs : α → List Value} {w : World} {A : Option Addr} {L : List α} (h : RD n cs w A L) (hn : ∀ x, (cs x).length = n) (h0 : 0 < n) : ∀ a, A = some a → L ≠ [] → a.block < w.heap.size ∧ ∀ (j : Nat) v, (L.flatMap cs)[j]? = some v → w.cell? (a.add j) = some v := fun a ha hL => by
  rcases id h with h' | ⟨a', e, hb, _⟩
  · exact absurd h' hL
  · rw [ha] at e
    cases e
    refine ⟨hb, fun j v hj => ?_⟩
    have hlt : j < L.length * n := by
      rcases Nat.lt_or_ge j (L.length * n) with h' | h'
      · exact h'
      · rw [List.getElem?_eq_none (by rw [flat_lenM _ n hn]; exact h')] at hj; cases hj
    have e : j = j / n * n + j % n := by rw [Nat.mul_comm]; exact (Nat.div_add_mod j n).symm
    have hq : j / n < L.length := by rw [Nat.div_lt_iff_lt_mul h0]; exact hlt
    have hg : L[j / n]? = some L[j / n] := by simp [hq]
    obtain ⟨a'', e3, _, hc⟩ := h.at hq
    rw [ha] at e3
    cases e3
    rw [e, flat_atM cs n hn (Nat.mod_lt _ h0) L _ hg] at hj
    rw [e]
    exact hc _ _ hj
theorem newr1 (M : AM) (w : World) : let W0 := ((w.alloc (oM M)).alloc (.map #[] 0)).alloc (oR M (w.heap.size + 1)); w.grownBy W0 none ∧ W0.heap[w.heap.size]? = some (oM M) ∧ W0.heap[w.heap.size + 1]? = some (.map #[] 0) ∧ W0.heap[w.heap.size + 1 + 1]? = some (oR M (w.heap.size + 1)) := by
  refine ⟨((World.grownBy_alloc w _ none).trans (World.grownBy_alloc _ _ none)).trans (World.grownBy_alloc _ _ none), ?_, ?_, ?_⟩
  · rw [Below.heap_alloc _ _ _ (by simp; omega), Below.heap_alloc _ _ _ (by simp)]
    exact al_newM w _
  · rw [Below.heap_alloc _ _ _ (by simp)]
    have := al_newM (w.alloc (oM M)) (.map #[] 0)
    simpa using this
  · have := al_newM ((w.alloc (oM M)).alloc (.map #[] 0)) (oR M (w.heap.size + 1))
    simpa using this
theorem NS.ev {w W : World} {M : AM} {rb mb : Nat} {sv fv : Value} {F : List Fr} {ev : Value} (h : NS w M rb mb sv fv F ev W) (ev' : Value) : NS w M rb mb sv fv F ev' (W.setCell ⟨rb, 8, none⟩ ev') := by
  have ne : ∀ {i : Nat} {o : Obj}, W.heap[i]? = some o → (∀ c, o ≠ .cells c 165 (0, 0)) → i ≠ rb := fun {i o} e1 e2 e3 => by subst e3; rw [h.rbh] at e1; exact e2 _ (Option.some.inj e1).symm
  have hB := h.rbB
  exact ⟨⟨h.gr.os, h.gr.tape, h.gr.output, by simpa using h.gr.size, fun k hk hn => (heap_sc _ _ _ _ (by omega)).trans (h.gr.block k hk hn)⟩, (heap_set h.rbh 8 _).trans (by simp), (heap_sc _ _ _ _ (ne h.mbh (by simp))).trans h.mbh, h.rbB, h.mbB, row_keep h.st fun k cur e1 e2 => heap_sc _ _ _ _ (ne e2 (by simp)), row_keep h.fr fun k cur e1 e2 => heap_sc _ _ _ _ (ne e2 (by simp))⟩
theorem NS.c3 {w W : World} {M : AM} {rb mb : Nat} {sv fv : Value} {F : List Fr} {ev : Value} (h : NS w M rb mb sv fv F ev W) : W.cell? ⟨rb, 3, none⟩ = some fv ∧ W.cell? ⟨rb, 8, none⟩ = some ev ∧ ∀ j, W.frozen? ⟨rb, j, none⟩ = false :=
  ⟨by simp [World.cell?, h.rbh], by simp [World.cell?, h.rbh], fun j => by simp [World.frozen?, h.rbh]⟩
theorem NS.cf {w W : World} {M : AM} {rb mb fb n c : Nat} {sv : Value} {F : List Fr} {ev : Value} (h : NS w M rb mb sv (.slice (some ⟨fb, 0, none⟩) n c) F ev W) {k : Nat} {f : Fr} (hf : F[k]? = some f) : W.cell? ⟨fb, k * 3 + 2, none⟩ = some (.slice f.A f.L.length f.c) ∧ ∀ j, W.frozen? ⟨fb, j, none⟩ = false := by
  have hlt : k < F.length := (List.getElem?_eq_some_iff.1 hf).1
  obtain ⟨cur, hcur⟩ := own_block h.fr (k := fb) rfl
  refine ⟨?_, fun j => by simp [World.frozen?, hcur]⟩
  have hfr := h.fr
  have e : ∃ c', (Value.slice (some ⟨fb, 0, none⟩) n c) = .slice (some ⟨fb, 0, none⟩) F.length c' := by
    rcases hfr.2 with ⟨e, _⟩ | ⟨g, cap, cur', e, _⟩
    · cases e
    · cases e; exact ⟨_, rfl⟩
  obtain ⟨c', e⟩ := e
  rw [e] at hfr
  rw [World.ownsRow.cellAt hfr _ (by omega), flat_atM Fr.cs 3 Fr.cs_len (by omega) F k hf]
  rfl
theorem LRd.old {B : Nat} {tag : Nat → Tag} {w : World} {A : Option Addr} {c : Nat} {L : List AV} (h : LRd B tag w A c L) : LRd w.heap.size noT w A c L := by
  induction h with
  | @mk A c L hc hm h0 hb he hx hr ih =>
    refine .mk hc hm h0 hb (fun a lo sz _ e => by cases e) (fun a e j x hj i v hi => ⟨(hx a e j x hj i v hi).1, .inl (by rw [add_block]; exact hb a e)⟩) ih
theorem AM.Rd.grow {w W : World} {M : AM} (h : M.Rd w) (hg : w.grownBy W none) : M.Rd W := by
  have mono : ∀ {A : Option Addr} {c : Nat} {L : List AV}, LRd w.heap.size noT w A c L → LRd W.heap.size noT W A c L := fun hL =>
    LRd.old (B := w.heap.size) (tag := noT) (hL.mono hg.size (fun _ _ => Tag.le_refl _) fun p hp _ => World.cell?_of_block (w := w) (hg.block _ hp (by simp)))
  exact ⟨h.p.below ⟨hg.os, hg.tape, hg.output, hg.size, fun k hk => hg.block k hk (by simp)⟩, mono h.s, h.f.keep hg.size fun p hp => World.cell?_of_block (w := w) (hg.block _ hp (by simp)), h.fc, h.fm, h.f0, fun f hf => mono (h.fl f hf)⟩
theorem AM.RdX.rd {w0 w : World} {tg : Nat → Tag} {M : AM} (h : M.RdX w0 tg w) : M.Rd w :=
  ⟨h.p.below ⟨h.gr.os, h.gr.tape, h.gr.output, h.gr.size, fun k hk => h.gr.block k hk (by simp)⟩, h.s.old, h.f, h.fc, h.fm, h.f0, fun f hf => (h.fl f hf).old⟩
theorem AM.RdX.keep {w0 w V : World} {tg : Nat → Tag} {M : AM} (h : M.RdX w0 tg w) (hg : w0.grownBy V none) (hs : w.heap.size ≤ V.heap.size) (hk : ∀ k, k < w.heap.size → tg k ≠ .no → V.heap[k]? = w.heap[k]?) : M.RdX w0 tg V := by
  have ck : ∀ p : Addr, p.block < w.heap.size → (p.block < w0.heap.size ∨ tg p.block ≠ .no) → V.cell? p = w.cell? p := fun p hp hq => by
    by_cases h0 : p.block < w0.heap.size
    · exact (World.cell?_of_block (w := w0) (hg.block _ h0 (by simp))).trans (World.cell?_of_block (w := w0) (h.gr.block _ h0 (by simp))).symm
    · exact World.cell?_of_block (w := w) (hk _ hp (hq.resolve_left h0))
  have mono : ∀ {A : Option Addr} {c : Nat} {L : List AV}, LRd w0.heap.size tg w A c L → LRd w0.heap.size tg V A c L := fun hL => hL.mono hs (fun k _ => Tag.le_refl _) fun p hp hst => by
    refine ck p hp ?_
    rcases hst with h1 | h1 | ⟨_, _, h1, _⟩ | ⟨_, _, h1, _⟩
    · exact .inl h1
    · exact .inr (by rw [h1]; simp)
    · exact .inr (by rw [h1]; simp)
    · exact .inr (by rw [h1]; simp)
  refine ⟨hg, fun k => ?_, h.p, mono h.s, ?_, h.fx, h.fc, h.fm, h.f0, fun f hf => mono (h.fl f hf)⟩
  · rcases h.t k with h1 | ⟨h1, h2, h3⟩
    · exact .inl h1
    · exact .inr ⟨h1, by omega, h3⟩
  · by_cases hF : M.F = []
    · exact .inl hF
    · rcases h.f with h1 | ⟨a, e, hb, hc⟩
      · exact .inl h1
      · have hx := h.fx a e hF
        refine .inr ⟨a, e, by omega, fun j x hj i v hi => (ck _ (by rw [add_block]; exact hb) ?_).trans (hc j x hj i v hi)⟩
        rw [add_block]
        rcases hx with h1 | h1
        · exact .inl h1
        · exact .inr (by rw [h1]; simp)
theorem AM.RdX.grow {w0 w V : World} {tg : Nat → Tag} {M : AM} (h : M.RdX w0 tg w) (hg : w.grownBy V none) : M.RdX w0 tg V :=
  h.keep (h.gr.trans hg) hg.size fun k hk _ => hg.block k hk (by simp)
theorem AM.Rd.x {w : World} {M : AM} (h : M.Rd w) : M.RdX w noT w :=
  ⟨⟨rfl, rfl, rfl, Nat.le_refl _, fun _ _ _ => rfl⟩, fun _ => .inl rfl, h.p, h.s, h.f, fun a e hF => by
    rcases h.f with h1 | ⟨a', e', hb, _⟩
    · exact absurd h1 hF
    · rw [e] at e'; cases e'; exact .inl hb, h.fc, h.fm, h.f0, h.fl⟩
set_option maxRecDepth 100000 in
set_option maxHeartbeats 4000000 in
theorem newRunner_any (M : AM) (w0 w : World) (tg : Nat → Tag) (hM0 : M.RdX w0 tg w) (hF : M.F ≠ []) (hn : M.S.length ≤ 1000000) (hn2 : M.F.length ≤ 1000000) :
    Calls Tryz.prog 79 #[M.v] w fun e w' => ∃ rb tb eb mb g, e = .returned (.pointer (some ⟨rb, 0, none⟩)) ∧ MR ⟨w0, rb, tb, eb, mb⟩ M.p w' g M.er ∧ (∀ k, k < w.heap.size → g.tag k = tg k) ∧ w.grownBy w' none := by
  have hM := hM0.rd
  have HM0 := Lib.hid hM0
  clear hM0
  have C53 : ∀ o o' o'', Calls Tryz.prog 100 #[.slice M.sA M.S.length M.sc] (((w.alloc o).alloc o').alloc o'') (ClP 56 8 (((w.alloc o).alloc o').alloc o'') M.S.length (M.S.flatMap AV.cs)) := fun o o' o'' =>
    clone53_any M.sA M.S.length M.sc (M.S.flatMap AV.cs) _ (flat8 M.S) (fun a ha => by
      obtain ⟨h1, h2⟩ := hM.s.src a ha
      exact ⟨by simp; omega, fun j v hj => cell_al3 (h2 j v hj) (by rw [add_block]; exact h1) o o' o''⟩) (flat_one M.S) (fun e => ⟨by have := hM.s.h0 e; have := hM.s.hc; omega, hM.s.h0 e⟩) hn
  have H53 := Lib.hid C53
  clear C53
  have xe : M.v = .agg #[.slice M.p.bA M.p.bs.length M.p.bc, .slice M.p.sA M.p.ss.length M.p.sc, .slice M.sA M.S.length M.sc, .slice M.fA M.F.length M.fc, iv M.steps, .int .u64 M.seed, .bool M.done, iv M.err] := rfl
  rw [xe]
  clear xe
  have HM := Lib.hid hM
  have HF := Lib.hid hF
  clear hM hF
  have mm : ∀ W, (Instr.makeMap 163 none).run Tryz.prog W = .ok (.map (some W.heap.size)) (W.alloc (.map #[] 0)) := fun _ => rfl
  have N1 := Lib.hid (newr1 M w)
  have B53 : ∀ W1 v, (((w.alloc (oM M)).alloc (.map #[] 0)).alloc (oR M (w.heap.size + 1))).grownBy W1 none → W1.ownsRow (((w.alloc (oM M)).alloc (.map #[] 0)).alloc (oR M (w.heap.size + 1))).heap.size 56 8 v M.S.length (M.S.flatMap AV.cs) → W1.heap[w.heap.size]? = some (oM M) ∧ W1.heap[w.heap.size + 1]? = some (.map #[] 0) ∧ W1.heap[w.heap.size + 1 + 1]? = some (oR M (w.heap.size + 1)) ∧ w.grownBy W1 none ∧ W1.ownsRow w.heap.size 56 8 v M.S.length (M.S.flatMap AV.cs) := fun W1 v hg ho => by
    obtain ⟨g0, k0, k1, k2⟩ := N1.out
    exact ⟨(hg.block _ (heap_ltM k0) (by simp)).trans k0, (hg.block _ (heap_ltM k1) (by simp)).trans k1, (hg.block _ (heap_ltM k2) (by simp)).trans k2, g0.trans hg, owns_base ho (by simp; omega)⟩
  have B53 := Lib.hid B53
  clear N1
  go_enter Tryz.func79, Tryz.ntmps79
  go_wp2_with (go_at_call 100; refine (H53.out _ _ _).mono ?_; rintro e w1 ⟨v, rfl, hg1, ho1⟩; obtain ⟨vA, vc, rfl⟩ := own_slice ho1; obtain ⟨k0, k1, k2, gw, ow⟩ := B53.out w1 _ hg1 ho1; clear hg1 ho1; have r2 := Lib.cell_of_heap k2 2; have rf : ∀ j, w1.frozen? ⟨w.heap.size + 1 + 1, j, none⟩ = false := (fun j => by simp [World.frozen?, k2, oR]); simp at r2; have m3 := Lib.cell_of_heap k0 3; simp at m3; have K0 := Lib.hid k0; have K1 := Lib.hid k1; have K2 := Lib.hid k2; have GW := Lib.hid gw; have OW := Lib.hid ow; clear k0 k1 k2 gw ow)
  have hF' := HF.out
  have C54 : ∀ W, w.grownBy W none → Calls Tryz.prog 101 #[.slice M.fA M.F.length M.fc] W (ClP 158 3 W M.F.length (M.F.flatMap Fr.cs)) := fun W hg =>
    clone54_any M.fA M.F.length M.fc (M.F.flatMap Fr.cs) W (flat3 M.F) (fun a ha => by
      obtain ⟨h1, h2⟩ := rd_src HM.out.f Fr.cs_len (by decide) a ha HF.out
      exact ⟨Nat.lt_of_lt_of_le h1 hg.size, fun j v hj => (World.cell?_of_block (w := w) (hg.block _ (by rw [add_block]; exact h1) (by simp))).trans (h2 j v hj)⟩) (frs_one M.F) (fun e => by
      rcases HM.out.f with h | ⟨a', e', _⟩
      · exact absurd h HF.out
      · rw [e] at e'; cases e') hn2
  have gs : w.grownBy (w1.setCell ⟨w.heap.size + 1 + 1, 2, none⟩ (.slice vA M.S.length vc)) none := ⟨GW.out.os, GW.out.tape, GW.out.output, by simpa using GW.out.size, fun k hk hn' => (heap_sc _ _ _ _ (by omega)).trans (GW.out.block k hk hn')⟩
  refine (C54 _ gs).mono ?_
  rintro e w2 ⟨fv, rfl, hg2, ho2⟩
  obtain ⟨fb, fc', rfl⟩ : ∃ fb fc', fv = .slice (some ⟨fb, 0, none⟩) M.F.length fc' := by
    rcases ho2.2 with ⟨_, e2⟩ | ⟨g, cap, cur, e, _⟩
    · exact absurd (List.eq_nil_of_length_eq_zero e2) HF.out
    · exact ⟨g, cap, e⟩
  have ns0 : NS w M (w.heap.size + 1 + 1) (w.heap.size + 1) (.slice vA M.S.length vc) (.slice (some ⟨fb, 0, none⟩) M.F.length fc') M.F (.map none) (w2.setCell ⟨w.heap.size + 1 + 1, 3, none⟩ (.slice (some ⟨fb, 0, none⟩) M.F.length fc')) := by
    have l2 := heap_ltM K2.out
    have l1 := heap_ltM K1.out
    have hs : (w1.setCell ⟨w.heap.size + 1 + 1, 2, none⟩ (.slice vA M.S.length vc)).heap.size = w1.heap.size := by simp
    have h2 : (w1.setCell ⟨w.heap.size + 1 + 1, 2, none⟩ (.slice vA M.S.length vc)).heap[w.heap.size + 1 + 1]? = _ := heap_set (show w1.heap[w.heap.size + 1 + 1]? = some (oR M (w.heap.size + 1)) from K2.out) 2 (.slice vA M.S.length vc)
    have h1 : (w1.setCell ⟨w.heap.size + 1 + 1, 2, none⟩ (.slice vA M.S.length vc)).heap[w.heap.size + 1]? = some (.map #[] 0) := (heap_sc _ _ _ _ (by omega)).trans K1.out
    have q2 := (hg2.block _ (by rw [hs]; exact l2) (by simp)).trans h2
    have q1 := (hg2.block _ (by rw [hs]; exact l1) (by simp)).trans h1
    have ne : ∀ {i : Nat} {o : Obj}, w2.heap[i]? = some o → (∀ c, o ≠ .cells c 165 (0, 0)) → i ≠ w.heap.size + 1 + 1 := fun {i o} e1 e2 e3 => by subst e3; rw [q2] at e1; exact e2 _ (Option.some.inj e1).symm
    refine ⟨⟨hg2.os.trans gs.os, hg2.tape.trans gs.tape, hg2.output.trans gs.output, ?_, fun k hk _ => ?_⟩, ?_, (heap_sc _ _ _ _ (by omega)).trans q1, by omega, by omega, ?_, ?_⟩
    · have a1 := hg2.size
      have a2 := gs.size
      simp at a1 a2 ⊢
      omega
    · rw [heap_sc _ _ _ _ (by omega), hg2.block k (by have := gs.size; omega) (by simp)]
      exact gs.block k hk (by simp)
    · rw [heap_set q2 3 _]
      simp
    · refine row_keep (row_keep OW.out (w' := w2) fun k cur e1 e2 => ?_) fun k cur e1 e2 => Below.heap_setCell _ _ _ _ (ne e2 (by simp))
      rw [hg2.block k (by rw [hs]; exact heap_ltM e2) (by simp)]
      refine Below.heap_setCell _ _ _ _ fun e => ?_
      subst e
      have := K2.out
      unfold oR at this
      rw [e2] at this
      cases this
    · exact row_keep (owns_base ho2 (by rw [hs]; exact GW.out.size)) fun k cur e1 e2 => Below.heap_setCell _ _ _ _ (ne e2 (by simp))
  have NS0 := Lib.hid ns0
  have v2 := Lib.cell_of_heap ((hg2.block (w.heap.size + 1 + 1) (by simp; exact heap_ltM K2.out) (by simp)).trans (heap_set (show w1.heap[w.heap.size + 1 + 1]? = some (oR M (w.heap.size + 1)) from K2.out) 2 (.slice vA M.S.length vc))) 3
  simp at v2
  have vf : ∀ j, w2.frozen? ⟨w.heap.size + 1 + 1, j, none⟩ = false := fun j => by
    have h := (hg2.block (w.heap.size + 1 + 1) (by simp; exact heap_ltM K2.out) (by simp)).trans (heap_set (show w1.heap[w.heap.size + 1 + 1]? = some (oR M (w.heap.size + 1)) from K2.out) 2 (.slice vA M.S.length vc))
    simp [World.frozen?, h]
  clear hF' C54 gs hg2 ho2 ns0 r2 rf m3 K0 K1 K2 GW OW B53 H53 mm
  go_wp2
  go_loopw [4, 29] (fun _ i wr => ∃ k : Nat, k ≤ M.F.length ∧ i = .int .i64 k ∧ Hid (NS w M (w.heap.size + 1 + 1) (w.heap.size + 1) (.slice vA M.S.length vc) (.slice (some ⟨fb, 0, none⟩) M.F.length fc') (clipF k M.F) (.map none) wr)) (fun _ i _ => M.F.length - (intOf i).toNat)
  case atStart => exact ⟨0, Nat.zero_le _, rfl, Lib.hid (by rw [clipF_zero]; exact NS0.out)⟩
  case round =>
    obtain ⟨k, hk, rfl, HN⟩ := hrel
    clear NS0 v2 vf
    by_cases hlt : k < M.F.length
    · go_wp2
      obtain ⟨f, hf⟩ : ∃ f, f = M.F[k] := ⟨_, rfl⟩
      have hfk := clipF_at hlt
      rw [← hf] at hfk
      have hfl := HM.out.fl f (by rw [hf]; exact List.getElem_mem hlt)
      have hfc := hfl.hc
      have hf0 := hfl.h0
      have dn := HN.out.grow (grown_drewN wr 1 none)
      have q3 := dn.c3.1
      have qf := (dn.cf hfk).1
      have qz := (dn.cf hfk).2
      have HFK := Lib.hid hfk
      have HFE := Lib.hid hf
      clear hfk hf hfl dn
      refine wp_phaseT [false, false, false, false, false, false, false, false, false, false, false, false, false, false, false, false, false, false, true] [[], [18]] [Value.pointer (some ⟨w.heap.size + 1 + 1, 0, none⟩), Value.pointer (some ⟨w.heap.size + 1 + 1, 0, none⟩), Value.pointer (some ⟨w.heap.size + 1 + 1, 0, none⟩), Value.pointer (some ⟨w.heap.size + 1 + 1, 3, none⟩), .slice (some ⟨fb, 0, none⟩) M.F.length fc', Value.int IntKind.i64 ↑k, Value.pointer (some ⟨w.heap.size + 1 + 1, 0, none⟩), Value.pointer (some ⟨w.heap.size + 1 + 1, 0, none⟩), Value.pointer (some ⟨w.heap.size + 1 + 1, 0, none⟩), Value.pointer (some ⟨w.heap.size + 1 + 1, 3, none⟩), .slice (some ⟨fb, 0, none⟩) M.F.length fc', Value.int IntKind.i64 ↑k, Value.pointer (some ⟨fb, k * 3, none⟩), Value.pointer (some ⟨fb, k * 3 + 2, none⟩), .slice f.A f.L.length f.c, .slice f.A f.L.length f.L.length, Value.pointer (some ⟨fb, k * 3, none⟩), Value.pointer (some ⟨fb, k * 3 + 2, none⟩), undef] [_, (wr.drew.setCell ⟨fb, k * 3 + 2, none⟩ (.slice f.A f.L.length f.L.length))] 1 19 (by decide) (by kernel_rfl) (by kernel_rfl) (by kernel_rfl) (by kernel_rfl) rfl (by kernel_rfl) (fun h => absurd h (by decide)) (fun h => absurd h (by decide)) rfl rfl ⟨?_, ?_, ?_, ?_, ?_, ?_, ?_, ?_, ?_, ?_, ?_, ?_, ?_, ?_, ?_, ?_, ?_, ?_, ?_, trivial⟩ rfl (by kernel_rfl) ?_
      · intro kk aa hk E
        have h3 : aa.eval (.tmp 3) = Value.pointer (some ⟨w.heap.size + 1 + 1, 0, none⟩) := (E 3 (by kernel_rfl)).trans (by kernel_rfl)
        exact obl_pure (by kernel_rfl) rfl hk fun w => op_move rfl rfl h3
      · intro kk aa hk E
        have h32 : aa.eval (.tmp 32) = Value.pointer (some ⟨w.heap.size + 1 + 1, 0, none⟩) := (E 32 (by kernel_rfl)).trans (by kernel_rfl)
        exact obl_pure (by kernel_rfl) rfl hk fun w => op_nil rfl rfl h32
      · intro kk aa hk E
        have h33 : aa.eval (.tmp 33) = Value.pointer (some ⟨w.heap.size + 1 + 1, 0, none⟩) := (E 33 (by kernel_rfl)).trans (by kernel_rfl)
        exact obl_pure (by kernel_rfl) rfl hk fun w => op_fa (k := 0) rfl rfl rfl h33
      · intro kk aa hk E
        have h34 : aa.eval (.tmp 34) = Value.pointer (some ⟨w.heap.size + 1 + 1, 0, none⟩) := (E 34 (by kernel_rfl)).trans (by kernel_rfl)
        exact obl_pure (by kernel_rfl) rfl hk fun w => op_fa (k := 3) rfl rfl rfl h34
      · intro kk aa hk E
        have h35 : aa.eval (.tmp 35) = Value.pointer (some ⟨w.heap.size + 1 + 1, 3, none⟩) := (E 35 (by kernel_rfl)).trans (by kernel_rfl)
        refine obl_read (ks := [0]) (by kernel_rfl) (by kernel_rfl) rfl hk ⟨?_, trivial⟩
        · intro w' hw; cases hw; exact op_load1M rfl (by decide) rfl h35 q3
      · intro kk aa hk E
        have h4 : aa.eval (.tmp 4) = Value.int IntKind.i64 ↑k := (E 4 (by kernel_rfl)).trans (by kernel_rfl)
        exact obl_pure (by kernel_rfl) rfl hk fun w => op_move rfl rfl h4
      · intro kk aa hk E
        have h3 : aa.eval (.tmp 3) = Value.pointer (some ⟨w.heap.size + 1 + 1, 0, none⟩) := (E 3 (by kernel_rfl)).trans (by kernel_rfl)
        exact obl_pure (by kernel_rfl) rfl hk fun w => op_move rfl rfl h3
      · intro kk aa hk E
        have h38 : aa.eval (.tmp 38) = Value.pointer (some ⟨w.heap.size + 1 + 1, 0, none⟩) := (E 38 (by kernel_rfl)).trans (by kernel_rfl)
        exact obl_pure (by kernel_rfl) rfl hk fun w => op_nil rfl rfl h38
      · intro kk aa hk E
        have h39 : aa.eval (.tmp 39) = Value.pointer (some ⟨w.heap.size + 1 + 1, 0, none⟩) := (E 39 (by kernel_rfl)).trans (by kernel_rfl)
        exact obl_pure (by kernel_rfl) rfl hk fun w => op_fa (k := 0) rfl rfl rfl h39
      · intro kk aa hk E
        have h40 : aa.eval (.tmp 40) = Value.pointer (some ⟨w.heap.size + 1 + 1, 0, none⟩) := (E 40 (by kernel_rfl)).trans (by kernel_rfl)
        exact obl_pure (by kernel_rfl) rfl hk fun w => op_fa (k := 3) rfl rfl rfl h40
      · intro kk aa hk E
        have h41 : aa.eval (.tmp 41) = Value.pointer (some ⟨w.heap.size + 1 + 1, 3, none⟩) := (E 41 (by kernel_rfl)).trans (by kernel_rfl)
        refine obl_read (ks := [0]) (by kernel_rfl) (by kernel_rfl) rfl hk ⟨?_, trivial⟩
        · intro w' hw; cases hw; exact op_load1M rfl (by decide) rfl h41 q3
      · intro kk aa hk E
        have h4 : aa.eval (.tmp 4) = Value.int IntKind.i64 ↑k := (E 4 (by kernel_rfl)).trans (by kernel_rfl)
        exact obl_pure (by kernel_rfl) rfl hk fun w => op_move rfl rfl h4
      · intro kk aa hk E
        have h42 : aa.eval (.tmp 42) = .slice (some ⟨fb, 0, none⟩) M.F.length fc' := (E 42 (by kernel_rfl)).trans (by kernel_rfl)
        have h43 : aa.eval (.tmp 43) = Value.int IntKind.i64 ↑k := (E 43 (by kernel_rfl)).trans (by kernel_rfl)
        exact obl_pure (by kernel_rfl) rfl hk fun w => op_index (sz := 3) (k := k) (Nat.zero_add _) rfl (.inr (.inl ⟨rfl, rfl⟩)) rfl h42 h43 rfl hlt
      · intro kk aa hk E
        have h44 : aa.eval (.tmp 44) = Value.pointer (some ⟨fb, k * 3, none⟩) := (E 44 (by kernel_rfl)).trans (by kernel_rfl)
        exact obl_pure (by kernel_rfl) rfl hk fun w => op_fa (k := 2) rfl rfl rfl h44
      · intro kk aa hk E
        have h45 : aa.eval (.tmp 45) = Value.pointer (some ⟨fb, k * 3 + 2, none⟩) := (E 45 (by kernel_rfl)).trans (by kernel_rfl)
        refine obl_read (ks := [0]) (by kernel_rfl) (by kernel_rfl) rfl hk ⟨?_, trivial⟩
        · intro w' hw; cases hw; exact op_load1M rfl (by decide) rfl h45 qf
      · intro kk aa hk E
        have h46 : aa.eval (.tmp 46) = .slice f.A f.L.length f.c := (E 46 (by kernel_rfl)).trans (by kernel_rfl)
        refine obl_call (ks := [0]) (by kernel_rfl) (by kernel_rfl) rfl hk ⟨?_, trivial⟩
        · intro w' hw; cases hw; exact op_call55 rfl h46 hfc hf0
      · intro kk aa hk E
        have h36 : aa.eval (.tmp 36) = .slice (some ⟨fb, 0, none⟩) M.F.length fc' := (E 36 (by kernel_rfl)).trans (by kernel_rfl)
        have h37 : aa.eval (.tmp 37) = Value.int IntKind.i64 ↑k := (E 37 (by kernel_rfl)).trans (by kernel_rfl)
        exact obl_pure (by kernel_rfl) rfl hk fun w => op_index (sz := 3) (k := k) (Nat.zero_add _) rfl (.inr (.inl ⟨rfl, rfl⟩)) rfl h36 h37 rfl hlt
      · intro kk aa hk E
        have h48 : aa.eval (.tmp 48) = Value.pointer (some ⟨fb, k * 3, none⟩) := (E 48 (by kernel_rfl)).trans (by kernel_rfl)
        exact obl_pure (by kernel_rfl) rfl hk fun w => op_fa (k := 2) rfl rfl rfl h48
      · intro kk aa hk E
        have h49 : aa.eval (.tmp 49) = Value.pointer (some ⟨fb, k * 3 + 2, none⟩) := (E 49 (by kernel_rfl)).trans (by kernel_rfl)
        have h47 : aa.eval (.tmp 47) = .slice f.A f.L.length f.L.length := (E 47 (by kernel_rfl)).trans (by kernel_rfl)
        exact obl_write (ks := [0]) (by kernel_rfl) (by kernel_rfl) hk ⟨⟨1, _, _, by kernel_rfl, rfl, rfl, op_store1 rfl (by decide) rfl h49 h47 qf (qz _) (.inl ⟨_, _, _, rfl⟩)⟩, trivial⟩
      intro af haf
      simp only [List.take_succ_cons, List.take_zero, finA, Act.put, List.setIfInBounds_toArray, List.set_cons_succ, List.set_cons_zero] at haf
      subst haf
      simp only [List.drop_succ_cons, List.drop_zero]
      have nn := HN.out.grow (grown_drewN wr 1 none)
      rw [← clipF_len k M.F] at nn
      have n2 := nn.clip HFK.out
      rw [clipF_len, HFE.out, ← clipF_succ hlt, ← HFE.out] at n2
      have N2 := Lib.hid n2
      clear nn n2 q3 qf qz
      go_wp2
      go_roundw
      case rel => exact ⟨k + 1, by omega, by go_num, N2⟩
      case measure => simp [intOf]; omega
    · obtain rfl : k = M.F.length := by omega
      have hN := HN.out
      rw [clipF_all] at hN
      have N3 := Lib.hid hN
      have TAB := Lib.hid (fun (W : World) => table_any (w.heap.size + 1 + 1) W)
      clear hN HN
      go_wp2_with (go_at_call 103; refine (TAB.out _).mono ?_; rintro e w5 ⟨rfl, g5, k5, k6⟩; have n5 := N3.out.grow g5; have N5 := Lib.hid n5; have c8 := n5.c3.2.1; have cf := n5.c3.2.2; have K5 := Lib.hid k5; have K6 := Lib.hid k6; have G5 := Lib.hid g5; clear n5 k5 k6 g5)
      go_ret
      have n6 := N5.out.ev (.map (some (wr.heap.size + 1)))
      have l5 := N3.out.gr.size
      have r5 := heap_ltM N3.out.rbh
      obtain ⟨g, hg, hg2⟩ := n6.mem HM0.out (eb := wr.heap.size + 1) (tb := wr.heap.size) ((heap_sc _ _ _ _ (by omega)).trans K6.out) ((heap_sc _ _ _ _ (by omega)).trans K5.out) (by omega) (by omega)
      exact ⟨_, _, _, _, g, rfl, hg, hg2, n6.gr⟩
end Go.Proofs.YtgboboljgcfggaaGreatDoor
namespace Go.Proofs.YtgboboljgcfggaaGreatDoor
open Go.RowKit
theorem Mem.boxes {b : Bl} {w w' : World} {g : Gh} (h : Mem b w g) {x : Nat} (hx : b.B ≤ x) (ht : g.tag x = .no) (os : w'.os = w.os) (tape : w'.tape = w.tape) (output : w'.output = w.output) (hs : w.heap.size ≤ w'.heap.size) (hk : ∀ k, k < w.heap.size → k ≠ x → w'.heap[k]? = w.heap[k]?) : Mem b w' g :=
  h.keep os tape output hs w.heap.size (fun h => by omega) fun k hk' _ hr => hk k hk' fun e => by
    subst e
    rcases hr with hr | hr
    · omega
    · exact hr ht
theorem MR.boxes {b : Bl} {p : Prg} {w w' : World} {g : Gh} {m : MM} (h : MR b p w g m) {x : Nat} (hx : b.B ≤ x) (ht : g.tag x = .no) (os : w'.os = w.os) (tape : w'.tape = w.tape) (output : w'.output = w.output) (hs : w.heap.size ≤ w'.heap.size) (hk : ∀ k, k < w.heap.size → k ≠ x → w'.heap[k]? = w.heap[k]?) : MR b p w' g m :=
  ⟨h.mem.boxes hx ht os tape output hs hk, h.R.keep (hk _ h.R.lt (fun e => by have := h.mem.rt; rw [e, ht] at this; cases this)), h.S, h.F, h.bs⟩
theorem MR.grow {b : Bl} {p : Prg} {w w' : World} {g : Gh} {m : MM} (h : MR b p w g m) (hg : w.grownBy w' none) : MR b p w' g m :=
  ⟨h.mem.only (grown_weak hg _) h.R, h.R.keep (hg.block _ h.R.lt (by simp)), h.S, h.F, h.bs⟩
def Tag.isNo : Tag → Bool
  | .no => true
  | _ => false
theorem Tag.isNo_ne {t : Tag} (h : t ≠ .no) : t.isNo = false := by
  cases t <;> first | rfl | exact absurd rfl h
def tgOf (w0 w : World) (tag : Nat → Tag) (k : Nat) : Tag := if w0.heap.size ≤ k ∧ k < w.heap.size ∧ (tag k).isNo = false then .all else .no
theorem tgOf_t (w0 w : World) (tag : Nat → Tag) (k : Nat) : tgOf w0 w tag k = .no ∨ (w0.heap.size ≤ k ∧ k < w.heap.size ∧ tgOf w0 w tag k = .all) := by
  unfold tgOf
  split
  · rename_i h; exact .inr ⟨h.1, h.2.1, rfl⟩
  · exact .inl rfl
theorem tgOf_sta {w0 w : World} {tag : Nat → Tag} {p : Addr} (hs : sta w0.heap.size tag p) (hp : p.block < w.heap.size) : p.block < w0.heap.size ∨ tgOf w0 w tag p.block = .all := by
  by_cases h0 : p.block < w0.heap.size
  · exact .inl h0
  · right
    unfold tgOf
    rw [if_pos]
    refine ⟨by omega, hp, Tag.isNo_ne ?_⟩
    rcases hs with h1 | h1 | ⟨_, _, h1, _⟩ | ⟨_, _, h1, _⟩
    · exact absurd h1 h0
    · rw [h1]; simp
    · rw [h1]; simp
    · rw [h1]; simp
theorem LRd.all {w0 w : World} {tag : Nat → Tag} {A : Option Addr} {c : Nat} {L : List AV} (h : LRd w0.heap.size tag w A c L) : LRd w0.heap.size (tgOf w0 w tag) w A c L := by
  induction h with
  | @mk A c L hc hm h0 hb he hx hr ih =>
    refine .mk hc hm h0 hb (fun a lo sz _ e => ?_) (fun a e j x hj i v hi => ?_) ih
    · rcases tgOf_t w0 w tag a.block with h1 | ⟨_, _, h1⟩
      · rw [h1] at e; cases e
      · rw [h1] at e; cases e
    · obtain ⟨h1, h2⟩ := hx a e j x hj i v hi
      refine ⟨h1, ?_⟩
      rcases tgOf_sta h2 (by rw [add_block]; exact hb a e) with h3 | h3
      · exact .inl h3
      · exact .inr (.inl h3)
theorem MR.am {b : Bl} {p : Prg} {w : World} {g : Gh} {m : MM} (h : MR b p w g m) (hp : p.Rd b.w0) : ∃ M : AM, M.p = p ∧ M.er = m ∧ M.RdX b.w0 (tgOf b.w0 w g.tag) w ∧ g.sv = .slice M.sA M.S.length M.sc ∧ g.fv = .slice M.fA M.F.length M.fc := by
  have g0 : b.w0.grownBy w none := ⟨h.mem.os, h.mem.tape, h.mem.output, h.mem.hs, fun k hk _ => h.mem.old k hk⟩
  have own : ∀ k, b.B ≤ k → k < w.heap.size → g.tag k = .own → tgOf b.w0 w g.tag k = .all := fun k h1 h2 h3 => if_pos ⟨h1, h2, by rw [h3]; rfl⟩
  have hs : ∃ sA sc, g.sv = .slice sA g.S.length sc ∧ LRd b.B (tgOf b.w0 w g.tag) w sA sc g.S := by
    have hr := h.mem.st
    have hn := fun x (hx : x ∈ g.S) => (h.mem.sr x hx).all
    rcases id hr.2 with ⟨e, e2⟩ | ⟨gg, cap, cur, e, hB, hg, hnc, hm, hcs, ht⟩
    · have : g.S = [] := List.eq_nil_of_length_eq_zero e2
      rw [this]
      exact ⟨none, 0, by rw [e]; rfl, LRd.nil _ _ _⟩
    · have hall := own gg hB (heap_ltM hg) (h.mem.stt gg (by rw [e]; rfl))
      refine ⟨_, cap, e, .mk hnc (by unfold maxLen at hm; omega) (fun e => by cases e) (fun a ea => by cases ea; exact heap_ltM hg) (fun a lo sz ea e => by cases ea; rw [hall] at e; cases e) (fun a ea j x hj i v hi => ?_) hn⟩
      cases ea
      have hi8 : i < 8 := by
        rcases Nat.lt_or_ge i 8 with h' | h'
        · exact h'
        · rw [List.getElem?_eq_none (by rw [AV.cs_len]; exact h')] at hi; cases hi
      have hj' : j < g.S.length := (List.getElem?_eq_some_iff.1 hj).1
      have ha : ((⟨gg, 0, none⟩ : Addr).add (j * 8 + i)) = ⟨gg, j * 8 + i, none⟩ := by
        by_cases e0 : j * 8 + i = 0
        · rw [e0]; rfl
        · rw [fld_add _ _ e0]; simp
      rw [ha]
      refine ⟨?_, .inr (.inl hall)⟩
      rw [e] at hr
      rw [World.ownsRow.cellAt hr _ (by omega), flat_atM AV.cs 8 AV.cs_len hi8 _ j hj]
      exact hi
  have hf : ∃ fA fc, g.fv = .slice fA g.F.length fc ∧ RD 3 Fr.cs w fA g.F ∧ (∀ a, fA = some a → g.F ≠ [] → a.block < b.w0.heap.size ∨ tgOf b.w0 w g.tag a.block = .all) ∧ g.F.length ≤ fc ∧ fc ≤ 9223372036854775807 ∧ (fA = none → fc = 0) := by
    have hr := h.mem.fr
    rcases id hr.2 with ⟨e, e2⟩ | ⟨gg, cap, cur, e, hB, hg, hnc, hm, hcs, ht⟩
    · have : g.F = [] := List.eq_nil_of_length_eq_zero e2
      rw [this]
      exact ⟨none, 0, by rw [e]; rfl, .inl rfl, (fun a e => by cases e), by simp, by omega, fun _ => rfl⟩
    · have hall := own gg hB (heap_ltM hg) (h.mem.frt gg (by rw [e]; rfl))
      refine ⟨_, cap, e, .inr ⟨_, rfl, heap_ltM hg, fun j x hj i v hi => ?_⟩, fun a ea _ => by cases ea; exact .inr hall, hnc, by unfold maxLen at hm; omega, fun e => by cases e⟩
      have hi3 : i < 3 := by
        rcases Nat.lt_or_ge i 3 with h' | h'
        · exact h'
        · rw [List.getElem?_eq_none (by rw [Fr.cs_len]; exact h')] at hi; cases hi
      have hj' : j < g.F.length := (List.getElem?_eq_some_iff.1 hj).1
      have ha : ((⟨gg, 0, none⟩ : Addr).add (j * 3 + i)) = ⟨gg, j * 3 + i, none⟩ := by
        by_cases e0 : j * 3 + i = 0
        · rw [e0]; rfl
        · rw [fld_add _ _ e0]; simp
      rw [ha]
      rw [e] at hr
      rw [World.ownsRow.cellAt hr _ (by omega), flat_atM Fr.cs 3 Fr.cs_len hi3 _ j hj]
      exact hi
  obtain ⟨sA, sc, e1, h1⟩ := hs
  obtain ⟨fA, fc, e2, h2, h6, h3, h4, h5⟩ := hf
  refine ⟨⟨p, g.S, sA, sc, g.F, fA, fc, m.steps, m.seed, m.done, m.err⟩, rfl, ?_, ⟨g0, tgOf_t _ _ _, hp, h1, h2, h6, h3, h4, h5, fun f hf => ?_⟩, e1, e2⟩
  · obtain ⟨mb, mS, mF, ms, msd, md, me⟩ := m
    have a1 := h.bs
    have a2 := h.S
    have a3 := h.F
    simp only at a1 a2 a3
    simp only [AM.er, a1, a2, a3]
  · obtain ⟨d, hd⟩ := List.getElem?_of_mem hf
    exact (h.mem.fl d f hd).l.all
set_option maxRecDepth 100000 in
theorem ended_any (M : AM) (w : World) : Calls Tryz.prog 78 #[M.v] w fun e w' => e = .returned (.bool (ended M.er)) ∧ w.grownBy w' none := by
  have xe : M.v = .agg #[.slice M.p.bA M.p.bs.length M.p.bc, .slice M.p.sA M.p.ss.length M.p.sc, .slice M.sA M.S.length M.sc, .slice M.fA M.F.length M.fc, iv M.steps, .int .u64 M.seed, .bool M.done, iv M.err] := rfl
  have ee : ended M.er = (M.done || M.err != 0) := rfl
  rw [xe, ee]
  generalize M.done = D
  generalize M.err = E
  cases D with
  | true =>
    go_enter Tryz.func78, Tryz.ntmps78
    go_wp2
    go_ret
    exact ⟨rfl, grown_alloc _ _ _⟩
  | false =>
    go_enter Tryz.func78, Tryz.ntmps78
    go_wp2
    go_ret
    exact ⟨by simp, grown_alloc _ _ _⟩
end Go.Proofs.YtgboboljgcfggaaGreatDoor
namespace Go.Proofs.YtgboboljgcfggaaGreatDoor
open Go.RowKit
def runE : Nat → MM → MM × Int
  | 0, m => (m, 27)
  | n + 1, m => if ended (stepM m) then (stepM m, 0) else runE n (stepM m)
def itM : Nat → MM → MM
  | 0, m => m
  | n + 1, m => stepM (itM n m)
theorem runE_go : ∀ (k n : Nat) (m : MM), (∀ j, j < k → ended (itM (j + 1) m) = false) → runE (k + n) m = runE n (itM k m)
  | 0, n, m, _ => by simp [itM]
  | k + 1, n, m, h => by
    rw [show k + 1 + n = k + (n + 1) by omega, runE_go k (n + 1) m fun j hj => h j (by omega)]
    have := h k (by omega)
    simp only [itM] at this
    rw [runE, itM, if_neg (by rw [this]; simp)]
theorem itM_keep {n : Nat} {m : MM} (h : MI n m) (he : ended m = false) : ∀ k : Nat, (∀ j, j < k → ended (itM (j + 1) m) = false) → MI (n + 2 * k) (itM k m) ∧ (itM k m).bs = m.bs ∧ (itM k m).steps = m.steps + k ∧ ended (itM k m) = false
  | 0, _ => ⟨h, rfl, by simp [itM], he⟩
  | k + 1, hj => by
    obtain ⟨h1, h2, h3, h4⟩ := itM_keep h he k fun j hj' => hj j (by omega)
    obtain ⟨k1, k2, k3⟩ := stepM_keep h1 h4
    exact ⟨k1, k2.trans h2, by rw [itM, k3, h3]; omega, hj k (by omega)⟩
theorem MR.cs {b : Bl} {p : Prg} {w : World} {g : Gh} {m : MM} (h : MR b p w g m) {M : AM} (e1 : M.p = p) (e2 : M.er = m) (e3 : g.sv = .slice M.sA M.S.length M.sc) (e4 : g.fv = .slice M.fA M.F.length M.fc) :
    w.cell? ⟨b.rb, 0, none⟩ = some (.slice M.p.bA M.p.bs.length M.p.bc) ∧ w.cell? ⟨b.rb, 1, none⟩ = some (.slice M.p.sA M.p.ss.length M.p.sc) ∧ w.cell? ⟨b.rb, 2, none⟩ = some (.slice M.sA M.S.length M.sc) ∧ w.cell? ⟨b.rb, 3, none⟩ = some (.slice M.fA M.F.length M.fc) ∧
    w.cell? ⟨b.rb, 4, none⟩ = some (iv M.steps) ∧ w.cell? ⟨b.rb, 5, none⟩ = some (.int .u64 M.seed) ∧ w.cell? ⟨b.rb, 6, none⟩ = some (.bool M.done) ∧ w.cell? ⟨b.rb, 7, none⟩ = some (iv M.err) := by
  subst e1
  subst e2
  have hR := h.R
  rw [e3, e4] at hR
  exact ⟨(hR.c 0).trans rfl, (hR.c 1).trans rfl, (hR.c 2).trans rfl, (hR.c 3).trans rfl, (hR.c 4).trans rfl, (hR.c 5).trans rfl, (hR.c 6).trans rfl, (hR.c 7).trans rfl⟩
def rv (p : Prg) (sv fv : Value) (m : MM) : Value := .agg #[.slice p.bA p.bs.length p.bc, .slice p.sA p.ss.length p.sc, sv, fv, iv m.steps, .int .u64 m.seed, .bool m.done, iv m.err]
theorem MR.rv {b : Bl} {p : Prg} {w : World} {g : Gh} {m : MM} (h : MR b p w g m) (hp : p.Rd b.w0) {M : AM} (e1 : M.p = p) (e2 : M.er = m) (e3 : g.sv = .slice M.sA M.S.length M.sc) (e4 : g.fv = .slice M.fA M.F.length M.fc) : ∃ M' : AM, M'.v = M.v ∧ M'.p = p ∧ M'.er = m ∧ M'.RdX b.w0 (tgOf b.w0 w g.tag) w := by
  obtain ⟨M', k1, k2, k3, k4, k5⟩ := h.am hp
  have v1 : M'.v = YtgboboljgcfggaaGreatDoor.rv p g.sv g.fv m := by rw [k4, k5]; subst k1; subst k2; rfl
  have v2 : M.v = YtgboboljgcfggaaGreatDoor.rv p g.sv g.fv m := by rw [e3, e4]; subst e1; subst e2; rfl
  exact ⟨M', v1.trans v2.symm, k1, k2, k3⟩
def RunP (w0 : World) (tg : Nat → Tag) (M : AM) (w : World) (r : MM × Int) (e : Ending) (w' : World) : Prop := w.grownBy w' none ∧ ∃ (M' : AM) (tg' : Nat → Tag), e = .returned (.tuple #[M'.v, iv r.2]) ∧ M'.p = M.p ∧ M'.er = r.1 ∧ M'.RdX w0 tg' w' ∧ ∀ k, k < w.heap.size → tg' k = tg k
def zM : Obj := .cells #[nilS, nilS, nilS, nilS, iv 0, .int .u64 0, .bool false, iv 0] 50
def set36 (w : World) (m : Nat) (v0 v1 v2 v3 v4 v5 v6 v7 : Value) : World := (((((((w.setCell ⟨m, 0, none⟩ v0).setCell ⟨m, 1, none⟩ v1).setCell ⟨m, 2, none⟩ v2).setCell ⟨m, 3, none⟩ v3).setCell ⟨m, 4, none⟩ v4).setCell ⟨m, 5, none⟩ v5).setCell ⟨m, 6, none⟩ v6).setCell ⟨m, 7, none⟩ v7
theorem set36_ok (w : World) (m : Nat) (v0 v1 v2 v3 v4 v5 v6 v7 : Value) : (set36 w m v0 v1 v2 v3 v4 v5 v6 v7).os = w.os ∧ (set36 w m v0 v1 v2 v3 v4 v5 v6 v7).tape = w.tape ∧ (set36 w m v0 v1 v2 v3 v4 v5 v6 v7).output = w.output ∧ (set36 w m v0 v1 v2 v3 v4 v5 v6 v7).heap.size = w.heap.size ∧ ∀ k, k ≠ m → (set36 w m v0 v1 v2 v3 v4 v5 v6 v7).heap[k]? = w.heap[k]? := by
  refine ⟨by simp [set36, World.setCell], by simp [set36, World.setCell], by simp [set36, World.setCell], by simp [set36], fun k hk => ?_⟩
  unfold set36
  iterate 8 rw [heap_sc _ _ _ _ hk]
def setMM (w : World) (m : Nat) (M : AM) : World := set36 w m (.slice M.p.bA M.p.bs.length M.p.bc) (.slice M.p.sA M.p.ss.length M.p.sc) (.slice M.sA M.S.length M.sc) (.slice M.fA M.F.length M.fc) (iv M.steps) (.int .u64 M.seed) (.bool M.done) (iv M.err)
theorem grown_setMM {w w1 : World} {m : Nat} (h : w.grownBy w1 none) (hm : w.heap.size ≤ m) (M : AM) : w.grownBy (setMM w1 m M) none := by
  obtain ⟨h1, h2, h3, h4, h5⟩ := set36_ok w1 m (.slice M.p.bA M.p.bs.length M.p.bc) (.slice M.p.sA M.p.ss.length M.p.sc) (.slice M.sA M.S.length M.sc) (.slice M.fA M.F.length M.fc) (iv M.steps) (.int .u64 M.seed) (.bool M.done) (iv M.err)
  refine ⟨h1.trans h.os, h2.trans h.tape, h3.trans h.output, ?_, fun k hk hn => (h5 k (by omega)).trans (h.block k hk hn)⟩
  show _ ≤ (set36 _ _ _ _ _ _ _ _ _ _).heap.size
  rw [h4]
  exact h.size
theorem cells36 {w : World} {m : Nat} {v0 v1 v2 v3 v4 v5 v6 v7 : Value} (h : w.heap[m]? = some (.cells #[v0, v1, v2, v3, v4, v5, v6, v7] 50 (0, 0))) : (w.cell? ⟨m, 0, none⟩ = some v0 ∧ w.cell? ⟨m, 1, none⟩ = some v1 ∧ w.cell? ⟨m, 2, none⟩ = some v2 ∧ w.cell? ⟨m, 3, none⟩ = some v3 ∧ w.cell? ⟨m, 4, none⟩ = some v4 ∧ w.cell? ⟨m, 5, none⟩ = some v5 ∧ w.cell? ⟨m, 6, none⟩ = some v6 ∧ w.cell? ⟨m, 7, none⟩ = some v7) ∧ ∀ j, w.frozen? ⟨m, j, none⟩ = false := by
  refine ⟨⟨?_, ?_, ?_, ?_, ?_, ?_, ?_, ?_⟩, fun j => by simp [World.frozen?, h]⟩
  all_goals
    rw [Lib.cell_of_heap h]
    rfl
structure B2 (w : World) (M : AM) (w1 : World) : Prop where
  gr : w.grownBy w1 none
  k0 : w1.heap[w.heap.size]? = some (oM M)
  k1 : w1.heap[w.heap.size + 1]? = some zM
theorem B2.of (w : World) (M : AM) : B2 w M ((w.alloc (oM M)).alloc zM) := by
  refine ⟨(World.grownBy_alloc w _ none).trans (World.grownBy_alloc _ _ none), ?_, ?_⟩
  · rw [Below.heap_alloc _ _ _ (by simp)]
    exact al_newM w _
  · have := al_newM (w.alloc (oM M)) zM
    simpa using this
theorem B2.grow {w w1 w2 : World} {M : AM} (h : B2 w M w1) (hg : w1.grownBy w2 none) : B2 w M w2 := ⟨h.gr.trans hg, (hg.block _ (heap_ltM h.k0) (by simp)).trans h.k0, (hg.block _ (heap_ltM h.k1) (by simp)).trans h.k1⟩
end Go.Proofs.YtgboboljgcfggaaGreatDoor
namespace Go.Proofs.YtgboboljgcfggaaGreatDoor
open Go.RowKit
structure RL (w0 : World) (tg : Nat → Tag) (M : AM) (w : World) (rb tb eb mb k : Nat) (g : Gh) (W : World) : Prop where
  mr : MR ⟨w0, rb, tb, eb, mb⟩ M.p W g (itM k M.er)
  gr : w.grownBy W none
  tk : ∀ k, k < w.heap.size → g.tag k = tg k
  nj : ∀ j, j < k → ended (itM (j + 1) M.er) = false
  t4 : g.tag (w.heap.size + 1) = .no
  k1 : W.heap[w.heap.size + 1]? = some zM
structure RSm (w0 : World) (tg : Nat → Tag) (M : AM) (w : World) (rb tb eb mb k : Nat) (g : Gh) (M4 : AM) (W : World) : Prop where
  mr : MR ⟨w0, rb, tb, eb, mb⟩ M.p W g (itM (k + 1) M.er)
  gr : w.grownBy W none
  tk : ∀ k, k < w.heap.size → g.tag k = tg k
  nj : ∀ j, j < k → ended (itM (j + 1) M.er) = false
  t4 : g.tag (w.heap.size + 1) = .no
  k1 : W.heap[w.heap.size + 1]? = some zM
  a1 : M4.p = M.p
  a2 : M4.er = itM (k + 1) M.er
  a3 : g.sv = .slice M4.sA M4.S.length M4.sc
  a4 : g.fv = .slice M4.fA M4.F.length M4.fc
theorem RSm.grow {w0 : World} {tg : Nat → Tag} {M : AM} {w : World} {rb tb eb mb k : Nat} {g : Gh} {M4 : AM} {W W' : World} (h : RSm w0 tg M w rb tb eb mb k g M4 W) (hg : W.grownBy W' none) : RSm w0 tg M w rb tb eb mb k g M4 W' :=
  ⟨h.mr.grow hg, h.gr.trans hg, h.tk, h.nj, h.t4, (hg.block _ (heap_ltM h.k1) (by simp)).trans h.k1, h.a1, h.a2, h.a3, h.a4⟩
theorem RL.step {w0 : World} {tg : Nat → Tag} {M : AM} {w : World} {rb tb eb mb k n : Nat} {g : Gh} {W : World} (h : RL w0 tg M w rb tb eb mb k g W) (hM : M.RdX w0 tg w) (he : ended M.er = false) (hI : MI n M.er) (hn : n + 2 * k ≤ 900000) (hst : M.steps + k ≤ 1000000) :
    Calls Tryz.prog 80 #[.pointer (some ⟨rb, 0, none⟩)] W fun e w' => e = .returned (.tuple #[]) ∧ ∃ g' M4, RSm w0 tg M w rb tb eb mb k g' M4 w' := by
  obtain ⟨h1, h2, h3, h4⟩ := itM_keep hI he k h.nj
  refine (step_any ⟨w0, rb, tb, eb, mb⟩ M.p W g (itM k M.er) (n + 2 * k) h.mr h1 hn (by rw [h3]; show M.steps + k ≤ _; omega) h4 hM.p).mono ?_
  rintro e w' ⟨rfl, g', k1, k2⟩
  obtain ⟨M4, a1, a2, a3, a4, a5⟩ := k1.am hM.p
  have ht := k2.tag (w.heap.size + 1) (heap_ltM h.k1)
  rw [h.t4] at ht
  have hsz := h.gr.size
  have hlow : ∀ i, i < w.heap.size → (g.tag i).still = true := fun i hi => by
    rw [h.tk i hi]
    rcases hM.t i with h1 | ⟨_, _, h1⟩ <;> rw [h1] <;> rfl
  refine ⟨rfl, g', M4, k1, ⟨k2.os.trans h.gr.os, k2.tape.trans h.gr.tape, k2.output.trans h.gr.output, Nat.le_trans hsz k2.size, fun i hi _ => (k2.block i (by omega) (hlow i hi)).trans (h.gr.block i hi (by simp))⟩, fun i hi => ?_, h.nj, ht, (k2.block _ (heap_ltM h.k1) (by rw [h.t4]; rfl)).trans h.k1, a1, a2, a4, a5⟩
  have h5 := k2.tag i (by omega)
  rw [h.tk i hi] at h5
  rcases hM.t i with h1 | ⟨_, _, h1⟩
  · rw [h1] at h5 ⊢; exact h5
  · rw [h1] at h5 ⊢; exact h5
theorem tg_same {w0 w W : World} {g : Gh} {tg : Nat → Tag} (hsz : w.heap.size ≤ W.heap.size) (hX : ∀ k, tg k = .no ∨ (w0.heap.size ≤ k ∧ k < w.heap.size ∧ tg k = .all)) (hk : ∀ k, k < w.heap.size → g.tag k = tg k) : ∀ k, k < w.heap.size → tgOf w0 W g.tag k = tg k := fun k h => by
  unfold tgOf
  rw [hk k h]
  rcases hX k with h1 | ⟨h1, _, h2⟩
  · rw [h1]; simp [Tag.isNo]
  · rw [h2, if_pos ⟨h1, by omega, rfl⟩]
theorem tg_out {w0 w : World} {tg : Nat → Tag} (hX : ∀ k, tg k = .no ∨ (w0.heap.size ≤ k ∧ k < w.heap.size ∧ tg k = .all)) {k : Nat} (hk : w.heap.size ≤ k) : tg k = .no := by
  rcases hX k with h1 | ⟨_, h1, _⟩
  · exact h1
  · omega
theorem fin_set {w0 : World} {tg : Nat → Tag} {M M4 : AM} {w W : World} {rb tb eb mb : Nat} {g : Gh} {m : MM} {er : Int} (mr : MR ⟨w0, rb, tb, eb, mb⟩ M.p W g m) (gr : w.grownBy W none) (tk : ∀ k, k < w.heap.size → g.tag k = tg k) (t4 : g.tag (w.heap.size + 1) = .no) (hM : M.RdX w0 tg w) (a1 : M4.p = M.p) (a2 : M4.er = m) (a3 : g.sv = .slice M4.sA M4.S.length M4.sc) (a4 : g.fv = .slice M4.fA M4.F.length M4.fc) :
    RunP w0 tg M w (m, er) (.returned (.tuple #[M4.v, iv er])) (setMM W (w.heap.size + 1) M4) := by
  obtain ⟨h1, h2, h3, h4, h5⟩ := set36_ok W (w.heap.size + 1) (.slice M4.p.bA M4.p.bs.length M4.p.bc) (.slice M4.p.sA M4.p.ss.length M4.p.sc) (.slice M4.sA M4.S.length M4.sc) (.slice M4.fA M4.F.length M4.fc) (iv M4.steps) (.int .u64 M4.seed) (.bool M4.done) (iv M4.err)
  have hws := hM.gr.size
  have mr' : MR ⟨w0, rb, tb, eb, mb⟩ M.p (setMM W (w.heap.size + 1) M4) g m := mr.boxes (x := w.heap.size + 1) (by show w0.heap.size ≤ _; omega) t4 h1 h2 h3 (by show _ ≤ (set36 _ _ _ _ _ _ _ _ _ _).heap.size; rw [h4]; exact Nat.le_refl _) fun k _ hk => h5 k hk
  obtain ⟨M', v1, v2, v3, v4⟩ := mr'.rv hM.p a1 a2 a3 a4
  have gg := grown_setMM (m := w.heap.size + 1) gr (by omega) M4
  exact ⟨gg, M', _, by rw [v1], v2, v3, v4, tg_same gg.size hM.t tk⟩
theorem RSm.fin {w0 : World} {tg : Nat → Tag} {M : AM} {w : World} {rb tb eb mb k : Nat} {g : Gh} {M4 : AM} {W : World} (h : RSm w0 tg M w rb tb eb mb k g M4 W) (hM : M.RdX w0 tg w) (er : Int) : RunP w0 tg M w (itM (k + 1) M.er, er) (.returned (.tuple #[M4.v, iv er])) (setMM W (w.heap.size + 1) M4) :=
  fin_set h.mr h.gr h.tk h.t4 hM h.a1 h.a2 h.a3 h.a4
theorem RL.fin {w0 : World} {tg : Nat → Tag} {M : AM} {w : World} {rb tb eb mb k : Nat} {g : Gh} {W : World} (h : RL w0 tg M w rb tb eb mb k g W) (hM : M.RdX w0 tg w) (er : Int) : ∃ M4 : AM, (W.cell? ⟨rb, 0, none⟩ = some (.slice M4.p.bA M4.p.bs.length M4.p.bc) ∧ W.cell? ⟨rb, 1, none⟩ = some (.slice M4.p.sA M4.p.ss.length M4.p.sc) ∧ W.cell? ⟨rb, 2, none⟩ = some (.slice M4.sA M4.S.length M4.sc) ∧ W.cell? ⟨rb, 3, none⟩ = some (.slice M4.fA M4.F.length M4.fc) ∧
    W.cell? ⟨rb, 4, none⟩ = some (iv M4.steps) ∧ W.cell? ⟨rb, 5, none⟩ = some (.int .u64 M4.seed) ∧ W.cell? ⟨rb, 6, none⟩ = some (.bool M4.done) ∧ W.cell? ⟨rb, 7, none⟩ = some (iv M4.err)) ∧ RunP w0 tg M w (itM k M.er, er) (.returned (.tuple #[M4.v, iv er])) (setMM W (w.heap.size + 1) M4) := by
  obtain ⟨M4, a1, a2, a3, a4, a5⟩ := h.mr.am hM.p
  exact ⟨M4, h.mr.cs a1 a2 a4 a5, fin_set h.mr h.gr h.tk h.t4 hM a1 a2 a4 a5⟩
set_option maxRecDepth 100000 in
set_option maxHeartbeats 8000000 in
theorem run_go (w0 : World) (tg : Nat → Tag) (M : AM) (w : World) (steps n : Nat) (hM : M.RdX w0 tg w) (he : ended M.er = false) (hI : MI n M.er) (hs : steps ≤ 100000) (hn : n + 2 * steps ≤ 900000) (hst : M.steps ≤ 100000) :
    Calls Tryz.prog 46 #[M.v, iv steps] w (RunP w0 tg M w (runE steps M.er)) := by
  have xe : M.v = .agg #[.slice M.p.bA M.p.bs.length M.p.bc, .slice M.p.sA M.p.ss.length M.p.sc, .slice M.sA M.S.length M.sc, .slice M.fA M.F.length M.fc, iv M.steps, .int .u64 M.seed, .bool M.done, iv M.err] := rfl
  have hF : M.F ≠ [] := fun e => by
    have h1 := hI.fd
    have h2 := (ended_no he).1
    have h3 : M.er.F = [] := by show M.F.map Fr.er = []; rw [e]; rfl
    rw [h2, h3] at h1
    simp at h1
  have hS1 : M.S.length ≤ 1000000 := by
    have h1 := hI.ok.1
    have h2 : M.er.S.length = M.S.length := ers_length M.S
    omega
  have hF1 : M.F.length ≤ 1000000 := by
    have h1 := hI.ok.2.1
    have h2 : M.er.F.length = M.F.length := List.length_map ..
    omega
  have NR := Lib.hid (fun W (hg : w.grownBy W none) => newRunner_any M w0 W tg (hM.grow hg) hF hS1 hF1)
  have HGR := Lib.hid hM.t
  have EN := Lib.hid (fun w => ended_any M w)
  have e0 := he
  rw [he] at EN
  have HB := Lib.hid (B2.of w M)
  have HM := Lib.hid hM
  have HI := Lib.hid hI
  have HE := Lib.hid he
  rw [xe]
  clear xe hM he e0 hI hF hS1 hF1
  have z1 : ¬ (steps : Int) < 0 := by omega
  have z2 : ¬ (100000 : Int) < (steps : Int) := by omega
  go_enter Tryz.func46, Tryz.ntmps46
  go_wp2_with (first | (go_at_call 78; refine (EN.out _).mono ?_; rintro e w1 ⟨rfl, g1⟩; have b1 := HB.out.grow g1; obtain ⟨⟨p0, p1, p2, p3, p4, p5, p6, p7⟩, -⟩ := cells36 b1.k0; have B1 := Lib.hid b1; clear b1 g1) | (go_at_call 79; refine (NR.out _ B1.out.gr).mono ?_; rintro e w2 ⟨rb, tb, eb, mb, g, rfl, mr, tno, g2⟩; have rl0 : RL w0 tg M w rb tb eb mb 0 g w2 := ⟨mr, B1.out.gr.trans g2, fun k hk => tno _ (Nat.lt_of_lt_of_le hk B1.out.gr.size), fun j hj => by omega, (tno _ (heap_ltM B1.out.k1)).trans (tg_out HGR.out (Nat.le_succ _)), (g2.block _ (heap_ltM B1.out.k1) (by simp)).trans B1.out.k1⟩; have RL0 := Lib.hid rl0; clear mr tno g2 rl0))
  clear p0 p1 p2 p3 p4 p5 p6 p7
  go_loopw [20] (fun i wr => ∃ (k : Nat) (g' : Gh), k ≤ steps ∧ i = .int .i64 k ∧ Hid (RL w0 tg M w rb tb eb mb k g' wr)) (fun i _ => steps - (intOf i).toNat)
  case atStart => exact ⟨0, g, Nat.zero_le _, rfl, RL0⟩
  case round =>
    obtain ⟨k, g', hk, rfl, HL⟩ := hrel
    clear RL0 B1 HB EN NR
    by_cases hlt : k < steps
    · have ST := Lib.hid (HL.out.step HM.out HE.out HI.out (by omega) (by omega))
      have HNJ := Lib.hid HL.out.nj
      clear HL
      go_wp2_with (first | (go_at_call 80; refine ST.out.mono ?_; rintro e w4 ⟨rfl, g4, M4, rs⟩; obtain ⟨p0, p1, p2, p3, p4, p5, p6, p7⟩ := rs.mr.cs rs.a1 rs.a2 rs.a3 rs.a4; have R4 := Lib.hid rs; clear rs) | (go_at_call 78; refine (ended_any M4 _).mono ?_; rintro e w5 ⟨rfl, g5⟩; clear p0 p1 p2 p3 p4 p5 p6 p7; have rs := R4.out.grow g5; obtain ⟨p0, p1, p2, p3, p4, p5, p6, p7⟩ := rs.mr.cs rs.a1 rs.a2 rs.a3 rs.a4; obtain ⟨⟨q0, q1, q2, q3, q4, q5, q6, q7⟩, qf⟩ := cells36 rs.k1; have R5 := Lib.hid rs; clear rs g5))
      · rename_i hE
        have hE' : ended (itM (k + 1) M.er) = true := by rw [← R5.out.a2]; exact hE
        have eR : runE steps M.er = (itM (k + 1) M.er, 0) := by
          have h1 := runE_go k (steps - k) M.er HNJ.out
          rw [show k + (steps - k) = steps by omega] at h1
          rw [h1]
          obtain ⟨d, hd⟩ : ∃ d, steps - k = d + 1 := ⟨steps - k - 1, by omega⟩
          rw [hd, runE]
          exact if_pos hE'
        have W9 := Lib.hid (R5.out.fin HM.out 0)
        rw [eR]
        refine bodyPost_ret (v := .tuple #[M4.v, iv 0]) ?_ rfl W9.out
        simp [results, Tryz.results46, go_sem, AM.v, q0, q1, q2, q3, q4, q5, q6, q7]
      · rename_i hE
        have hE' : ended (itM (k + 1) M.er) = false := by rw [← R5.out.a2]; simpa using hE
        refine ⟨⟨k + 1, g4, by omega, by simp, Lib.hid ⟨R5.out.mr, R5.out.gr, R5.out.tk, fun j hj => ?_, R5.out.t4, R5.out.k1⟩⟩, by simp [intOf]; omega⟩
        by_cases hjk : j = k
        · subst hjk; exact hE'
        · exact R5.out.nj j (by omega)
    · obtain rfl : k = steps := by omega
      have eR : runE k M.er = (itM k M.er, 27) := by
        have h1 := runE_go k 0 M.er HL.out.nj
        rw [Nat.add_zero] at h1
        rw [h1]
        rfl
      obtain ⟨M4, ⟨p0, p1, p2, p3, p4, p5, p6, p7⟩, hfin⟩ := HL.out.fin HM.out 27
      obtain ⟨⟨q0, q1, q2, q3, q4, q5, q6, q7⟩, qf⟩ := cells36 HL.out.k1
      rw [← eR] at hfin
      have W9 := Lib.hid hfin
      clear hfin HL eR
      go_wp2
      refine bodyPost_ret (v := .tuple #[M4.v, iv 27]) ?_ rfl W9.out
      simp [results, Tryz.results46, go_sem, AM.v, q0, q1, q2, q3, q4, q5, q6, q7]
end Go.Proofs.YtgboboljgcfggaaGreatDoor
namespace Go.Proofs.YtgboboljgcfggaaGreatDoor
mutual
def ren (f : Int → Int) : MV → MV
  | .mk k i b l => .mk k i (if k = 4 then f b else b) (renL f l)
def renL (f : Int → Int) : List MV → List MV
  | [] => []
  | x :: l => ren f x :: renL f l
end
theorem renL_map (f : Int → Int) : ∀ l : List MV, renL f l = l.map (ren f)
  | [] => rfl
  | x :: l => by rw [renL, renL_map f l, List.map_cons]
theorem ren_mk (f : Int → Int) (k i b : Int) (l : List MV) : ren f (.mk k i b l) = .mk k i (if k = 4 then f b else b) (l.map (ren f)) := by rw [ren, renL_map]
theorem ren_kind (f : Int → Int) (v : MV) : (ren f v).kind = v.kind := by cases v; rw [ren_mk]; rfl
theorem ren_int (f : Int → Int) (v : MV) : (ren f v).int = v.int := by cases v; rw [ren_mk]; rfl
theorem ren_list (f : Int → Int) (v : MV) : (ren f v).list = v.list.map (ren f) := by cases v; rw [ren_mk]; rfl
theorem ren_block (f : Int → Int) (v : MV) (h : v.kind = 4) : (ren f v).block = f v.block := by cases v; rw [ren_mk]; exact if_pos h
def renF (f : Int → Int) (x : MF) : MF := ⟨f x.block, x.at_, x.L.map (ren f)⟩
def renI (f : Int → Int) (x : Ins) : Ins := if x.op = 4 ∨ x.op = 5 then ⟨x.op, f x.a, x.b, x.name⟩ else x
def renS (f : Int → Int) (s : MS) : MS := ⟨s.S.map (ren f), s.F.map (renF f), s.seed, s.done⟩
def renM (f : Int → Int) (bs : List Blk) (m : MM) : MM := ⟨bs, m.S.map (ren f), m.F.map (renF f), m.steps, m.seed, m.done, m.err⟩
theorem unsn_map {α β : Type} (g : α → β) (l : List α) : unsn (l.map g) = (unsn l).map fun x => (x.1.map g, g x.2) := by
  rcases snoc_cases l with rfl | ⟨l', x, rfl⟩
  · rfl
  · simp
theorem popK_map (f : Int → Int) (k : Int) (S : List MV) : popK k (S.map (ren f)) = (popK k S).map fun x => (x.1.map (ren f), ren f x.2) := by
  rcases snoc_cases S with rfl | ⟨l', x, rfl⟩
  · rfl
  · rw [List.map_append, List.map_cons, List.map_nil, popK_snoc, popK_snoc, ren_kind]
    split <;> rfl
theorem ren_num (f : Int → Int) (k i : Int) (h : k ≠ 4) : ren f (.mk k i 0 []) = .mk k i 0 [] := by rw [ren_mk, if_neg h]; rfl
theorem renI_mk {f : Int → Int} {op a b : Int} {nm : T} (h4 : op ≠ 4) (h5 : op ≠ 5) : renI f ⟨op, a, b, nm⟩ = ⟨op, a, b, nm⟩ := if_neg (by simp [h4, h5])
theorem renI_blk {f : Int → Int} {op a b : Int} {nm : T} (h : op = 4 ∨ op = 5) : renI f ⟨op, a, b, nm⟩ = ⟨op, f a, b, nm⟩ := if_pos h
theorem exec_ren {bs bs' : List Blk} {f : Int → Int} (hC : ∀ a : Int, 0 ≤ a → a < bs'.length → bs[(f a).toNat]?.map Blk.cap = bs'[a.toNat]?.map Blk.cap) (x : Ins) (hv : x.op = 5 → 0 ≤ x.a ∧ x.a < bs'.length) (hk : fK x.op = true) (S : List MV) (G : List MF) (fr : MF) (seed : Int) :
    exec bs (renI f x) (S.map (ren f)) (G.map (renF f)) (renF f fr) seed = match exec bs' x S G fr seed with | .error e => .error e | .ok s => .ok (renS f s) := by
  obtain ⟨op, a, b, nm⟩ := x
  rcases op_split op with rfl | rfl | rfl | rfl | rfl | rfl | rfl | rfl | rfl | rfl | rfl | rfl | rfl | rfl | rfl | rfl | ⟨h1, h2, h3, h4, h5, h6, h7, h8, h9, h10, h11, h12, h13, h14, h15, h16⟩
  · rw [renI_mk (by decide) (by decide)]
    simp [exec, renS, renF, vInt, ren_num]
  · rw [renI_mk (by decide) (by decide)]
    simp [exec, renS, renF, vBit, ren_num]
  · rw [renI_mk (by decide) (by decide)]
    simp only [exec, Int.reduceEq, if_true, if_false, renF, List.getElem?_map]
    cases fr.L[a.toNat]? <;> simp [renS, renF]
  · rw [renI_blk (.inl rfl)]
    simp [exec, renS, renF]
  · obtain ⟨v1, v2⟩ := hv rfl
    simp only at v1 v2
    have h := hC a v1 v2
    rw [renI_blk (.inr rfl)]
    simp only [exec, Int.reduceEq, if_true, if_false, renF, List.length_map]
    rw [h]
    split
    · simp [renS, renF, vFun, ren_mk]
    · rfl
  · rw [renI_mk (by decide) (by decide)]
    simp only [exec, Int.reduceEq, if_true, if_false, unsn_map]
    cases hu : unsn S with
    | none => rfl
    | some q =>
      obtain ⟨S1, v⟩ := q
      simp only [Option.map_some, popK_map]
      cases hp : popK 4 S1 with
      | none => rfl
      | some q2 =>
        obtain ⟨S2, h⟩ := q2
        have hk4 := (popK_some hp).2
        simp [renS, renF, ren_list, ren_block f h hk4]
  · rw [renI_mk (by decide) (by decide)]
    simp only [exec, Int.reduceEq, if_true, if_false, List.map_eq_nil_iff]
    split
    · rfl
    · simp [renS]
  · rw [renI_mk (by decide) (by decide)]
    simp [exec, renS, renF]
  · rw [renI_mk (by decide) (by decide)]
    simp only [exec, Int.reduceEq, if_true, if_false, popK_map]
    cases hp : popK 2 S with
    | none => rfl
    | some q =>
      obtain ⟨S1, v⟩ := q
      simp only [Option.map_some, ren_int]
      split <;> simp [renS, renF]
  · rw [renI_mk (by decide) (by decide)]
    simp only [exec, Int.reduceEq, if_true, if_false, popK_map]
    cases hp : popK 1 S with
    | none => rfl
    | some q =>
      obtain ⟨S1, v⟩ := q
      simp only [Option.map_some, popK_map]
      cases hp2 : popK 1 S1 with
      | none => rfl
      | some q2 =>
        obtain ⟨S2, u⟩ := q2
        simp only [Option.map_some, ren_int]
        split
        · simp [renS, renF, vBool, ren_num]
        · split
          · simp [renS, renF, vBool, ren_num]
          · split
            · rfl
            · simp [renS, renF, vInt, ren_num]
  · rw [renI_mk (by decide) (by decide)]
    simp [exec, renS, renF, vList, ren_num]
  · rw [renI_mk (by decide) (by decide)]
    simp only [exec, Int.reduceEq, if_true, if_false, popK_map]
    cases hp : popK 3 S with
    | none => rfl
    | some q =>
      obtain ⟨S1, v⟩ := q
      simp only [Option.map_some, unsn_map]
      cases hu : unsn S1 with
      | none => rfl
      | some q2 =>
        obtain ⟨S2, u⟩ := q2
        simp [renS, renF, vList, ren_mk, ren_list]
  · rw [renI_mk (by decide) (by decide)]
    simp only [exec, Int.reduceEq, if_true, if_false, popK_map]
    cases hp : popK 3 S with
    | none => rfl
    | some q =>
      obtain ⟨S1, v⟩ := q
      simp only [Option.map_some, ren_list]
      cases v.list with
      | nil => simp [renS, renF]
      | cons h t => simp [renS, renF, vList, ren_mk]
  · rw [renI_mk (by decide) (by decide)]
    simp only [exec, Int.reduceEq, if_true, if_false, unsn_map]
    cases hu : unsn S with
    | none => rfl
    | some q =>
      obtain ⟨S1, v⟩ := q
      simp [renS, renF]
  · rw [renI_mk (by decide) (by decide)]
    simp only [exec, Int.reduceEq, if_true, if_false, renF, List.length_map]
    split
    · rfl
    · simp [renS, renF]
  · rw [renI_mk (by decide) (by decide)]
    simp [exec, renS, renF, vBool, ren_num]
  · simp [fK, fA, *] at hk
structure Sub (bs bs' : List Blk) (f : Int → Int) : Prop where
  b : ∀ a : Int, 0 ≤ a → a < bs'.length → ∃ B B', bs'[a.toNat]? = some B' ∧ bs[(f a).toNat]? = some B ∧ B.cap = B'.cap ∧ B.ins = B'.ins.map (renI f)
theorem Sub.cap {bs bs' : List Blk} {f : Int → Int} (h : Sub bs bs' f) : ∀ a : Int, 0 ≤ a → a < bs'.length → bs[(f a).toNat]?.map Blk.cap = bs'[a.toNat]?.map Blk.cap := fun a h0 h1 => by
  obtain ⟨B, B', e1, e2, e3, -⟩ := h.b a h0 h1
  rw [e1, e2]
  simp [e3]
theorem step_ren {bs : List Blk} {f : Int → Int} {m : MM} {n : Nat} (h : Sub bs m.bs f) (hok : MOk m.bs n m.S m.F) (hv : vBs m.bs) : stepM (renM f bs m) = renM f bs (stepM m) := by
  unfold stepM
  show (match unsn (m.F.map (renF f)) with | none => _ | some (G, fr) => _) = _
  rw [unsn_map]
  cases hu : unsn m.F with
  | none => rfl
  | some q =>
    obtain ⟨G, fr⟩ := q
    have hF := unsn_some hu
    obtain ⟨f1, ⟨b0, f2, -, -⟩, -, -⟩ := hok.2.2.2 fr (by rw [hF]; simp)
    obtain ⟨B, B', e1, e2, e3, e4⟩ := h.b fr.block f1 (by
      have := (List.getElem?_eq_some_iff.1 f2).1
      omega)
    simp only [Option.map_some]
    show (match bs[(f fr.block).toNat]? with | none => _ | some b => _) = _
    rw [e1, e2]
    simp only
    show (match B.ins[fr.at_.toNat]? with | none => _ | some x => _) = _
    rw [e4, List.getElem?_map]
    cases hx : B'.ins[fr.at_.toNat]? with
    | none => rfl
    | some x =>
      obtain ⟨v1, v2⟩ := hv B' (List.mem_of_getElem? e1) x (List.mem_of_getElem? hx)
      have v5 : x.op = 5 → 0 ≤ x.a ∧ x.a < m.bs.length := fun e => by
        rw [e] at v2
        simp [inR, closB] at v2
        refine ⟨v2.1, ?_⟩
        rcases Nat.lt_or_ge x.a.toNat m.bs.length with h' | h'
        · omega
        · rw [List.getElem?_eq_none h'] at v2; simp at v2
      have he := exec_ren h.cap x v5 v1 m.S G { fr with at_ := fr.at_ + 1 } m.seed
      simp only [Option.map_some]
      show (match exec bs (renI f x) (m.S.map (ren f)) (G.map (renF f)) (renF f { fr with at_ := fr.at_ + 1 }) m.seed with | .error e => _ | .ok s => _) = _
      rw [he]
      cases exec m.bs x m.S G { fr with at_ := fr.at_ + 1 } m.seed <;> rfl
theorem ended_ren (f : Int → Int) (bs : List Blk) (m : MM) : ended (renM f bs m) = ended m := rfl
mutual
def plV : MV → Bool
  | .mk k _ _ l => plVL l && k != 4
def plVL : List MV → Bool
  | [] => true
  | x :: l => plV x && plVL l
end
mutual
theorem plV_ren (f : Int → Int) : ∀ v, plV (ren f v) = plV v
  | .mk k i b l => by rw [ren, plV, plV, plVL_ren f l]
theorem plVL_ren (f : Int → Int) : ∀ l, plVL (renL f l) = plVL l
  | [] => rfl
  | x :: l => by rw [renL, plVL, plVL, plV_ren f x, plVL_ren f l]
end
mutual
theorem ren_plV (f : Int → Int) : ∀ v, plV v = true → ren f v = v
  | .mk k i b l, h => by
    rw [plV, Bool.and_eq_true] at h
    rw [ren, ren_plVL f l h.1, if_neg (by simpa using h.2)]
theorem ren_plVL (f : Int → Int) : ∀ l, plVL l = true → renL f l = l
  | [], _ => rfl
  | x :: l, h => by
    rw [plVL, Bool.and_eq_true] at h
    rw [renL, ren_plV f x h.1, ren_plVL f l h.2]
end
end Go.Proofs.YtgboboljgcfggaaGreatDoor
namespace Go.Proofs.YtgboboljgcfggaaGreatDoor
open Go.RowKit
abbrev zV : Value := .agg #[.int .i64 0, .int .i64 0, .slice none 0 0, .int .i64 0, .string ⟨#[]⟩, .string ⟨#[]⟩, .slice none 0 0, .slice none 0 0]
set_option maxRecDepth 100000 in
set_option maxHeartbeats 4000000 in
theorem result_no (M : AM) (w : World) (h1 : M.done = false) (h2 : M.err = 0) : Calls Tryz.prog 18 #[M.v] w fun e w' => e = .returned (.tuple #[zV, iv 18]) ∧ w.grownBy w' none := by
  have xe : M.v = .agg #[.slice M.p.bA M.p.bs.length M.p.bc, .slice M.p.sA M.p.ss.length M.p.sc, .slice M.sA M.S.length M.sc, .slice M.fA M.F.length M.fc, iv M.steps, .int .u64 M.seed, .bool M.done, iv M.err] := rfl
  rw [xe, h1, h2]
  clear xe h1 h2
  go_enter Tryz.func18, Tryz.ntmps18
  go_wp2
  refine bodyPost_ret (v := .tuple #[zV, iv 18]) ?_ rfl ⟨rfl, (World.grownBy_alloc w _ none).trans (World.grownBy_alloc _ _ none)⟩
  simp [results, Tryz.results18, go_sem]
set_option maxRecDepth 100000 in
set_option maxHeartbeats 4000000 in
theorem result_err (M : AM) (w : World) (h1 : M.done = false) (h2 : (M.err != 0) = true) : Calls Tryz.prog 18 #[M.v] w fun e w' => e = .returned (.tuple #[zV, iv M.err]) ∧ w.grownBy w' none := by
  have xe : M.v = .agg #[.slice M.p.bA M.p.bs.length M.p.bc, .slice M.p.sA M.p.ss.length M.p.sc, .slice M.sA M.S.length M.sc, .slice M.fA M.F.length M.fc, iv M.steps, .int .u64 M.seed, .bool M.done, iv M.err] := rfl
  rw [xe, h1]
  generalize M.err = E at *
  have h3 : ¬ E = 0 := by simpa using h2
  have h4 : (E == 0) = false := by simpa using h2
  clear xe h1
  go_enter Tryz.func18, Tryz.ntmps18
  go_wp2
  go_region_law (fail)
  all_goals go_wp2
  all_goals
    refine bodyPost_ret (v := .tuple #[zV, iv E]) ?_ ?_ ⟨rfl, ((World.grownBy_alloc w _ none).trans (World.grownBy_alloc _ _ none)).trans (grown_drewN _ 1 none)⟩
    · simp [results, Tryz.results18, go_sem, Act.put]
    · rfl
set_option maxRecDepth 100000 in
set_option maxHeartbeats 4000000 in
theorem result_done (M : AM) (w : World) (S : List AV) (x : AV) (hM : M.Rd w) (h1 : M.done = true) (hS : M.S = S ++ [x]) (hn : M.S.length ≤ 1000000) : Calls Tryz.prog 18 #[M.v] w fun e w' => e = .returned (.tuple #[x.v, iv 0]) ∧ w.grownBy w' none := by
  have xe : M.v = .agg #[.slice M.p.bA M.p.bs.length M.p.bc, .slice M.p.sA M.p.ss.length M.p.sc, .slice M.sA M.S.length M.sc, .slice M.fA M.F.length M.fc, iv M.steps, .int .u64 M.seed, .bool M.done, iv M.err] := rfl
  have hx : M.S[S.length]? = some x := by rw [hS]; simp
  obtain ⟨q, q1, hA, hq, hqb, p0, p1, p2, p3, p4, p5, p6, p7⟩ := hM.s.at8 hx
  have hl : M.S.length = S.length + 1 := by rw [hS]; simp
  rw [xe, h1, hA, hl]
  clear xe h1 hM hx hA
  rw [hl] at hn
  clear hl hS
  generalize S.length = N at *
  have e1 : IntKind.i64.wrap ((N : Int) + 1 - 1) = (N : Int) := by rw [IntWalk.i64_in _ (by omega)]; omega
  have e2 : ((N : Int)).toNat = N := by omega
  have e3 : 0 ≤ (N : Int) := by omega
  have e4 : N < N + 1 := by omega
  have e5 : (N : Int) < (N : Int) + 1 := by omega
  have e6 : (0 : Int) < (N : Int) + 1 := by omega
  have c0 := fun o o' => cell_al (cell_al p0 hqb o) (by simp; omega) o'
  have c1 := fun o o' => cell_al (cell_al p1 hqb o) (by simp; omega) o'
  have c2 := fun o o' => cell_al (cell_al p2 hqb o) (by simp; omega) o'
  have c3 := fun o o' => cell_al (cell_al p3 hqb o) (by simp; omega) o'
  have c4 := fun o o' => cell_al (cell_al p4 hqb o) (by simp; omega) o'
  have c5 := fun o o' => cell_al (cell_al p5 hqb o) (by simp; omega) o'
  have c6 := fun o o' => cell_al (cell_al p6 hqb o) (by simp; omega) o'
  have c7 := fun o o' => cell_al (cell_al p7 hqb o) (by simp; omega) o'
  clear p0 p1 p2 p3 p4 p5 p6 p7
  go_enter Tryz.func18, Tryz.ntmps18
  go_wp2
  refine bodyPost_ret (v := .tuple #[x.v, iv 0]) ?_ rfl ⟨rfl, (World.grownBy_alloc w _ none).trans (World.grownBy_alloc _ _ none)⟩
  simp [results, Tryz.results18, go_sem, AV.v]
end Go.Proofs.YtgboboljgcfggaaGreatDoor
namespace Go.Proofs.YtgboboljgcfggaaGreatDoor
open Go.RowKit
mutual
def szV : MV → Int → Int
  | .mk _ _ _ l, lim => szL l lim 1
def szL : List MV → Int → Int → Int
  | [], _, n => n
  | x :: l, lim, n => if n ≤ lim then szL l lim (n + szV x (lim - n)) else n
end
theorem szL_out (l : List MV) {lim n : Int} (h : lim < n) : szL l lim n = n := by
  cases l with
  | nil => rfl
  | cons x l => rw [szL, if_neg (by omega)]
mutual
theorem szV_bd : ∀ (v : MV) (lim : Int), 0 ≤ lim → 1 ≤ szV v lim ∧ szV v lim ≤ lim + 1
  | .mk _ _ _ l, lim, h => by
    rw [szV]
    exact szL_bd l lim 1 (by omega) (by omega)
theorem szL_bd : ∀ (l : List MV) (lim n : Int), 1 ≤ n → n ≤ lim + 1 → 1 ≤ szL l lim n ∧ szL l lim n ≤ lim + 1
  | [], lim, n, h1, h2 => by rw [szL]; exact ⟨h1, h2⟩
  | x :: l, lim, n, h1, h2 => by
    rw [szL]
    split
    · obtain ⟨q1, q2⟩ := szV_bd x (lim - n) (by omega)
      exact szL_bd l lim _ (by omega) (by omega)
    · exact ⟨h1, h2⟩
end
mutual
theorem szV_ren (f : Int → Int) : ∀ (v : MV) (lim : Int), szV (ren f v) lim = szV v lim
  | .mk k i b l, lim => by rw [ren, szV, szV, szL_ren f l]
theorem szL_ren (f : Int → Int) : ∀ (l : List MV) (lim n : Int), szL (renL f l) lim n = szL l lim n
  | [], lim, n => rfl
  | x :: l, lim, n => by rw [renL, szL, szL, szV_ren f x, szL_ren f l]
end
theorem noT_up {w V : World} {A : Option Addr} {c : Nat} {L : List AV} (h : LRd w.heap.size noT w A c L) (g : w.grownBy V none) : LRd V.heap.size noT V A c L :=
  LRd.old (B := w.heap.size) (tag := noT) (h.mono g.size (fun _ _ => Tag.le_refl _) fun p hp _ => World.cell?_of_block (w := w) (g.block _ hp (by simp)))
def SzP (v : Int) (w : World) (e : Ending) (w' : World) : Prop := e = .returned (.int .i64 v) ∧ w.grownBy w' none
def BoP (v : Bool) (w : World) (e : Ending) (w' : World) : Prop := e = .returned (.bool v) ∧ w.grownBy w' none
set_option maxRecDepth 100000 in
set_option maxHeartbeats 4000000 in
theorem size_walk (A : Option Addr) (c : Nat) (L : List AV) (kd nt bl lim : Int) (w : World) (hL : LRd w.heap.size noT w A c L) (h1 : 0 ≤ lim) (h2 : lim ≤ 1000)
    (IH : ∀ x ∈ L, ∀ V, w.grownBy V none → ∀ l : Int, 0 ≤ l → l ≤ 1000 → Calls Tryz.prog 19 #[x.v, iv l] V (SzP (szV x.er l) V)) :
    Calls Tryz.prog 19 #[.agg #[.int .i64 kd, .int .i64 nt, .slice A L.length c, .int .i64 bl, .string ⟨#[]⟩, .string ⟨#[]⟩, .slice none 0 0, .slice none 0 0], .int .i64 lim] w (SzP (szL (ers L) lim 1) w) := by
  have HI := Lib.hid IH
  have HA := Lib.hid (fun V (g : w.grownBy V none) => (show LRd w.heap.size noT V A c L from hL.mono g.size (fun _ _ => Tag.le_refl _) fun p hp _ => World.cell?_of_block (w := w) (g.block _ hp (by simp))))
  have lm : L.length ≤ 9223372036854775807 := Nat.le_trans hL.hc hL.hm
  obtain ⟨nl, hnl⟩ : ∃ n, L.length = n := ⟨_, rfl⟩
  rw [hnl] at lm ⊢
  have HN := Lib.hid hnl
  clear hL IH hnl
  have GX := Lib.hid (World.grownBy_alloc w (.cells #[.int .i64 kd, .int .i64 nt, .slice A nl c, .int .i64 bl, .string ⟨#[]⟩, .string ⟨#[]⟩, .slice none 0 0, .slice none 0 0] 56) none)
  have X0 := Lib.hid (al_newM w (.cells #[.int .i64 kd, .int .i64 nt, .slice A nl c, .int .i64 bl, .string ⟨#[]⟩, .string ⟨#[]⟩, .slice none 0 0, .slice none 0 0] 56))
  obtain ⟨kx, hkx⟩ : ∃ m, w.heap.size = m := ⟨_, rfl⟩
  go_enter Tryz.func19, Tryz.ntmps19
  go_upto_region 1 with fail
  rw [hkx] at X0
  clear hkx
  generalize w.alloc (.cells #[.int .i64 kd, .int .i64 nt, .slice A nl c, .int .i64 bl, .string ⟨#[]⟩, .string ⟨#[]⟩, .slice none 0 0, .slice none 0 0] 56) = W0 at *
  have BX := Lib.hid (fun V (g : W0.grownBy V none) => (show V.cell? ⟨kx, 2, none⟩ = some (.slice A nl c) ∧ V.cell? ⟨kx, 7, none⟩ = some (.slice none 0 0) from by
    have h := (g.block kx (heap_ltM X0.out) (by simp)).trans X0.out
    exact ⟨by rw [Lib.cell_of_heap h]; rfl, by rw [Lib.cell_of_heap h]; rfl⟩))
  go_wp2
  go_loopw [5, 6] (fun u5 u6 V => ∃ (k : Nat) (n : Int), k ≤ nl ∧ u5 = .int .i64 n ∧ u6 = .int .i64 k ∧ 1 ≤ n ∧ n ≤ lim + 1 ∧ Hid (W0.grownBy V none ∧ szL (ers (L.drop k)) lim n = szL (ers L) lim 1)) (fun _ u _ => nl - (intOf u).toNat)
  case atStart => exact ⟨0, 1, Nat.zero_le _, rfl, rfl, Int.le_refl _, by omega, Lib.hid ⟨World.grownBy.refl _ _, rfl⟩⟩
  case round =>
    obtain ⟨k, n, hk, rfl, rfl, n1, n2, HG⟩ := hrel
    obtain ⟨b2, b7⟩ := BX.out _ HG.out.1
    have OUT : ¬ (k < nl ∧ n ≤ lim) → n = szL (ers L) lim 1 := fun h => by
      rw [← HG.out.2]
      by_cases hq : lim < n
      · rw [szL_out _ hq]
      · obtain rfl : k = nl := by omega
        rw [List.drop_of_length_le (by rw [HN.out]; exact Nat.le_refl _)]
        rfl
    by_cases hlt : k < nl
    · by_cases hn : n ≤ lim
      · obtain ⟨x, hx⟩ : ∃ x, L[k]? = some x := ⟨_, List.getElem?_eq_getElem (by rw [HN.out]; exact hlt)⟩
        obtain ⟨q, q1, hA, hq, hqb, p0, p1, p2, p3, p4, p5, p6, p7⟩ := (HA.out wr (GX.out.trans HG.out.1)).at8 hx
        have CL := Lib.hid (show Calls Tryz.prog 19 #[x.v, iv (lim - n)] wr (SzP (szV x.er (lim - n)) wr) from HI.out x (List.mem_of_getElem? hx) wr (GX.out.trans HG.out.1) (lim - n) (by omega) (by omega))
        obtain ⟨z1, z2⟩ := szV_bd x.er (lim - n) (by omega)
        have NX := Lib.hid (show szL (ers (L.drop (k + 1))) lim (n + szV x.er (lim - n)) = szL (ers L) lim 1 from by
          rw [← HG.out.2]
          obtain ⟨hk2, e⟩ := List.getElem?_eq_some_iff.1 hx
          rw [List.drop_eq_getElem_cons hk2, e, ers_cons, szL, if_pos hn])
        obtain ⟨sv, hsv⟩ : ∃ s, szV x.er (lim - n) = s := ⟨_, rfl⟩
        rw [hsv] at CL NX z1 z2
        unfold AV.v at CL
        subst hA
        clear hx hsv OUT
        go_wp2_with (go_at_call 19; refine CL.out.mono ?_; rintro e w6 ⟨rfl, g6⟩; have G6 := Lib.hid (HG.out.1.trans g6); clear g6)
        exact ⟨⟨k + 1, n + sv, by omega, by simp, by simp, by omega, by omega, Lib.hid ⟨G6.out, NX.out⟩⟩, by simp [intOf]; omega⟩
      ·
        have FN := Lib.hid (OUT (by omega))
        clear OUT
        go_upto_region 6 with fail
        clear b2 b7
        go_wp2
        go_loopw [5, 7] (fun u5 u V => u5 = .int .i64 n ∧ u = .int .i64 0 ∧ Hid (W0.grownBy V none)) (fun _ _ _ => 0)
        case atStart => exact ⟨rfl, rfl, Lib.hid HG.out.1⟩
        case round =>
          obtain ⟨rfl, rfl, HV⟩ := hrel
          obtain ⟨-, b7⟩ := BX.out _ HV.out
          go_wp2
          go_ret
          exact ⟨by rw [← FN.out]; rfl, GX.out.trans HV.out⟩
    ·
      have FN := Lib.hid (OUT (by omega))
      clear OUT
      go_upto_region 6 with fail
      clear b2 b7
      go_wp2
      go_loopw [5, 7] (fun u5 u V => u5 = .int .i64 n ∧ u = .int .i64 0 ∧ Hid (W0.grownBy V none)) (fun _ _ _ => 0)
      case atStart => exact ⟨rfl, rfl, Lib.hid HG.out.1⟩
      case round =>
        obtain ⟨rfl, rfl, HV⟩ := hrel
        obtain ⟨-, b7⟩ := BX.out _ HV.out
        go_wp2
        go_ret
        exact ⟨by rw [← FN.out]; rfl, GX.out.trans HV.out⟩
theorem size_any {w : World} {A : Option Addr} {c : Nat} {L : List AV} (h : LRd w.heap.size noT w A c L) : ∀ (kd nt bl lim : Int) (V : World), w.grownBy V none → 0 ≤ lim → lim ≤ 1000 →
    Calls Tryz.prog 19 #[.agg #[.int .i64 kd, .int .i64 nt, .slice A L.length c, .int .i64 bl, .string ⟨#[]⟩, .string ⟨#[]⟩, .slice none 0 0, .slice none 0 0], .int .i64 lim] V (SzP (szL (ers L) lim 1) V) := by
  induction h with
  | @mk A c L hc hm h0 hb he hx hr ih =>
    intro kd nt bl lim V g l1 l2
    have hL : LRd w.heap.size noT w A c L := .mk hc hm h0 hb he hx hr
    refine size_walk A c L kd nt bl lim V (noT_up hL g) l1 l2 fun x hx' V' g' l k1 k2 => ?_
    have h := ih x hx' x.kind x.int x.block l V' (g.trans g') k1 k2
    have e : szV x.er l = szL (ers x.list) l 1 := by cases x; rw [AV.er, szV]; rfl
    rw [e]
    exact h
set_option maxRecDepth 100000 in
set_option maxHeartbeats 4000000 in
theorem plain_walk (A : Option Addr) (c : Nat) (L : List AV) (kd nt bl : Int) (w : World) (hL : LRd w.heap.size noT w A c L)
    (IH : ∀ x ∈ L, ∀ V, w.grownBy V none → Calls Tryz.prog 20 #[x.v] V (BoP (plV x.er) V)) :
    Calls Tryz.prog 20 #[.agg #[.int .i64 kd, .int .i64 nt, .slice A L.length c, .int .i64 bl, .string ⟨#[]⟩, .string ⟨#[]⟩, .slice none 0 0, .slice none 0 0]] w (BoP (plVL (ers L) && kd != 4) w) := by
  have HI := Lib.hid IH
  have HA := Lib.hid (fun V (g : w.grownBy V none) => (show LRd w.heap.size noT V A c L from hL.mono g.size (fun _ _ => Tag.le_refl _) fun p hp _ => World.cell?_of_block (w := w) (g.block _ hp (by simp))))
  have lm : L.length ≤ 9223372036854775807 := Nat.le_trans hL.hc hL.hm
  obtain ⟨nl, hnl⟩ : ∃ n, L.length = n := ⟨_, rfl⟩
  rw [hnl] at lm ⊢
  have HN := Lib.hid hnl
  clear hL IH hnl
  have GX := Lib.hid (World.grownBy_alloc w (.cells #[.int .i64 kd, .int .i64 nt, .slice A nl c, .int .i64 bl, .string ⟨#[]⟩, .string ⟨#[]⟩, .slice none 0 0, .slice none 0 0] 56) none)
  have X0 := Lib.hid (al_newM w (.cells #[.int .i64 kd, .int .i64 nt, .slice A nl c, .int .i64 bl, .string ⟨#[]⟩, .string ⟨#[]⟩, .slice none 0 0, .slice none 0 0] 56))
  obtain ⟨kx, hkx⟩ : ∃ m, w.heap.size = m := ⟨_, rfl⟩
  obtain ⟨all, hall⟩ : ∃ b, plVL (ers L) = b := ⟨_, rfl⟩
  have HAL := Lib.hid hall
  rw [hall]
  clear hall
  go_enter Tryz.func20, Tryz.ntmps20
  go_upto_region 1 with fail
  rw [hkx] at X0
  clear hkx
  generalize w.alloc (.cells #[.int .i64 kd, .int .i64 nt, .slice A nl c, .int .i64 bl, .string ⟨#[]⟩, .string ⟨#[]⟩, .slice none 0 0, .slice none 0 0] 56) = W0 at *
  have BX := Lib.hid (fun V (g : W0.grownBy V none) => (show V.cell? ⟨kx, 2, none⟩ = some (.slice A nl c) ∧ V.cell? ⟨kx, 0, none⟩ = some (.int .i64 kd) from by
    have h := (g.block kx (heap_ltM X0.out) (by simp)).trans X0.out
    exact ⟨by rw [Lib.cell_of_heap h]; rfl, by rw [Lib.cell_of_heap h]; rfl⟩))
  obtain ⟨b2, b0⟩ := BX.out _ (World.grownBy.refl _ _)
  go_upto_region 2 with fail
  clear b2 b0
  go_loopw [8] (fun u V => ∃ k : Nat, k ≤ nl ∧ u = .int .i64 k ∧ Hid (W0.grownBy V none ∧ plVL (ers (L.drop k)) = plVL (ers L))) (fun u _ => nl - (intOf u).toNat)
  case atStart => exact ⟨0, Nat.zero_le _, rfl, Lib.hid ⟨World.grownBy.refl _ _, rfl⟩⟩
  case round =>
    obtain ⟨k, hk, rfl, HG⟩ := hrel
    by_cases hlt : k < nl
    · obtain ⟨x, hx⟩ : ∃ x, L[k]? = some x := ⟨_, List.getElem?_eq_getElem (by rw [HN.out]; exact hlt)⟩
      obtain ⟨q, q1, hA, hq, hqb, p0, p1, p2, p3, p4, p5, p6, p7⟩ := (HA.out wr (GX.out.trans HG.out.1)).at8 hx
      have ST := Lib.hid (show plVL (ers (L.drop k)) = (plV x.er && plVL (ers (L.drop (k + 1)))) from by
        obtain ⟨hk2, e⟩ := List.getElem?_eq_some_iff.1 hx
        rw [List.drop_eq_getElem_cons hk2, e, ers_cons, plVL])
      have GA := Lib.hid (World.grownBy_alloc wr (.cells #[.int .i64 x.kind, .int .i64 x.int, .slice x.A x.list.length x.c, .int .i64 x.block, .string ⟨#[]⟩, .string ⟨#[]⟩, .slice none 0 0, .slice none 0 0] 56) none)
      have XA := Lib.hid (al_newM wr (.cells #[.int .i64 x.kind, .int .i64 x.int, .slice x.A x.list.length x.c, .int .i64 x.block, .string ⟨#[]⟩, .string ⟨#[]⟩, .slice none 0 0, .slice none 0 0] 56))
      have CL := Lib.hid (fun V (g : wr.grownBy V none) => show Calls Tryz.prog 20 #[x.v] V (BoP (plV x.er) V) from HI.out x (List.mem_of_getElem? hx) V (GX.out.trans (HG.out.1.trans g)))
      unfold AV.v at CL
      subst hA
      clear hx
      go_upto_region 4 with fail
      obtain ⟨ky, hky⟩ : ∃ k, wr.heap.size = k := ⟨_, rfl⟩
      rw [hky] at XA ⊢
      clear hky p0 p1 p2 p3 p4 p5 p6 p7 hqb
      have CL := Lib.hid (CL.out _ GA.out)
      generalize wr.alloc (.cells #[.int .i64 x.kind, .int .i64 x.int, .slice x.A x.list.length x.c, .int .i64 x.block, .string ⟨#[]⟩, .string ⟨#[]⟩, .slice none 0 0, .slice none 0 0] 56) = W1 at *
      obtain ⟨x0, x1, x2, x3, x4, x5, x6, x7⟩ : W1.cell? ⟨ky, 0, none⟩ = some (.int .i64 x.kind) ∧ W1.cell? ⟨ky, 1, none⟩ = some (.int .i64 x.int) ∧ W1.cell? ⟨ky, 2, none⟩ = some (.slice x.A x.list.length x.c) ∧ W1.cell? ⟨ky, 3, none⟩ = some (.int .i64 x.block) ∧ W1.cell? ⟨ky, 4, none⟩ = some (.string ⟨#[]⟩) ∧ W1.cell? ⟨ky, 5, none⟩ = some (.string ⟨#[]⟩) ∧ W1.cell? ⟨ky, 6, none⟩ = some (.slice none 0 0) ∧ W1.cell? ⟨ky, 7, none⟩ = some (.slice none 0 0) := by
        have h := XA.out
        refine ⟨?_, ?_, ?_, ?_, ?_, ?_, ?_, ?_⟩ <;> (rw [Lib.cell_of_heap h]; rfl)
      cases hp : plV x.er with
      | true =>
        rw [hp] at CL ST
        have NX := Lib.hid (show plVL (ers (L.drop (k + 1))) = plVL (ers L) from by rw [← HG.out.2, ST.out, Bool.true_and])
        clear hp
        go_wp2_with (go_at_call 20; refine CL.out.mono ?_; rintro e w6 ⟨rfl, g6⟩; have G6 := Lib.hid (HG.out.1.trans (GA.out.trans g6)); clear g6)
        exact ⟨⟨k + 1, by omega, by simp, Lib.hid ⟨G6.out, NX.out⟩⟩, by simp [intOf]; omega⟩
      | false =>
        rw [hp] at CL ST
        have FN := Lib.hid (show all = false from by rw [← HAL.out, ← HG.out.2, ST.out, Bool.false_and])
        clear hp
        go_wp2_with (go_at_call 20; refine CL.out.mono ?_; rintro e w6 ⟨rfl, g6⟩; have G6 := Lib.hid (HG.out.1.trans (GA.out.trans g6)); clear g6)
        go_ret
        exact ⟨by rw [FN.out]; rfl, GX.out.trans G6.out⟩
    · obtain rfl : k = nl := by omega
      have FN := Lib.hid (show all = true from by
        rw [← HAL.out, ← HG.out.2, List.drop_of_length_le (by rw [HN.out]; exact Nat.le_refl _)]
        rfl)
      obtain ⟨-, b0⟩ := BX.out _ HG.out.1
      go_wp2
      go_ret
      exact ⟨by rw [FN.out, Bool.true_and]; rfl, GX.out.trans HG.out.1⟩
theorem plain_any30 {w : World} {A : Option Addr} {c : Nat} {L : List AV} (h : LRd w.heap.size noT w A c L) : ∀ (kd nt bl : Int) (V : World), w.grownBy V none →
    Calls Tryz.prog 20 #[.agg #[.int .i64 kd, .int .i64 nt, .slice A L.length c, .int .i64 bl, .string ⟨#[]⟩, .string ⟨#[]⟩, .slice none 0 0, .slice none 0 0]] V (BoP (plVL (ers L) && kd != 4) V) := by
  induction h with
  | @mk A c L hc hm h0 hb he hx hr ih =>
    intro kd nt bl V g
    have hL : LRd w.heap.size noT w A c L := .mk hc hm h0 hb he hx hr
    refine plain_walk A c L kd nt bl V (noT_up hL g) fun x hx' V' g' => ?_
    have h := ih x hx' x.kind x.int x.block V' (g.trans g')
    have e : plV x.er = (plVL (ers x.list) && x.kind != 4) := by cases x; rw [AV.er, plV]; rfl
    rw [e]
    exact h
end Go.Proofs.YtgboboljgcfggaaGreatDoor
namespace Go.Proofs.YtgboboljgcfggaaGreatDoor
open Go.RowKit
def AgP (left : Int) (w : World) (e : Ending) (w' : World) : Prop := w.grownBy w' none ∧ ∃ r : Int, e = .returned (iv r) ∧ 0 ≤ r ∧ r ≤ left
theorem er_parts {x y : AV} (h : x.er = y.er) : y.kind = x.kind ∧ y.int = x.int ∧ y.block = x.block ∧ y.list.length = x.list.length ∧ ers x.list = ers y.list := by
  cases x
  cases y
  simp only [AV.er, MV.mk.injEq] at h
  obtain ⟨h1, h2, h3, h4⟩ := h
  have h5 := congrArg List.length h4
  rw [ers_length, ers_length] at h5
  exact ⟨h1.symm, h2.symm, h3.symm, h5.symm, h4⟩
set_option maxRecDepth 100000 in
set_option maxHeartbeats 4000000 in
theorem agree_walk (x y : AV) (left : Int) (w : World) (he : x.er = y.er) (h1 : 1 ≤ left) (h2 : left ≤ 2000)
    (IH : ∀ V, w.grownBy V none → Calls Tryz.prog 81 #[.slice x.A x.list.length x.c, .slice y.A x.list.length y.c, iv (left - 1)] V (AgP (left - 1) V)) :
    Calls Tryz.prog 47 #[x.v, y.v, iv left] w (AgP left w) := by
  obtain ⟨e1, e2, e3, e4, -⟩ := er_parts he
  have I := Lib.hid (fun o o' => IH ((w.alloc o).alloc o') ((World.grownBy_alloc w o none).trans (World.grownBy_alloc _ o' none)))
  have G := Lib.hid (fun o o' => (World.grownBy_alloc w o none).trans (World.grownBy_alloc (w.alloc o) o' none))
  unfold AV.v
  rw [e1, e2, e3, e4]
  clear e1 e2 e3 e4 he IH
  generalize x.kind = k at *
  generalize x.int = n at *
  generalize x.block = b at *
  generalize x.list.length = l at *
  have w1 : IntKind.i64.wrap (left - 1) = left - 1 := IntWalk.i64_in _ (by omega)
  go_enter Tryz.func47, Tryz.ntmps47
  go_wp2_with (first | (go_at_call 81; refine (I.out _ _).mono ?_; rintro e w1 ⟨g1, r, rfl, r1, r2⟩; have G1 := Lib.hid ((G.out _ _).trans g1); have R1 := Lib.hid r1; have R2 := Lib.hid r2; clear g1 r1 r2))
  go_ret
  have h3 := R2.out
  exact ⟨G1.out, r, rfl, R1.out, by omega⟩
set_option maxRecDepth 100000 in
set_option maxHeartbeats 4000000 in
theorem agrees_walk (A A' : Option Addr) (c c' : Nat) (L L' : List AV) (left : Int) (w : World) (hL : LRd w.heap.size noT w A c L) (hL' : LRd w.heap.size noT w A' c' L') (he : ers L = ers L') (h1 : 0 ≤ left) (h2 : left ≤ 2000)
    (IH : ∀ x ∈ L, ∀ y ∈ L', x.er = y.er → ∀ V, w.grownBy V none → ∀ l, 1 ≤ l → l ≤ 2000 → Calls Tryz.prog 47 #[x.v, y.v, iv l] V (AgP l V)) :
    Calls Tryz.prog 81 #[.slice A L.length c, .slice A' L.length c', iv left] w (AgP left w) := by
  have hlen : L'.length = L.length := by
    have := congrArg List.length he
    rw [ers_length, ers_length] at this
    exact this.symm
  have HI := Lib.hid IH
  have mono : ∀ {A c L} V, w.grownBy V none → LRd w.heap.size noT w A c L → LRd w.heap.size noT V A c L := fun V g h => h.mono g.size (fun _ _ => Tag.le_refl _) fun p hp _ => World.cell?_of_block (w := w) (g.block _ hp (by simp))
  have HA := Lib.hid (fun V g => mono V g hL)
  have HA' := Lib.hid (fun V g => mono V g hL')
  have HE := Lib.hid (fun (k : Nat) (x y : AV) (h1 : L[k]? = some x) (h2 : L'[k]? = some y) => (by
    have e1 : (ers L)[k]? = some x.er := by rw [ers_map, List.getElem?_map, h1]; rfl
    have e2 : (ers L')[k]? = some y.er := by rw [ers_map, List.getElem?_map, h2]; rfl
    rw [he, e2] at e1
    exact (Option.some.inj e1).symm : x.er = y.er))
  have lm : L.length ≤ 9223372036854775807 := Nat.le_trans hL.hc hL.hm
  clear hL hL' he IH mono
  go_enter Tryz.func81, Tryz.ntmps81
  go_wp2
  go_loopw [2, 7] (fun l i V => ∃ (k : Nat) (n : Int), k ≤ L.length ∧ i = .int .i64 k ∧ l = .int .i64 n ∧ 0 ≤ n ∧ n ≤ left ∧ Hid (w.grownBy V none)) (fun _ i _ => L.length - (intOf i).toNat)
  case atStart => exact ⟨0, left, Nat.zero_le _, rfl, rfl, h1, Int.le_refl _, Lib.hid (World.grownBy.refl w _)⟩
  case round =>
    obtain ⟨k, n, hk, rfl, rfl, n1, n2, HG⟩ := hrel
    by_cases hlt : k < L.length
    · by_cases hn : 0 < n
      · obtain ⟨x, hx⟩ : ∃ x, L[k]? = some x := ⟨L[k], by simp [hlt]⟩
        obtain ⟨y, hy⟩ : ∃ y, L'[k]? = some y := ⟨L'[k]'(by omega), by simp [hlen, hlt]⟩
        obtain ⟨q, q1, hA, hq, hqb, p0, p1, p2, p3, p4, p5, p6, p7⟩ := (HA.out wr HG.out).at8 hx
        obtain ⟨u, u1, hA', hu, hub, s0, s1, s2, s3, s4, s5, s6, s7⟩ := (HA'.out wr HG.out).at8 hy
        have CL := Lib.hid (fun V (g : w.grownBy V none) => HI.out x (List.mem_of_getElem? hx) y (List.mem_of_getElem? hy) (HE.out k x y hx hy) V g n (by omega) (by omega))
        have e4 : y.list.length = y.list.length := rfl
        subst hA
        subst hA'
        clear hx hy e4 HI HE HA HA'
        go_wp2
        go_still_tail 9, (by kernel_rfl)
        change wpList _ _ _ _ _ (World.drew _)
        have G1 := Lib.hid (show w.grownBy wr.drew none from HG.out.trans (grown_drewN _ 1 none))
        generalize World.drew _ = V1 at *
        go_wp2_with (first | (go_at_call 47; refine (CL.out _ G1.out).mono ?_; rintro e w6 ⟨g6, r, rfl, r1, r2⟩; have G6 := Lib.hid (G1.out.trans g6); have R1 := Lib.hid r1; have R2 := Lib.hid r2; clear g6 r1 r2))
        have h4 := R2.out
        exact ⟨⟨k + 1, r, by omega, by simp, rfl, R1.out, by omega, G6⟩, by simp [intOf]; omega⟩
      · obtain rfl : n = 0 := by omega
        go_wp2
        go_ret
        exact ⟨HG.out, 0, rfl, Int.le_refl _, n2⟩
    · obtain rfl : k = L.length := by omega
      go_wp2
      go_ret
      exact ⟨HG.out, n, rfl, n1, n2⟩
theorem LRd.up {w V : World} {A : Option Addr} {c : Nat} {L : List AV} (h : LRd w.heap.size noT w A c L) (g : w.grownBy V none) : LRd V.heap.size noT V A c L :=
  LRd.old (B := w.heap.size) (tag := noT) (h.mono g.size (fun _ _ => Tag.le_refl _) fun p hp _ => World.cell?_of_block (w := w) (g.block _ hp (by simp)))
theorem agrees_any {w : World} {A : Option Addr} {c : Nat} {L : List AV} (h : LRd w.heap.size noT w A c L) : ∀ (A' : Option Addr) (c' : Nat) (L' : List AV), LRd w.heap.size noT w A' c' L' → ers L = ers L' → ∀ V, w.grownBy V none → ∀ left : Int, 0 ≤ left → left ≤ 2000 →
    Calls Tryz.prog 81 #[.slice A L.length c, .slice A' L.length c', iv left] V (AgP left V) := by
  induction h with
  | @mk A c L hc hm h0 hb he hx hr ih =>
    intro A' c' L' hL' hers V g left l1 l2
    have hL : LRd w.heap.size noT w A c L := .mk hc hm h0 hb he hx hr
    refine agrees_walk A A' c c' L L' left V (hL.up g) (hL'.up g) hers l1 l2 fun x hx' y hy' hxy V' g' l k1 k2 => ?_
    obtain ⟨-, -, -, e4, e5⟩ := er_parts hxy
    exact agree_walk x y l V' hxy k1 k2 fun V2 g2 => ih x hx' y.A y.c y.list (hL'.hr y hy') e5 V2 ((g.trans g').trans g2) (l - 1) (by omega) (by omega)
theorem same_any (x y : AV) (w : World) (hx : LRd w.heap.size noT w x.A x.c x.list) (hy : LRd w.heap.size noT w y.A y.c y.list) (he : x.er = y.er) : Calls Tryz.prog 21 #[x.v, y.v] w fun e w' => e = .returned (.bool true) ∧ w.grownBy w' none := by
  obtain ⟨-, -, -, -, e5⟩ := er_parts he
  have AG := Lib.hid (fun o o' => agree_walk x y 2000 ((w.alloc o).alloc o') he (by omega) (by omega) fun V g => agrees_any hx y.A y.c y.list hy e5 V (((World.grownBy_alloc w o none).trans (World.grownBy_alloc _ o' none)).trans g) _ (by omega) (by omega))
  have G := Lib.hid (fun o o' => (World.grownBy_alloc w o none).trans (World.grownBy_alloc (w.alloc o) o' none))
  clear hx hy he e5
  unfold AV.v at *
  go_enter Tryz.func21, Tryz.ntmps21
  go_wp2_with fail
  refine (AG.out _ _).mono ?_
  rintro e w1 ⟨g1, r, rfl, r1, r2⟩
  have G1 := Lib.hid ((G.out _ _).trans g1)
  have e1 : decide (0 ≤ r) = true := by simpa using r1
  clear g1 r2
  go_wp2
  go_ret
  exact ⟨rfl, G1.out⟩
end Go.Proofs.YtgboboljgcfggaaGreatDoor

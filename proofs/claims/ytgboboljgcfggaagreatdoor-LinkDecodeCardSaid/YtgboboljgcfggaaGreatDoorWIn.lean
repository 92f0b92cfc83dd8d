/- Walk: writeInt: a number's digits onto a builder. -/
import Derived.Test.YtgboboljgcfggaaGreatDoorM7
import Derived.Test.YtgboboljgcfggaaGreatDoorDig
import Derived.Test.YtgboboljgcfggaaGreatDoorBld
namespace Go.Proofs.YtgboboljgcfggaaGreatDoor
open Go.RowKit Go.Shelf
attribute [local go_sem] Oper.semAt_some

theorem bat_moved {B b : Nat} {p : Value} {bs : List Value} {W W' : World} {r : Nat} {o : Obj} (h : Lib.BuilderAtF 93 5 B b p bs W) (hg : W.grownBy W' (some r)) (ho : W.heap[r]? = some o) (hk : ∀ c fz, o ≠ .cells c 5 fz) (hb : r ≠ b) : Lib.BuilderAtF 93 5 B b p bs W' := by
  have hlt := h.lt
  obtain ⟨hB, v, hv, hown, hne⟩ := h
  refine ⟨hB, v, (hg.block b hlt (fun e => hb (by simpa using e.symm))).trans hv, hown.kept hg (.inr ?_), hne⟩
  rcases hown.2 with ⟨rfl, _⟩ | ⟨g, cap, cur, fz, rfl, _, hgg, _⟩
  · simp [Value.ownBlock]
  · intro e
    simp only [Value.ownBlock, Option.some.injEq] at e
    subst e
    rw [hgg] at ho
    exact hk _ _ (Option.some.inj ho).symm
theorem bld_moved {B b : Nat} {bs : List Value} {W W' : World} {r : Nat} {o : Obj} (h : Lib.IsBuilderF 93 5 B b bs W) (hg : W.grownBy W' (some r)) (ho : W.heap[r]? = some o) (hk : ∀ c fz, o ≠ .cells c 5 fz) (hb : r ≠ b) : Lib.IsBuilderF 93 5 B b bs W' :=
  h.elim (fun x => .inl (bat_moved x hg ho hk hb)) (fun x => .inr (bat_moved x hg ho hk hb))
theorem bld_lt {B b : Nat} {bs : List Value} {W : World} (h : Lib.IsBuilderF 93 5 B b bs W) : b < W.heap.size := h.elim (fun x => x.lt) (fun x => x.lt)
theorem grown_setCell (W : World) (g : Nat) (u : Value) : W.grownBy (W.setCell ⟨g, 0, none⟩ u) (some g) :=
  ⟨rfl, rfl, rfl, by simp [World.setCell], fun k _ hk => Below.heap_setCell _ _ _ _ (fun e => hk (by simp [e]))⟩
theorem kept_low {b : Option Nat} {w W W' : World} (h : Lib.OthersKept 5 b w W) (hl : ∀ i, i < w.heap.size → W'.heap[i]? = W.heap[i]?) : Lib.OthersKept 5 b w W' :=
  fun i o hi hb ho => (hl i (Array.getElem?_eq_some_iff.1 hi).1).trans (h i o hi hb ho)

set_option maxRecDepth 100000 in
theorem digits_any (v : Int) (w : World) :
    Calls Tryz.prog 113 #[.int .i64 v] w fun e w' => e = .returned (.func (.func 151) #[] #[.pointer (some ⟨w.heap.size, 0, none⟩)]) ∧ w' = w.alloc (.cells #[.int .i64 v] 3) := by
  go_enter Tryz.func113, Tryz.ntmps113
  go_wp2
  go_ret
  exact ⟨rfl, rfl⟩

/-- Between two rounds of writeInt's loop. -/
structure WJ (w : World) (B b : Nat) (bs : List Value) (L : Nat) (r : Loop) (pre : List UInt8) (W : World) : Prop where
  bu : Lib.IsBuilderF 93 5 B b (bs ++ Lib.byteCells pre) W
  k : W.heap[w.heap.size]? = some (.cells #[.pointer (some ⟨b, 0, none⟩)] 90 (0, 0))
  g : ∃ c, W.heap[w.heap.size + 1]? = some (.cells #[c] 3 (0, 0))
  l : W.heap[L + 1]? = some (.loop r)
  d : W.heap[L]? = some (.deferred (some []))
  be : Below B w W
  ok : Lib.OthersKept 5 (some b) w W

theorem WJ.set {w : World} {B b : Nat} {bs : List Value} {L : Nat} {r : Loop} {pre : List UInt8} {W : World} (h : WJ w B b bs L r pre W) (hb : b < w.heap.size) (hB : B ≤ w.heap.size) (hL : w.heap.size + 2 ≤ L) (u : Value) :
    WJ w B b bs L r pre (W.setCell ⟨w.heap.size + 1, 0, none⟩ u) := by
  obtain ⟨c, hc⟩ := h.g
  have ht : ∀ i, i ≠ w.heap.size + 1 → (W.setCell ⟨w.heap.size + 1, 0, none⟩ u).heap[i]? = W.heap[i]? := fun i hi => Below.heap_setCell _ _ _ _ (fun e => hi (by simpa using e))
  refine ⟨bld_moved h.bu (grown_setCell _ _ _) hc (fun c' fz e => by cases e) (by omega), (ht _ (by omega)).trans h.k, ⟨u, ?_⟩, (ht _ (by omega)).trans h.l, (ht _ (by omega)).trans h.d, h.be.setCell (p := ⟨w.heap.size + 1, 0, none⟩) (by show B ≤ w.heap.size + 1; omega) _, kept_low h.ok fun i hi => ht i (by omega)⟩
  simp [World.setCell, Array.getElem?_modify, hc]

theorem WJ.put {w : World} {B b : Nat} {bs : List Value} {L : Nat} {r : Loop} {pre : List UInt8} {W : World} (h : WJ w B b bs L r pre W) (hb : b < w.heap.size) (hB : B ≤ w.heap.size) (hL : w.heap.size + 2 ≤ L) (r' : Loop) :
    WJ w B b bs L r' pre (W.putObj (L + 1) (.loop r')) := by
  have ht : ∀ i, i ≠ L + 1 → (W.putObj (L + 1) (.loop r')).heap[i]? = W.heap[i]? := fun i hi => World.putObj_heap_other (by omega)
  obtain ⟨c, hc⟩ := h.g
  refine ⟨bld_moved h.bu (grownBy_putObj' W (L + 1) _) h.l (fun c' fz e => by cases e) (by omega), (ht _ (by omega)).trans h.k, ⟨c, (ht _ (by omega)).trans hc⟩, World.putObj_heap_same (Array.getElem?_eq_some_iff.1 h.l).1, (ht _ (by omega)).trans h.d, ?_, kept_low h.ok fun i hi => ht i (by omega)⟩
  exact h.be.trans (belowK_b (w := w) hB W (L + 1) _ _ (by omega) h.l rfl rfl)

set_option maxRecDepth 100000 in
set_option maxHeartbeats 4000000 in
theorem writeInt_any (B b : Nat) (bs : List Value) (v : Nat) (w : World) (h : Lib.IsBuilderF 93 5 B b bs w) (hv : v ≤ 1099511627776) (hlen : bs.length + 10 ≤ 140737488355328) (hB : B ≤ w.heap.size) :
    Calls Tryz.prog 92 #[.pointer (some ⟨b, 0, none⟩), .int .i64 v] w fun e w' => e = .returned (.tuple #[]) ∧ Lib.IsBuilderF 93 5 B b (bs ++ Lib.byteCells (dig v)) w' ∧ Below B w w' ∧ Lib.OthersKept 5 (some b) w w' := by
  have hb := bld_lt h
  refine (callsIn_wide (n := 5)).1 ?_
  refine callsIn_of_wp_marks Tryz.func92 rfl trivial ?_ rfl
  simp only [Tryz.ntmps92, List.size_toArray, List.length_cons, List.length_nil, Nat.reduceAdd, Nat.reduceSub, Array.replicate_succ, Array.replicate_zero, List.push_toArray, List.append_toArray, List.nil_append, List.cons_append]
  gi_wp2_with (refine ⟨trivial, ?_⟩; gi_at_call 113; refine (callsIn_wide.2 (digits_any _ _)).mono ?_; rintro e w' ⟨rfl, rfl⟩)
  obtain ⟨W0, hW0⟩ : ∃ W0, (w.alloc (.cells #[.pointer (some ⟨b, 0, none⟩)] 90)).alloc (.cells #[.int .i64 (v : Int)] 3) = W0 := ⟨_, rfl⟩
  have s0 : W0.heap.size = w.heap.size + 2 := by rw [← hW0]; simp
  have b0 : Lib.IsBuilderF 93 5 B b bs W0 := by rw [← hW0]; exact (h.alloc _).alloc _
  have k0 : W0.heap[w.heap.size]? = some (.cells #[.pointer (some ⟨b, 0, none⟩)] 90 (0, 0)) := by
    rw [← hW0]; exact (Below.heap_alloc _ _ _ (by simp)).trans (World.alloc_heap_new w _)
  have g0 : W0.heap[w.heap.size + 1]? = some (.cells #[.int .i64 (v : Int)] 3 (0, 0)) := by
    rw [← hW0]; have := World.alloc_heap_new (w.alloc (.cells #[.pointer (some ⟨b, 0, none⟩)] 90)) (.cells #[.int .i64 (v : Int)] 3); rwa [World.size_alloc] at this
  have e0 : Below B w W0 := by rw [← hW0]; exact ((Below.refl B w).alloc hB _).alloc (by simp; omega) _
  have o0 : Lib.OthersKept 5 (some b) w W0 := by rw [← hW0]; exact ((Lib.OthersKept.refl _ _ w).alloc _).alloc _
  rw [hW0]
  have hD : w.heap.size + 2 ≤ W0.heap.size := by omega
  clear hW0 s0
  refine range_start (gf := 151) (lb := #[.pointer (some ⟨w.heap.size + 1, 0, none⟩)]) rfl (enters_of Tryz.func151 (by kernel_rfl) rfl) ?_
  intro fn
  generalize hr : ({ state := .ready, pending := none, fn := fn, tmps := _, params := _, assign := _, body := _, defers := W0.heap.size } : Loop) = r
  obtain ⟨W1, hW1⟩ : ∃ W1, (W0.alloc (.deferred (some []))).alloc (.loop r) = W1 := ⟨_, rfl⟩
  have j0 : WJ w B b bs W0.heap.size r [] W1 := by
    rw [← hW1]
    refine ⟨by simpa [Lib.byteCells] using (b0.alloc _).alloc _, ?_, ⟨.int .i64 v, ?_⟩, ?_, ?_, ?_, ?_⟩
    · exact ((Below.heap_alloc _ _ _ (by simp; omega)).trans (Below.heap_alloc _ _ _ (by omega))).trans k0
    · exact ((Below.heap_alloc _ _ _ (by simp; omega)).trans (Below.heap_alloc _ _ _ (by omega))).trans g0
    · have := World.alloc_heap_new (W0.alloc (.deferred (some []))) (.loop r); rwa [World.size_alloc] at this
    · exact (Below.heap_alloc _ _ _ (by simp)).trans (World.alloc_heap_new W0 _)
    · exact (e0.alloc (by omega) _).alloc (by simp; omega) _
    · exact (o0.alloc _).alloc _
  have g1 : W1.heap[w.heap.size + 1]? = some (.cells #[.int .i64 (v : Int)] 3 (0, 0)) := by
    rw [← hW1]; exact ((Below.heap_alloc _ _ _ (by simp; omega)).trans (Below.heap_alloc _ _ _ (by omega))).trans g0
  rw [hW1]
  clear hW1
  refine (dig_in 4 (by omega) (W0.heap.size + 1) (w.heap.size + 1) (WJ w B b bs W0.heap.size r) (fun s A u hA => hA.set hb hB (by omega) u) v ?_ (by omega) W1 g1 j0).mono ?_
  · intro pre x W hj hpre
    have hsix := dig_six hv
    have hy := run_yield (P := Tryz.prog) (args := #[.int .u8 (x.toNat : Int)]) hj.l (by rw [← hr]; rfl)
    rw [← hr] at hy
    refine ⟨_, _, _, _, hy, roundIn_of_wpIn trivial ?_⟩
    clear hy
    simp only [List.zip_toArray, List.zip_cons_cons, List.zip_nil_right, List.foldl_toArray, List.foldl_cons, List.foldl_nil, List.setIfInBounds_toArray, List.set_cons_succ, List.set_cons_zero]
    gi_wp2
    refine ⟨_, run_beginRound hj.l (by rw [← hr]), ?_⟩
    have hj2 := hj.put hb hB (by omega) { r with state := .busy }
    have hg2 : (W.putObj (W0.heap.size + 1) (.loop { r with state := .busy })).heap[w.heap.size + 1]? = W.heap[w.heap.size + 1]? := World.putObj_heap_other (by omega)
    generalize W.putObj (W0.heap.size + 1) (.loop { r with state := .busy }) = W2 at *
    have ck := Lib.cell_of_heap hj2.k 0
    simp only [List.getElem?_toArray, List.getElem?_cons_zero] at ck
    have hsz : B ≤ W2.heap.size := Nat.le_trans hB hj2.be.size
    gi_wp2_with (refine ⟨trivial, ?_⟩; gi_at_call 114; refine (CallsIn.inRound _ (callsIn_wide.2 (writeByte_any B b _ _ _ hj2.bu (by simp [Lib.byteCells]; omega) hsz))).mono ?_; rintro e W3 ⟨rfl, h3, b3, k3⟩)
    obtain ⟨c2, hc2⟩ := hj2.g
    have hg3 := k3 _ _ hc2 (by simp; omega) (fun c fz e => by cases e)
    have hj3 : WJ w B b bs W0.heap.size { r with state := .busy } (pre ++ [x]) W3 :=
      ⟨by rw [Lib.byteCells_append, ← List.append_assoc]; exact h3, k3 _ _ hj2.k (by simp; omega) (fun c fz e => by cases e), ⟨c2, hg3⟩, k3 _ _ hj2.l (by simp; omega) (fun c fz e => by cases e), k3 _ _ hj2.d (by simp; omega) (fun c fz e => by cases e), hj2.be.trans b3, hj2.ok.trans k3⟩
    have hend := run_endRound (P := Tryz.prog) none hj3.l
    have hrr : ({ { r with state := .busy } with state := if (none : Option Code).isNone = true then .ready else .done, pending := none } : Loop) = r := by rw [← hr]; rfl
    rw [hrr] at hend
    have hj4 := hj3.put hb hB (by omega) r
    refine ⟨_, _, hend, rfl, hj4, ?_⟩
    rw [World.putObj_heap_other (by omega), hg3, ← hc2, hg2]
  · rintro e W2 ⟨⟨v', rfl⟩, hj⟩
    have hend := run_endLoop (P := Tryz.prog) hj.l (by rw [← hr]; simp)
    have hp : r.pending = none := by rw [← hr]
    rw [hp] at hend
    clear hp
    have hj4 := hj.put hb hB (by omega) { state := .exhausted, pending := none, fn := r.fn, tmps := r.tmps, params := r.params, assign := r.assign, body := r.body, defers := r.defers }
    refine ⟨none, _, hend, ?_⟩
    generalize W2.putObj (W0.heap.size + 1) (.loop { state := .exhausted, pending := none, fn := r.fn, tmps := r.tmps, params := r.params, assign := r.assign, body := r.body, defers := r.defers }) = W3 at *
    gi_wp2
    refine ⟨by simp, .inl ⟨_, _, rfl, run_takeDeferred hj4.d, ?_⟩⟩
    have hd := hj4.d
    refine ⟨_, results_none rfl _ _ _, rfl, ?_, ?_, ?_⟩
    · exact bld_moved hj4.bu (grownBy_putObj' W3 W0.heap.size _) hd (fun c fz e => by cases e) (by omega)
    · exact hj4.be.trans (belowK_b (w := w) hB W3 W0.heap.size _ _ (by omega) hd rfl rfl)
    · exact kept_low hj4.ok fun i hi => World.putObj_heap_other (by omega)
end Go.Proofs.YtgboboljgcfggaaGreatDoor

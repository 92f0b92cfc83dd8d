/- Walk of the reference's add. -/
import Derived.Test.YtgenloemohcpcaaIns
import Derived.Deep.RegionHeld3
import Derived.StillTailTactics
import Derived.Deep.RegionWith
namespace Go.Proofs.Ytgenloemohcpcaa
open Go.RowKit

/-- A block that holds a sum. -/
def BK (w : World) (g : Nat) (x y : Value) : Prop := w.heap[g]? = some (.cells #[x, y] 24 (0, 0))
theorem BK.lt {w : World} {g : Nat} {x y : Value} (h : BK w g x y) : g < w.heap.size := by
  rcases Nat.lt_or_ge g w.heap.size with hlt | hge
  · exact hlt
  · unfold BK at h; rw [Array.getElem?_eq_none hge] at h; cases h
theorem BK.c0 {w : World} {g : Nat} {x y : Value} (h : BK w g x y) : w.cell? ⟨g, 0, none⟩ = some x := by unfold BK at h; simp [World.cell?, h]
theorem BK.c1 {w : World} {g : Nat} {x y : Value} (h : BK w g x y) : w.cell? ⟨g, 1, none⟩ = some y := by unfold BK at h; simp [World.cell?, h]
theorem BK.f0 {w : World} {g : Nat} {x y : Value} (h : BK w g x y) (i : Nat) : w.frozen? ⟨g, i, none⟩ = false := by unfold BK at h; simp [World.frozen?, h]
theorem BK.new (w : World) (x y : Value) : BK (w.alloc (.cells #[x, y] 24)) w.heap.size x y := heap_alloc_new w _
theorem BK.alloc {w : World} {g : Nat} {x y : Value} (h : BK w g x y) (o : Obj) : BK (w.alloc o) g x y := (Below.heap_alloc w o g h.lt).trans h
theorem BK.below {w w' : World} {g : Nat} {x y : Value} {B : Nat} (h : BK w g x y) (hb : Below B w w') (hg : g < B) : BK w' g x y := (hb.block g hg).trans h
theorem BK.drewN {w : World} {g : Nat} {x y : Value} (h : BK w g x y) (n : Nat) : BK (w.drewN n) g x y := h
theorem BK.set0 {w : World} {g : Nat} {x y : Value} (h : BK w g x y) (u : Value) : BK (w.setCell ⟨g, 0, none⟩ u) g u y := by
  unfold BK at h ⊢; simp [World.setCell, Array.getElem?_modify, h]
theorem BK.set1 {w : World} {g : Nat} {x y : Value} (h : BK w g x y) (u : Value) : BK (w.setCell ⟨g, 1, none⟩ u) g x u := by
  unfold BK at h ⊢; simp [World.setCell, Array.getElem?_modify, h]
theorem BK.far {w : World} {g : Nat} {x y : Value} (h : BK w g x y) {p : Addr} (hp : g ≠ p.block) (u : Value) : BK (w.setCell p u) g x y := (Below.heap_setCell w p u g hp).trans h

/-- The state of 'add' in memory: the sum lies in block g, texts of it and of the two lists below. -/
structure AddSt (w0 w : World) (g : Nat) (s : List T × List T) : Prop where
  st : ∃ A c B d, BK w g (.slice A s.1.length c) (.slice B s.2.length d) ∧ RD w A s.1 ∧ RD w B s.2 ∧ s.1.length ≤ c ∧ s.2.length ≤ d
  res : BK w (g + 1) (.slice none 0 0) (.slice none 0 0)
  bel : Below w0.heap.size w0 w
  g0 : w0.heap.size ≤ g

theorem undrew {w w' : World} (h : Below w.drew.heap.size w.drew w') : Below w.heap.size w w' := ⟨h.os, h.tape, h.output, h.size, h.block⟩

theorem RD.setSlice {w : World} {A : Option Addr} {L : List T} (h : RD w A L) {p : Addr} {x : Option Addr} {n c : Nat} (hp : w.cell? p = some (.slice x n c)) (u : Value) : RD (w.setCell p u) A L := by
  rcases h with rfl | ⟨a, e, hb, hc⟩
  · exact .inl rfl
  · refine .inr ⟨a, e, by simpa [World.setCell] using hb, fun j y hj => ?_⟩
    rw [World.cell?_setCell_other]
    · exact hc j y hj
    · intro e'
      have := hc j y hj
      rw [← e', hp] at this
      cases this

theorem st_set1 {w0 wr w' : World} {g : Nat} {s : List T × List T} {N : List T} {A1 A2 y : Option Addr} {c1 c2 n m : Nat} (hg : w0.heap.size ≤ g) (h0 : BK wr g (.slice A1 s.1.length c1) (.slice y n m)) (h1 : BK wr (g + 1) (.slice none 0 0) (.slice none 0 0))
    (hr1 : RD wr A1 s.1) (hc1 : s.1.length ≤ c1) (hb : Below wr.heap.size wr w') (hbe : Below w0.heap.size w0 wr) (hr3 : RD w' A2 N) (hc2 : N.length ≤ c2) :
    AddSt w0 (w'.setCell ⟨g, 1, none⟩ (.slice A2 N.length c2)) g (s.1, N) := by
  have k0 := h0.below hb h0.lt
  have k1 := h1.below hb h1.lt
  exact ⟨⟨A1, c1, A2, c2, k0.set1 _, (hr1.below hb).setSlice k0.c1 _, hr3.setSlice k0.c1 _, hc1, hc2⟩, k1.far (by simp) _,
    (hbe.trans (hb.mono hbe.size)).setCell (p := ⟨g, 1, none⟩) hg _, hg⟩

theorem st_set0 {w0 wr w' : World} {g : Nat} {s : List T × List T} {N : List T} {B1 A2 y : Option Addr} {d1 c2 n m : Nat} (hg : w0.heap.size ≤ g) (h0 : BK wr g (.slice y n m) (.slice B1 s.2.length d1)) (h1 : BK wr (g + 1) (.slice none 0 0) (.slice none 0 0))
    (hr1 : RD wr B1 s.2) (hc1 : s.2.length ≤ d1) (hb : Below wr.heap.size wr w') (hbe : Below w0.heap.size w0 wr) (hr3 : RD w' A2 N) (hc2 : N.length ≤ c2) :
    AddSt w0 (w'.setCell ⟨g, 0, none⟩ (.slice A2 N.length c2)) g (N, s.2) := by
  have k0 := h0.below hb h0.lt
  have k1 := h1.below hb h1.lt
  exact ⟨⟨A2, c2, B1, d1, k0.set0 _, hr3.setSlice k0.c0 _, (hr1.below hb).setSlice k0.c0 _, hc2, hc1⟩, k1.far (by simp) _,
    (hbe.trans (hb.mono hbe.size)).setCell (p := ⟨g, 0, none⟩) hg _, hg⟩

def WoV (N : List T) (v : Bool) (w : World) (e : Ending) (w' : World) : Prop :=
  ∃ A c, e = .returned (.tuple #[.slice A N.length c, .bool v]) ∧ N.length ≤ c ∧ RD w' A N ∧ Below w.heap.size w w'
theorem without_yes (A : Option Addr) (c : Nat) (L : List T) (x : T) (w : World) (hx : x ∈ L) (hA : RD w A L) (hc : L.length ≤ c) (hl : L.length ≤ 10000) :
    Calls Try.prog 46 #[.slice A L.length c, tv x] w (WoV (L.erase x) true w) := (without_any A c L x w hA hc hl).mono fun e w' ⟨A', c', he, h⟩ => ⟨A', c', by rw [he, hasB_yes hx], h⟩
theorem without_no (A : Option Addr) (c : Nat) (L : List T) (x : T) (w : World) (hx : x ∉ L) (hA : RD w A L) (hc : L.length ≤ c) (hl : L.length ≤ 10000) :
    Calls Try.prog 46 #[.slice A L.length c, tv x] w (WoV (L.erase x) false w) := (without_any A c L x w hA hc hl).mono fun e w' ⟨A', c', he, h⟩ => ⟨A', c', by rw [he, hasB_no hx], h⟩

theorem foldA_step {X : List T} {k : Nat} (hk : k < X.length) (s : List T × List T) : (X.take (k + 1)).foldl addA s = addA ((X.take k).foldl addA s) X[k] := by
  rw [List.take_succ_eq_append_getElem hk, List.foldl_append]; rfl
theorem foldR_step {X : List T} {k : Nat} (hk : k < X.length) (s : List T × List T) : (X.take (k + 1)).foldl addR s = addR ((X.take k).foldl addR s) X[k] := by
  rw [List.take_succ_eq_append_getElem hk, List.foldl_append]; rfl
theorem addA_yes {s : List T × List T} {x : T} (h : x ∈ s.2) : addA s x = (s.1, s.2.erase x) := by unfold addA; rw [if_pos h]
theorem addA_no {s : List T × List T} {x : T} (h : x ∉ s.2) : addA s x = (ins x s.1, s.2) := by unfold addA; rw [if_neg h]
theorem addR_yes {s : List T × List T} {x : T} (h : x ∈ s.1) : addR s x = (s.1.erase x, s.2) := by unfold addR; rw [if_pos h]
theorem addR_no {s : List T × List T} {x : T} (h : x ∉ s.1) : addR s x = (s.1, ins x s.2) := by unfold addR; rw [if_neg h]

set_option maxRecDepth 100000 in
set_option maxHeartbeats 2000000 in
theorem add_any (A B C D : Option Addr) (c d c' d' : Nat) (L M X Y : List T) (w : World) (hA : RD w A L) (hB : RD w B M) (hC : RD w C X) (hD : RD w D Y) (hc : L.length ≤ c) (hd : M.length ≤ d)
    (hl : L.length + M.length + X.length + Y.length ≤ 5000) :
    Calls Try.prog 33 #[sv A B L.length c M.length d, .slice C X.length c', .slice D Y.length d'] w (SumPost (add (L, M) X Y).1 (add (L, M) X Y).2 w) := by
  go_enter Try.func33, Try.ntmps33
  go_wp2
  go_loopw [7] (fun i wr => ∃ k : Nat, k ≤ X.length ∧ i = .int .i64 k ∧ AddSt w wr w.heap.size ((X.take k).foldl addA (L, M))) (fun i _ => X.length - (intOf i).toNat)
  case atStart =>
    refine ⟨0, Nat.zero_le _, rfl, ⟨⟨A, c, B, d, (BK.new w _ _).alloc _, (hA.alloc _).alloc _, (hB.alloc _).alloc _, hc, hd⟩, ?_, ((Below.refl _ _).alloc (Nat.le_refl _) _).alloc (by simp) _, Nat.le_refl _⟩⟩
    have := BK.new (w.alloc (Obj.cells #[Value.slice A L.length c, Value.slice B M.length d] 24)) (Value.slice none 0 0) (Value.slice none 0 0)
    simpa using this
  case round =>
    obtain ⟨k, hk, rfl, hst⟩ := hrel
    by_cases hlt : k < X.length
    · obtain ⟨⟨A1, c1, B1, d1, hb0, hr1, hr2, hc1, hd1⟩, hb1, hbe, _⟩ := hst
      obtain ⟨a, rfl, hab, hac⟩ := (hC.below hbe).at hlt
      have f0 := hb0.c0
      have f1 := hb0.c1
      have hi0 : (0 : Int) ≤ (k : Int) := Int.natCast_nonneg _
      have hi1 : (k : Int) < (X.length : Int) := by omega
      have z0 := hb0.f0 0
      have z1 := hb0.f0 1
      have hn := foldA_len (X.take k) (L, M)
      have hxk : (X.take k).length ≤ X.length := by rw [List.length_take]; omega
      generalize hs : (X.take k).foldl addA (L, M) = s at *
      have HS := Lib.hid hs
      clear hs
      have n1 : s.1.length ≤ 10000 := by simp at hn; omega
      have n2 : s.2.length ≤ 10000 := by simp at hn; omega
      have lg := hb0.lt
      have hab' : (a.add k).block < wr.heap.size := by rw [add_block]; exact hab
      have HB0 := Lib.hid hb0
      have HB1 := Lib.hid hb1
      have HBE := Lib.hid hbe
      clear hb0 hb1 hbe hn hxk
      by_cases hin : X[k] ∈ s.2
      · have HIN := Lib.hid hin
        clear hin
        go_wp2_with fail
        go_region_held3 (fun w' => w'.cell? ⟨w.heap.size, 1, none⟩ = some (.slice B1 s.2.length d1) ∧ w'.cell? (a.add k) = some (tv X[k])) (first | go_keep | exact ⟨(hb2.cell (p := ⟨w.heap.size, 1, none⟩) lg).trans f1, (hb2.cell hab').trans hac⟩) (first | (go_at_call 46; refine (without_yes B1 d1 s.2 X[k] _ HIN.out (by exact hr2) hd1 n2).mono ?_; rintro e w' ⟨A2, c2, rfl, hc2, hr3, hb2⟩; replace hb2 := undrew hb2))
        have f0' := (hb2.cell (p := ⟨w.heap.size, 0, none⟩) lg).trans f0
        have f1' := (hb2.cell (p := ⟨w.heap.size, 1, none⟩) lg).trans f1
        have z1' := (hb2.frozen (p := ⟨w.heap.size, 1, none⟩) lg).trans z1
        have HB2 := Lib.hid hb2
        clear hb2
        go_wp2_with fail
        go_roundw
        case rel =>
          refine ⟨k + 1, by omega, by go_num, ?_⟩
          rw [foldA_step hlt, HS.out, addA_yes HIN.out]
          exact st_set1 (Nat.le_refl _) HB0.out HB1.out hr1 hc1 HB2.out HBE.out hr3 hc2
        case measure => simp [intOf]; omega
      · have HIN := Lib.hid hin
        clear hin
        go_wp2_with fail
        go_region_held3 (fun w' => w'.cell? ⟨w.heap.size, 1, none⟩ = some (.slice B1 s.2.length d1) ∧ w'.cell? (a.add k) = some (tv X[k])) (first | go_keep | exact ⟨(hb2.cell (p := ⟨w.heap.size, 1, none⟩) lg).trans f1, (hb2.cell hab').trans hac⟩) (first | (go_at_call 46; refine (without_no B1 d1 s.2 X[k] _ HIN.out (by exact hr2) hd1 n2).mono ?_; rintro e w1 ⟨A2, c2, rfl, hc2, hr3, hb2⟩; replace hb2 := undrew hb2))
        have f0' := (hb2.cell (p := ⟨w.heap.size, 0, none⟩) lg).trans f0
        have z0' := (hb2.frozen (p := ⟨w.heap.size, 0, none⟩) lg).trans z0
        have hac' := (hb2.cell hab').trans hac
        have lg1 : w.heap.size < w1.heap.size := Nat.lt_of_lt_of_le lg hb2.size
        have hab1 : (a.add k).block < w1.heap.size := Nat.lt_of_lt_of_le hab' hb2.size
        have hr1' := hr1.below hb2
        have HB2 := Lib.hid hb2
        clear hb2
        go_wp2_with fail
        go_region_with (go_at_call 47; refine (insert_any A1 c1 s.1 X[k] _ (by exact hr1') hc1 n1).mono ?_; rintro e w2 ⟨A3, c3, rfl, hc3, hr4, hb3⟩; replace hb3 := undrew hb3; have f0'' := (hb3.cell (p := ⟨w.heap.size, 0, none⟩) lg1).trans f0'; have z0'' := (hb3.frozen (p := ⟨w.heap.size, 0, none⟩) lg1).trans z0')
        all_goals
          go_wp2_with fail
          go_roundw
          case rel =>
            refine ⟨k + 1, by omega, by go_num, ?_⟩
            rw [foldA_step hlt, HS.out, addA_no HIN.out]
            exact st_set0 (Nat.le_refl _) HB0.out HB1.out hr2 hd1 (HB2.out.trans (hb3.mono HB2.out.size)) HBE.out hr4 hc3
          case measure => simp [intOf]; omega
    · have hn := foldA_len X (L, M)
      rw [List.take_of_length_le (by omega)] at hst
      generalize hX : X.foldl addA (L, M) = s0 at *
      have HX := Lib.hid hX
      clear hX
      have m1 : s0.1.length ≤ 5000 := by simp at hn; omega
      have m2 : s0.2.length ≤ 5000 := by simp at hn; omega
      have m3 : s0.2.length + Y.length ≤ 5000 := by simp at hn; omega
      clear hn
      go_wp2_with fail
      go_loopw [10] (fun i wr => ∃ k : Nat, k ≤ Y.length ∧ i = .int .i64 k ∧ AddSt w wr w.heap.size ((Y.take k).foldl addR s0)) (fun i _ => Y.length - (intOf i).toNat)
      case atStart => exact ⟨0, Nat.zero_le _, rfl, by simpa using hst⟩
      case round =>
        clear hst
        obtain ⟨k, hk, rfl, hst⟩ := hrel
        by_cases hlt : k < Y.length
        · obtain ⟨⟨A1, c1, B1, d1, hb0, hr1, hr2, hc1, hd1⟩, hb1, hbe, _⟩ := hst
          obtain ⟨a, rfl, hab, hac⟩ := (hD.below hbe).at hlt
          have f0 := hb0.c0
          have f1 := hb0.c1
          have hi0 : (0 : Int) ≤ (k : Int) := Int.natCast_nonneg _
          have hi1 : (k : Int) < (Y.length : Int) := by omega
          have z0 := hb0.f0 0
          have z1 := hb0.f0 1
          have hn := foldR_len (Y.take k) s0
          have hxk : (Y.take k).length ≤ Y.length := by rw [List.length_take]; omega
          generalize hs : (Y.take k).foldl addR s0 = s at *
          have HS := Lib.hid hs
          clear hs
          have n1 : s.1.length ≤ 10000 := by omega
          have n2 : s.2.length ≤ 10000 := by omega
          have lg := hb0.lt
          have hab' : (a.add k).block < wr.heap.size := by rw [add_block]; exact hab
          have HB0 := Lib.hid hb0
          have HB1 := Lib.hid hb1
          have HBE := Lib.hid hbe
          clear hb0 hb1 hbe hn hxk
          by_cases hin : Y[k] ∈ s.1
          · have HIN := Lib.hid hin
            clear hin
            go_wp2_with fail
            go_region_held3 (fun w' => w'.cell? ⟨w.heap.size, 0, none⟩ = some (.slice A1 s.1.length c1) ∧ w'.cell? (a.add k) = some (tv Y[k])) (first | go_keep | exact ⟨(hb2.cell (p := ⟨w.heap.size, 0, none⟩) lg).trans f0, (hb2.cell hab').trans hac⟩) (first | (go_at_call 46; refine (without_yes A1 c1 s.1 Y[k] _ HIN.out (by exact hr1) hc1 n1).mono ?_; rintro e w' ⟨A2, c2, rfl, hc2, hr3, hb2⟩; replace hb2 := undrew hb2))
            have f0' := (hb2.cell (p := ⟨w.heap.size, 0, none⟩) lg).trans f0
            have f1' := (hb2.cell (p := ⟨w.heap.size, 1, none⟩) lg).trans f1
            have z0' := (hb2.frozen (p := ⟨w.heap.size, 0, none⟩) lg).trans z0
            have HB2 := Lib.hid hb2
            clear hb2
            go_wp2_with fail
            go_roundw
            case rel =>
              refine ⟨k + 1, by omega, by go_num, ?_⟩
              rw [foldR_step hlt, HS.out, addR_yes HIN.out]
              exact st_set0 (Nat.le_refl _) HB0.out HB1.out hr2 hd1 HB2.out HBE.out hr3 hc2
            case measure => simp [intOf]; omega
          · have HIN := Lib.hid hin
            clear hin
            go_wp2_with fail
            go_region_held3 (fun w' => w'.cell? ⟨w.heap.size, 0, none⟩ = some (.slice A1 s.1.length c1) ∧ w'.cell? (a.add k) = some (tv Y[k])) (first | go_keep | exact ⟨(hb2.cell (p := ⟨w.heap.size, 0, none⟩) lg).trans f0, (hb2.cell hab').trans hac⟩) (first | (go_at_call 46; refine (without_no A1 c1 s.1 Y[k] _ HIN.out (by exact hr1) hc1 n1).mono ?_; rintro e w1 ⟨A2, c2, rfl, hc2, hr3, hb2⟩; replace hb2 := undrew hb2))
            have f1' := (hb2.cell (p := ⟨w.heap.size, 1, none⟩) lg).trans f1
            have z1' := (hb2.frozen (p := ⟨w.heap.size, 1, none⟩) lg).trans z1
            have hac' := (hb2.cell hab').trans hac
            have lg1 : w.heap.size < w1.heap.size := Nat.lt_of_lt_of_le lg hb2.size
            have hab1 : (a.add k).block < w1.heap.size := Nat.lt_of_lt_of_le hab' hb2.size
            have hr2' := hr2.below hb2
            have HB2 := Lib.hid hb2
            clear hb2
            go_wp2_with fail
            go_region_with (go_at_call 47; refine (insert_any B1 d1 s.2 Y[k] _ (by exact hr2') hd1 n2).mono ?_; rintro e w2 ⟨A3, c3, rfl, hc3, hr4, hb3⟩; replace hb3 := undrew hb3; have f1'' := (hb3.cell (p := ⟨w.heap.size, 1, none⟩) lg1).trans f1'; have z1'' := (hb3.frozen (p := ⟨w.heap.size, 1, none⟩) lg1).trans z1')
            all_goals
              go_wp2_with fail
              go_roundw
              case rel =>
                refine ⟨k + 1, by omega, by go_num, ?_⟩
                rw [foldR_step hlt, HS.out, addR_no HIN.out]
                exact st_set1 (Nat.le_refl _) HB0.out HB1.out hr1 hc1 (HB2.out.trans (hb3.mono HB2.out.size)) HBE.out hr4 hc3
              case measure => simp [intOf]; omega
        · rw [List.take_of_length_le (by omega)] at hst
          have hY : add (L, M) X Y = Y.foldl addR s0 := by unfold add; rw [HX.out]
          have HY := Lib.hid hY
          clear hY
          have hn := foldR_len Y s0
          generalize Y.foldl addR s0 = s at *
          have q1 : s.1.length ≤ 5000 := by omega
          have q2 : s.2.length ≤ 5000 := by omega
          clear hn
          obtain ⟨⟨A1, c1, B1, d1, hb0, hr1, hr2, hc1, hd1⟩, hb1, hbe, _⟩ := hst
          have f0 := hb0.c0
          have f1 := hb0.c1
          have g0 := hb1.c0
          have g1 := hb1.c1
          have z0 := hb1.f0 0
          have z1 := hb1.f0 1
          have HB1 := Lib.hid hb1
          have HBE := Lib.hid hbe
          clear hb0 hb1 hbe
          go_wp2_with fail
          have hbk := ((HB1.out.set0 (Value.slice A1 s.1.length c1)).set1 (Value.slice B1 s.2.length d1))
          have r1 := (hr1.setSlice g0 (Value.slice A1 s.1.length c1)).setSlice (HB1.out.set0 (Value.slice A1 s.1.length c1)).c1 (Value.slice B1 s.2.length d1)
          have r2 := (hr2.setSlice g0 (Value.slice A1 s.1.length c1)).setSlice (HB1.out.set0 (Value.slice A1 s.1.length c1)).c1 (Value.slice B1 s.2.length d1)
          have hbl := (HBE.out.setCell (p := ⟨w.heap.size + 1, 0, none⟩) (Nat.le_succ _) (Value.slice A1 s.1.length c1)).setCell (p := ⟨w.heap.size + 1, 1, none⟩) (Nat.le_succ _) (Value.slice B1 s.2.length d1)
          have c0 := hbk.c0
          have c1' := hbk.c1
          generalize (wr.setCell { block := w.heap.size + 1, off := 0 } (Value.slice A1 s.fst.length c1)).setCell { block := w.heap.size + 1, off := 1 } (Value.slice B1 s.snd.length d1) = w9 at *
          rw [HY.out]
          refine bodyPost_ret (v := sv A1 B1 s.1.length c1 s.2.length d1) (by simp [results, Try.results33, go_sem, c0, c1']) rfl ⟨⟨A1, B1, c1, d1, s.1, s.2⟩, rfl, ⟨r1, r2, hc1, hd1, by simp only; omega, by simp only; omega⟩, rfl, rfl, hbl⟩
end Go.Proofs.Ytgenloemohcpcaa

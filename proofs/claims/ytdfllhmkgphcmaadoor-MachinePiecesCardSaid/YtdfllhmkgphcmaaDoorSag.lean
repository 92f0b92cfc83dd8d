/- Walks: values compared. -/
import Derived.Test.YtdfllhmkgphcmaaDoorSam
namespace Go.Proofs.YtdfllhmkgphcmaaDoor
open Go.RowKit

/-- What a comparison of equal things leaves. -/
def AgP (left : Int) (w : World) (e : Ending) (w' : World) : Prop := w.grownBy w' none ∧ ∃ r : Int, e = .returned (iv r) ∧ 0 ≤ r ∧ r ≤ left
theorem er_parts {x y : AV} (h : x.er = y.er) : y.kind = x.kind ∧ y.int = x.int ∧ y.block = x.block ∧ y.list.length = x.list.length ∧ ers x.list = ers y.list := by
  cases x
  cases y
  simp only [AV.er, MV.mk.injEq] at h
  obtain ⟨h1, h2, h3, h4⟩ := h
  have h5 := congrArg List.length h4
  rw [ers_length, ers_length] at h5
  exact ⟨h1.symm, h2.symm, h3.symm, h5.symm, h4⟩

set_option maxRecDepth 100000 in
set_option maxHeartbeats 4000000 in
theorem agree_walk (x y : AV) (left : Int) (w : World) (he : x.er = y.er) (h1 : 1 ≤ left) (h2 : left ≤ 2000)
    (IH : ∀ V, w.grownBy V none → Calls Tryd.prog 35 #[.slice x.A x.list.length x.c, .slice y.A x.list.length y.c, iv (left - 1)] V (AgP (left - 1) V)) :
    Calls Tryd.prog 39 #[x.v, y.v, iv left] w (AgP left w) := by
  obtain ⟨e1, e2, e3, e4, -⟩ := er_parts he
  have I := Lib.hid (fun o o' => IH ((w.alloc o).alloc o') ((World.grownBy_alloc w o none).trans (World.grownBy_alloc _ o' none)))
  have G := Lib.hid (fun o o' => (World.grownBy_alloc w o none).trans (World.grownBy_alloc (w.alloc o) o' none))
  unfold AV.v
  rw [e1, e2, e3, e4]
  clear e1 e2 e3 e4 he IH
  generalize x.kind = k at *
  generalize x.int = n at *
  generalize x.block = b at *
  generalize x.list.length = l at *
  have w1 : IntKind.i64.wrap (left - 1) = left - 1 := IntWalk.i64_in _ (by omega)
  go_enter Tryd.func39, Tryd.ntmps39
  go_wp2_with (first | (go_at_call 35; refine (I.out _ _).mono ?_; rintro e w1 ⟨g1, r, rfl, r1, r2⟩; have G1 := Lib.hid ((G.out _ _).trans g1); have R1 := Lib.hid r1; have R2 := Lib.hid r2; clear g1 r1 r2))
  go_ret
  have h3 := R2.out
  exact ⟨G1.out, r, rfl, R1.out, by omega⟩

set_option maxRecDepth 100000 in
set_option maxHeartbeats 4000000 in
theorem agrees_walk (A A' : Option Addr) (c c' : Nat) (L L' : List AV) (left : Int) (w : World) (hL : LRd w.heap.size noT w A c L) (hL' : LRd w.heap.size noT w A' c' L') (he : ers L = ers L') (h1 : 0 ≤ left) (h2 : left ≤ 2000)
    (IH : ∀ x ∈ L, ∀ y ∈ L', x.er = y.er → ∀ V, w.grownBy V none → ∀ l, 1 ≤ l → l ≤ 2000 → Calls Tryd.prog 39 #[x.v, y.v, iv l] V (AgP l V)) :
    Calls Tryd.prog 35 #[.slice A L.length c, .slice A' L.length c', iv left] w (AgP left w) := by
  have hlen : L'.length = L.length := by
    have := congrArg List.length he
    rw [ers_length, ers_length] at this
    exact this.symm
  have HI := Lib.hid IH
  have mono : ∀ {A c L} V, w.grownBy V none → LRd w.heap.size noT w A c L → LRd w.heap.size noT V A c L := fun V g h => h.mono g.size (fun _ _ => Tag.le_refl _) fun p hp _ => World.cell?_of_block (w := w) (g.block _ hp (by simp))
  have HA := Lib.hid (fun V g => mono V g hL)
  have HA' := Lib.hid (fun V g => mono V g hL')
  have HE := Lib.hid (fun (k : Nat) (x y : AV) (h1 : L[k]? = some x) (h2 : L'[k]? = some y) => (by
    have e1 : (ers L)[k]? = some x.er := by rw [ers_map, List.getElem?_map, h1]; rfl
    have e2 : (ers L')[k]? = some y.er := by rw [ers_map, List.getElem?_map, h2]; rfl
    rw [he, e2] at e1
    exact (Option.some.inj e1).symm : x.er = y.er))
  have lm : L.length ≤ 9223372036854775807 := Nat.le_trans hL.hc hL.hm
  clear hL hL' he IH mono
  go_enter Tryd.func35, Tryd.ntmps35
  go_wp2
  go_loopw [2, 7] (fun l i V => ∃ (k : Nat) (n : Int), k ≤ L.length ∧ i = .int .i64 k ∧ l = .int .i64 n ∧ 0 ≤ n ∧ n ≤ left ∧ Hid (w.grownBy V none)) (fun _ i _ => L.length - (intOf i).toNat)
  case atStart => exact ⟨0, left, Nat.zero_le _, rfl, rfl, h1, Int.le_refl _, Lib.hid (World.grownBy.refl w _)⟩
  case round =>
    obtain ⟨k, n, hk, rfl, rfl, n1, n2, HG⟩ := hrel
    by_cases hlt : k < L.length
    · by_cases hn : 0 < n
      · obtain ⟨x, hx⟩ : ∃ x, L[k]? = some x := ⟨L[k], by simp [hlt]⟩
        obtain ⟨y, hy⟩ : ∃ y, L'[k]? = some y := ⟨L'[k]'(by omega), by simp [hlen, hlt]⟩
        obtain ⟨q, q1, hA, hq, hqb, p0, p1, p2, p3, p4, p5, p6, p7⟩ := (HA.out wr HG.out).at8 hx
        obtain ⟨u, u1, hA', hu, hub, s0, s1, s2, s3, s4, s5, s6, s7⟩ := (HA'.out wr HG.out).at8 hy
        have CL := Lib.hid (fun V (g : w.grownBy V none) => HI.out x (List.mem_of_getElem? hx) y (List.mem_of_getElem? hy) (HE.out k x y hx hy) V g n (by omega) (by omega))
        have e4 : y.list.length = y.list.length := rfl
        subst hA
        subst hA'
        clear hx hy e4 HI HE HA HA'
        go_wp2
        go_still_tail 9, (by kernel_rfl)
        change wpList _ _ _ _ _ (World.drew _)
        have G1 := Lib.hid (HG.out.trans (grown_drew _))
        generalize World.drew _ = V1 at *
        go_wp2_with (first | (go_at_call 39; refine (CL.out _ G1.out).mono ?_; rintro e w6 ⟨g6, r, rfl, r1, r2⟩; have G6 := Lib.hid (G1.out.trans g6); have R1 := Lib.hid r1; have R2 := Lib.hid r2; clear g6 r1 r2))
        have h4 := R2.out
        exact ⟨⟨k + 1, r, by omega, by simp, rfl, R1.out, by omega, G6⟩, by simp [intOf]; omega⟩
      · obtain rfl : n = 0 := by omega
        go_wp2
        go_ret
        exact ⟨HG.out, 0, rfl, Int.le_refl _, n2⟩
    · obtain rfl : k = L.length := by omega
      go_wp2
      go_ret
      exact ⟨HG.out, n, rfl, n1, n2⟩
theorem LRd.up {w V : World} {A : Option Addr} {c : Nat} {L : List AV} (h : LRd w.heap.size noT w A c L) (g : w.grownBy V none) : LRd V.heap.size noT V A c L :=
  LRd.old (B := w.heap.size) (tag := noT) (h.mono g.size (fun _ _ => Tag.le_refl _) fun p hp _ => World.cell?_of_block (w := w) (g.block _ hp (by simp)))
theorem agrees_any {w : World} {A : Option Addr} {c : Nat} {L : List AV} (h : LRd w.heap.size noT w A c L) : ∀ (A' : Option Addr) (c' : Nat) (L' : List AV), LRd w.heap.size noT w A' c' L' → ers L = ers L' → ∀ V, w.grownBy V none → ∀ left : Int, 0 ≤ left → left ≤ 2000 →
    Calls Tryd.prog 35 #[.slice A L.length c, .slice A' L.length c', iv left] V (AgP left V) := by
  induction h with
  | @mk A c L hc hm h0 hb he hx hr ih =>
    intro A' c' L' hL' hers V g left l1 l2
    have hL : LRd w.heap.size noT w A c L := .mk hc hm h0 hb he hx hr
    refine agrees_walk A A' c c' L L' left V (hL.up g) (hL'.up g) hers l1 l2 fun x hx' y hy' hxy V' g' l k1 k2 => ?_
    obtain ⟨-, -, -, e4, e5⟩ := er_parts hxy
    exact agree_walk x y l V' hxy k1 k2 fun V2 g2 => ih x hx' y.A y.c y.list (hL'.hr y hy') e5 V2 ((g.trans g').trans g2) (l - 1) (by omega) (by omega)
theorem same_any (x y : AV) (w : World) (hx : LRd w.heap.size noT w x.A x.c x.list) (hy : LRd w.heap.size noT w y.A y.c y.list) (he : x.er = y.er) : Calls Tryd.prog 24 #[x.v, y.v] w fun e w' => e = .returned (.bool true) ∧ w.grownBy w' none := by
  obtain ⟨-, -, -, -, e5⟩ := er_parts he
  have AG := Lib.hid (fun o o' => agree_walk x y 2000 ((w.alloc o).alloc o') he (by omega) (by omega) fun V g => agrees_any hx y.A y.c y.list hy e5 V (((World.grownBy_alloc w o none).trans (World.grownBy_alloc _ o' none)).trans g) _ (by omega) (by omega))
  have G := Lib.hid (fun o o' => (World.grownBy_alloc w o none).trans (World.grownBy_alloc (w.alloc o) o' none))
  clear hx hy he e5
  unfold AV.v at *
  go_enter Tryd.func24, Tryd.ntmps24
  go_wp2_with fail
  refine (AG.out _ _).mono ?_
  rintro e w1 ⟨g1, r, rfl, r1, r2⟩
  have G1 := Lib.hid ((G.out _ _).trans g1)
  have e1 : decide (0 ≤ r) = true := by simpa using r1
  clear g1 r2
  go_wp2
  go_ret
  exact ⟨rfl, G1.out⟩
end Go.Proofs.YtdfllhmkgphcmaaDoor

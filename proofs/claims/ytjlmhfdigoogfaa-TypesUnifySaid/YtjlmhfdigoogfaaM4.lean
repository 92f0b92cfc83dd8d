/- The walks and the words of the family types, part 4: JoA, JoB, JoC, JoD, Thc, SzA, SzB, Rpa, BuA, BuB. -/
import Derived.Test.YtjlmhfdigoogfaaM3
import Derived.Deep.DeepCutAuto
import Derived.WalkLawsBesides
namespace Go.Proofs.Ytjlmhfdigoogfaa
open Go.RowKit Go.Shelf

theorem flat_set {α : Type} (f : α → List Value) (m : Nat) (h : ∀ x, (f x).length = m) {x x' : α} {i : Nat} {u : Value} (he : f x' = (f x).set i u) : ∀ (L : List α) (k : Nat), L[k]? = some x → i < m → (L.set k x').flatMap f = (L.flatMap f).set (k * m + i) u
  | [], _, e, _ => by simp at e
  | y :: l, 0, e, hi => by
    simp only [List.getElem?_cons_zero, Option.some.injEq] at e
    subst e
    rw [List.set_cons_zero, List.flatMap_cons, List.flatMap_cons, he, Nat.zero_mul, Nat.zero_add, List.set_append_left _ _ (by rw [h]; exact hi)]
  | y :: l, k + 1, e, hi => by
    rw [List.set_cons_succ, List.flatMap_cons, List.flatMap_cons, List.set_append_right _ _ (by rw [h, Nat.succ_mul]; omega), flat_set f m h he l k (by simpa using e) hi, h, show (k + 1) * m + i - m = k * m + i by rw [Nat.succ_mul]; omega]
theorem add_org (g n : Nat) : (⟨g, 0, none⟩ : Addr).add n = ⟨g, n, none⟩ := by
  by_cases h : n = 0
  · subst h; rfl
  · rw [fld_add _ _ h]; simp
/-- A class in memory, at p. -/
structure ClAt (w : World) (p : Addr) (x : Cl) : Prop where
  lt : p.block < w.heap.size
  c0 : w.cell? p = some (iv x.up)
  c1 : w.cell? ⟨p.block, p.off + 1, none⟩ = some (iv x.term)
  c2 : w.cell? ⟨p.block, p.off + 2, none⟩ = some (iv x.least)
  f0 : w.frozen? p = false
  f1 : w.frozen? ⟨p.block, p.off + 1, none⟩ = false
  f2 : w.frozen? ⟨p.block, p.off + 2, none⟩ = false
theorem ClAt.gr {w V : World} {p : Addr} {x : Cl} (h : ClAt w p x) (g : Gr w V) : ClAt V p x := by
  have hf : ∀ q : Addr, q.block = p.block → V.frozen? q = w.frozen? q := fun q hq => by
    unfold World.frozen?
    rw [hq, g.block _ h.lt (by simp)]
  exact ⟨Nat.lt_of_lt_of_le h.lt g.size, gr_c g h.c0, gr_c g h.c1, gr_c g h.c2, (hf p rfl).trans h.f0, (hf ⟨p.block, p.off + 1, none⟩ rfl).trans h.f1, (hf ⟨p.block, p.off + 2, none⟩ rfl).trans h.f2⟩
section
variable {base ub vb : Nat} {a : Addr} {N cc : Nat} {vc vt : Value} {cl : List Cl} {tm : List Tm} {vs : List (Int × Int)} {w : World}
theorem UMem.org (h : UMem base ub vb (.slice (some a) N cc) vt cl tm vs w) : N = cl.length ∧ base ≤ a.block ∧ a = ⟨a.block, 0, none⟩ := by
  obtain ⟨A', c', e, -, -, -, -, h4⟩ := h.c.form2 Cl.cs_len
  obtain ⟨rfl, rfl, rfl⟩ := Value.slice.inj e
  exact ⟨rfl, (h4 a rfl).1, (h4 a rfl).2.2⟩
theorem UMem.cls (h : UMem base ub vb (.slice (some a) N cc) vt cl tm vs w) {k : Nat} {x : Cl} (hx : cl[k]? = some x) : ClAt w (a.add (k * 3)) x := by
  obtain ⟨-, -, a0, a1, ha, h1, h2, h3, h4, h5⟩ := h.c.cl hx
  cases ha
  obtain ⟨e1, e2, e3⟩ := h.org
  have hf : ∀ j, w.frozen? ⟨a.block, j, none⟩ = false := fun j => by
    have := h.c
    rw [e3] at this
    unfold OR at this
    rw [e1] at this
    exact this.frozenAt j
  have e4 : a.add (k * 3) = ⟨a.block, k * 3, none⟩ := by rw [e3, add_org]
  rw [h1]
  refine ⟨h2, h3, h4, h5, ?_, ?_, ?_⟩
  · rw [← h1, e4]; exact hf _
  · rw [← h1, e4]; exact hf _
  · rw [← h1, e4]; exact hf _
/-- A store into a class. -/
theorem UMem.setc (h : UMem base ub vb (.slice (some a) N cc) vt cl tm vs w) {k i : Nat} {x x' : Cl} {u : Value} (hx : cl[k]? = some x) (hi : i < 3) (he : x'.cs = x.cs.set i u) : UMem base ub vb (.slice (some a) N cc) vt (cl.set k x') tm vs (w.setCell ⟨a.block, k * 3 + i, none⟩ u) ∧ Fu base ub w (w.setCell ⟨a.block, k * 3 + i, none⟩ u) := by
  obtain ⟨e1, e2, e3⟩ := h.org
  have hc := h.c
  rw [e3] at hc
  unfold OR at hc
  rw [e1] at hc
  obtain ⟨s1, s2⟩ := hc.stored (k * 3 + i) u
  have g : w.grownBy (w.setCell ⟨a.block, k * 3 + i, none⟩ u) (Value.slice (some a) N cc).ownBlock := by
    have : (Value.slice (some a) N cc).ownBlock = some a.block := by rw [e3]; rfl
    rw [this]; exact s2
  have hv := h.v
  unfold MP at hv
  refine ⟨⟨(g.block _ (heap_lt h.h) (fun e => (h.c.ne h.h (by simp)) e.symm)).trans h.h, ?_, h.t.apart h.c (by decide) g, fun y hy => (h.s y hy).apart h.c (by decide) g, (g.block _ (heap_lt hv) (fun e => (h.c.ne hv (by simp)) e.symm)).trans hv⟩, Fu.ownc h.c h.h g⟩
  have e5 := flat_set Cl.cs 3 Cl.cs_len he cl k hx hi
  unfold OR
  rw [e3, e1, e5, List.length_set]
  exact s1
theorem UMem.set0 (h : UMem base ub vb (.slice (some a) N cc) vt cl tm vs w) {k : Nat} {x : Cl} (hx : cl[k]? = some x) (n : Int) : UMem base ub vb (.slice (some a) N cc) vt (cl.set k ⟨n, x.term, x.least⟩) tm vs (w.setCell (a.add (k * 3)) (iv n)) ∧ Fu base ub w (w.setCell (a.add (k * 3)) (iv n)) := by
  obtain ⟨e1, e2, e3⟩ := h.org
  have := h.setc (i := 0) (x' := ⟨n, x.term, x.least⟩) (u := iv n) hx (by omega) rfl
  have e4 : a.add (k * 3) = ⟨a.block, k * 3 + 0, none⟩ := by rw [e3, add_org]; rfl
  rw [e4]
  exact this
theorem UMem.set1 (h : UMem base ub vb (.slice (some a) N cc) vt cl tm vs w) {k : Nat} {x : Cl} (hx : cl[k]? = some x) (n : Int) : UMem base ub vb (.slice (some a) N cc) vt (cl.set k ⟨x.up, n, x.least⟩) tm vs (w.setCell ⟨(a.add (k * 3)).block, (a.add (k * 3)).off + 1, none⟩ (iv n)) ∧ Fu base ub w (w.setCell ⟨(a.add (k * 3)).block, (a.add (k * 3)).off + 1, none⟩ (iv n)) := by
  obtain ⟨e1, e2, e3⟩ := h.org
  have := h.setc (i := 1) (x' := ⟨x.up, n, x.least⟩) (u := iv n) hx (by omega) rfl
  have e4 : (a.add (k * 3)) = ⟨a.block, k * 3, none⟩ := by rw [e3, add_org]
  rw [e4]
  exact this
theorem UMem.set2 (h : UMem base ub vb (.slice (some a) N cc) vt cl tm vs w) {k : Nat} {x : Cl} (hx : cl[k]? = some x) (n : Int) : UMem base ub vb (.slice (some a) N cc) vt (cl.set k ⟨x.up, x.term, n⟩) tm vs (w.setCell ⟨(a.add (k * 3)).block, (a.add (k * 3)).off + 2, none⟩ (iv n)) ∧ Fu base ub w (w.setCell ⟨(a.add (k * 3)).block, (a.add (k * 3)).off + 2, none⟩ (iv n)) := by
  obtain ⟨e1, e2, e3⟩ := h.org
  have := h.setc (i := 2) (x' := ⟨x.up, x.term, n⟩) (u := iv n) hx (by omega) rfl
  have e4 : (a.add (k * 3)) = ⟨a.block, k * 3, none⟩ := by rw [e3, add_org]
  rw [e4]
  exact this
end
end Go.Proofs.Ytjlmhfdigoogfaa
namespace Go.Proofs.Ytjlmhfdigoogfaa
open Go.RowKit Go.Shelf

/-- What join leaves. -/
def JoP (base ub vb : Nat) (S : US) (tm : List Tm) (w : World) (r : Bool) (cl' : List Cl) (e : Ending) (w' : World) : Prop := e = .returned (.bool r) ∧ UT base ub vb { S with cl := cl' } tm w' ∧ Fu base ub w w'
set_option maxRecDepth 100000 in
set_option maxHeartbeats 4000000 in
theorem join_same {base ub vb : Nat} {S : US} {tm : List Tm} {w : World} (hu : UT base ub vb S tm w) {a0 b0 a n m : Nat} (ha : findP n S.cl a0 = some a) (hb : findP m S.cl b0 = some a) :
    Calls Try.prog 43 #[.pointer (some ⟨ub, 0, none⟩), .int .i64 a0, .int .i64 b0] w (JoP base ub vb S tm w true S.cl) := by
  have HU := Lib.hid hu
  obtain ⟨vc, vt, hm, -, -, -⟩ := hu
  have HM := Lib.hid hm
  have HA := Lib.hid ha
  have HB := Lib.hid hb
  clear hm ha hb
  go_enter Try.func43, Try.ntmps43
  go_wp2_with (first | (go_at_call 47; (with_reducible refine (find_any HM.out HA.out).mono ?_); rintro e w1 ⟨rfl, hw⟩; subst hw) | (go_at_call 47; (with_reducible refine (find_any HM.out HB.out).mono ?_); rintro e w1 ⟨rfl, hw⟩; subst hw))
  go_ret
  exact ⟨rfl, HU.out, Fu.refl _ _ _⟩
end Go.Proofs.Ytjlmhfdigoogfaa
namespace Go.Proofs.Ytjlmhfdigoogfaa
open Go.RowKit Go.Shelf

theorem UMem.tms {base ub vb MT ct : Nat} {AT : Option Addr} {vc : Value} {cl : List Cl} {tm : List Tm} {vs : List (Int × Int)} {w : World} (h : UMem base ub vb vc (.slice AT MT ct) cl tm vs w) {k : Nat} {X : Tm} (hX : tm[k]? = some X) : MT = tm.length ∧ k < MT ∧ ∃ aT pt, AT = some aT ∧ aT.add (k * 2) = pt ∧ w.cell? pt = some (iv X.kind) ∧ w.cell? ⟨pt.block, pt.off + 1, none⟩ = some (.slice X.A X.sub.length X.c) := by
  obtain ⟨A', c', e, hr⟩ := h.t.form Tm.cs_len
  obtain ⟨rfl, rfl, rfl⟩ := Value.slice.inj e
  obtain ⟨hk, hX'⟩ := List.getElem?_eq_some_iff.1 hX
  obtain ⟨a, e, hb, hc⟩ := hr.at hk
  rw [hX'] at hc
  refine ⟨rfl, hk, a, _, e, rfl, by simpa using hc 0 _ rfl, ?_⟩
  rw [← fld_add _ 1 (by omega), add_add']; exact hc 1 _ rfl
theorem llset_same {α : Type} {l : List α} {k : Nat} {x : α} (h : l[k]? = some x) : l.set k x = l := by
  obtain ⟨h1, h2⟩ := List.getElem?_eq_some_iff.1 h
  rw [← h2]
  exact List.set_getElem_self h1
theorem lset_same {α : Type} {l : List α} {k : Nat} {x : α} (h : l[k]? = some x) : l.set k x = l := by
  obtain ⟨h1, h2⟩ := List.getElem?_eq_some_iff.1 h
  rw [← h2]
  exact List.set_getElem_self h1
theorem tm_at {tm : List Tm} {q : List (Int × List Nat)} (hE : tm.map (fun x => (x.kind, x.sub)) = q.map fun p => (p.1, p.2.map Int.ofNat)) {k : Nat} {s : Int × List Nat} (hs : q[k]? = some s) : ∃ X, tm[k]? = some X ∧ X.kind = s.1 ∧ X.sub = s.2.map Int.ofNat := by
  have h1 : (tm.map (fun x => (x.kind, x.sub)))[k]? = some (s.1, s.2.map Int.ofNat) := by rw [hE, List.getElem?_map, hs]; rfl
  rw [List.getElem?_map] at h1
  obtain ⟨X, h2, h3⟩ := Option.map_eq_some_iff.1 h1
  exact ⟨X, h2, congrArg Prod.fst h3, congrArg Prod.snd h3⟩
/-- Two boxes of terms. -/
structure BT (W wx : World) (X Y : Tm) (g h : Nat) : Prop where
  gr : Gr W wx
  h9 : wx.heap[g]? = some (.cells #[iv X.kind, .slice X.A X.sub.length X.c] 111 (0, 0))
  h10 : wx.heap[h]? = some (.cells #[iv Y.kind, .slice Y.A Y.sub.length Y.c] 111 (0, 0))
  l9 : W.heap.size ≤ g
  l10 : W.heap.size ≤ h
theorem BT.mk2 (w : World) (o o' : Obj) : Gr w (((w.alloc o).alloc o').drew) ∧ (((w.alloc o).alloc o').drew).heap[w.heap.size]? = some o ∧ (((w.alloc o).alloc o').drew).heap[w.heap.size + 1]? = some o' := by
  refine ⟨((gr_al w o).trans (gr_al _ o')).trans (gr_drew _), ?_, ?_⟩
  · show (((w.alloc o).alloc o')).heap[w.heap.size]? = some o
    rw [Below.heap_alloc _ _ _ (by simp)]
    exact al_new w o
  · show (((w.alloc o).alloc o')).heap[w.heap.size + 1]? = some o'
    exact al_at _ _ (by simp)
/-- What join promises. -/
def JoinOk (base ub vb n : Nat) : Prop := ∀ (S : US) (tm : List Tm) (w : World) (a b : Nat) (r : Bool) (cl' : List Cl), UT base ub vb S tm w → base ≤ w.heap.size → joinP n S.tm S.cl a b = some (r, cl') →
  Calls Try.prog 43 #[.pointer (some ⟨ub, 0, none⟩), .int .i64 a, .int .i64 b] w (JoP base ub vb S tm w r cl')
/-- Between the rounds of join. -/
structure JI (base ub vb n : Nat) (S : US) (tm : List Tm) (w : World) (r : Bool) (cl' : List Cl) (s t : List Nat) (X Y : Tm) (g9 g10 j : Nat) (V : World) : Prop where
  um : ∃ c, UT base ub vb { S with cl := c } tm V ∧ joinL (joinP n S.tm) c (s.drop j) (t.drop j) = some (r, cl')
  fu : Fu base ub w V
  h9 : V.heap[g9]? = some (.cells #[iv X.kind, .slice X.A X.sub.length X.c] 111 (0, 0))
  h10 : V.heap[g10]? = some (.cells #[iv Y.kind, .slice Y.A Y.sub.length Y.c] 111 (0, 0))
  n9 : ¬ Ow ub V g9
  n10 : ¬ Ow ub V g10
theorem JI.next {base ub vb n : Nat} {S : US} {tm : List Tm} {w : World} {r r' : Bool} {cl' cl2 c : List Cl} {s t s' t' : List Nat} {X Y : Tm} {g9 g10 j k : Nat} {V U : World} (h : JI base ub vb n S tm w r cl' s t X Y g9 g10 j V) (hu : UT base ub vb { S with cl := c } tm U) (f : Fu base ub V U) (hj : joinL (joinP n S.tm) c (s'.drop k) (t'.drop k) = some (r', cl2)) : JI base ub vb n S tm w r' cl2 s' t' X Y g9 g10 k U :=
  ⟨⟨c, hu, hj⟩, h.fu.trans f, f.ty _ _ _ _ h.h9 (by decide) (by decide) (fun _ => h.n9), f.ty _ _ _ _ h.h10 (by decide) (by decide) (fun _ => h.n10), fun k => h.n9 (f.nw _ (heap_lt h.h9) k), fun k => h.n10 (f.nw _ (heap_lt h.h10) k)⟩
theorem UT.num {base ub vb : Nat} {S : US} {tm : List Tm} {w : World} (h : UT base ub vb S tm w) {i : Nat} {X : Tm} (hX : tm[i]? = some X) : X.sub.length ≤ 9223372036854775807 ∧ ∀ j v, X.sub[j]? = some v → j < X.sub.length ∧ ∃ a, X.A = some a ∧ w.cell? (a.add j) = some (iv v) := by
  obtain ⟨vc, vt, h1, -⟩ := h
  have h2 := h1.s X (List.mem_of_getElem? hX)
  obtain ⟨A, c, e, h3, h4, h5, -⟩ := h2.form2 NC_len
  obtain ⟨rfl, -, rfl⟩ := Value.slice.inj e
  refine ⟨by omega, fun j v hv => ?_⟩
  obtain ⟨h6, h7⟩ := List.getElem?_eq_some_iff.1 hv
  obtain ⟨a, h8, -, h9⟩ := h3.num h6
  rw [h7] at h9
  exact ⟨h6, a, h8, h9⟩
theorem drop_cons {α : Type} {l m : List α} {j : Nat} {x : α} (h : l.drop j = x :: m) : l[j]? = some x ∧ l.drop (j + 1) = m := by
  constructor
  · have := congrArg (·[0]?) h
    simpa using this
  · rw [← List.drop_drop, h]; rfl
set_option maxRecDepth 100000 in
set_option maxHeartbeats 8000000 in
theorem join_two {base ub vb n : Nat} (ih : JoinOk base ub vb n) {S : US} {tm : List Tm} {w : World} {a0 b0 a b f1 f2 : Nat} {x y : Cl} {r : Bool} {cl' : List Cl} (hu : UT base ub vb S tm w) (hbw : base ≤ w.heap.size) (fa : findP f1 S.cl a0 = some a) (fb : findP f2 S.cl b0 = some b) (hx : S.cl[a]? = some x) (hy : S.cl[b]? = some y) (hne : a ≠ b)
    (hj : (if y.term < 0 then some (true, uni S.cl a b x y x.term)
        else if x.term < 0 then some (true, uni S.cl a b x y y.term)
        else match S.tm[x.term.toNat]?, S.tm[y.term.toNat]? with
          | some s, some t => if s.1 = t.1 then joinL (joinP n S.tm) (uni S.cl a b x y x.term) s.2 t.2 else some (false, uni S.cl a b x y x.term)
          | _, _ => none) = some (r, cl')) :
    Calls Try.prog 43 #[.pointer (some ⟨ub, 0, none⟩), .int .i64 a0, .int .i64 b0] w (JoP base ub vb S tm w r cl') := by
  obtain ⟨vc, vt, hm, hb1, hb2, hE⟩ := hu
  obtain ⟨A, cc, rfl, -⟩ := hm.c.form Cl.cs_len
  obtain ⟨AT, ct, rfl, -⟩ := hm.t.form Tm.cs_len
  obtain ⟨N, hN⟩ : ∃ N, S.cl.length = N := ⟨_, rfl⟩
  obtain ⟨MT, hMT⟩ : ∃ MT, tm.length = MT := ⟨_, rfl⟩
  rw [hN, hMT] at hm
  obtain ⟨-, ha, ac, -, rfl, -⟩ := hm.c.cl hx
  have hb : b < N := by rw [← hN]; exact (List.getElem?_eq_some_iff.1 hy).1
  obtain ⟨pa, hpa⟩ : ∃ pa, ac.add (a * 3) = pa := ⟨_, rfl⟩
  obtain ⟨pb, hpb⟩ : ∃ pb, ac.add (b * 3) = pb := ⟨_, rfl⟩
  have IH := Lib.hid ih
  have HM := Lib.hid hm
  have HA := Lib.hid fa
  have HB := Lib.hid fb
  have HX := Lib.hid hx
  have HY := Lib.hid hy
  have HJ := Lib.hid hj
  have HB1 := Lib.hid hb1
  have HB2 := Lib.hid hb2
  have HBW := Lib.hid hbw
  have HE := Lib.hid hE
  have HN := Lib.hid hN
  have HMT := Lib.hid hMT
  have hab : ((a : Int) == (b : Int)) = false := by simpa using (show ¬ (a : Int) = (b : Int) by omega)
  clear hm fa fb hx hy hj ih hb1 hb2 hbw hE hN hMT
  obtain ⟨⟨d0, d1, d2⟩, -⟩ := cell3 HM.out.h
  go_enter Try.func43, Try.ntmps43
  go_wp2_with (first | (go_at_call 47; (with_reducible refine (find_any HM.out HA.out).mono ?_); rintro e w1 ⟨rfl, hw⟩; subst hw) | (go_at_call 47; (with_reducible refine (find_any HM.out HB.out).mono ?_); rintro e w1 ⟨rfl, hw⟩; subst hw))
  go_quiet (fail)
  have M4 := Lib.hid (HM.out.gr (gr_drewN w1 nq))
  have G4 := Lib.hid (Fu.of (base := base) (heap_lt HM.out.h) (gr_drewN w1 nq))
  generalize World.drewN w1 nq = W4 at *
  have C4 := Lib.hid (show ClAt W4 pb y from by rw [← hpb]; exact M4.out.cls HY.out)
  have D4 := Lib.hid (show ClAt W4 pa x from by rw [← hpa]; exact M4.out.cls HX.out)
  have S4 := Lib.hid (show UMem base ub vb (.slice (some ac) N cc) (.slice AT MT ct) (S.cl.set b ⟨a, y.term, y.least⟩) tm (S.vs.map fun p => (p.1, (p.2 : Int))) (W4.setCell pb (iv a)) ∧ Fu base ub W4 (W4.setCell pb (iv a)) from by rw [← hpb]; exact M4.out.set0 HY.out a)
  have q0 := C4.out.f0
  have q1 := C4.out.c0
  clear d0 d1 d2
  go_upto_region 6 with (fail)
  clear q0 q1
  generalize W4.setCell pb (iv a) = W5 at *
  have X5 := Lib.hid (show (S.cl.set b ⟨a, y.term, y.least⟩)[a]? = some x from by rw [List.getElem?_set_ne (Ne.symm hne)]; exact HX.out)
  have Y5 := Lib.hid (show (S.cl.set b ⟨a, y.term, y.least⟩)[b]? = some ⟨a, y.term, y.least⟩ from by rw [List.getElem?_set_self (by rw [HN.out]; exact hb)])
  have G5 := Lib.hid (G4.out.trans S4.out.2)
  have C5 := Lib.hid (show ClAt W5 pb ⟨a, y.term, y.least⟩ from by rw [← hpb]; exact S4.out.1.cls Y5.out)
  have D5 := Lib.hid (show ClAt W5 pa x from by rw [← hpa]; exact S4.out.1.cls X5.out)
  have T5 := Lib.hid (fun k => (show UMem base ub vb (.slice (some ac) N cc) (.slice AT MT ct) ((S.cl.set b ⟨a, y.term, y.least⟩).set a ⟨x.up, x.term, y.least⟩) tm (S.vs.map fun p => (p.1, (p.2 : Int))) ((W5.drewN k).setCell ⟨pa.block, pa.off + 2, none⟩ (iv y.least)) ∧ Fu base ub (W5.drewN k) ((W5.drewN k).setCell ⟨pa.block, pa.off + 2, none⟩ (iv y.least)) from by rw [← hpa]; exact (S4.out.1.gr (gr_drewN W5 k)).set2 X5.out _))
  have HW5 := Lib.hid (heap_lt S4.out.1.h)
  clear C4 D4 M4 HA HB
  go_cut [59] (fun s wx => s = .bool (decide (x.least < 0 ∨ (0 ≤ y.least ∧ y.least < x.least))) ∧ Hid (Gr W5 wx))
  case first =>
    have q2 := C5.out.c2
    have r2 := D5.out.c2
    by_cases c1 : x.least < 0
    · go_quiet (fail)
      go_wp2
      go_meet
      exact ⟨congrArg Value.bool (decide_eq_true (show (x.least < 0 ∨ (0 ≤ y.least ∧ y.least < x.least)) from .inl c1)).symm, Lib.hid (gr_drewN _ _)⟩
    · by_cases c2 : 0 ≤ y.least
      · by_cases c3 : y.least < x.least
        · go_quiet (fail)
          go_wp2
          go_meet
          exact ⟨congrArg Value.bool (decide_eq_true (show (x.least < 0 ∨ (0 ≤ y.least ∧ y.least < x.least)) from .inr ⟨c2, c3⟩)).symm, Lib.hid (gr_drewN _ _)⟩
        · go_quiet (fail)
          go_wp2
          go_meet
          exact ⟨congrArg Value.bool (decide_eq_false (show ¬ (x.least < 0 ∨ (0 ≤ y.least ∧ y.least < x.least)) from by omega)).symm, Lib.hid (gr_drewN _ _)⟩
      · have h3 := decide_eq_false c2
        go_quiet (fail)
        go_wp2
        go_meet
        exact ⟨congrArg Value.bool (decide_eq_false (show ¬ (x.least < 0 ∨ (0 ≤ y.least ∧ y.least < x.least)) from by omega)).symm, Lib.hid (gr_drewN _ _)⟩
  case rest =>
    obtain ⟨rfl, hg⟩ := hcut
    generalize hwc : wc = W6 at *
    clear hwc
    go_upto_if 59 with (fail)
    have C6 := Lib.hid (C5.out.gr hg.out)
    have D6 := Lib.hid (D5.out.gr hg.out)
    have G6 := Lib.hid (G5.out.trans (Fu.of HW5.out hg.out))
    have T6 := Lib.hid (show UMem base ub vb (.slice (some ac) N cc) (.slice AT MT ct) ((S.cl.set b ⟨a, y.term, y.least⟩).set a ⟨x.up, x.term, y.least⟩) tm (S.vs.map fun p => (p.1, (p.2 : Int))) (W6.setCell ⟨pa.block, pa.off + 2, none⟩ (iv y.least)) ∧ Fu base ub W6 (W6.setCell ⟨pa.block, pa.off + 2, none⟩ (iv y.least)) from by rw [← hpa]; exact (S4.out.1.gr hg.out).set2 X5.out _)
    have S6 := Lib.hid (S4.out.1.gr hg.out)
    clear C5 D5 G5 T5 S4 hg HW5
    go_cut [64] (fun _ wx => Hid (UMem base ub vb (.slice (some ac) N cc) (.slice AT MT ct) (uni S.cl a b x y x.term) tm (S.vs.map fun p => (p.1, (p.2 : Int))) wx ∧ Fu base ub w1 wx))
    case first =>
      by_cases hC : x.least < 0 ∨ (0 ≤ y.least ∧ y.least < x.least)
      · have e1 : lst x y = y.least := if_pos hC
        have hd := decide_eq_true hC
        have q2 := C6.out.c2
        have z2 := D6.out.f2
        have r2 := D6.out.c2
        go_wp2
        go_meet
        refine Lib.hid ⟨?_, G6.out.trans T6.out.2⟩
        unfold uni
        rw [e1]
        exact T6.out.1
      · have e1 : lst x y = x.least := if_neg hC
        have hd := decide_eq_false hC
        go_wp2
        go_meet
        refine Lib.hid ⟨?_, G6.out⟩
        unfold uni
        rw [e1, lset_same X5.out]
        exact S6.out
    case rest =>
      clear C6 D6 G6 T6 S6 X5 Y5
      have M7 := Lib.hid hcut.out.1
      have F7 := Lib.hid hcut.out.2
      clear hcut
      generalize hwc : wc = W7 at *
      clear hwc W5 W6 G4 W4
      have X7 := Lib.hid (show (uni S.cl a b x y x.term)[a]? = some ⟨x.up, x.term, lst x y⟩ from by rw [uni_get (by rw [HN.out]; exact ha) (by rw [HN.out]; exact hb), if_pos rfl])
      have Y7 := Lib.hid (show (uni S.cl a b x y x.term)[b]? = some ⟨a, y.term, y.least⟩ from by rw [uni_get (by rw [HN.out]; exact ha) (by rw [HN.out]; exact hb), if_neg (Ne.symm hne), if_pos rfl])
      have C7 := Lib.hid (show ClAt W7 pb ⟨a, y.term, y.least⟩ from by rw [← hpb]; exact M7.out.cls Y7.out)
      have D7 := Lib.hid (show ClAt W7 pa ⟨x.up, x.term, lst x y⟩ from by rw [← hpa]; exact M7.out.cls X7.out)
      have q1 := C7.out.c1
      have r1 := D7.out.c1
      have HJ := HJ.out
      by_cases hy0 : y.term < 0
      · rw [if_pos hy0] at HJ
        obtain ⟨rfl, rfl⟩ := Prod.mk.inj (Option.some.inj HJ)
        go_wp2
        go_ret
        exact ⟨rfl, ⟨_, _, M7.out, HB1.out, HB2.out, HE.out⟩, F7.out⟩
      · rw [if_neg hy0] at HJ
        by_cases hx0 : x.term < 0
        · rw [if_pos hx0] at HJ
          obtain ⟨rfl, rfl⟩ := Prod.mk.inj (Option.some.inj HJ)
          have z1 := D7.out.f1
          have T8 := Lib.hid (show UMem base ub vb (.slice (some ac) N cc) (.slice AT MT ct) ((uni S.cl a b x y x.term).set a ⟨x.up, y.term, lst x y⟩) tm (S.vs.map fun p => (p.1, (p.2 : Int))) (W7.setCell ⟨pa.block, pa.off + 1, none⟩ (iv y.term)) ∧ Fu base ub W7 (W7.setCell ⟨pa.block, pa.off + 1, none⟩ (iv y.term)) from by rw [← hpa]; exact M7.out.set1 X7.out _)
          have e8 : (uni S.cl a b x y x.term).set a ⟨x.up, y.term, lst x y⟩ = uni S.cl a b x y y.term := by simp [uni]
          rw [e8] at T8
          go_wp2
          go_ret
          exact ⟨rfl, ⟨_, _, T8.out.1, HB1.out, HB2.out, HE.out⟩, F7.out.trans T8.out.2⟩
        · rw [if_neg hx0] at HJ
          cases hs : S.tm[x.term.toNat]? with
          | none => rw [hs] at HJ; cases HJ
          | some s =>
            cases ht : S.tm[y.term.toNat]? with
            | none => rw [hs, ht] at HJ; cases HJ
            | some t =>
              rw [hs, ht] at HJ
              simp only at HJ
              obtain ⟨xt, hxt⟩ : ∃ k : Nat, x.term = k := ⟨x.term.toNat, by omega⟩
              obtain ⟨yt, hyt⟩ : ∃ k : Nat, y.term = k := ⟨y.term.toNat, by omega⟩
              rw [hxt, Int.toNat_natCast] at hs
              rw [hyt, Int.toNat_natCast] at ht
              obtain ⟨X, hX, eX1, eX2⟩ := tm_at HE.out hs
              obtain ⟨Y, hY, eY1, eY2⟩ := tm_at HE.out ht
              obtain ⟨-, kx, aT, px, rfl, hpx, x0, x1⟩ := M7.out.tms hX
              obtain ⟨-, ky, aT', py, eT, hpy, y0, y1⟩ := M7.out.tms hY
              cases eT
              replace r1 : W7.cell? ⟨pa.block, pa.off + 1, none⟩ = some (iv xt) := by rw [← hxt]; exact r1
              replace q1 : W7.cell? ⟨pb.block, pb.off + 1, none⟩ = some (iv yt) := by rw [← hyt]; exact q1
              have nx : ¬ (xt : Int) < 0 := by omega
              have ny : ¬ (yt : Int) < 0 := by omega
              obtain ⟨⟨d0, d1, d2⟩, -⟩ := cell3 M7.out.h
              have HJ2 := Lib.hid HJ
              have HXX := Lib.hid (And.intro hX (And.intro eX1 eX2))
              have HYY := Lib.hid (And.intro hY (And.intro eY1 eY2))
              clear HJ hs ht hX hY eX1 eX2 eY1 eY2 hxt hyt hy0 hx0 C7 D7 X7 Y7 HX HY
              go_upto_region 13 with (fail)
              have KS := Lib.hid (fun V (g : Gr W7 V) => (⟨gr_c g d1, gr_c g r1, gr_c g q1, gr_c g x0, gr_c g x1, gr_c g y0, gr_c g y1⟩ : V.cell? ⟨ub, 1, none⟩ = some (.slice (some aT) MT ct) ∧ V.cell? ⟨pa.block, pa.off + 1, none⟩ = some (iv xt) ∧ V.cell? ⟨pb.block, pb.off + 1, none⟩ = some (iv yt) ∧ V.cell? px = some (iv X.kind) ∧ V.cell? ⟨px.block, px.off + 1, none⟩ = some (.slice X.A X.sub.length X.c) ∧ V.cell? py = some (iv Y.kind) ∧ V.cell? ⟨py.block, py.off + 1, none⟩ = some (.slice Y.A Y.sub.length Y.c)))
              have MK := Lib.hid (BT.mk2 W7)
              clear d0 d1 d2 r1 q1 x0 x1 y0 y1
              go_cut [9, 10] (fun p9 p10 wx => ∃ g9 g10 : Nat, p9 = .pointer (some ⟨g9, 0, none⟩) ∧ p10 = .pointer (some ⟨g10, 0, none⟩) ∧ Hid (BT W7 wx X Y g9 g10))
              case first =>
                go_region_held3 (fun V => V.cell? ⟨ub, 1, none⟩ = some (.slice (some aT) MT ct) ∧ V.cell? ⟨pa.block, pa.off + 1, none⟩ = some (iv xt) ∧ V.cell? ⟨pb.block, pb.off + 1, none⟩ = some (iv yt) ∧ V.cell? px = some (iv X.kind) ∧ V.cell? ⟨px.block, px.off + 1, none⟩ = some (.slice X.A X.sub.length X.c) ∧ V.cell? py = some (iv Y.kind) ∧ V.cell? ⟨py.block, py.off + 1, none⟩ = some (.slice Y.A Y.sub.length Y.c)) (first | exact KS.out _ (((gr_al _ _).trans (gr_al _ _)).trans (gr_drew _)) | exact KS.out _ ((gr_al _ _).trans (gr_drew _)) | exact KS.out _ (gr_drew _) | go_keep | exact KS.out _ (gr_refl _)) (fail)
                all_goals go_wp2
                all_goals go_meet
                all_goals first | exact ⟨_, _, rfl, rfl, Lib.hid ⟨(MK.out _ _).1, (MK.out _ _).2.1, (MK.out _ _).2.2, Nat.le_refl _, Nat.le_succ _⟩⟩ | exact ⟨_, _, rfl, rfl, Lib.hid ⟨(MK.out _ _).1, (MK.out _ _).2.2, (MK.out _ _).2.1, Nat.le_succ _, Nat.le_refl _⟩⟩
              case rest =>
                obtain ⟨g9, g10, rfl, rfl, HB⟩ := hcut
                generalize hwc : wc = W8 at *
                clear hwc
                have U7 := Lib.hid (show UT base ub vb { S with cl := uni S.cl a b x y x.term } tm W7 from ⟨_, _, M7.out, HB1.out, HB2.out, HE.out⟩)
                have U8 := Lib.hid (U7.out.gr HB.out.gr)
                have I8 := Lib.hid (show JI base ub vb n S tm w1 true (uni S.cl a b x y x.term) [] [] X Y g9 g10 0 W8 from ⟨⟨_, U7.out.gr HB.out.gr, rfl⟩, F7.out.trans (Fu.of U7.out.hub HB.out.gr), HB.out.h9, HB.out.h10, fun h => by have h1 := U7.out.ow_lt HB.out.gr h; have := HB.out.l9; omega, fun h => by have h1 := U7.out.ow_lt HB.out.gr h; have := HB.out.l10; omega⟩)
                clear HB M7 F7
                obtain ⟨⟨c0, c1⟩, -⟩ := cell2 I8.out.h9
                obtain ⟨⟨e0, e1⟩, -⟩ := cell2 I8.out.h10
                have HJ3 := HJ2.out
                by_cases hk : s.1 = t.1
                · have hkk : X.kind = Y.kind := by rw [HXX.out.2.1, HYY.out.2.1, hk]
                  rw [if_pos hk] at HJ3
                  have J0 := Lib.hid (show JI base ub vb n S tm w1 r cl' s.2 t.2 X Y g9 g10 0 W8 from I8.out.next U8.out (Fu.refl _ _ _) HJ3)
                  have HL := Lib.hid (U8.out.num HXX.out.1).1
                  have hl := HL.out
                  clear I8 HJ3 HJ2 U7
                  go_wp2
                  clear hkk nx ny
                  go_loopw [112] (fun i V => ∃ j : Nat, j ≤ X.sub.length ∧ i = .int .i64 j ∧ Hid (JI base ub vb n S tm w1 r cl' s.2 t.2 X Y g9 g10 j V)) (fun i _ => X.sub.length - (intOf i).toNat)
                  case atStart => exact ⟨0, Nat.zero_le _, rfl, J0⟩
                  case round =>
                    clear c0 c1 e0 e1 J0
                    obtain ⟨j, hj, rfl, HI⟩ := hrel
                    obtain ⟨⟨c0, c1⟩, -⟩ := cell2 HI.out.h9
                    obtain ⟨⟨e0, e1⟩, -⟩ := cell2 HI.out.h10
                    obtain ⟨c, hU, hJL⟩ := HI.out.um
                    have HU := Lib.hid hU
                    have HJL := Lib.hid hJL
                    clear hU hJL
                    by_cases hlt : j < X.sub.length
                    · cases hs : s.2.drop j with
                      | nil => exfalso; have h1 := congrArg List.length hs; have h2 := congrArg List.length HXX.out.2.2; simp at h1 h2; omega
                      | cons si s' =>
                        cases ht : t.2.drop j with
                        | nil => have h1 := HJL.out; rw [hs, ht] at h1; simp [joinL] at h1
                        | cons ti t' =>
                          obtain ⟨hs1, hs2⟩ := drop_cons hs
                          obtain ⟨ht1, ht2⟩ := drop_cons ht
                          obtain ⟨-, ax, eax, x0⟩ := (HU.out.num HXX.out.1).2 j (si : Int) (by rw [HXX.out.2.2, List.getElem?_map, hs1]; rfl)
                          obtain ⟨jy, ay, eay, y0⟩ := (HU.out.num HYY.out.1).2 j (ti : Int) (by rw [HYY.out.2.2, List.getElem?_map, ht1]; rfl)
                          rw [eax] at c1
                          rw [eay] at e1
                          clear eax eay
                          have h1 := HJL.out
                          rw [hs, ht] at h1
                          simp only [joinL] at h1
                          cases hq : joinP n S.tm c si ti with
                          | none => rw [hq] at h1; cases h1
                          | some q =>
                            obtain ⟨b1, c'⟩ := q
                            rw [hq] at h1
                            have H1 := Lib.hid h1
                            have HQ := Lib.hid hq
                            have HS2 := Lib.hid (And.intro hs2 ht2)
                            have CL := Lib.hid (fun V (g : Gr wr V) => IH.out { S with cl := c } tm V si ti b1 c' (HU.out.gr g) (Nat.le_trans (Nat.le_trans HBW.out HI.out.fu.size) g.size) HQ.out)
                            clear h1 hq hs2 ht2 hs ht hs1 ht1
                            cases b1 with
                            | true =>
                              go_upto_region 19 with (fail)
                              go_still_tail 11, (by kernel_rfl)
                              change wpList _ _ _ _ _ (World.drew _)
                              go_wp2_with (first | (go_at_call 43; refine (CL.out _ (gr_drew _)).mono ?_; rintro e w9 ⟨rfl, hU9, hF9⟩; have U9 := Lib.hid hU9; have F9 := Lib.hid hF9; clear hU9 hF9))
                              exact ⟨⟨j + 1, hlt, by simp, Lib.hid (HI.out.next U9.out ((Fu.of HU.out.hub (gr_drew _)).trans F9.out) (by rw [HS2.out.1, HS2.out.2]; exact H1.out))⟩, by simp [intOf]; omega⟩
                            | false =>
                              go_upto_region 19 with (fail)
                              go_still_tail 11, (by kernel_rfl)
                              change wpList _ _ _ _ _ (World.drew _)
                              go_wp2_with (first | (go_at_call 43; refine (CL.out _ (gr_drew _)).mono ?_; rintro e w9 ⟨rfl, hU9, hF9⟩; have U9 := Lib.hid hU9; have F9 := Lib.hid hF9; clear hU9 hF9))
                              go_ret
                              have h1 := H1.out
                              simp only [Option.some.injEq, Prod.mk.injEq] at h1
                              obtain ⟨rfl, rfl⟩ := h1
                              exact ⟨rfl, U9.out, HI.out.fu.trans ((Fu.of HU.out.hub (gr_drew _)).trans F9.out)⟩
                    · obtain rfl : X.sub.length = j := by omega
                      go_wp2
                      go_ret
                      have h1 := HJL.out
                      rw [List.drop_of_length_le (by have h2 := congrArg List.length HXX.out.2.2; simp at h2; omega)] at h1
                      simp only [joinL, Option.some.injEq, Prod.mk.injEq] at h1
                      obtain ⟨rfl, rfl⟩ := h1
                      exact ⟨rfl, HU.out, HI.out.fu⟩
                · have hkk : ¬ X.kind = Y.kind := by rw [HXX.out.2.1, HYY.out.2.1]; exact hk
                  rw [if_neg hk] at HJ3
                  obtain ⟨rfl, rfl⟩ := Prod.mk.inj (Option.some.inj HJ3)
                  have hkb : (X.kind != Y.kind) = true := by simpa using hkk
                  go_wp2
                  go_ret
                  obtain ⟨c, h1, h2⟩ := I8.out.um
                  cases h2
                  exact ⟨rfl, h1, I8.out.fu⟩
end Go.Proofs.Ytjlmhfdigoogfaa
namespace Go.Proofs.Ytjlmhfdigoogfaa
open Go.RowKit Go.Shelf

theorem join_any (base ub vb n : Nat) : JoinOk base ub vb n := by
  induction n with
  | zero => intro S tm w a b r cl' _ _ h; simp [joinP] at h
  | succ n ih =>
    intro S tm w a0 b0 r cl' hu hb h
    rw [joinP] at h
    cases fa : findP (S.cl.length + 1) S.cl a0 with
    | none => rw [fa] at h; simp at h
    | some a =>
      cases fb : findP (S.cl.length + 1) S.cl b0 with
      | none => rw [fa, fb] at h; simp at h
      | some b =>
        obtain ⟨x, hx, -⟩ := findP_root fa
        obtain ⟨y, hy, -⟩ := findP_root fb
        rw [fa, fb] at h
        simp only at h
        by_cases hne : a = b
        · rw [if_pos hne] at h
          subst hne
          obtain ⟨rfl, rfl⟩ := Prod.mk.inj (Option.some.inj h)
          exact join_same hu fa fb
        · rw [if_neg hne, hx, hy] at h
          exact join_two ih hu hb fa fb hx hy hne h
end Go.Proofs.Ytjlmhfdigoogfaa
namespace Go.Proofs.Ytjlmhfdigoogfaa
open Go.RowKit

abbrev KN := List (Int × Int)
def kget (k : Int) : KN → Option Int
  | [] => none
  | p :: l => if k = p.1 then some p.2 else kget k l
def kput (k v : Int) : KN → KN
  | [] => [(k, v)]
  | p :: l => if k = p.1 then (k, v) :: l else p :: kput k v l
theorem kget_put (k v j : Int) : ∀ l : KN, kget j (kput k v l) = if j = k then some v else kget j l
  | [] => by simp [kput, kget]
  | p :: l => by
    by_cases h : k = p.1
    · subst h
      simp only [kput, if_true, kget]
      by_cases hj : j = p.1
      · simp [hj]
      · simp [hj]
    · simp only [kput, if_neg h, kget, kget_put k v j l]
      by_cases hj : j = p.1
      · subst hj; simp [Ne.symm h]
      · simp [hj]
def kml (l : KN) : ML := l.map fun p => (p.1, iv p.2)
theorem kml_fnd (k : Int) : ∀ (l : KN) (i : Nat), (fnd k (kml l) i).map (·.2) = (kget k l).map iv
  | [], _ => rfl
  | p :: l, i => by
    by_cases h : k = p.1
    · simp [kml, fnd, kget, h]
    · have := kml_fnd k l (i + 1)
      simp only [kml] at this
      simp [kml, fnd, kget, h, this]
theorem kml_get (k : Int) (l : KN) : mget (kml l) k = (kget k l).map iv := kml_fnd k l 0
theorem kml_put (k v : Int) : ∀ l : KN, mput (kml l) k (iv v) = kml (kput k v l)
  | [] => rfl
  | p :: l => by
    have ih := kml_put k v l
    by_cases h : k = p.1
    · simp [kml, mput, fnd, kput, h]
    · simp only [mput] at ih ⊢
      simp only [kml, List.map_cons, fnd, if_neg h, fnd_shift, kput] at ih ⊢
      cases hq : fnd k (List.map (fun p => (p.1, iv p.2)) l) 0 with
      | none => rw [hq] at ih; simp at ih ⊢; exact ih
      | some q => rw [hq] at ih; simp at ih ⊢; exact ih
/-- The sizes of a list of classes, added up. -/
def sizesL (f : KN → Nat → Option (Bool × KN)) (fd : Nat → Option Nat) : KN → List Nat → Int → Option (Option Int × KN)
  | kn, [], m => some (some m, kn)
  | kn, i :: s, m => match f kn i with
    | some (true, kn') => match fd i with
      | some r => sizesL f fd kn' s (m + (kget r kn').getD 0)
      | none => none
    | some (false, kn') => some (none, kn')
    | none => none
def sizesP : Nat → List (Int × List Nat) → List Cl → KN → Nat → Option (Bool × KN)
  | 0, _, _, _, _ => none
  | n + 1, tm, cl, kn, c0 => match findP (cl.length + 1) cl c0 with
    | some c => match kget c kn with
      | some v => some (decide (0 ≤ v), kn)
      | none => match cl[c]? with
        | some x =>
          if x.term < 0 then some (true, kput c 1 (kput c (-1) kn))
          else match tm[x.term.toNat]? with
            | some q => match sizesL (sizesP n tm cl) (findP (cl.length + 1) cl) (kput c (-1) kn) q.2 1 with
              | some (some m, kn') => some (true, kput c (min m 201) kn')
              | some (none, kn') => some (false, kn')
              | none => none
            | none => none
        | none => none
    | none => none
def buildL (f : Nat → Option PT) : List Nat → Option (List PT)
  | [] => some []
  | i :: s => match f i, buildL f s with
    | some t, some l => some (t :: l)
    | _, _ => none
def buildP : Nat → List (Int × List Nat) → List Cl → Nat → Option PT
  | 0, _, _, _ => none
  | n + 1, tm, cl, c0 => match findP (cl.length + 1) cl c0 with
    | some c => match cl[c]? with
      | some x => if x.term < 0 then some (vr x.least)
        else match tm[x.term.toNat]? with
          | some q => (buildL (buildP n tm cl) q.2).map fun l => .mk q.1 0 l
          | none => none
      | none => none
    | none => none
theorem buildL_mono {f g : Nat → Option PT} (h : ∀ i t, f i = some t → g i = some t) : ∀ {s : List Nat} {l : List PT}, buildL f s = some l → buildL g s = some l
  | [], _, e => e
  | i :: s, l, e => by
    simp only [buildL] at e ⊢
    cases h1 : f i with
    | none => rw [h1] at e; cases e
    | some t =>
      cases h2 : buildL f s with
      | none => rw [h1, h2] at e; cases e
      | some l' =>
        rw [h1, h2] at e
        rw [h i t h1, buildL_mono h h2]
        exact e
theorem buildP_succ {tm : List (Int × List Nat)} {cl : List Cl} : ∀ {n c : Nat} {t : PT}, buildP n tm cl c = some t → buildP (n + 1) tm cl c = some t
  | 0, _, _, h => by simp [buildP] at h
  | n + 1, c, t, h => by
    rw [buildP] at h ⊢
    cases h1 : findP (cl.length + 1) cl c with
    | none => rw [h1] at h; cases h
    | some r =>
      rw [h1] at h
      simp only at h ⊢
      cases h2 : cl[r]? with
      | none => rw [h2] at h; cases h
      | some x =>
        rw [h2] at h
        simp only at h ⊢
        by_cases h3 : x.term < 0
        · rw [if_pos h3] at h ⊢; exact h
        · rw [if_neg h3] at h ⊢
          cases h4 : tm[x.term.toNat]? with
          | none => rw [h4] at h; cases h
          | some q =>
            rw [h4] at h
            simp only at h ⊢
            obtain ⟨l, h5, h6⟩ := Option.map_eq_some_iff.1 h
            rw [buildL_mono (fun i t hi => buildP_succ hi) h5]
            simpa using h6
theorem buildP_mono {tm : List (Int × List Nat)} {cl : List Cl} {n m c : Nat} {t : PT} (h : buildP n tm cl c = some t) (hm : n ≤ m) : buildP m tm cl c = some t := by
  induction hm with
  | refl => exact h
  | step _ ih => exact buildP_succ ih
theorem buildP_uniq {tm : List (Int × List Nat)} {cl : List Cl} {n m c : Nat} {t u : PT} (h : buildP n tm cl c = some t) (h' : buildP m tm cl c = some u) : t = u := by
  rcases Nat.le_total n m with hl | hl
  · have := buildP_mono h hl; rw [h'] at this; exact (Option.some.inj this).symm
  · have := buildP_mono h' hl; rw [h] at this; exact Option.some.inj this
/-- How many classes have no size yet. -/
def unk (N : Nat) (kn : KN) : Nat := (List.range N).countP fun (c : Nat) => (kget c kn).isNone
/-- What the known sizes are. -/
def KI (tm : List (Int × List Nat)) (cl : List Cl) (kn : KN) : Prop := ∀ (c : Nat) v, kget c kn = some v → v = -1 ∨ ∃ n t, buildP n tm cl c = some t ∧ v = min (t.size : Int) 201
def Ext (kn kn' : KN) : Prop := ∀ (c : Nat) v, kget c kn = some v → kget c kn' = some v
theorem unk_le {N : Nat} {kn kn' : KN} (h : Ext kn kn') : unk N kn' ≤ unk N kn := by
  unfold unk
  refine List.countP_mono_left fun c _ hc => ?_
  cases hq : kget c kn with
  | none => rfl
  | some v => rw [h c v hq] at hc; simp at hc
theorem unk_put {N : Nat} {kn : KN} {c : Nat} (hc : c < N) (h : kget c kn = none) (v : Int) : unk N (kput c v kn) + 1 = unk N kn := by
  unfold unk
  refine countP_but (b := c) List.nodup_range (List.mem_range.2 hc) (by simp [h]) (by simp [kget_put]) fun d hd => ?_
  rw [kget_put, if_neg (by omega)]
theorem ext_put {kn : KN} {c : Nat} (h : kget c kn = none) (v : Int) : Ext kn (kput c v kn) := fun d u hd => by
  rw [kget_put]
  by_cases e : (d : Int) = c
  · rw [e] at hd; rw [hd] at h; cases h
  · rw [if_neg e]; exact hd
def csum : List PT → Int
  | [] => 0
  | t :: l => min (t.size : Int) 201 + csum l
theorem csum_min : ∀ (l : List PT) (m : Int), 0 ≤ m → min (m + csum l) 201 = min (m + (psz l : Int)) 201
  | [], m, _ => by simp [csum]
  | t :: l, m, hm => by
    have h1 := csum_min l (m + min (t.size : Int) 201) (by omega)
    have h2 := size_pos t
    simp only [csum, psz_cons]
    have h3 : 0 ≤ csum l := by
      clear h1
      induction l with
      | nil => simp [csum]
      | cons u l ih => simp only [csum]; omega
    omega
/-- What sizes says of a class. -/
def SR (tm : List (Int × List Nat)) (cl : List Cl) (kn : KN) (c0 : Nat) (r : Bool) (kn' : KN) : Prop :=
  KI tm cl kn' ∧ Ext kn kn' ∧ (r = true → (∀ c : Nat, kget c kn' = some (-1) → kget c kn = some (-1)) ∧ ∃ q n t, findP (cl.length + 1) cl c0 = some q ∧ buildP n tm cl c0 = some t ∧ kget q kn' = some (min (t.size : Int) 201)) ∧
  (r = false → ∀ m, Mod tm cl m → (∀ p : Nat, kget p kn = some (-1) → (m c0).size < (m p).size) → False)
theorem sizesL_ok {tm : List (Int × List Nat)} {cl : List Cl} {f : KN → Nat → Option (Bool × KN)} {U : Nat} (hf : ∀ kn, KI tm cl kn → unk cl.length kn ≤ U → ∀ i, i < cl.length → ∃ r kn', f kn i = some (r, kn') ∧ SR tm cl kn i r kn') :
    ∀ (s : List Nat) (kn : KN) (m : Int), KI tm cl kn → unk cl.length kn ≤ U → (∀ i ∈ s, i < cl.length) → ∃ r kn', sizesL f (findP (cl.length + 1) cl) kn s m = some (r, kn') ∧ KI tm cl kn' ∧ Ext kn kn' ∧
      (∀ m', r = some m' → (∀ c : Nat, kget c kn' = some (-1) → kget c kn = some (-1)) ∧ ∃ n l, buildL (buildP n tm cl) s = some l ∧ m' = m + csum l) ∧
      (r = none → ∀ a, Mod tm cl a → (∀ p : Nat, kget p kn = some (-1) → ∀ i ∈ s, (a i).size < (a p).size) → False)
  | [], kn, m, hk, _, _ => ⟨some m, kn, rfl, hk, fun _ _ h => h, fun m' h => ⟨fun _ h => h, 0, [], rfl, by cases h; simp [csum]⟩, fun h => by cases h⟩
  | i :: s, kn, m, hk, hu, hs => by
    obtain ⟨r, kn1, e, h1, h2, h3, h4⟩ := hf kn hk hu i (hs i (by simp))
    simp only [sizesL, e]
    cases r with
    | false => exact ⟨none, kn1, rfl, h1, h2, fun m' h => (by cases h), fun _ a ha hp => h4 rfl a ha fun p hp' => hp p hp' i (by simp)⟩
    | true =>
      obtain ⟨h5, q, n, t, h6, h7, h8⟩ := h3 rfl
      simp only [h6, h8, Option.getD_some]
      obtain ⟨r, kn2, e2, g1, g2, g3, g4⟩ := sizesL_ok hf s kn1 (m + min (t.size : Int) 201) h1 (Nat.le_trans (unk_le h2) hu) fun j hj => hs j (by simp [hj])
      refine ⟨r, kn2, e2, g1, fun c v hc => g2 c v (h2 c v hc), fun m' hm => ?_, fun hm a ha hp => g4 hm a ha fun p hp' j hj => hp p (h5 p hp') j (by simp [hj])⟩
      obtain ⟨g5, n', l, g6, g7⟩ := g3 m' hm
      refine ⟨fun c hc => h5 c (g5 c hc), max n n', t :: l, ?_, by simp only [csum]; omega⟩
      simp only [buildL]
      rw [buildP_mono h7 (Nat.le_max_left _ _), buildL_mono (fun j u hj => buildP_mono hj (Nat.le_max_right n n')) g6]
theorem sizesP_ok {tm : List (Int × List Nat)} {cl : List Cl} (hc : CI tm cl) : ∀ (n : Nat) (kn : KN), KI tm cl kn → unk cl.length kn ≤ n → ∀ c0, c0 < cl.length → ∃ r kn', sizesP (n + 1) tm cl kn c0 = some (r, kn') ∧ SR tm cl kn c0 r kn' := by
  intro n
  induction n with
  | zero =>
    intro kn hk hu c0 h0
    obtain ⟨c, x, fc, hx, hxu, hl⟩ := hc.find h0
    rw [sizesP]
    simp only [fc]
    cases hq : kget c kn with
    | none =>
      have := unk_put hl hq (-1)
      omega
    | some v =>
      simp only
      refine ⟨_, _, rfl, hk, fun _ _ h => h, fun h => ?_, fun h m hm hp => ?_⟩
      · rcases hk c v hq with rfl | ⟨n, t, h1, h2⟩
        · simp at h
        · cases n with
          | zero => simp [buildP] at h1
          | succ n =>
            refine ⟨fun _ h => h, c, n + 1, t, fc, ?_, by rw [hq, h2]⟩
            rw [buildP, fc]
            rw [buildP, findP_of_root hx hxu] at h1
            exact h1
      · rcases hk c v hq with rfl | ⟨n, t, h1, h2⟩
        · have := hp c hq
          rw [hm.find fc] at this
          omega
        · have := size_pos t
          simp at h
          omega
  | succ n ih =>
    intro kn hk hu c0 h0
    obtain ⟨c, x, fc, hx, hxu, hl⟩ := hc.find h0
    rw [sizesP]
    simp only [fc]
    have hbc : ∀ {N : Nat} {t : PT}, buildP (N + 1) tm cl c = some t → buildP (N + 1) tm cl c0 = some t := fun {N t} h1 => by
      rw [buildP, fc]
      rw [buildP, findP_of_root hx hxu] at h1
      exact h1
    cases hq : kget c kn with
    | some v =>
      simp only
      refine ⟨_, _, rfl, hk, fun _ _ h => h, fun h => ?_, fun h m hm hp => ?_⟩
      · rcases hk c v hq with rfl | ⟨n, t, h1, h2⟩
        · simp at h
        · cases n with
          | zero => simp [buildP] at h1
          | succ n => exact ⟨fun _ h => h, c, n + 1, t, fc, hbc h1, by rw [hq, h2]⟩
      · rcases hk c v hq with rfl | ⟨n, t, h1, h2⟩
        · have := hp c hq
          rw [hm.find fc] at this
          omega
        · have := size_pos t
          simp at h
          omega
    | none =>
      simp only [hx]
      have hext := ext_put hq (-1)
      have hk1 : KI tm cl (kput c (-1) kn) := fun d v hd => by
        rw [kget_put] at hd
        by_cases e : (d : Int) = c
        · rw [if_pos e] at hd; cases hd; exact .inl rfl
        · rw [if_neg e] at hd; exact hk d v hd
      by_cases hx0 : x.term < 0
      · rw [if_pos hx0]
        have hb : ∀ N, buildP (N + 1) tm cl c = some (vr x.least) := fun N => by
          rw [buildP, findP_of_root hx hxu]
          simp only [hx, if_pos hx0]
        refine ⟨true, _, rfl, fun d v hd => ?_, fun d v hd => ?_, fun _ => ⟨fun d hd => ?_, c, 1, _, fc, hbc (hb 0), ?_⟩, fun h => by cases h⟩
        · rw [kget_put] at hd
          by_cases e : (d : Int) = c
          · rw [if_pos e] at hd
            cases hd
            obtain rfl : d = c := Int.ofNat.inj e
            exact .inr ⟨1, _, hb 0, by simp [vr, PT.size]; omega⟩
          · rw [if_neg e] at hd; exact hk1 d v hd
        · have h1 := hext d v hd
          rw [kget_put, if_neg (fun e => by rw [e, hq] at hd; cases hd)]
          exact h1
        · rw [kget_put] at hd
          by_cases e : (d : Int) = c
          · rw [if_pos e] at hd; cases hd
          · rw [if_neg e, kget_put, if_neg e] at hd; exact hd
        · rw [kget_put, if_pos rfl]; simp [vr, PT.size]; omega
      · rw [if_neg hx0]
        have tx := hc.tr c x hx
        obtain ⟨⟨k, s⟩, hs⟩ : ∃ s, tm[x.term.toNat]? = some s := ⟨_, List.getElem?_eq_getElem (by omega)⟩
        simp only [hs]
        have hu1 := unk_put hl hq (-1)
        obtain ⟨r, kn2, e, g1, g2, g3, g4⟩ := sizesL_ok (f := sizesP (n + 1) tm cl) (U := n) (fun kn h1 h2 i hi => ih kn h1 h2 i hi) s (kput c (-1) kn) 1 hk1 (by omega) (hc.tl _ _ _ hs).2
        rw [e]
        cases r with
        | none =>
          refine ⟨false, kn2, rfl, g1, fun d v hd => g2 d v (hext d v hd), fun h => (by cases h), fun _ m hm hp => g4 rfl m hm fun p hp' i hi => ?_⟩
          have h1 := (hm c x hx).2 hxu k s (by omega) hs
          have h2 : (m i).size < (m c).size := by
            rw [h1, size_eq (.mk _ _ _)]
            have : (m i).size ≤ psz (s.map m) := psz_mem (List.mem_map.2 ⟨i, hi, rfl⟩)
            simp only [PT.sub]
            omega
          rw [kget_put] at hp'
          by_cases e : (p : Int) = c
          · obtain rfl : p = c := Int.ofNat.inj e
            exact h2
          · rw [if_neg e] at hp'
            have := hp p hp'
            rw [hm.find fc] at this
            omega
        | some m' =>
          obtain ⟨g5, N, l, g6, g7⟩ := g3 m' rfl
          have hb : buildP (N + 1) tm cl c = some (.mk k 0 l) := by
            rw [buildP, findP_of_root hx hxu]
            simp only [hx, if_neg hx0, hs, g6]
            rfl
          have hv : min m' 201 = min ((PT.mk k 0 l).size : Int) 201 := by
            rw [g7, csum_min l 1 (by omega), size_eq (.mk _ _ _)]
            simp [PT.sub]
          refine ⟨true, _, rfl, fun d v hd => ?_, fun d v hd => ?_, fun _ => ⟨fun d hd => ?_, c, N + 1, _, fc, hbc hb, ?_⟩, fun h => by cases h⟩
          · rw [kget_put] at hd
            by_cases e : (d : Int) = c
            · rw [if_pos e] at hd
              cases hd
              obtain rfl : d = c := Int.ofNat.inj e
              exact .inr ⟨_, _, hb, hv⟩
            · rw [if_neg e] at hd; exact g1 d v hd
          · have h1 := g2 d v (hext d v hd)
            rw [kget_put, if_neg (fun e => by rw [e, hq] at hd; cases hd)]
            exact h1
          · rw [kget_put] at hd
            by_cases e : (d : Int) = c
            · rw [if_pos e] at hd
              have := Option.some.inj hd
              have := size_pos (PT.mk k 0 l)
              omega
            · rw [if_neg e] at hd
              have := g5 d hd
              rw [kget_put, if_neg e] at this
              exact this
          · rw [kget_put, if_pos rfl, hv]
/-- The sizes of many classes. -/
def allP (f : KN → Nat → Option (Bool × KN)) : KN → List Nat → Option (Bool × KN)
  | kn, [] => some (true, kn)
  | kn, i :: s => match f kn i with
    | some (true, kn') => allP f kn' s
    | r => r
theorem allP_ok {tm : List (Int × List Nat)} {cl : List Cl} {f : KN → Nat → Option (Bool × KN)} (hf : ∀ kn, KI tm cl kn → ∀ i, i < cl.length → ∃ r kn', f kn i = some (r, kn') ∧ SR tm cl kn i r kn') :
    ∀ (s : List Nat) (kn : KN), KI tm cl kn → (∀ c : Nat, kget c kn ≠ some (-1)) → (∀ i ∈ s, i < cl.length) → ∃ r kn', allP f kn s = some (r, kn') ∧ Ext kn kn' ∧
      (r = true → ∀ i ∈ s, ∃ q n t, findP (cl.length + 1) cl i = some q ∧ buildP n tm cl i = some t ∧ kget q kn' = some (min (t.size : Int) 201)) ∧ (r = false → ∀ m, ¬ Mod tm cl m)
  | [], kn, _, _, _ => ⟨true, kn, rfl, fun _ _ h => h, fun _ i hi => (by cases hi), fun h => by cases h⟩
  | i :: s, kn, hk, hn, hs => by
    obtain ⟨r, kn1, e, h1, h2, h3, h4⟩ := hf kn hk i (hs i (by simp))
    simp only [allP, e]
    cases r with
    | false => exact ⟨false, kn1, rfl, h2, fun h => (by cases h), fun _ m hm => h4 rfl m hm fun p hp => absurd hp (hn p)⟩
    | true =>
      obtain ⟨h5, q, n, t, h6, h7, h8⟩ := h3 rfl
      obtain ⟨r, kn2, e2, g1, g2, g3⟩ := allP_ok hf s kn1 h1 (fun c hc => hn c (h5 c hc)) fun j hj => hs j (by simp [hj])
      refine ⟨r, kn2, e2, fun c v hc => g1 c v (h2 c v hc), fun h j hj => ?_, g3⟩
      rcases List.mem_cons.1 hj with rfl | hj
      · exact ⟨q, n, t, h6, h7, g1 _ _ h8⟩
      · exact g2 h j hj
end Go.Proofs.Ytjlmhfdigoogfaa
namespace Go.Proofs.Ytjlmhfdigoogfaa
open Go.RowKit Go.Shelf

theorem UMem.kmap {base ub vb kb : Nat} {vc vt : Value} {cl : List Cl} {tm : List Tm} {vs : List (Int × Int)} {w V : World} {l : ML} (h : UMem base ub vb vc vt cl tm vs w) (hk : MP w kb l) (hne : kb ≠ vb) (g : w.grownBy V (some kb)) : UMem base ub vb vc vt cl tm vs V := by
  have hv := h.v
  unfold MP at hk hv
  exact ⟨(g.block _ (heap_lt h.h) (fun e => by cases e; rw [h.h] at hk; cases hk)).trans h.h, h.c.but hk (by simp) g, h.t.but hk (by simp) g, fun x hx => (h.s x hx).but hk (by simp) g, (g.block _ (heap_lt hv) (fun e => hne (Option.some.inj e).symm)).trans hv⟩
theorem UT.kmap {base ub vb kb : Nat} {S : US} {tm : List Tm} {w V : World} {l : ML} (h : UT base ub vb S tm w) (hk : MP w kb l) (hne : kb ≠ vb) (g : w.grownBy V (some kb)) : UT base ub vb S tm V := h.alter fun _ _ h => h.kmap hk hne g
theorem grown_gr {w V U : World} {r : Option Nat} (g : Gr w V) (h : V.grownBy U r) : w.grownBy U r := ⟨h.os.trans g.os, h.tape.trans g.tape, h.output.trans g.output, Nat.le_trans g.size h.size, fun k hk hn => (h.block k (Nat.lt_of_lt_of_le hk g.size) hn).trans (g.block k hk (by simp))⟩
theorem sizesL_mono {f g : KN → Nat → Option (Bool × KN)} {fd : Nat → Option Nat} (h : ∀ kn i r, f kn i = some r → g kn i = some r) : ∀ {s : List Nat} {kn : KN} {m : Int} {r}, sizesL f fd kn s m = some r → sizesL g fd kn s m = some r
  | [], _, _, _, e => e
  | i :: s, kn, m, r, e => by
    simp only [sizesL] at e ⊢
    cases h1 : f kn i with
    | none => rw [h1] at e; cases e
    | some q =>
      obtain ⟨b, kn'⟩ := q
      rw [h1] at e
      rw [h _ _ _ h1]
      cases b with
      | false => exact e
      | true =>
        simp only at e ⊢
        cases h2 : fd i with
        | none => rw [h2] at e; cases e
        | some q =>
          rw [h2] at e
          simp only at e ⊢
          exact sizesL_mono h e
theorem sizesP_succ {tm : List (Int × List Nat)} {cl : List Cl} : ∀ {n : Nat} {kn : KN} {c : Nat} {r}, sizesP n tm cl kn c = some r → sizesP (n + 1) tm cl kn c = some r
  | 0, _, _, _, h => by simp [sizesP] at h
  | n + 1, kn, c0, r, h => by
    rw [sizesP] at h ⊢
    cases h1 : findP (cl.length + 1) cl c0 with
    | none => rw [h1] at h; cases h
    | some c =>
      rw [h1] at h
      simp only at h ⊢
      cases h2 : kget c kn with
      | some v => rw [h2] at h; exact h
      | none =>
        rw [h2] at h
        simp only at h ⊢
        cases h3 : cl[c]? with
        | none => rw [h3] at h; cases h
        | some x =>
          rw [h3] at h
          simp only at h ⊢
          by_cases h4 : x.term < 0
          · rw [if_pos h4] at h ⊢; exact h
          · rw [if_neg h4] at h ⊢
            cases h5 : tm[x.term.toNat]? with
            | none => rw [h5] at h; cases h
            | some q =>
              rw [h5] at h
              simp only at h ⊢
              cases h6 : sizesL (sizesP n tm cl) (findP (cl.length + 1) cl) (kput c (-1) kn) q.2 1 with
              | none => rw [h6] at h; cases h
              | some p =>
                rw [h6] at h
                rw [sizesL_mono (fun kn i r hr => sizesP_succ hr) h6]
                exact h
theorem sizesP_mono {tm : List (Int × List Nat)} {cl : List Cl} {n m : Nat} {kn : KN} {c : Nat} {r} (h : sizesP n tm cl kn c = some r) (hm : n ≤ m) : sizesP m tm cl kn c = some r := by
  induction hm with
  | refl => exact h
  | step _ ih => exact sizesP_succ ih
theorem sizesP_sr {tm : List (Int × List Nat)} {cl : List Cl} (hc : CI tm cl) {n : Nat} {kn kn' : KN} {c0 : Nat} {r : Bool} (hk : KI tm cl kn) (h0 : c0 < cl.length) (h : sizesP n tm cl kn c0 = some (r, kn')) : SR tm cl kn c0 r kn' := by
  obtain ⟨r1, kn1, h1, h2⟩ := sizesP_ok hc (unk cl.length kn) kn hk (Nat.le_refl _) c0 h0
  have h3 := sizesP_mono h (Nat.le_max_left n (unk cl.length kn + 1))
  have h4 := sizesP_mono h1 (Nat.le_max_right n (unk cl.length kn + 1))
  rw [h3] at h4
  cases h4
  exact h2
theorem klook {w : World} {kb : Nat} {kn : KN} (h : MP w kb (kml kn)) (k : Int) :
    (Instr.lookup 66 (.map (some kb)) (iv k) false).run Try.prog w = .ok (iv ((kget k kn).getD 0)) w ∧ (Instr.lookup 66 (.map (some kb)) (iv k) true).run Try.prog w = .ok (.tuple #[iv ((kget k kn).getD 0), .bool (kget k kn).isSome]) w := by
  have h1 := lookup_m h Try.underlying66 (z := iv 0) (by kernel_rfl) k
  rw [kml_get] at h1
  cases hq : kget k kn with
  | none => rw [hq] at h1; exact h1
  | some v => rw [hq] at h1; exact h1
theorem kupd {w : World} {kb : Nat} {kn : KN} (h : MP w kb (kml kn)) (k v : Int) : (Instr.mapUpdate 66 (.map (some kb)) (iv k) (iv v)).run Try.prog w = .ok () (World.setM w kb (kml (kput k v kn))) := by
  rw [← kml_put]
  exact update_m h Try.underlying66 k (iv v)
theorem grown_set2 {w V U : World} {r : Option Nat} (g : w.grownBy V r) (h : V.grownBy U r) : w.grownBy U r := ⟨h.os.trans g.os, h.tape.trans g.tape, h.output.trans g.output, Nat.le_trans g.size h.size, fun k hk hn => (h.block k (Nat.lt_of_lt_of_le hk g.size) hn).trans (g.block k hk hn)⟩
/-- What sizes leaves. -/
def SzP (kb : Nat) (w : World) (r : Bool) (kn' : KN) (e : Ending) (w' : World) : Prop := e = .returned (.bool r) ∧ MP w' kb (kml kn') ∧ w.grownBy w' (some kb)
set_option maxRecDepth 100000 in
set_option maxHeartbeats 4000000 in
theorem sizes_known {base ub vb kb : Nat} {S : US} {tm : List Tm} {w : World} (hu : UT base ub vb S tm w) {kn : KN} (hk : MP w kb (kml kn)) {c0 c n : Nat} {v : Int} (hf : findP n S.cl c0 = some c) (hv : kget c kn = some v) :
    Calls Try.prog 45 #[.pointer (some ⟨ub, 0, none⟩), .int .i64 c0, .map (some kb)] w (SzP kb w (decide (0 ≤ v)) kn) := by
  obtain ⟨vc, vt, hm, -, -, -⟩ := hu
  have HM := Lib.hid hm
  have HF := Lib.hid hf
  have HK := Lib.hid hk
  have hl := (klook hk c).2
  rw [hv] at hl
  simp only [Option.getD_some, Option.isSome_some] at hl
  clear hm hf hk hv
  go_enter Try.func45, Try.ntmps45
  go_wp2_with (first | (go_at_call 47; (with_reducible refine (find_any HM.out HF.out).mono ?_); rintro e w1 ⟨rfl, hw⟩; subst hw))
  go_ret
  exact ⟨rfl, HK.out, World.grownBy.refl _ _⟩
set_option maxRecDepth 100000 in
set_option maxHeartbeats 4000000 in
theorem sizes_var {base ub vb kb : Nat} {S : US} {tm : List Tm} {w : World} (hu : UT base ub vb S tm w) {kn : KN} (hk : MP w kb (kml kn)) (hne : kb ≠ vb) {c0 c n : Nat} {x : Cl} (hf : findP n S.cl c0 = some c) (hv : kget c kn = none) (hx : S.cl[c]? = some x) (hx0 : x.term < 0) :
    Calls Try.prog 45 #[.pointer (some ⟨ub, 0, none⟩), .int .i64 c0, .map (some kb)] w (SzP kb w true (kput c 1 (kput c (-1) kn))) := by
  obtain ⟨vc, vt, hm, -, -, -⟩ := hu
  obtain ⟨A, cc, rfl, -⟩ := hm.c.form Cl.cs_len
  obtain ⟨N, hN⟩ : ∃ N, S.cl.length = N := ⟨_, rfl⟩
  rw [hN] at hm
  obtain ⟨-, hc, ac, -, rfl, -⟩ := hm.c.cl hx
  have HM := Lib.hid hm
  have HF := Lib.hid hf
  have HK := Lib.hid hk
  have hl := (klook hk c).2
  rw [hv] at hl
  simp only [Option.getD_none, Option.isSome_none] at hl
  have hup := kupd hk c (-1)
  have M1 := Lib.hid (show MP (World.setM w kb (kml (kput c (-1) kn))) kb (kml (kput c (-1) kn)) from hk.set)
  have hup2 := kupd M1.out c (min 1 201)
  have G1 := Lib.hid (grown_setM w kb (kml (kput c (-1) kn)))
  have G2 := Lib.hid (grown_setM (World.setM w kb (kml (kput c (-1) kn))) kb (kml (kput c (min 1 201) (kput c (-1) kn))))
  have H1 := hm.kmap hk hne G1.out
  have C1 := H1.cls hx
  obtain ⟨⟨d0, -, -⟩, -⟩ := cell3 H1.h
  obtain ⟨pc, hpc⟩ : ∃ pc, ac.add (c * 3) = pc := ⟨_, rfl⟩
  rw [hpc] at C1
  have c1 := C1.c1
  clear hm hf hk hv hx C1 H1
  obtain ⟨m1, hm1⟩ : ∃ m, kml (kput c (-1) kn) = m := ⟨_, rfl⟩
  obtain ⟨m2, hm2⟩ : ∃ m, kml (kput c (min 1 201) (kput c (-1) kn)) = m := ⟨_, rfl⟩
  have E2 := Lib.hid hm2
  rw [hm1] at hup hup2 M1 G1 G2 d0 c1
  rw [hm2] at hup2 G2
  clear hm1 hm2 hN
  go_enter Try.func45, Try.ntmps45
  go_wp2_with (first | (go_at_call 47; (with_reducible refine (find_any HM.out HF.out).mono ?_); rintro e w1 ⟨rfl, hw⟩; subst hw))
  go_ret
  exact ⟨rfl, by have e := E2.out; rw [show min (1 : Int) 201 = 1 from rfl] at e; rw [e]; exact M1.out.set, grown_set2 G1.out G2.out⟩
end Go.Proofs.Ytjlmhfdigoogfaa
namespace Go.Proofs.Ytjlmhfdigoogfaa
open Go.RowKit Go.Shelf

/-- What sizes promises. -/
def SizesOk (base ub vb kb n : Nat) : Prop := ∀ (S : US) (tm : List Tm) (w : World) (kn : KN) (c0 : Nat) (r : Bool) (kn' : KN), UT base ub vb S tm w → MP w kb (kml kn) → kb ≠ vb → CI S.tm S.cl → KI S.tm S.cl kn → c0 < S.cl.length → sizesP n S.tm S.cl kn c0 = some (r, kn') →
  Calls Try.prog 45 #[.pointer (some ⟨ub, 0, none⟩), .int .i64 c0, .map (some kb)] w (SzP kb w r kn')
/-- Between the rounds of sizes. -/
structure SI (kb n : Nat) (S : US) (w : World) (s : List Nat) (res : Option (Option Int × KN)) (j : Nat) (m : Int) (V : World) : Prop where
  ex : ∃ kn, MP V kb (kml kn) ∧ KI S.tm S.cl kn ∧ sizesL (sizesP n S.tm S.cl) (findP (S.cl.length + 1) S.cl) kn (s.drop j) m = res
  gr : w.grownBy V (some kb)
  lo : 1 ≤ m
  hi : m ≤ 1 + 201 * j
set_option maxRecDepth 100000 in
set_option maxHeartbeats 8000000 in
theorem sizes_term {base ub vb kb n : Nat} (ih : SizesOk base ub vb kb n) {S : US} {tm : List Tm} {w : World} (hu : UT base ub vb S tm w) {kn : KN} (hk : MP w kb (kml kn)) (hne : kb ≠ vb) (hci : CI S.tm S.cl) (hki : KI S.tm S.cl kn) {c0 c f : Nat} {x : Cl} {q : Int × List Nat} (hf : findP f S.cl c0 = some c) (hv : kget c kn = none) (hx : S.cl[c]? = some x) (hx0 : ¬ x.term < 0) (hq : S.tm[x.term.toNat]? = some q) {r : Bool} {kn' : KN}
    (hr : (match sizesL (sizesP n S.tm S.cl) (findP (S.cl.length + 1) S.cl) (kput c (-1) kn) q.2 1 with
              | some (some m, kn') => some (true, kput c (min m 201) kn')
              | some (none, kn') => some (false, kn')
              | none => none) = some (r, kn')) :
    Calls Try.prog 45 #[.pointer (some ⟨ub, 0, none⟩), .int .i64 c0, .map (some kb)] w (SzP kb w r kn') := by
  have IH := Lib.hid ih
  have HU := Lib.hid hu
  have HC := Lib.hid hci
  have HNE := Lib.hid hne
  have HR := Lib.hid hr
  obtain ⟨vc, vt, hm, -, -, hE⟩ := hu
  obtain ⟨A, cc, rfl, -⟩ := hm.c.form Cl.cs_len
  obtain ⟨AT, ct, rfl, -⟩ := hm.t.form Tm.cs_len
  obtain ⟨N, hN⟩ : ∃ N, S.cl.length = N := ⟨_, rfl⟩
  obtain ⟨MT, hMT⟩ : ∃ MT, tm.length = MT := ⟨_, rfl⟩
  obtain ⟨xt, hxt⟩ : ∃ k : Nat, x.term = k := ⟨x.term.toNat, by omega⟩
  rw [hxt, Int.toNat_natCast] at hq
  obtain ⟨X, hX, eX1, eX2⟩ := tm_at hE hq
  rw [hN, hMT] at hm
  obtain ⟨-, hc, ac, -, rfl, -⟩ := hm.c.cl hx
  have HM := Lib.hid hm
  have HF := Lib.hid hf
  have HK := Lib.hid hk
  have hl := (klook hk c).2
  rw [hv] at hl
  simp only [Option.getD_none, Option.isSome_none] at hl
  have hup := kupd hk c (-1)
  have M1 := hk.set (m := kml (kput c (-1) kn))
  have G1 := grown_setM w kb (kml (kput c (-1) kn))
  have H1 := hm.kmap hk hne G1
  have C1 := H1.cls hx
  obtain ⟨⟨d0, d1, -⟩, -⟩ := cell3 H1.h
  obtain ⟨pc, hpc⟩ : ∃ pc, ac.add (c * 3) = pc := ⟨_, rfl⟩
  rw [hpc] at C1
  have c1 := C1.c1
  rw [hxt] at c1
  obtain ⟨-, kx, aT, px, rfl, hpx, -, x1⟩ := H1.tms hX
  have KI1 : KI S.tm S.cl (kput c (-1) kn) := fun d v hd => by
    rw [kget_put] at hd
    by_cases e : (d : Int) = c
    · rw [if_pos e] at hd; cases hd; exact .inl rfl
    · rw [if_neg e] at hd; exact hki d v hd
  have I0 := Lib.hid (show SI kb n S w q.2 (sizesL (sizesP n S.tm S.cl) (findP (S.cl.length + 1) S.cl) (kput c (-1) kn) q.2 1) 0 1 (World.setM w kb (kml (kput c (-1) kn))) from ⟨⟨_, M1, KI1, rfl⟩, G1, by omega, by omega⟩)
  have HXS := Lib.hid (And.intro hX eX2)
  have hlen : X.sub.length ≤ 2 := by
    rw [eX2, List.length_map]
    have := (hci.tl xt q.1 q.2 hq).1
    rw [this]
    unfold prt
    split
    · omega
    · split <;> omega
  have HQL := Lib.hid (show ∀ i ∈ q.2, i < S.cl.length from (hci.tl xt q.1 q.2 hq).2)
  have nx : ¬ (xt : Int) < 0 := by omega
  have nx2 : decide (0 ≤ (xt : Int)) = true := by simp
  clear hm hf hk hv hx C1 H1 hki KI1 M1 G1 hE hq hX eX1 eX2 hxt hx0 hr hci hN hMT ih hne
  generalize hm1 : kml (kput c (-1) kn) = m1 at *
  clear hm1
  obtain ⟨A0, hA0⟩ : ∃ A0, X.A = A0 := ⟨_, rfl⟩
  rw [hA0] at x1
  have HA0 := Lib.hid hA0
  clear hA0
  go_enter Try.func45, Try.ntmps45
  go_wp2_with (first | (go_at_call 47; (with_reducible refine (find_any HM.out HF.out).mono ?_); rintro e w1 ⟨rfl, hw⟩; subst hw))
  generalize World.setM w1 kb m1 = W1 at *
  clear hl hup d0 d1 c1 x1
  go_loopw [9, 46] (fun n9 i V => ∃ (m : Int) (j : Nat), j ≤ X.sub.length ∧ n9 = iv m ∧ i = .int .i64 j ∧ Hid (SI kb n S w1 q.2 (sizesL (sizesP n S.tm S.cl) (findP (S.cl.length + 1) S.cl) (kput c (-1) kn) q.2 1) j m V)) (fun _ i _ => X.sub.length - (intOf i).toNat)
  case atStart => exact ⟨1, 0, Nat.zero_le _, rfl, rfl, I0⟩
  case round =>
    clear I0
    obtain ⟨m, j, hj, rfl, rfl, HI⟩ := hrel
    obtain ⟨kj, hMj, hKj, hSj⟩ := HI.out.ex
    have HMj := Lib.hid hMj
    have HKj := Lib.hid hKj
    have HSj := Lib.hid hSj
    have HUj := Lib.hid (HU.out.kmap HK.out HNE.out HI.out.gr)
    clear hMj hKj hSj
    by_cases hlt : j < X.sub.length
    · cases hs : q.2.drop j with
      | nil => exfalso; have h1 := congrArg List.length hs; have h2 := congrArg List.length HXS.out.2; simp at h1 h2; omega
      | cons si s' =>
        obtain ⟨hs1, hs2⟩ := drop_cons hs
        obtain ⟨-, ax, eax, x0⟩ := (HUj.out.num HXS.out.1).2 j (si : Int) (by rw [HXS.out.2, List.getElem?_map, hs1]; rfl)
        rw [HA0.out] at eax
        subst eax
        have h1 := HSj.out
        rw [hs] at h1
        simp only [sizesL] at h1
        have hsl : si < S.cl.length := HQL.out si (List.mem_of_getElem? hs1)
        have hml := HI.out.lo
        have hmh := HI.out.hi
        cases hq : sizesP n S.tm S.cl kj si with
        | none => rw [hq] at h1; have h2 := HR.out; rw [← h1] at h2; cases h2
        | some p =>
          obtain ⟨b, k2⟩ := p
          have HQ := Lib.hid hq
          have SRj := Lib.hid (sizesP_sr HC.out HKj.out hsl hq)
          have CL := Lib.hid (IH.out S tm wr kj si b k2 HUj.out HMj.out HNE.out HC.out HKj.out hsl hq)
          rw [hq] at h1
          cases b with
          | false =>
            have H1 := Lib.hid h1
            clear h1 hs hs1 hs2 hq
            go_wp2_with (first | (go_at_call 45; refine CL.out.mono ?_; rintro e w2 ⟨rfl, hM2, hG2⟩; have M2 := Lib.hid hM2; have G2 := Lib.hid hG2; clear hM2 hG2))
            go_ret
            have h2 := HR.out
            rw [← H1.out] at h2
            simp only [Option.some.injEq, Prod.mk.injEq] at h2
            obtain ⟨rfl, rfl⟩ := h2
            exact ⟨rfl, M2.out, grown_set2 HI.out.gr G2.out⟩
          | true =>
            simp only at h1
            obtain ⟨-, qi, N2, t, hf2, -, hv2⟩ := SRj.out.2.2.1 rfl
            rw [hf2] at h1
            simp only [hv2, Option.getD_some] at h1
            have htp := size_pos t
            obtain ⟨v, hv⟩ : ∃ v, min (t.size : Int) 201 = v := ⟨_, rfl⟩
            have hv3 : 1 ≤ v ∧ v ≤ 201 := by omega
            rw [hv] at h1 hv2
            have H1 := Lib.hid h1
            have HV2 := Lib.hid hv2
            have HF2 := Lib.hid hf2
            have HS2 := Lib.hid hs2
            have hw : wrap64 (m + v) = m + v := by unfold wrap64; omega
            clear h1 hs hs1 hs2 hq hv hv2 hf2 htp
            go_wp2_with (first | (go_at_call 45; refine CL.out.mono ?_; rintro e w2 ⟨rfl, hM2, hG2⟩; have M2 := Lib.hid hM2; have G2 := Lib.hid hG2; clear hM2 hG2; obtain ⟨vc2, vt2, um2, -⟩ := HUj.out.kmap HMj.out HNE.out G2.out; have UM2 := Lib.hid um2; clear um2; have hl2 := (klook M2.out qi).1; rw [HV2.out, Option.getD_some] at hl2) | (go_at_call 47; (with_reducible refine (find_any UM2.out HF2.out).mono ?_); rintro e w3 ⟨rfl, hw3⟩; subst hw3))
            exact ⟨⟨m + v, j + 1, hlt, rfl, by simp, Lib.hid ⟨⟨k2, M2.out, SRj.out.1, by rw [HS2.out]; exact H1.out⟩, grown_set2 HI.out.gr G2.out, by omega, by omega⟩⟩, by simp [intOf]; omega⟩
    · obtain rfl : X.sub.length = j := by omega
      have hd : q.2.drop X.sub.length = [] := List.drop_of_length_le (by have h2 := congrArg List.length HXS.out.2; simp at h2; omega)
      have h1 := HSj.out
      rw [hd] at h1
      simp only [sizesL] at h1
      have h2 := HR.out
      rw [← h1] at h2
      simp only [Option.some.injEq, Prod.mk.injEq] at h2
      obtain ⟨rfl, rfl⟩ := h2
      have hup := kupd HMj.out c (min m 201)
      have G9 := Lib.hid (grown_setM wr kb (kml (kput c (min m 201) kj)))
      have M9 := Lib.hid (HMj.out.set (m := kml (kput c (min m 201) kj)))
      obtain ⟨m9, hm9⟩ : ∃ m9, kml (kput c (min m 201) kj) = m9 := ⟨_, rfl⟩
      have E9 := Lib.hid hm9
      rw [hm9] at hup G9 M9
      clear h1 hd hm9
      go_wp2
      go_ret
      exact ⟨rfl, by rw [E9.out]; exact M9.out, grown_set2 HI.out.gr G9.out⟩
theorem sizes_any (base ub vb kb n : Nat) : SizesOk base ub vb kb n := by
  induction n with
  | zero => intro S tm w kn c0 r kn' _ _ _ _ _ _ h; simp [sizesP] at h
  | succ n ih =>
    intro S tm w kn c0 r kn' hu hk hne hci hki h0 h
    rw [sizesP] at h
    cases fa : findP (S.cl.length + 1) S.cl c0 with
    | none => rw [fa] at h; simp at h
    | some c =>
      obtain ⟨x, hx, -⟩ := findP_root fa
      rw [fa] at h
      simp only at h
      cases hv : kget c kn with
      | some v =>
        rw [hv] at h
        obtain ⟨rfl, rfl⟩ := Prod.mk.inj (Option.some.inj h)
        exact sizes_known hu hk fa hv
      | none =>
        rw [hv, hx] at h
        simp only at h
        by_cases hx0 : x.term < 0
        · rw [if_pos hx0] at h
          obtain ⟨rfl, rfl⟩ := Prod.mk.inj (Option.some.inj h)
          exact sizes_var hu hk hne fa hv hx hx0
        · rw [if_neg hx0] at h
          cases hq : S.tm[x.term.toNat]? with
          | none => rw [hq] at h; cases h
          | some q =>
            rw [hq] at h
            exact sizes_term ih hu hk hne hci hki fa hv hx hx0 hq h
end Go.Proofs.Ytjlmhfdigoogfaa
namespace Go.Proofs.Ytjlmhfdigoogfaa
open Go.RowKit

set_option maxRecDepth 100000 in
set_option maxHeartbeats 4000000 in
theorem replace59 (p0 : Addr) (f : Int → PT) (w0 : World) (hf : ∀ n V, Gr w0 V → Calls Try.prog 59 #[iv n, .pointer (some p0)] V (FR w0 (f n) V)) (x : Ty) : ∀ w, Gr w0 w → x.Rd w → x.er.size ≤ 1000 → Calls Try.prog 58 #[x.v, .func (.func 59) #[] #[.pointer (some p0)]] w (FR w0 (x.er.rep f) w) := by
  have HF := Lib.hid hf
  clear hf
  induction x using Ty.ind with
  | h x ih =>
    intro w hg hx hz
    have IH := Lib.hid ih
    have HX := Lib.hid (fun V (g : Gr w V) => TRd.gr hx g)
    have BX := Lib.hid (B1.of x.kind x.var (.slice x.A x.sub.length x.c) w)
    have ER := Lib.hid (rep_eq f x.er)
    rw [er_kind, er_var, er_sub] at ER
    have EK := Lib.hid (er_kind x)
    have HG := Lib.hid hg
    obtain ⟨K, hK⟩ : ∃ K, x.kind = K := ⟨_, rfl⟩
    rw [hK] at BX ER
    unfold Ty.v
    rw [hK]
    obtain ⟨b0, b1, b2⟩ := BX.out.c
    clear hg hx ih
    by_cases h5 : K = 5
    · subst h5
      clear hK
      rw [if_pos rfl] at ER
      have I1 := Lib.hid (show Gr w ((w.alloc (.cells #[iv 5, iv x.var, .slice x.A x.sub.length x.c] 24)).alloc (.cells #[iv 0, iv 0, .slice none 0 0] 24)) from (gr_al _ _).trans (gr_al _ _))
      have I2 := Lib.hid (show ((w.alloc (.cells #[iv 5, iv x.var, .slice x.A x.sub.length x.c] 24)).alloc (.cells #[iv 0, iv 0, .slice none 0 0] 24)).heap[w.heap.size + 1]? = some (.cells #[iv 0, iv 0, .slice none 0 0] 24 (0, 0)) from al_at _ _ (by simp))
      have FV := Lib.hid (fun V (g : Gr w V) => HF.out x.var V (HG.out.trans g))
      go_enter Try.func58, Try.ntmps58
      go_wp2_with (first | (go_at_call 59; refine (FV.out _ I1.out).mono ?_; rintro e w1 ⟨⟨r, rfl, tr⟩, g1⟩; have G1 := Lib.hid g1; have T1 := Lib.hid tr; have H1 := Lib.hid (gr_h g1 I2.out); obtain ⟨y, rfl, -, -, -⟩ := tr; unfold Ty.v at T1 ⊢; obtain ⟨⟨d0, d1, d2⟩, fz⟩ := cell3 H1.out; have z0 := fz 0; have z1 := fz 1; have z2 := fz 2; clear g1 fz))
      have HH := Lib.hid (set3 (a' := iv y.kind) (b' := iv y.var) (c' := .slice y.A y.sub.length y.c) H1.out)
      refine bodyPost_ret (results_cell_row (P := Try.prog) rfl _ _ (w.heap.size + 1) _ _ _ _ rfl HH.out rfl rfl rfl) rfl ⟨⟨_, rfl, ?_⟩, ?_⟩
      · rw [ER.out]
        refine ((T1.out.mono (S' := fun k => k < w0.heap.size ∨ w.heap.size + 2 ≤ k) fun k hk => hk.imp id fun h => by simpa using h).but (k := w.heap.size + 1) (fun h => ?_) (by simp [World.setCell]) fun j hj _ => ?_).mono fun k hk => hk.imp id fun h => by omega
        · have := HG.out.size; omega
        · exact ((Below.heap_setCell _ _ _ _ hj).trans (Below.heap_setCell _ _ _ _ hj)).trans (Below.heap_setCell _ _ _ _ hj)
      · exact gr_cell (gr_cell (gr_cell (I1.out.trans G1.out) (by omega) _) (by omega) _) (by omega) _
    · have hb5 : (K == 5) = false := by simpa using h5
      rw [if_neg h5] at ER
      have hlen : x.sub.length ≤ 1000 := by
        have := size_eq x.er
        have h2 := psz_len x.er.sub
        rw [er_sub] at this h2
        simp at h2
        omega
      have I00 : RI f w0 x K w 0 (.slice none 0 0) (((w.alloc (.cells #[iv K, iv x.var, .slice x.A x.sub.length x.c] 24)).alloc (.cells #[iv 0, iv 0, .slice none 0 0] 24)).alloc (.cells #[iv K, iv 0, .slice none 0 0] 24)) := by
        refine ⟨((gr_al _ _).trans (gr_al _ _)).trans (gr_al _ _), ?_, ?_, ?_, [], OR.nil, by simp, by simp⟩
        · exact ((Below.heap_alloc _ _ _ (by simp; omega)).trans (Below.heap_alloc _ _ _ (by simp))).trans (al_new w _)
        · exact (Below.heap_alloc _ _ _ (by simp)).trans (al_at _ _ (by simp))
        · exact al_at _ _ (by simp)
      have I0 := Lib.hid I00
      clear I00
      go_enter Try.func58, Try.ntmps58
      go_wp2
      go_loopw [21] (fun i V => ∃ k A c, k ≤ x.sub.length ∧ i = .int .i64 (k : Nat) ∧ Hid (RI f w0 x K w k (.slice A k c) V)) (fun i _ => x.sub.length - (intOf i).toNat)
      case atStart => exact ⟨0, none, 0, Nat.zero_le _, rfl, I0⟩
      case round =>
        clear I0 BX b0 b1 b2
        obtain ⟨k, A, c, hk, rfl, HR⟩ := hrel
        obtain ⟨⟨b0, b1, b2⟩, -⟩ := cell3 HR.out.t2
        obtain ⟨⟨c0, c1, c2⟩, -⟩ := cell3 HR.out.t4
        obtain ⟨⟨d0, d1, d2⟩, fz⟩ := cell3 HR.out.t5
        have z2 := fz 2
        clear fz
        by_cases hlt : k < x.sub.length
        · obtain ⟨a, a1, hA, ha, hab, e0, e1, e2, hsub⟩ := (HX.out _ HR.out.gr).at hlt
          have IM := List.getElem_mem hlt
          have PS := Lib.hid (show (ers x.sub)[k]? = some x.sub[k].er from ers_get hlt)
          have CL := Lib.hid (fun V (g : Gr wr V) => IH.out _ IM V ((HG.out.trans HR.out.gr).trans g) (hsub.gr g) (by have h1 := psz_mem (x := x.sub[k].er) (l := ers x.sub) (by rw [ers_map]; exact List.mem_map.2 ⟨_, IM, rfl⟩); have h2 := size_eq x.er; rw [er_sub] at h2; omega))
          generalize x.sub[k] = y at *
          rw [hA] at b2 ⊢
          unfold Ty.v at CL
          clear hA hsub IM
          go_upto_region 7 with (fail)
          have J1 := Lib.hid (show (wr.alloc (.cells #[iv y.kind, iv y.var, .slice y.A y.sub.length y.c] 24)).heap[wr.heap.size]? = some (.cells #[iv y.kind, iv y.var, .slice y.A y.sub.length y.c] 24 (0, 0)) from al_new _ _)
          have J2 := Lib.hid (gr_al wr (.cells #[iv y.kind, iv y.var, .slice y.A y.sub.length y.c] 24))
          have J3 := Lib.hid (show (wr.alloc (.cells #[iv y.kind, iv y.var, .slice y.A y.sub.length y.c] 24)).heap[w.heap.size + 2]? = some (.cells #[iv K, iv 0, .slice A k c] 24 (0, 0)) from gr_h J2.out HR.out.t5)
          generalize hW1 : wr.alloc (.cells #[.int .i64 y.kind, .int .i64 y.var, .slice y.A y.sub.length y.c] 24) = W1 at *
          clear hW1 b0 b1 b2 c0 c1 c2 d0 d1 d2 z2 e0 e1 e2
          have CL2 := Lib.hid (fun V (g : Gr W1 V) => CL.out V (J2.out.trans g))
          obtain ⟨⟨b0, b1, b2⟩, -⟩ := cell3 J1.out
          obtain ⟨⟨d0, d1, d2⟩, fz⟩ := cell3 J3.out
          have z2 := fz 2
          clear fz CL
          obtain ⟨L, ho, hE, hL⟩ := HR.out.ex
          have hk1 : L.length = k := by have := congrArg List.length hE; simp at this; omega
          have HO := Lib.hid (fun V (g : Gr wr V) => ho.gr g)
          have HL := Lib.hid hL
          have HE := Lib.hid hE
          have HK := Lib.hid hk1
          have HN := Lib.hid HR.out.gr.size
          clear ho hL hE hk1
          have HB := Lib.hid (show ∀ V : World, Gr wr V → ∀ j, (Value.slice A k c).ownBlock = some j → w.heap.size + 3 ≤ j from fun V g j hj => ((HO.out V g).lt j hj).1)
          have HS1 := Lib.hid (show ∀ q : Ty, L.length + [q].length ≤ 1000000 from fun q => by have := HK.out; simp; omega)
          go_region_law (first | (go_simp; go_at_call 58; refine (CL2.out _ (gr_drew _)).mono ?_; rintro e w6 ⟨⟨r, rfl, q, rfl, tr⟩, g6⟩; have g7 : Gr W1 w6 := (gr_drew _).trans g6; unfold Ty.v; obtain ⟨⟨f0, f1, f2⟩, -⟩ := cell3 (gr_h g7 J1.out); obtain ⟨⟨k0, k1, k2⟩, fz6⟩ := cell3 (gr_h g7 J3.out); have z6 := fz6 2; obtain ⟨⟨k3, k4, k5⟩, -⟩ := cell3 (gr_h (g7.trans (gr_al w6 (.cells #[iv q.kind, iv q.var, .slice q.A q.sub.length q.c] 24))) J3.out); have T6 := Lib.hid tr; have G6 := Lib.hid g7; have S6 := Lib.hid (show w.heap.size + 3 ≤ w6.heap.size from by have h1 := HN.out; have h2 := J2.out.size; have h3 := g7.size; have h4 := heap_lt HR.out.t5; omega); have S7 := Lib.hid (show ∀ o : Obj, w.heap.size + 3 ≤ (w6.alloc o).heap.size from fun o => by have := S6.out; simp; omega); clear tr g6 g7 fz6) | (refine step_appT rfl (.tmp 26) (.tmp 30) rfl (w.heap.size + 3) (v := .slice A k c) (L := L) (by simp [Act.eval]) (HO.out _ ((J2.out.trans G6.out).trans (gr_al _ _))) (A := some ⟨w6.heap.size, 0, none⟩) (M := [q]) (m := 1) (c := 1) rfl (by simp [Act.eval]) (rd_cells (t := 24) Ty.cs_len (al_new _ _)) (by simp) (HS1.out q) (S7.out _) ?_; intro v7 w7 o7 g7 b7; obtain ⟨A7, c7, rfl, -⟩ := o7.form Ty.cs_len; have l7 : (L ++ [q]).length = k + 1 := (by simp [HK.out]); rw [l7] at o7 b7 ⊢; have O7 := Lib.hid o7; have G7 := Lib.hid g7; have B7 := Lib.hid b7; have K7 := Lib.hid (show w7.heap[w.heap.size + 2]? = some (.cells #[iv K, iv 0, .slice A k c] 24 (0, 0)) from (g7.block _ (Nat.lt_of_lt_of_le (by omega) (S7.out _)) (fun e => by have := HB.out _ (J2.out.trans G6.out) _ e.symm; omega)).trans (gr_h (gr_al _ _) (gr_h G6.out J3.out))); obtain ⟨⟨m0, m1, m2⟩, fz7⟩ := cell3 K7.out; have z7 := fz7 2; clear fz7 o7 g7 b7 l7))
          all_goals go_wp2
          all_goals exact ⟨⟨k + 1, A7, c7, by omega, by simp, Lib.hid (ri_step HR.out HG.out.size HE.out HL.out (HO.out _ (gr_refl _)) (J2.out.trans (gr_drew _)).size (J2.out.trans G6.out) T6.out.1 T6.out.2.1 T6.out.2.2 PS.out O7.out G7.out B7.out)⟩, by simp [intOf]; omega⟩
        · obtain rfl : x.sub.length = k := by omega
          obtain ⟨L, ho, hE, hL⟩ := HR.out.ex
          have hk1 : L.length = x.sub.length := by have := congrArg List.length hE; simp at this; omega
          have FN := Lib.hid (fun (V : World) (hV : V.heap.size = wr.heap.size) (st : ∀ j, j ≠ w.heap.size + 1 → V.heap[j]? = wr.heap[j]?) => ri_end HR.out HG.out.size ho hE hL hk1 V hV st)
          have H4 := Lib.hid (set3 (a' := iv K) (b' := iv 0) (c' := .slice A x.sub.length c) HR.out.t4)
          clear hE hL ho hk1
          obtain ⟨-, fz4⟩ := cell3 HR.out.t4
          have y0 := fz4 0
          have y1 := fz4 1
          have y2 := fz4 2
          clear fz4
          go_wp2
          refine bodyPost_ret (results_cell_row (P := Try.prog) rfl _ _ (w.heap.size + 1) _ _ _ _ rfl H4.out rfl rfl rfl) rfl ⟨⟨_, rfl, ?_⟩, ?_⟩
          · rw [ER.out]
            exact FN.out _ (by simp [World.setCell]) fun j hj => ((Below.heap_setCell _ _ _ _ hj).trans (Below.heap_setCell _ _ _ _ hj)).trans (Below.heap_setCell _ _ _ _ hj)
          · exact gr_cell (gr_cell (gr_cell HR.out.gr (by omega) _) (by omega) _) (by omega) _
set_option maxRecDepth 100000 in
set_option maxHeartbeats 4000000 in
theorem replace64 (p0 : Addr) (f : Int → PT) (w0 : World) (hf : ∀ n V, Gr w0 V → Calls Try.prog 64 #[iv n, .pointer (some p0)] V (FR w0 (f n) V)) (x : Ty) : ∀ w, Gr w0 w → x.Rd w → x.er.size ≤ 1000 → Calls Try.prog 58 #[x.v, .func (.func 64) #[] #[.pointer (some p0)]] w (FR w0 (x.er.rep f) w) := by
  have HF := Lib.hid hf
  clear hf
  induction x using Ty.ind with
  | h x ih =>
    intro w hg hx hz
    have IH := Lib.hid ih
    have HX := Lib.hid (fun V (g : Gr w V) => TRd.gr hx g)
    have BX := Lib.hid (B1.of x.kind x.var (.slice x.A x.sub.length x.c) w)
    have ER := Lib.hid (rep_eq f x.er)
    rw [er_kind, er_var, er_sub] at ER
    have EK := Lib.hid (er_kind x)
    have HG := Lib.hid hg
    obtain ⟨K, hK⟩ : ∃ K, x.kind = K := ⟨_, rfl⟩
    rw [hK] at BX ER
    unfold Ty.v
    rw [hK]
    obtain ⟨b0, b1, b2⟩ := BX.out.c
    clear hg hx ih
    by_cases h5 : K = 5
    · subst h5
      clear hK
      rw [if_pos rfl] at ER
      have I1 := Lib.hid (show Gr w ((w.alloc (.cells #[iv 5, iv x.var, .slice x.A x.sub.length x.c] 24)).alloc (.cells #[iv 0, iv 0, .slice none 0 0] 24)) from (gr_al _ _).trans (gr_al _ _))
      have I2 := Lib.hid (show ((w.alloc (.cells #[iv 5, iv x.var, .slice x.A x.sub.length x.c] 24)).alloc (.cells #[iv 0, iv 0, .slice none 0 0] 24)).heap[w.heap.size + 1]? = some (.cells #[iv 0, iv 0, .slice none 0 0] 24 (0, 0)) from al_at _ _ (by simp))
      have FV := Lib.hid (fun V (g : Gr w V) => HF.out x.var V (HG.out.trans g))
      go_enter Try.func58, Try.ntmps58
      go_wp2_with (first | (go_at_call 64; refine (FV.out _ I1.out).mono ?_; rintro e w1 ⟨⟨r, rfl, tr⟩, g1⟩; have G1 := Lib.hid g1; have T1 := Lib.hid tr; have H1 := Lib.hid (gr_h g1 I2.out); obtain ⟨y, rfl, -, -, -⟩ := tr; unfold Ty.v at T1 ⊢; obtain ⟨⟨d0, d1, d2⟩, fz⟩ := cell3 H1.out; have z0 := fz 0; have z1 := fz 1; have z2 := fz 2; clear g1 fz))
      have HH := Lib.hid (set3 (a' := iv y.kind) (b' := iv y.var) (c' := .slice y.A y.sub.length y.c) H1.out)
      refine bodyPost_ret (results_cell_row (P := Try.prog) rfl _ _ (w.heap.size + 1) _ _ _ _ rfl HH.out rfl rfl rfl) rfl ⟨⟨_, rfl, ?_⟩, ?_⟩
      · rw [ER.out]
        refine ((T1.out.mono (S' := fun k => k < w0.heap.size ∨ w.heap.size + 2 ≤ k) fun k hk => hk.imp id fun h => by simpa using h).but (k := w.heap.size + 1) (fun h => ?_) (by simp [World.setCell]) fun j hj _ => ?_).mono fun k hk => hk.imp id fun h => by omega
        · have := HG.out.size; omega
        · exact ((Below.heap_setCell _ _ _ _ hj).trans (Below.heap_setCell _ _ _ _ hj)).trans (Below.heap_setCell _ _ _ _ hj)
      · exact gr_cell (gr_cell (gr_cell (I1.out.trans G1.out) (by omega) _) (by omega) _) (by omega) _
    · have hb5 : (K == 5) = false := by simpa using h5
      rw [if_neg h5] at ER
      have hlen : x.sub.length ≤ 1000 := by
        have := size_eq x.er
        have h2 := psz_len x.er.sub
        rw [er_sub] at this h2
        simp at h2
        omega
      have I00 : RI f w0 x K w 0 (.slice none 0 0) (((w.alloc (.cells #[iv K, iv x.var, .slice x.A x.sub.length x.c] 24)).alloc (.cells #[iv 0, iv 0, .slice none 0 0] 24)).alloc (.cells #[iv K, iv 0, .slice none 0 0] 24)) := by
        refine ⟨((gr_al _ _).trans (gr_al _ _)).trans (gr_al _ _), ?_, ?_, ?_, [], OR.nil, by simp, by simp⟩
        · exact ((Below.heap_alloc _ _ _ (by simp; omega)).trans (Below.heap_alloc _ _ _ (by simp))).trans (al_new w _)
        · exact (Below.heap_alloc _ _ _ (by simp)).trans (al_at _ _ (by simp))
        · exact al_at _ _ (by simp)
      have I0 := Lib.hid I00
      clear I00
      go_enter Try.func58, Try.ntmps58
      go_wp2
      go_loopw [21] (fun i V => ∃ k A c, k ≤ x.sub.length ∧ i = .int .i64 (k : Nat) ∧ Hid (RI f w0 x K w k (.slice A k c) V)) (fun i _ => x.sub.length - (intOf i).toNat)
      case atStart => exact ⟨0, none, 0, Nat.zero_le _, rfl, I0⟩
      case round =>
        clear I0 BX b0 b1 b2
        obtain ⟨k, A, c, hk, rfl, HR⟩ := hrel
        obtain ⟨⟨b0, b1, b2⟩, -⟩ := cell3 HR.out.t2
        obtain ⟨⟨c0, c1, c2⟩, -⟩ := cell3 HR.out.t4
        obtain ⟨⟨d0, d1, d2⟩, fz⟩ := cell3 HR.out.t5
        have z2 := fz 2
        clear fz
        by_cases hlt : k < x.sub.length
        · obtain ⟨a, a1, hA, ha, hab, e0, e1, e2, hsub⟩ := (HX.out _ HR.out.gr).at hlt
          have IM := List.getElem_mem hlt
          have PS := Lib.hid (show (ers x.sub)[k]? = some x.sub[k].er from ers_get hlt)
          have CL := Lib.hid (fun V (g : Gr wr V) => IH.out _ IM V ((HG.out.trans HR.out.gr).trans g) (hsub.gr g) (by have h1 := psz_mem (x := x.sub[k].er) (l := ers x.sub) (by rw [ers_map]; exact List.mem_map.2 ⟨_, IM, rfl⟩); have h2 := size_eq x.er; rw [er_sub] at h2; omega))
          generalize x.sub[k] = y at *
          rw [hA] at b2 ⊢
          unfold Ty.v at CL
          clear hA hsub IM
          go_upto_region 7 with (fail)
          have J1 := Lib.hid (show (wr.alloc (.cells #[iv y.kind, iv y.var, .slice y.A y.sub.length y.c] 24)).heap[wr.heap.size]? = some (.cells #[iv y.kind, iv y.var, .slice y.A y.sub.length y.c] 24 (0, 0)) from al_new _ _)
          have J2 := Lib.hid (gr_al wr (.cells #[iv y.kind, iv y.var, .slice y.A y.sub.length y.c] 24))
          have J3 := Lib.hid (show (wr.alloc (.cells #[iv y.kind, iv y.var, .slice y.A y.sub.length y.c] 24)).heap[w.heap.size + 2]? = some (.cells #[iv K, iv 0, .slice A k c] 24 (0, 0)) from gr_h J2.out HR.out.t5)
          generalize hW1 : wr.alloc (.cells #[.int .i64 y.kind, .int .i64 y.var, .slice y.A y.sub.length y.c] 24) = W1 at *
          clear hW1 b0 b1 b2 c0 c1 c2 d0 d1 d2 z2 e0 e1 e2
          have CL2 := Lib.hid (fun V (g : Gr W1 V) => CL.out V (J2.out.trans g))
          obtain ⟨⟨b0, b1, b2⟩, -⟩ := cell3 J1.out
          obtain ⟨⟨d0, d1, d2⟩, fz⟩ := cell3 J3.out
          have z2 := fz 2
          clear fz CL
          obtain ⟨L, ho, hE, hL⟩ := HR.out.ex
          have hk1 : L.length = k := by have := congrArg List.length hE; simp at this; omega
          have HO := Lib.hid (fun V (g : Gr wr V) => ho.gr g)
          have HL := Lib.hid hL
          have HE := Lib.hid hE
          have HK := Lib.hid hk1
          have HN := Lib.hid HR.out.gr.size
          clear ho hL hE hk1
          have HB := Lib.hid (show ∀ V : World, Gr wr V → ∀ j, (Value.slice A k c).ownBlock = some j → w.heap.size + 3 ≤ j from fun V g j hj => ((HO.out V g).lt j hj).1)
          have HS1 := Lib.hid (show ∀ q : Ty, L.length + [q].length ≤ 1000000 from fun q => by have := HK.out; simp; omega)
          go_region_law (first | (go_simp; go_at_call 58; refine (CL2.out _ (gr_drew _)).mono ?_; rintro e w6 ⟨⟨r, rfl, q, rfl, tr⟩, g6⟩; have g7 : Gr W1 w6 := (gr_drew _).trans g6; unfold Ty.v; obtain ⟨⟨f0, f1, f2⟩, -⟩ := cell3 (gr_h g7 J1.out); obtain ⟨⟨k0, k1, k2⟩, fz6⟩ := cell3 (gr_h g7 J3.out); have z6 := fz6 2; obtain ⟨⟨k3, k4, k5⟩, -⟩ := cell3 (gr_h (g7.trans (gr_al w6 (.cells #[iv q.kind, iv q.var, .slice q.A q.sub.length q.c] 24))) J3.out); have T6 := Lib.hid tr; have G6 := Lib.hid g7; have S6 := Lib.hid (show w.heap.size + 3 ≤ w6.heap.size from by have h1 := HN.out; have h2 := J2.out.size; have h3 := g7.size; have h4 := heap_lt HR.out.t5; omega); have S7 := Lib.hid (show ∀ o : Obj, w.heap.size + 3 ≤ (w6.alloc o).heap.size from fun o => by have := S6.out; simp; omega); clear tr g6 g7 fz6) | (refine step_appT rfl (.tmp 26) (.tmp 30) rfl (w.heap.size + 3) (v := .slice A k c) (L := L) (by simp [Act.eval]) (HO.out _ ((J2.out.trans G6.out).trans (gr_al _ _))) (A := some ⟨w6.heap.size, 0, none⟩) (M := [q]) (m := 1) (c := 1) rfl (by simp [Act.eval]) (rd_cells (t := 24) Ty.cs_len (al_new _ _)) (by simp) (HS1.out q) (S7.out _) ?_; intro v7 w7 o7 g7 b7; obtain ⟨A7, c7, rfl, -⟩ := o7.form Ty.cs_len; have l7 : (L ++ [q]).length = k + 1 := (by simp [HK.out]); rw [l7] at o7 b7 ⊢; have O7 := Lib.hid o7; have G7 := Lib.hid g7; have B7 := Lib.hid b7; have K7 := Lib.hid (show w7.heap[w.heap.size + 2]? = some (.cells #[iv K, iv 0, .slice A k c] 24 (0, 0)) from (g7.block _ (Nat.lt_of_lt_of_le (by omega) (S7.out _)) (fun e => by have := HB.out _ (J2.out.trans G6.out) _ e.symm; omega)).trans (gr_h (gr_al _ _) (gr_h G6.out J3.out))); obtain ⟨⟨m0, m1, m2⟩, fz7⟩ := cell3 K7.out; have z7 := fz7 2; clear fz7 o7 g7 b7 l7))
          all_goals go_wp2
          all_goals exact ⟨⟨k + 1, A7, c7, by omega, by simp, Lib.hid (ri_step HR.out HG.out.size HE.out HL.out (HO.out _ (gr_refl _)) (J2.out.trans (gr_drew _)).size (J2.out.trans G6.out) T6.out.1 T6.out.2.1 T6.out.2.2 PS.out O7.out G7.out B7.out)⟩, by simp [intOf]; omega⟩
        · obtain rfl : x.sub.length = k := by omega
          obtain ⟨L, ho, hE, hL⟩ := HR.out.ex
          have hk1 : L.length = x.sub.length := by have := congrArg List.length hE; simp at this; omega
          have FN := Lib.hid (fun (V : World) (hV : V.heap.size = wr.heap.size) (st : ∀ j, j ≠ w.heap.size + 1 → V.heap[j]? = wr.heap[j]?) => ri_end HR.out HG.out.size ho hE hL hk1 V hV st)
          have H4 := Lib.hid (set3 (a' := iv K) (b' := iv 0) (c' := .slice A x.sub.length c) HR.out.t4)
          clear hE hL ho hk1
          obtain ⟨-, fz4⟩ := cell3 HR.out.t4
          have y0 := fz4 0
          have y1 := fz4 1
          have y2 := fz4 2
          clear fz4
          go_wp2
          refine bodyPost_ret (results_cell_row (P := Try.prog) rfl _ _ (w.heap.size + 1) _ _ _ _ rfl H4.out rfl rfl rfl) rfl ⟨⟨_, rfl, ?_⟩, ?_⟩
          · rw [ER.out]
            exact FN.out _ (by simp [World.setCell]) fun j hj => ((Below.heap_setCell _ _ _ _ hj).trans (Below.heap_setCell _ _ _ _ hj)).trans (Below.heap_setCell _ _ _ _ hj)
          · exact gr_cell (gr_cell (gr_cell HR.out.gr (by omega) _) (by omega) _) (by omega) _
set_option maxRecDepth 100000 in
set_option maxHeartbeats 4000000 in
theorem replace67 (p0 q0 : Addr) (f : Int → PT) (w0 : World) (hf : ∀ n V, Gr w0 V → Calls Try.prog 67 #[iv n, .pointer (some p0), .pointer (some q0)] V (FR w0 (f n) V)) (x : Ty) : ∀ w, Gr w0 w → x.Rd w → x.er.size ≤ 1000 → Calls Try.prog 58 #[x.v, .func (.func 67) #[] #[.pointer (some p0), .pointer (some q0)]] w (FR w0 (x.er.rep f) w) := by
  have HF := Lib.hid hf
  clear hf
  induction x using Ty.ind with
  | h x ih =>
    intro w hg hx hz
    have IH := Lib.hid ih
    have HX := Lib.hid (fun V (g : Gr w V) => TRd.gr hx g)
    have BX := Lib.hid (B1.of x.kind x.var (.slice x.A x.sub.length x.c) w)
    have ER := Lib.hid (rep_eq f x.er)
    rw [er_kind, er_var, er_sub] at ER
    have EK := Lib.hid (er_kind x)
    have HG := Lib.hid hg
    obtain ⟨K, hK⟩ : ∃ K, x.kind = K := ⟨_, rfl⟩
    rw [hK] at BX ER
    unfold Ty.v
    rw [hK]
    obtain ⟨b0, b1, b2⟩ := BX.out.c
    clear hg hx ih
    by_cases h5 : K = 5
    · subst h5
      clear hK
      rw [if_pos rfl] at ER
      have I1 := Lib.hid (show Gr w ((w.alloc (.cells #[iv 5, iv x.var, .slice x.A x.sub.length x.c] 24)).alloc (.cells #[iv 0, iv 0, .slice none 0 0] 24)) from (gr_al _ _).trans (gr_al _ _))
      have I2 := Lib.hid (show ((w.alloc (.cells #[iv 5, iv x.var, .slice x.A x.sub.length x.c] 24)).alloc (.cells #[iv 0, iv 0, .slice none 0 0] 24)).heap[w.heap.size + 1]? = some (.cells #[iv 0, iv 0, .slice none 0 0] 24 (0, 0)) from al_at _ _ (by simp))
      have FV := Lib.hid (fun V (g : Gr w V) => HF.out x.var V (HG.out.trans g))
      go_enter Try.func58, Try.ntmps58
      go_wp2_with (first | (go_at_call 67; refine (FV.out _ I1.out).mono ?_; rintro e w1 ⟨⟨r, rfl, tr⟩, g1⟩; have G1 := Lib.hid g1; have T1 := Lib.hid tr; have H1 := Lib.hid (gr_h g1 I2.out); obtain ⟨y, rfl, -, -, -⟩ := tr; unfold Ty.v at T1 ⊢; obtain ⟨⟨d0, d1, d2⟩, fz⟩ := cell3 H1.out; have z0 := fz 0; have z1 := fz 1; have z2 := fz 2; clear g1 fz))
      have HH := Lib.hid (set3 (a' := iv y.kind) (b' := iv y.var) (c' := .slice y.A y.sub.length y.c) H1.out)
      refine bodyPost_ret (results_cell_row (P := Try.prog) rfl _ _ (w.heap.size + 1) _ _ _ _ rfl HH.out rfl rfl rfl) rfl ⟨⟨_, rfl, ?_⟩, ?_⟩
      · rw [ER.out]
        refine ((T1.out.mono (S' := fun k => k < w0.heap.size ∨ w.heap.size + 2 ≤ k) fun k hk => hk.imp id fun h => by simpa using h).but (k := w.heap.size + 1) (fun h => ?_) (by simp [World.setCell]) fun j hj _ => ?_).mono fun k hk => hk.imp id fun h => by omega
        · have := HG.out.size; omega
        · exact ((Below.heap_setCell _ _ _ _ hj).trans (Below.heap_setCell _ _ _ _ hj)).trans (Below.heap_setCell _ _ _ _ hj)
      · exact gr_cell (gr_cell (gr_cell (I1.out.trans G1.out) (by omega) _) (by omega) _) (by omega) _
    · have hb5 : (K == 5) = false := by simpa using h5
      rw [if_neg h5] at ER
      have hlen : x.sub.length ≤ 1000 := by
        have := size_eq x.er
        have h2 := psz_len x.er.sub
        rw [er_sub] at this h2
        simp at h2
        omega
      have I00 : RI f w0 x K w 0 (.slice none 0 0) (((w.alloc (.cells #[iv K, iv x.var, .slice x.A x.sub.length x.c] 24)).alloc (.cells #[iv 0, iv 0, .slice none 0 0] 24)).alloc (.cells #[iv K, iv 0, .slice none 0 0] 24)) := by
        refine ⟨((gr_al _ _).trans (gr_al _ _)).trans (gr_al _ _), ?_, ?_, ?_, [], OR.nil, by simp, by simp⟩
        · exact ((Below.heap_alloc _ _ _ (by simp; omega)).trans (Below.heap_alloc _ _ _ (by simp))).trans (al_new w _)
        · exact (Below.heap_alloc _ _ _ (by simp)).trans (al_at _ _ (by simp))
        · exact al_at _ _ (by simp)
      have I0 := Lib.hid I00
      clear I00
      go_enter Try.func58, Try.ntmps58
      go_wp2
      go_loopw [21] (fun i V => ∃ k A c, k ≤ x.sub.length ∧ i = .int .i64 (k : Nat) ∧ Hid (RI f w0 x K w k (.slice A k c) V)) (fun i _ => x.sub.length - (intOf i).toNat)
      case atStart => exact ⟨0, none, 0, Nat.zero_le _, rfl, I0⟩
      case round =>
        clear I0 BX b0 b1 b2
        obtain ⟨k, A, c, hk, rfl, HR⟩ := hrel
        obtain ⟨⟨b0, b1, b2⟩, -⟩ := cell3 HR.out.t2
        obtain ⟨⟨c0, c1, c2⟩, -⟩ := cell3 HR.out.t4
        obtain ⟨⟨d0, d1, d2⟩, fz⟩ := cell3 HR.out.t5
        have z2 := fz 2
        clear fz
        by_cases hlt : k < x.sub.length
        · obtain ⟨a, a1, hA, ha, hab, e0, e1, e2, hsub⟩ := (HX.out _ HR.out.gr).at hlt
          have IM := List.getElem_mem hlt
          have PS := Lib.hid (show (ers x.sub)[k]? = some x.sub[k].er from ers_get hlt)
          have CL := Lib.hid (fun V (g : Gr wr V) => IH.out _ IM V ((HG.out.trans HR.out.gr).trans g) (hsub.gr g) (by have h1 := psz_mem (x := x.sub[k].er) (l := ers x.sub) (by rw [ers_map]; exact List.mem_map.2 ⟨_, IM, rfl⟩); have h2 := size_eq x.er; rw [er_sub] at h2; omega))
          generalize x.sub[k] = y at *
          rw [hA] at b2 ⊢
          unfold Ty.v at CL
          clear hA hsub IM
          go_upto_region 7 with (fail)
          have J1 := Lib.hid (show (wr.alloc (.cells #[iv y.kind, iv y.var, .slice y.A y.sub.length y.c] 24)).heap[wr.heap.size]? = some (.cells #[iv y.kind, iv y.var, .slice y.A y.sub.length y.c] 24 (0, 0)) from al_new _ _)
          have J2 := Lib.hid (gr_al wr (.cells #[iv y.kind, iv y.var, .slice y.A y.sub.length y.c] 24))
          have J3 := Lib.hid (show (wr.alloc (.cells #[iv y.kind, iv y.var, .slice y.A y.sub.length y.c] 24)).heap[w.heap.size + 2]? = some (.cells #[iv K, iv 0, .slice A k c] 24 (0, 0)) from gr_h J2.out HR.out.t5)
          generalize hW1 : wr.alloc (.cells #[.int .i64 y.kind, .int .i64 y.var, .slice y.A y.sub.length y.c] 24) = W1 at *
          clear hW1 b0 b1 b2 c0 c1 c2 d0 d1 d2 z2 e0 e1 e2
          have CL2 := Lib.hid (fun V (g : Gr W1 V) => CL.out V (J2.out.trans g))
          obtain ⟨⟨b0, b1, b2⟩, -⟩ := cell3 J1.out
          obtain ⟨⟨d0, d1, d2⟩, fz⟩ := cell3 J3.out
          have z2 := fz 2
          clear fz CL
          obtain ⟨L, ho, hE, hL⟩ := HR.out.ex
          have hk1 : L.length = k := by have := congrArg List.length hE; simp at this; omega
          have HO := Lib.hid (fun V (g : Gr wr V) => ho.gr g)
          have HL := Lib.hid hL
          have HE := Lib.hid hE
          have HK := Lib.hid hk1
          have HN := Lib.hid HR.out.gr.size
          clear ho hL hE hk1
          have HB := Lib.hid (show ∀ V : World, Gr wr V → ∀ j, (Value.slice A k c).ownBlock = some j → w.heap.size + 3 ≤ j from fun V g j hj => ((HO.out V g).lt j hj).1)
          have HS1 := Lib.hid (show ∀ q : Ty, L.length + [q].length ≤ 1000000 from fun q => by have := HK.out; simp; omega)
          go_region_law (first | (go_simp; go_at_call 58; refine (CL2.out _ (gr_drew _)).mono ?_; rintro e w6 ⟨⟨r, rfl, q, rfl, tr⟩, g6⟩; have g7 : Gr W1 w6 := (gr_drew _).trans g6; unfold Ty.v; obtain ⟨⟨f0, f1, f2⟩, -⟩ := cell3 (gr_h g7 J1.out); obtain ⟨⟨k0, k1, k2⟩, fz6⟩ := cell3 (gr_h g7 J3.out); have z6 := fz6 2; obtain ⟨⟨k3, k4, k5⟩, -⟩ := cell3 (gr_h (g7.trans (gr_al w6 (.cells #[iv q.kind, iv q.var, .slice q.A q.sub.length q.c] 24))) J3.out); have T6 := Lib.hid tr; have G6 := Lib.hid g7; have S6 := Lib.hid (show w.heap.size + 3 ≤ w6.heap.size from by have h1 := HN.out; have h2 := J2.out.size; have h3 := g7.size; have h4 := heap_lt HR.out.t5; omega); have S7 := Lib.hid (show ∀ o : Obj, w.heap.size + 3 ≤ (w6.alloc o).heap.size from fun o => by have := S6.out; simp; omega); clear tr g6 g7 fz6) | (refine step_appT rfl (.tmp 26) (.tmp 30) rfl (w.heap.size + 3) (v := .slice A k c) (L := L) (by simp [Act.eval]) (HO.out _ ((J2.out.trans G6.out).trans (gr_al _ _))) (A := some ⟨w6.heap.size, 0, none⟩) (M := [q]) (m := 1) (c := 1) rfl (by simp [Act.eval]) (rd_cells (t := 24) Ty.cs_len (al_new _ _)) (by simp) (HS1.out q) (S7.out _) ?_; intro v7 w7 o7 g7 b7; obtain ⟨A7, c7, rfl, -⟩ := o7.form Ty.cs_len; have l7 : (L ++ [q]).length = k + 1 := (by simp [HK.out]); rw [l7] at o7 b7 ⊢; have O7 := Lib.hid o7; have G7 := Lib.hid g7; have B7 := Lib.hid b7; have K7 := Lib.hid (show w7.heap[w.heap.size + 2]? = some (.cells #[iv K, iv 0, .slice A k c] 24 (0, 0)) from (g7.block _ (Nat.lt_of_lt_of_le (by omega) (S7.out _)) (fun e => by have := HB.out _ (J2.out.trans G6.out) _ e.symm; omega)).trans (gr_h (gr_al _ _) (gr_h G6.out J3.out))); obtain ⟨⟨m0, m1, m2⟩, fz7⟩ := cell3 K7.out; have z7 := fz7 2; clear fz7 o7 g7 b7 l7))
          all_goals go_wp2
          all_goals exact ⟨⟨k + 1, A7, c7, by omega, by simp, Lib.hid (ri_step HR.out HG.out.size HE.out HL.out (HO.out _ (gr_refl _)) (J2.out.trans (gr_drew _)).size (J2.out.trans G6.out) T6.out.1 T6.out.2.1 T6.out.2.2 PS.out O7.out G7.out B7.out)⟩, by simp [intOf]; omega⟩
        · obtain rfl : x.sub.length = k := by omega
          obtain ⟨L, ho, hE, hL⟩ := HR.out.ex
          have hk1 : L.length = x.sub.length := by have := congrArg List.length hE; simp at this; omega
          have FN := Lib.hid (fun (V : World) (hV : V.heap.size = wr.heap.size) (st : ∀ j, j ≠ w.heap.size + 1 → V.heap[j]? = wr.heap[j]?) => ri_end HR.out HG.out.size ho hE hL hk1 V hV st)
          have H4 := Lib.hid (set3 (a' := iv K) (b' := iv 0) (c' := .slice A x.sub.length c) HR.out.t4)
          clear hE hL ho hk1
          obtain ⟨-, fz4⟩ := cell3 HR.out.t4
          have y0 := fz4 0
          have y1 := fz4 1
          have y2 := fz4 2
          clear fz4
          go_wp2
          refine bodyPost_ret (results_cell_row (P := Try.prog) rfl _ _ (w.heap.size + 1) _ _ _ _ rfl H4.out rfl rfl rfl) rfl ⟨⟨_, rfl, ?_⟩, ?_⟩
          · rw [ER.out]
            exact FN.out _ (by simp [World.setCell]) fun j hj => ((Below.heap_setCell _ _ _ _ hj).trans (Below.heap_setCell _ _ _ _ hj)).trans (Below.heap_setCell _ _ _ _ hj)
          · exact gr_cell (gr_cell (gr_cell HR.out.gr (by omega) _) (by omega) _) (by omega) _
end Go.Proofs.Ytjlmhfdigoogfaa
namespace Go.Proofs.Ytjlmhfdigoogfaa
open Go.RowKit Go.Shelf

theorem buildL_get {f : Nat → Option PT} : ∀ {s : List Nat} {l : List PT}, buildL f s = some l → l.length = s.length ∧ ∀ (k i : Nat), s[k]? = some i → ∃ t, l[k]? = some t ∧ f i = some t
  | [], l, h => by simp only [buildL, Option.some.injEq] at h; subst h; simp
  | i :: s, l, h => by
    simp only [buildL] at h
    cases h1 : f i with
    | none => rw [h1] at h; cases h
    | some t =>
      cases h2 : buildL f s with
      | none => rw [h1, h2] at h; cases h
      | some l' =>
        rw [h1, h2] at h
        simp only [Option.some.injEq] at h
        subst h
        obtain ⟨h3, h4⟩ := buildL_get h2
        refine ⟨by simp [h3], fun k j hk => ?_⟩
        cases k with
        | zero => simp at hk; subst hk; exact ⟨t, rfl, h1⟩
        | succ k => exact h4 k j (by simpa using hk)
/-- Between the rounds of build. -/
structure BI (x : Cl) (K : Int) (l : List PT) (w : World) (k : Nat) (v : Value) (V : World) : Prop where
  gr : Gr w V
  t4 : V.heap[w.heap.size]? = some (.cells #[iv 0, iv 0, .slice none 0 0] 24 (0, 0))
  t5 : V.heap[w.heap.size + 1]? = some (.cells #[iv x.up, iv x.term, iv x.least] 77 (0, 0))
  t6 : V.heap[w.heap.size + 2]? = some (.cells #[iv K, iv 0, v] 24 (0, 0))
  ex : ∃ L : List Ty, OR 24 3 Ty.cs V (w.heap.size + 3) v L ∧ ers L = l.take k ∧ ∀ y ∈ L, y.Rd V ∧ TIn (fun j => w.heap.size + 3 ≤ j) y.A y.sub ∧ TIn (fun j => v.ownBlock ≠ some j) y.A y.sub
theorem bi_step {x : Cl} {K : Int} {l : List PT} {w : World} {k : Nat} {A A7 : Option Addr} {c c7 m : Nat} {wr w6 w7 : World} {q : Ty} {t : PT} {L : List Ty} {o : Obj} (HR : BI x K l w k (.slice A k c) wr)
    (hE : ers L = l.take k) (hL : ∀ y ∈ L, y.Rd wr ∧ TIn (fun j => w.heap.size + 3 ≤ j) y.A y.sub ∧ TIn (fun j => (Value.slice A k c).ownBlock ≠ some j) y.A y.sub)
    (hO : OR 24 3 Ty.cs wr (w.heap.size + 3) (.slice A k c) L) (hm : wr.heap.size ≤ m) (g : Gr wr w6) (hq : q.Rd w6) (hqi : TIn (fun k => m ≤ k) q.A q.sub) (hqe : q.er = t) (hy : l[k]? = some t)
    (o7 : OR 24 3 Ty.cs w7 (w.heap.size + 3) (.slice A7 (k + 1) c7) (L ++ [q])) (g7 : (w6.alloc o).grownBy w7 (Value.slice A k c).ownBlock)
    (b7 : (Value.slice A7 (k + 1) c7).ownBlock = (Value.slice A k c).ownBlock ∨ (Value.slice A7 (k + 1) c7).ownBlock = some (w6.alloc o).heap.size) :
    BI x K l w (k + 1) (.slice A7 (k + 1) c7) (w7.setCell ⟨w.heap.size + 2, 2, none⟩ (.slice A7 (k + 1) c7)) := by
  have hlt := hO.lt
  have h5 := heap_lt HR.t6
  have hs := g.size
  have hs7 := g7.size
  have ha : (w6.alloc o).heap.size = w6.heap.size + 1 := by simp
  have gw : Gr w (w6.alloc o) := (HR.gr.trans g).trans (gr_al _ _)
  have G7 : Gr w w7 := ⟨g7.os.trans gw.os, g7.tape.trans gw.tape, g7.output.trans gw.output, Nat.le_trans gw.size g7.size, fun j hj _ => (g7.block j (Nat.lt_of_lt_of_le hj gw.size) (by
    intro e
    have := hlt _ e.symm
    omega)).trans (gw.block j hj (by simp))⟩
  have st : ∀ j, j ≠ w.heap.size + 2 → j < w6.heap.size → (Value.slice A k c).ownBlock ≠ some j → (w7.setCell ⟨w.heap.size + 2, 2, none⟩ (.slice A7 (k + 1) c7)).heap[j]? = w6.heap[j]? := fun j h1 h2 h3 =>
    (Below.heap_setCell _ _ _ _ h1).trans ((g7.block j (by omega) (fun e => h3 e.symm)).trans (Below.heap_alloc _ _ _ h2))
  have ow : ∀ j, j < w.heap.size + 3 → (Value.slice A k c).ownBlock ≠ some j := fun j hj e => by have := hlt _ e; omega
  have sz : (w7.setCell ⟨w.heap.size + 2, 2, none⟩ (.slice A7 (k + 1) c7)).heap.size = w7.heap.size := by simp [World.setCell]
  refine ⟨gr_cell G7 (by omega) _, ?_, ?_, ?_, L ++ [q], ?_, ?_, ?_⟩
  · exact (st _ (by omega) (by omega) (ow _ (by omega))).trans (gr_h g HR.t4)
  · exact (st _ (by omega) (by omega) (ow _ (by omega))).trans (gr_h g HR.t5)
  · exact set3_2 (((g7.block _ (by omega) (fun e => ow _ (by omega) e.symm)).trans (Below.heap_alloc _ _ _ (by omega))).trans (gr_h g HR.t6))
  · refine o7.kept (grown_set _ _ _) ?_
    cases hb : (Value.slice A7 (k + 1) c7).ownBlock with
    | none => exact .inl rfl
    | some j => right; intro e; have := o7.lt j hb; cases e; omega
  · rw [ers_append, hE, List.take_add_one, hy]; simp [hqe]
  · intro z hz
    rcases List.mem_append.1 hz with hz | hz
    · obtain ⟨z1, z2, z3⟩ := hL z hz
      have z4 := (z1.tin.and (z2.and z3))
      refine ⟨TRd.keepAt z1 z4 (by omega) fun j hj hl => ?_, z2, z4.mono fun j hj => ?_⟩
      · exact (st j (by have := hj.2.1; omega) (by omega) hj.2.2).trans (g.block j hl (by simp))
      · rcases b7 with h | h
        · rw [h]; exact hj.2.2
        · rw [h]; intro e; have := hj.1; cases e; omega
    · simp only [List.mem_singleton] at hz
      subst hz
      have z4 := (TRd.tin hq).and hqi
      have z5 : ∀ j, m ≤ j → (Value.slice A k c).ownBlock ≠ some j := fun j hj e => by have := hlt _ e; omega
      refine ⟨TRd.keepAt hq z4 (by omega) fun j hj hl => ?_, hqi.mono fun j hj => by omega, z4.mono fun j hj => ?_⟩
      · exact st j (by have := hj.2; omega) hl (z5 j hj.2)
      · rcases b7 with h | h
        · rw [h]; exact z5 j hj.2
        · rw [h]; intro e; have := hj.1; cases e; omega
theorem bi_end {x : Cl} {K : Int} {l : List PT} {w : World} {n : Nat} {A : Option Addr} {c : Nat} {wr : World} {L : List Ty} (HR : BI x K l w n (.slice A n c) wr) (hn : n = l.length)
    (hO : OR 24 3 Ty.cs wr (w.heap.size + 3) (.slice A n c) L) (hE : ers L = l.take n) (hL : ∀ y ∈ L, y.Rd wr ∧ TIn (fun j => w.heap.size + 3 ≤ j) y.A y.sub ∧ TIn (fun j => (Value.slice A n c).ownBlock ≠ some j) y.A y.sub)
    (V : World) (hV : V.heap.size = wr.heap.size) (st : ∀ j, j ≠ w.heap.size → V.heap[j]? = wr.heap[j]?) :
    TyR (fun k => w.heap.size ≤ k) (.mk K 0 l) V (.agg #[iv K, iv 0, .slice A n c]) := by
  rw [hn, List.take_of_length_le (Nat.le_refl _)] at hE
  have hk : L.length = n := by rw [hn, ← hE]; simp
  obtain ⟨A', c', e1, hr, h1, h2, h3, h4⟩ := hO.form2 Ty.cs_len
  obtain ⟨rfl, -, rfl⟩ := Value.slice.inj e1
  have h5 := heap_lt HR.t6
  have z2 : TIn (fun j => w.heap.size + 3 ≤ j) A L := .mk (fun a e _ => (h4 a e).1) fun z hz => (hL z hz).2.1
  have z1 : TRd wr A c L := .mk h1 h2 h3 hr fun z hz => (hL z hz).1
  refine ⟨.mk K 0 A c L, by unfold Ty.v; simp [Ty.kind, Ty.var, Ty.A, Ty.sub, Ty.c, hk], TRd.keepAt z1 z2 (by omega) fun j hj _ => st j (by omega), z2.mono fun j hj => by omega, ?_⟩
  simp [Ty.er, hE]
/-- What build promises. -/
def BuildOk (base ub vb n : Nat) : Prop := ∀ (S : US) (tm : List Tm) (w : World) (c : Nat) (t : PT), UT base ub vb S tm w → CI S.tm S.cl → buildP n S.tm S.cl c = some t →
  Calls Try.prog 48 #[.pointer (some ⟨ub, 0, none⟩), .int .i64 c] w fun e w' => (∃ r, e = .returned r ∧ TyR (fun k => w.heap.size ≤ k) t w' r) ∧ Gr w w'
end Go.Proofs.Ytjlmhfdigoogfaa
namespace Go.Proofs.Ytjlmhfdigoogfaa
open Go.RowKit Go.Shelf

set_option maxRecDepth 100000 in
set_option maxHeartbeats 8000000 in
theorem build_step {base ub vb n : Nat} (ih : BuildOk base ub vb n) {S : US} {tm : List Tm} {w : World} (hu : UT base ub vb S tm w) (hci : CI S.tm S.cl) {c0 c f : Nat} {x : Cl} (hf : findP f S.cl c0 = some c) (hx : S.cl[c]? = some x) {t : PT}
    (ht : (if x.term < 0 then some (vr x.least)
        else match S.tm[x.term.toNat]? with
          | some q => (buildL (buildP n S.tm S.cl) q.2).map fun l => .mk q.1 0 l
          | none => none) = some t) :
    Calls Try.prog 48 #[.pointer (some ⟨ub, 0, none⟩), .int .i64 c0] w fun e w' => (∃ r, e = .returned r ∧ TyR (fun k => w.heap.size ≤ k) t w' r) ∧ Gr w w' := by
  have IH := Lib.hid ih
  have HU := Lib.hid hu
  have HCI := Lib.hid hci
  have HT := Lib.hid ht
  obtain ⟨vc, vt, hm, -, -, hE⟩ := hu
  obtain ⟨A, cc, rfl, -⟩ := hm.c.form Cl.cs_len
  obtain ⟨N, hN⟩ : ∃ N, S.cl.length = N := ⟨_, rfl⟩
  rw [hN] at hm
  obtain ⟨-, hc, ac, -, rfl, -⟩ := hm.c.cl hx
  obtain ⟨pc, hpc⟩ : ∃ pc, ac.add (c * 3) = pc := ⟨_, rfl⟩
  have HE := Lib.hid hE
  have W1 := Lib.hid (show Gr w (w.alloc (.cells #[iv 0, iv 0, .slice none 0 0] 24)) from gr_al _ _)
  have H1 := Lib.hid (show (w.alloc (.cells #[iv 0, iv 0, .slice none 0 0] 24)).heap[w.heap.size]? = some (.cells #[iv 0, iv 0, .slice none 0 0] 24 (0, 0)) from al_new _ _)
  have S1 := Lib.hid (show (w.alloc (.cells #[iv 0, iv 0, .slice none 0 0] 24)).heap.size = w.heap.size + 1 from by simp)
  have FD := Lib.hid (fun V (g : Gr w V) => find_any (hm.gr g) hf)
  have KS := Lib.hid (fun V (g : Gr w V) => (show V.cell? ⟨ub, 0, none⟩ = some (.slice (some ac) N cc) ∧ V.cell? pc = some (iv x.up) ∧ V.cell? ⟨pc.block, pc.off + 1, none⟩ = some (iv x.term) ∧ V.cell? ⟨pc.block, pc.off + 2, none⟩ = some (iv x.least) from by
    obtain ⟨⟨d0, -, -⟩, -⟩ := cell3 (hm.gr g).h
    have C := (hm.gr g).cls hx
    rw [hpc] at C
    exact ⟨d0, C.c0, C.c1, C.c2⟩))
  clear hm hf hx hE ih ht hN hci
  go_enter Try.func48, Try.ntmps48
  go_upto_region 1 with (fail)
  generalize hW4 : World.alloc w _ = W4 at *
  clear hW4
  go_cut [5] (fun s wx => s = .pointer (some ⟨w.heap.size + 1, 0, none⟩) ∧ Hid (Gr w wx ∧ wx.heap[w.heap.size]? = some (.cells #[iv 0, iv 0, .slice none 0 0] 24 (0, 0)) ∧ wx.heap[w.heap.size + 1]? = some (.cells #[iv x.up, iv x.term, iv x.least] 77 (0, 0)) ∧ wx.heap.size = w.heap.size + 2))
  case first =>
    obtain ⟨d0, p0, p1, p2⟩ := KS.out _ W1.out
    go_region_held3 (fun V => V.cell? ⟨ub, 0, none⟩ = some (.slice (some ac) N cc) ∧ V.cell? pc = some (iv x.up) ∧ V.cell? ⟨pc.block, pc.off + 1, none⟩ = some (iv x.term) ∧ V.cell? ⟨pc.block, pc.off + 2, none⟩ = some (iv x.least)) (first | exact KS.out _ (W1.out.trans ((gr_al _ _).trans (gr_drew _))) | exact KS.out _ (W1.out.trans (gr_drew _)) | go_keep | exact KS.out _ W1.out) (first | (go_at_call 47; (with_reducible refine (FD.out _ (W1.out.trans (gr_drew _))).mono ?_); rintro e w1 ⟨rfl, hw⟩; subst hw) | (go_at_call 47; (with_reducible refine (FD.out _ (W1.out.trans ((gr_al _ _).trans (gr_drew _)))).mono ?_); rintro e w1 ⟨rfl, hw⟩; subst hw))
    all_goals go_wp2
    all_goals go_meet
    all_goals exact ⟨by rw [S1.out], Lib.hid ⟨W1.out.trans ((gr_al _ _).trans (gr_drew _)), gr_h ((gr_al _ _).trans (gr_drew _)) H1.out, gr_h (gr_drew _) (al_at _ _ S1.out.symm), by simp [S1.out]⟩⟩
  case rest =>
    obtain ⟨rfl, HW⟩ := hcut
    clear W1 H1 S1
    generalize hwc : wc = W5 at *
    clear hwc
    obtain ⟨⟨c0, c1, c2⟩, -⟩ := cell3 HW.out.2.2.1
    have h0 := HT.out
    by_cases hx0 : x.term < 0
    · rw [if_pos hx0] at h0
      cases h0
      have FV := Lib.hid (fun V => variable_any x.least V)
      have H4 := Lib.hid HW.out.2.1
      go_wp2_with (first | (go_at_call 62; refine (FV.out _).mono ?_; rintro e w6 ⟨rfl, g6⟩; have G6 := Lib.hid g6; have H6 := Lib.hid (gr_h g6 H4.out); obtain ⟨⟨e0, e1, e2⟩, fz⟩ := cell3 H6.out; have z0 := fz 0; have z1 := fz 1; have z2 := fz 2; clear g6 fz))
      have HH := Lib.hid (set3 (a' := iv 5) (b' := iv x.least) (c' := .slice none 0 0) H6.out)
      refine bodyPost_ret (results_cell_row (P := Try.prog) rfl _ _ w.heap.size _ _ _ _ rfl HH.out rfl rfl rfl) rfl ⟨⟨_, rfl, TyR.flat _ _ _ _⟩, ?_⟩
      exact gr_cell (gr_cell (gr_cell (HW.out.1.trans G6.out) (Nat.le_refl _) _) (Nat.le_refl _) _) (Nat.le_refl _) _
    · rw [if_neg hx0] at h0
      cases hq : S.tm[x.term.toNat]? with
      | none => rw [hq] at h0; cases h0
      | some q =>
        rw [hq] at h0
        obtain ⟨l, hl, rfl⟩ := Option.map_eq_some_iff.1 h0
        obtain ⟨xt, hxt⟩ : ∃ k : Nat, x.term = k := ⟨x.term.toNat, by omega⟩
        rw [hxt, Int.toNat_natCast] at hq
        rw [hxt] at c1
        obtain ⟨X, hX, eX1, eX2⟩ := tm_at HE.out hq
        obtain ⟨vc2, vt2, hm2, -⟩ := HU.out.gr HW.out.1
        obtain ⟨AT, ct, rfl, -⟩ := hm2.t.form Tm.cs_len
        obtain ⟨MT, hMT⟩ : ∃ MT, tm.length = MT := ⟨_, rfl⟩
        rw [hMT] at hm2
        obtain ⟨-, kx, aT, px, rfl, hpx, x0, x1⟩ := hm2.tms hX
        obtain ⟨⟨-, d1, -⟩, -⟩ := cell3 hm2.h
        obtain ⟨A0, hA0⟩ : ∃ A0, X.A = A0 := ⟨_, rfl⟩
        rw [hA0] at x1
        have HA0 := Lib.hid hA0
        have HXX := Lib.hid (And.intro hX (And.intro eX1 eX2))
        have HBL := Lib.hid (buildL_get hl)
        have nx : ¬ (xt : Int) < 0 := by omega
        have KS2 := Lib.hid (fun V (g : Gr W5 V) => (⟨gr_c g d1, gr_c g c1, gr_c g x0, gr_c g x1⟩ : V.cell? ⟨ub, 1, none⟩ = some (.slice (some aT) MT ct) ∧ V.cell? ⟨w.heap.size + 1, 1, none⟩ = some (iv xt) ∧ V.cell? px = some (iv X.kind) ∧ V.cell? ⟨px.block, px.off + 1, none⟩ = some (.slice A0 X.sub.length X.c)))
        have HXT := Lib.hid hxt
        have HQ2 := Lib.hid (show q.2.length ≤ 2 from by rw [(HCI.out.tl xt q.1 q.2 hq).1]; unfold prt; split; omega; split <;> omega)
        clear hm2 hX eX1 eX2 hMT hA0 hl h0 HT KS FD hq hx0 c0 c2 hxt
        go_upto_region 4 with (fail)
        clear d1 c1 x0 x1
        obtain ⟨K, hK⟩ : ∃ K, X.kind = K := ⟨_, rfl⟩
        rw [hK] at KS2
        have EK := Lib.hid (show q.1 = K from by rw [← HXX.out.2.1, hK])
        clear hK
        go_cut [6] (fun s wx => s = .pointer (some ⟨w.heap.size + 2, 0, none⟩) ∧ Hid (Gr W5 wx ∧ BI x K l w 0 (.slice none 0 0) wx))
        case first =>
          obtain ⟨d1, c1, x0, x1⟩ := KS2.out _ (gr_refl _)
          go_region_held3 (fun V => V.cell? ⟨ub, 1, none⟩ = some (.slice (some aT) MT ct) ∧ V.cell? ⟨w.heap.size + 1, 1, none⟩ = some (iv xt) ∧ V.cell? px = some (iv K) ∧ V.cell? ⟨px.block, px.off + 1, none⟩ = some (.slice A0 X.sub.length X.c)) (first | exact KS2.out _ ((gr_al _ _).trans (gr_drew _)) | exact KS2.out _ (gr_drew _) | go_keep | exact KS2.out _ (gr_refl _)) (fail)
          all_goals go_wp2
          all_goals go_meet
          all_goals exact ⟨by rw [HW.out.2.2.2], Lib.hid ⟨(gr_al _ _).trans (gr_drew _), ⟨HW.out.1.trans ((gr_al _ _).trans (gr_drew _)), gr_h ((gr_al _ _).trans (gr_drew _)) HW.out.2.1, gr_h ((gr_al _ _).trans (gr_drew _)) HW.out.2.2.1, gr_h (gr_drew _) (al_at _ _ HW.out.2.2.2.symm), [], OR.nil, by simp, by simp⟩⟩⟩
        case rest =>
          obtain ⟨rfl, HI⟩ := hcut
          have G6 := Lib.hid HI.out.1
          have I0 := Lib.hid HI.out.2
          have GW5 := Lib.hid HW.out.1
          clear HI HW
          generalize hwc : wc = W6 at *
          clear hwc
          obtain ⟨d1, c1, x0, x1⟩ := KS2.out _ G6.out
          go_upto_region 5 with (fail)
          go_quiet (fail)
          have I1 := Lib.hid (show BI x K l w 0 (.slice none 0 0) (World.drewN W6 nq) from ⟨I0.out.gr.trans (gr_drewN _ _), gr_h (gr_drewN _ _) I0.out.t4, gr_h (gr_drewN _ _) I0.out.t5, gr_h (gr_drewN _ _) I0.out.t6, [], OR.nil, by simp, by simp⟩)
          generalize World.drewN W6 nq = W7 at *
          clear d1 c1 x0 x1 G6 I0 KS2 nx
          have hxl : X.sub.length = l.length := by rw [HXX.out.2.2, List.length_map, HBL.out.1]
          have HXL := Lib.hid hxl
          have hll := (HU.out.num HXX.out.1).1
          clear hxl
          go_wp2
          go_loopw [44] (fun i V => ∃ k A c, k ≤ X.sub.length ∧ i = .int .i64 (k : Nat) ∧ Hid (BI x K l w k (.slice A k c) V)) (fun i _ => X.sub.length - (intOf i).toNat)
          case atStart => exact ⟨0, none, 0, Nat.zero_le _, rfl, I1⟩
          case round =>
            clear I1
            obtain ⟨k, A, c', hk, rfl, HR⟩ := hrel
            obtain ⟨⟨b0, b1, b2⟩, fz⟩ := cell3 HR.out.t6
            have z2 := fz 2
            clear fz
            by_cases hlt : k < X.sub.length
            · obtain ⟨si, hs1⟩ : ∃ si, q.2[k]? = some si := ⟨_, List.getElem?_eq_getElem (by have h2 := congrArg List.length HXX.out.2.2; simp at h2; omega)⟩
              obtain ⟨t, ht1, ht2⟩ := HBL.out.2 k si hs1
              obtain ⟨-, ax, eax, x0⟩ := ((HU.out.gr HR.out.gr).num HXX.out.1).2 k (si : Int) (by rw [HXX.out.2.2, List.getElem?_map, hs1]; rfl)
              rw [HA0.out] at eax
              subst eax
              have HT1 := Lib.hid ht1
              have CL := Lib.hid (fun V (g : Gr wr V) => IH.out S tm V si t (HU.out.gr (HR.out.gr.trans g)) HCI.out ht2)
              clear hs1 ht1 ht2
              go_upto_region 8 with (fail)
              obtain ⟨L, ho, hE, hL⟩ := HR.out.ex
              have hk1 : L.length = k := by have := congrArg List.length hE; simp at this; have := HXL.out; omega
              have HO := Lib.hid (fun V (g : Gr wr V) => ho.gr g)
              have HL := Lib.hid hL
              have HE2 := Lib.hid hE
              have HK := Lib.hid hk1
              have J3 := Lib.hid HR.out.t6
              clear ho hL hE hk1 x0
              have HB := Lib.hid (show ∀ V : World, Gr wr V → ∀ j, (Value.slice A k c').ownBlock = some j → w.heap.size + 3 ≤ j from fun V g j hj => ((HO.out V g).lt j hj).1)
              have HS1 := Lib.hid (show ∀ q : Ty, L.length + [q].length ≤ 1000000 from fun q => by have := HK.out; have h1 := HQ2.out; have h2 := congrArg List.length HXX.out.2.2; simp at h2 ⊢; omega)
              go_region_law (first | (go_simp; go_at_call 48; refine (CL.out _ (gr_drew _)).mono ?_; rintro e w6 ⟨⟨r, rfl, q, rfl, tr⟩, g6⟩; have g7 : Gr wr w6 := (gr_drew _).trans g6; unfold Ty.v; obtain ⟨⟨k0, k1, k2⟩, fz6⟩ := cell3 (gr_h g7 J3.out); have z6 := fz6 2; obtain ⟨⟨k3, k4, k5⟩, -⟩ := cell3 (gr_h (g7.trans (gr_al w6 (.cells #[iv q.kind, iv q.var, .slice q.A q.sub.length q.c] 24))) J3.out); have T6 := Lib.hid tr; have G6 := Lib.hid g7; have S6 := Lib.hid (show w.heap.size + 3 ≤ w6.heap.size from by have h3 := g7.size; have h4 := heap_lt HR.out.t6; omega); have S7 := Lib.hid (show ∀ o : Obj, w.heap.size + 3 ≤ (w6.alloc o).heap.size from fun o => by have := S6.out; simp; omega); clear tr g6 g7 fz6) | (refine step_appT rfl (.tmp 49) (.tmp 53) rfl (w.heap.size + 3) (v := .slice A k c') (L := L) (by simp [Act.eval]) (HO.out _ (G6.out.trans (gr_al _ _))) (A := some ⟨w6.heap.size, 0, none⟩) (M := [q]) (m := 1) (c := 1) rfl (by simp [Act.eval]) (rd_cells (t := 24) Ty.cs_len (al_new _ _)) (by simp) (HS1.out q) (S7.out _) ?_; intro v7 w7 o7 g7 b7; obtain ⟨A7, c7, rfl, -⟩ := o7.form Ty.cs_len; have l7 : (L ++ [q]).length = k + 1 := (by simp [HK.out]); rw [l7] at o7 b7 ⊢; have O7 := Lib.hid o7; have G7 := Lib.hid g7; have B7 := Lib.hid b7; have K7 := Lib.hid (show w7.heap[w.heap.size + 2]? = some (.cells #[iv K, iv 0, .slice A k c'] 24 (0, 0)) from (g7.block _ (Nat.lt_of_lt_of_le (by omega) (S7.out _)) (fun e => by have := HB.out _ G6.out _ e.symm; omega)).trans (gr_h (gr_al _ _) (gr_h G6.out J3.out))); obtain ⟨⟨m0, m1, m2⟩, fz7⟩ := cell3 K7.out; have z7 := fz7 2; clear fz7 o7 g7 b7 l7))
              all_goals go_wp2
              all_goals exact ⟨⟨k + 1, A7, c7, by omega, by simp, Lib.hid (bi_step HR.out HE2.out HL.out (HO.out _ (gr_refl _)) (gr_drew wr).size G6.out T6.out.1 T6.out.2.1 T6.out.2.2 HT1.out O7.out G7.out B7.out)⟩, by simp [intOf]; omega⟩
            · obtain rfl : X.sub.length = k := by omega
              obtain ⟨L, ho, hE, hL⟩ := HR.out.ex
              have FN := Lib.hid (fun (V : World) (hV : V.heap.size = wr.heap.size) (st : ∀ j, j ≠ w.heap.size → V.heap[j]? = wr.heap[j]?) => bi_end HR.out HXL.out ho hE hL V hV st)
              have H4 := Lib.hid (set3 (a' := iv K) (b' := iv 0) (c' := .slice A X.sub.length c') HR.out.t4)
              clear hE hL ho
              obtain ⟨⟨y3, y4, y5⟩, fz4⟩ := cell3 HR.out.t4
              have y0 := fz4 0
              have y1 := fz4 1
              have y2 := fz4 2
              clear fz4
              go_wp2
              refine bodyPost_ret (results_cell_row (P := Try.prog) rfl _ _ w.heap.size _ _ _ _ rfl H4.out rfl rfl rfl) rfl ⟨⟨_, rfl, ?_⟩, ?_⟩
              · rw [EK.out]; exact FN.out _ (by simp [World.setCell]) fun j hj => ((Below.heap_setCell _ _ _ _ hj).trans (Below.heap_setCell _ _ _ _ hj)).trans (Below.heap_setCell _ _ _ _ hj)
              · exact gr_cell (gr_cell (gr_cell HR.out.gr (Nat.le_refl _) _) (Nat.le_refl _) _) (Nat.le_refl _) _
theorem build_any (base ub vb n : Nat) : BuildOk base ub vb n := by
  induction n with
  | zero => intro S tm w c t _ _ h; simp [buildP] at h
  | succ n ih =>
    intro S tm w c0 t hu hc h
    rw [buildP] at h
    cases fa : findP (S.cl.length + 1) S.cl c0 with
    | none => rw [fa] at h; simp at h
    | some c =>
      obtain ⟨x, hx, -⟩ := findP_root fa
      rw [fa] at h
      simp only [hx] at h
      exact build_step ih hu hc fa hx h
end Go.Proofs.Ytjlmhfdigoogfaa

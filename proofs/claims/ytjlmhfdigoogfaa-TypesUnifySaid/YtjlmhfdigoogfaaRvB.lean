/- Walks: inside (104), sound (82). -/
import Derived.Test.YtjlmhfdigoogfaaRvA
namespace Go.Proofs.Ytjlmhfdigoogfaa
open Go.RowKit

section
variable {b : SB} {B : Nat} {V : List Int} {S : SS} {L : List Ty} {W W' : World} {db : Nat}
/-- A block that is none of the solver's. -/
structure NB (b : SB) (B db : Nat) : Prop where
  lo : B ≤ db
  sp : b.sp ≠ db
  ub : b.ub ≠ db
  ib : b.ib ≠ db
  tb : b.tb ≠ db
theorem gb_h {k : Nat} {o : Obj} (g : W.grownBy W' (some db)) (h : W.heap[k]? = some o) (hk : k ≠ db) : W'.heap[k]? = some o := (g.block k (heap_lt h) (by intro e; cases e; exact hk rfl)).trans h
theorem gb_rd {x : Ty} (g : W.grownBy W' (some db)) (hl : B ≤ db) (h : x.Rd W) (hi : TIn (· < B) x.A x.sub) : x.Rd W' := TRd.keepAt h hi g.size fun k hk hl' => g.block k hl' (by intro e; cases e; omega)
theorem SMem.grow (h : SMem b B V S L W) (g : W.grownBy W' (some db)) (n : NB b B db) : SMem b B V S L W' :=
  ⟨h.wf, h.n, h.a1, gb_h g h.h n.sp, h.v.butN g fun hn a e => (by intro e2; cases e2; have := h.bv hn a e; have := n.lo; omega), fun hn => by obtain ⟨c, h1, h2⟩ := h.u hn; exact ⟨c, gb_h g h1 n.ub, h2⟩, by obtain ⟨c, h1, h2⟩ := h.i; exact ⟨c, gb_h g h1 n.ib, h2⟩, by obtain ⟨c, h1, h2⟩ := h.t; exact ⟨c, gb_h g h1 n.tb, h2⟩, h.l, fun y hy => ⟨gb_rd g n.lo (h.r y hy).1 (h.r y hy).2, (h.r y hy).2⟩, h.bv, h.lo, h.ne, Nat.lt_of_lt_of_le h.ul g.size⟩
end
/-- A row of truths in memory. -/
def DM (db : Nat) (d : List Bool) (W : World) : Prop := W.heap[db]? = some (.cells (d.map Value.bool).toArray 4 (0, 0))
theorem DM.c {db : Nat} {d : List Bool} {W : World} (h : DM db d W) {i : Nat} (hi : i < d.length) : W.cell? ⟨db, i, none⟩ = some (.bool (d.getD i false)) ∧ ∀ j, W.frozen? ⟨db, j, none⟩ = false := by
  refine ⟨?_, frz h⟩
  rw [Lib.cell_of_heap h]
  show (d.map Value.bool).toArray[i]? = _
  rw [List.getElem?_toArray, List.getElem?_map, List.getElem?_eq_getElem hi, List.getD_eq_getElem?_getD, List.getElem?_eq_getElem hi]
  rfl
theorem DM.set {db : Nat} {d : List Bool} {W : World} (h : DM db d W) (i : Nat) : DM db (d.set i true) (W.setCell ⟨db, i, none⟩ (.bool true)) := by
  unfold DM at *
  simp [World.setCell, Array.getElem?_modify, h, List.map_set]
/-- What inside leaves. -/
def InP (db : Nat) (r : Bool) (d' : List Bool) (W : World) (e : Ending) (W' : World) : Prop := e = .returned (.bool r) ∧ W.grownBy W' (some db) ∧ DM db d' W'
/-- A type that the solver's caller had. -/
structure TG (B : Nat) (V : List Int) (x : Ty) (W : World) : Prop where
  rd : x.Rd W
  tin : TIn (· < B) x.A x.sub
  gv : GV V x.er
theorem TG.grow {B db : Nat} {V : List Int} {x : Ty} {W W' : World} (h : TG B V x W) (g : W.grownBy W' (some db)) (hl : B ≤ db) : TG B V x W' := ⟨gb_rd g hl h.rd h.tin, h.tin, h.gv⟩
theorem TG.gr {B : Nat} {V : List Int} {x : Ty} {W W' : World} (h : TG B V x W) (g : Gr W W') : TG B V x W' := ⟨TRd.gr h.rd g, h.tin, h.gv⟩
theorem TG.sub {B : Nat} {V : List Int} {x y : Ty} {W : World} (h : TG B V x W) (hy : y ∈ x.sub) : TG B V y W := ⟨h.rd.hs y hy, h.tin.hs y hy, h.gv.sub (by rw [er_sub, ers_map]; exact List.mem_map.2 ⟨y, hy, rfl⟩)⟩
theorem SMem.tg {b : SB} {B : Nat} {V : List Int} {S : SS} {L : List Ty} {W : World} (h : SMem b B V S L W) {i : Nat} (hi : i < V.length) (hb : S.b i = true) : ∃ y : Ty, y.er = S.t i ∧ TG B V y W ∧ (W.cell? ⟨b.tb, i * 3, none⟩ = some (iv y.kind) ∧ W.cell? ⟨b.tb, i * 3 + 1, none⟩ = some (iv y.var) ∧ W.cell? ⟨b.tb, i * 3 + 2, none⟩ = some (.slice y.A y.sub.length y.c)) := by
  obtain ⟨y, -, e, h1, h2, h3, -⟩ := h.tc hi
  exact ⟨y, e, ⟨h1, h2, by rw [e]; exact h.wf.gv hi hb⟩, h3⟩
mutual
theorem insT_len {c : Nat} {cl : Int → Nat} {st : Nat → Bool} {f : Nat → List Bool → Option (Bool × List Bool)} (hf : ∀ j d r d', f j d = some (r, d') → d'.length = d.length) : ∀ (t : PT) (d : List Bool) (r : Bool) (d' : List Bool), insT c cl st f t d = some (r, d') → d'.length = d.length
  | .mk k v s, d, r, d', e => by
    rw [insT] at e
    by_cases hk : k = 5
    · rw [if_pos hk] at e
      by_cases h1 : cl v = c
      · rw [if_pos h1] at e
        cases e; rfl
      · rw [if_neg h1] at e
        by_cases h2 : (d.getD (cl v) false || !st (cl v)) = true
        · rw [if_pos h2] at e
          cases e; rfl
        · rw [if_neg h2] at e
          rw [hf _ _ _ _ e, List.length_set]
    · rw [if_neg hk] at e
      exact insL_len hf s d r d' e
theorem insL_len {c : Nat} {cl : Int → Nat} {st : Nat → Bool} {f : Nat → List Bool → Option (Bool × List Bool)} (hf : ∀ j d r d', f j d = some (r, d') → d'.length = d.length) : ∀ (s : List PT) (d : List Bool) (r : Bool) (d' : List Bool), insL c cl st f s d = some (r, d') → d'.length = d.length
  | [], d, r, d', e => by
    rw [insL] at e
    cases e; rfl
  | x :: l, d, r, d', e => by
    rw [insL] at e
    cases hq : insT c cl st f x d with
    | none => rw [hq] at e; cases e
    | some p =>
      obtain ⟨r1, d1⟩ := p
      have h1 := insT_len hf x d r1 d1 hq
      rw [hq] at e
      cases r1 with
      | true => cases e; exact h1
      | false => exact (insL_len hf l d1 r d' e).trans h1
end
theorem insP_len {V : List Int} {S : SS} {c : Nat} : ∀ {n : Nat} {t : PT} {d : List Bool} {r : Bool} {d' : List Bool}, insP V S c n t d = some (r, d') → d'.length = d.length
  | 0, _, _, _, _, e => by cases e
  | n + 1, t, d, r, d', e => by
    rw [insP] at e
    exact insT_len (fun j d r d' h => insP_len h) t d r d' e
theorem ers_drop (l : List Ty) (k : Nat) : ers (l.drop k) = (ers l).drop k := by rw [ers_map, ers_map, List.map_drop]
theorem drop_get {α : Type} {l : List α} {k : Nat} (h : k < l.length) : l.drop k = l[k] :: l.drop (k + 1) := List.drop_eq_getElem_cons h
attribute [local irreducible] Calls in
set_option maxRecDepth 100000 in
set_option maxHeartbeats 2000000 in
theorem inside_var (b : SB) (B : Nat) (V : List Int) (S : SS) (L : List Ty) (c : Nat) (n : Nat)
    (IH : ∀ (x : Ty) (d d' : List Bool) (r : Bool) (db : Nat) (W : World), SMem b B V S L W → TG B V x W → NB b B db → DM db d W → d.length = V.length → insP V S c n x.er d = some (r, d') → Calls Try.prog 104 #[.pointer (some ⟨b.sp, 0, none⟩), iv c, x.v, .slice (some ⟨db, 0, none⟩) V.length V.length] W (InP db r d' W))
    (v : Int) (s : Value) (d d' : List Bool) (r : Bool) (db : Nat) (W : World) (h : SMem b B V S L W) (hv : v ∈ V) (nb : NB b B db) (hd : DM db d W) (hl : d.length = V.length)
    (e : insT c (cls V S) S.b (fun j d => insP V S c n (S.t j) d) (vr v) d = some (r, d')) : Calls Try.prog 104 #[.pointer (some ⟨b.sp, 0, none⟩), iv c, .agg #[iv 5, iv v, s], .slice (some ⟨db, 0, none⟩) V.length V.length] W (InP db r d' W) := by
  have HB := Lib.hid (al_new W (.cells #[iv 5, iv v, s] 24))
  obtain ⟨⟨b0, b1, b2⟩, -⟩ := cell3 HB.out
  have GB := Lib.hid (gr_al W (.cells #[iv 5, iv v, s] 24))
  have H0 := Lib.hid h
  have D0 := Lib.hid hd
  have H1 := Lib.hid (h.gr GB.out)
  have HD := Lib.hid (show DM db d (W.alloc (.cells #[iv 5, iv v, s] 24)) from gr_h GB.out hd)
  have CL := Lib.hid (class_any b B V S L (W.alloc (.cells #[iv 5, iv v, s] 24)) H1.out v hv)
  have hk := cls_lt h.wf hv
  have hN := h.n
  have hdb := heap_lt hd
  have NBB := Lib.hid nb
  obtain ⟨k, hke⟩ : ∃ k, cls V S v = k := ⟨_, rfl⟩
  unfold vr at e
  rw [insT, if_pos rfl, hke] at e
  rw [hke] at CL hk
  have E := Lib.hid e
  have LL := Lib.hid hl
  clear h hd hl nb e hke
  by_cases hc : k = c
  · subst hc
    rw [if_pos rfl] at E
    obtain ⟨rfl, rfl⟩ : r = true ∧ d' = d := by have := E.out; simp only [Option.some.injEq, Prod.mk.injEq] at this; exact ⟨this.1.symm, this.2.symm⟩
    go_enter Try.func104, Try.ntmps104
    go_wp2_with (go_at_call 81; (with_reducible refine CL.out.mono ?_); rintro e w1 ⟨rfl, rfl⟩)
    go_ret
    exact ⟨rfl, World.grownBy.but GB.out _, HD.out⟩
  · rw [if_neg hc] at E
    have hcb : ((k : Int) == (c : Int)) = false := by simp; omega
    obtain ⟨q0, qf⟩ := HD.out.c (i := k) (by rw [LL.out]; exact hk)
    obtain ⟨s0, s1, s2, s3⟩ := H1.out.hd
    obtain ⟨p0, -⟩ := H1.out.ic hk
    cases hdk : d.getD k false with
    | true =>
      rw [hdk, Bool.true_or, if_pos rfl] at E
      rw [hdk] at q0
      obtain ⟨rfl, rfl⟩ : r = false ∧ d' = d := by have := E.out; simp only [Option.some.injEq, Prod.mk.injEq] at this; exact ⟨this.1.symm, this.2.symm⟩
      go_enter Try.func104, Try.ntmps104
      go_wp2_with (go_at_call 81; (with_reducible refine CL.out.mono ?_); rintro e w1 ⟨rfl, rfl⟩)
      go_ret
      exact ⟨rfl, World.grownBy.but GB.out _, HD.out⟩
    | false =>
      rw [hdk, Bool.false_or] at E
      rw [hdk] at q0
      cases hb : S.b k with
      | false =>
        rw [hb, Bool.not_false, if_pos rfl] at E
        rw [hb] at p0
        obtain ⟨rfl, rfl⟩ : r = false ∧ d' = d := by have := E.out; simp only [Option.some.injEq, Prod.mk.injEq] at this; exact ⟨this.1.symm, this.2.symm⟩
        go_enter Try.func104, Try.ntmps104
        go_wp2_with (go_at_call 81; (with_reducible refine CL.out.mono ?_); rintro e w1 ⟨rfl, rfl⟩)
        go_ret
        exact ⟨rfl, World.grownBy.but GB.out _, HD.out⟩
      | true =>
        rw [hb, Bool.not_true, if_neg (by simp)] at E
        rw [hb] at p0
        have GS := Lib.hid (grown_set (w := W) db k (.bool true))
        have GA := Lib.hid (gr_al (W.setCell ⟨db, k, none⟩ (.bool true)) (.cells #[iv 5, iv v, s] 24))
        have H2 := Lib.hid ((H0.out.grow GS.out NBB.out).gr GA.out)
        have HD2 := Lib.hid (show DM db (d.set k true) ((W.setCell ⟨db, k, none⟩ (.bool true)).alloc (.cells #[iv 5, iv v, s] 24)) from gr_h GA.out (D0.out.set k))
        obtain ⟨y, ye, yt, y0, y1, y2⟩ := H2.out.tg hk hb
        have CY := Lib.hid (IH y (d.set k true) d' r db _ H2.out yt NBB.out HD2.out (by rw [List.length_set]; exact LL.out) (by rw [ye]; exact E.out))
        unfold Ty.v at CY
        obtain ⟨-, -, -, t3⟩ := H2.out.hd
        clear IH H1 HD ye yt
        go_enter Try.func104, Try.ntmps104
        go_wp2_with (first | (go_at_call 81; (with_reducible refine CL.out.mono ?_); rintro e w1 ⟨rfl, rfl⟩) | (go_at_call 104; (with_reducible refine CY.out.mono ?_); rintro e w2 ⟨rfl, g, hd⟩; have G2 := Lib.hid g; have D2 := Lib.hid hd; clear g hd))
        go_ret
        exact ⟨rfl, GS.out.trans ((World.grownBy.but GA.out _).trans G2.out), D2.out⟩
attribute [local irreducible] Calls in
set_option maxRecDepth 100000 in
set_option maxHeartbeats 4000000 in
theorem inside_sub (b : SB) (B : Nat) (V : List Int) (S : SS) (L : List Ty) (c : Nat) (f : Nat → List Bool → Option (Bool × List Bool)) (x : Ty)
    (IH : ∀ y ∈ x.sub, ∀ (d d' : List Bool) (r : Bool) (db : Nat) (W : World), SMem b B V S L W → TG B V y W → NB b B db → DM db d W → d.length = V.length → insT c (cls V S) S.b f y.er d = some (r, d') → Calls Try.prog 104 #[.pointer (some ⟨b.sp, 0, none⟩), iv c, y.v, .slice (some ⟨db, 0, none⟩) V.length V.length] W (InP db r d' W) ∧ d'.length = V.length)
    (d d' : List Bool) (r : Bool) (db : Nat) (W : World) (h : SMem b B V S L W) (hx : TG B V x W) (hk : x.kind ≠ 5) (nb : NB b B db) (hd : DM db d W) (hl : d.length = V.length)
    (e : insL c (cls V S) S.b f (ers x.sub) d = some (r, d')) : Calls Try.prog 104 #[.pointer (some ⟨b.sp, 0, none⟩), iv c, x.v, .slice (some ⟨db, 0, none⟩) V.length V.length] W (InP db r d' W) := by
  have HB := Lib.hid (al_new W (.cells #[iv x.kind, iv x.var, .slice x.A x.sub.length x.c] 24))
  obtain ⟨⟨b0, b1, b2⟩, -⟩ := cell3 HB.out
  have GB := Lib.hid (gr_al W (.cells #[iv x.kind, iv x.var, .slice x.A x.sub.length x.c] 24))
  have H1 := Lib.hid (h.gr GB.out)
  have X1 := Lib.hid (hx.gr GB.out)
  have HD := Lib.hid (show DM db d (W.alloc (.cells #[iv x.kind, iv x.var, .slice x.A x.sub.length x.c] 24)) from gr_h GB.out hd)
  have hdb := heap_lt hd
  have NBB := Lib.hid nb
  have E := Lib.hid e
  have LL := Lib.hid hl
  have hlen : x.sub.length ≤ 9223372036854775807 := Nat.le_trans hx.rd.hc hx.rd.hm
  have IHH := Lib.hid IH
  have hkb : (x.kind != 5) = true := by simpa using hk
  clear h hx hd hl nb e IH
  unfold Ty.v
  obtain ⟨N, hN⟩ : ∃ N, x.sub.length = N := ⟨_, rfl⟩
  have HN := Lib.hid hN
  generalize hW1 : W.alloc _ = W1 at *
  obtain ⟨K, hKK⟩ : ∃ K, W.heap.size = K := ⟨_, rfl⟩
  simp only [hKK, hN] at b0 b1 b2 hlen hdb
  have HBK := Lib.hid (show W1.heap[K]? = some (.cells #[iv x.kind, iv x.var, .slice x.A N x.c] 24 (0, 0)) from by rw [← hKK, ← hN]; exact HB.out)
  rw [← hN] at HBK
  rw [hN]
  have HW1 := Lib.hid (show W.alloc (.cells #[iv x.kind, iv x.var, .slice x.A N x.c] 24) = W1 from by rw [← hN]; exact hW1)
  have HKK := Lib.hid hKK
  clear HB hW1 hKK hN
  go_enter Try.func104, Try.ntmps104
  go_upto_region 1 with (fail)
  rw [HW1.out, HKK.out]
  clear HW1 HKK
  go_wp2
  go_loopw [9] (fun i U => ∃ k : Nat, i = .int .i64 k ∧ k ≤ N ∧ Hid (W1.grownBy U (some db) ∧ ∃ di, DM db di U ∧ di.length = V.length ∧ insL c (cls V S) S.b f (ers (x.sub.drop k)) di = some (r, d'))) (fun i _ => N - (intOf i).toNat)
  case atStart => exact ⟨0, rfl, Nat.zero_le _, Lib.hid ⟨World.grownBy.refl _ _, d, HD.out, LL.out, by rw [List.drop_zero]; exact E.out⟩⟩
  case round =>
    obtain ⟨k, rfl, hkn, HG⟩ := hrel
    have GU := Lib.hid HG.out.1
    obtain ⟨di, hdi, hli, ei⟩ := HG.out.2
    have DI := Lib.hid hdi
    have LI := Lib.hid hli
    have EI := Lib.hid ei
    clear hdi hli ei HG b0 b1 b2
    obtain ⟨⟨b0, b1, b2⟩, -⟩ := cell3 (gb_h GU.out HBK.out (by omega))
    rw [HN.out] at b2
    by_cases hlt : k < N
    · have hlt2 : k < x.sub.length := by rw [HN.out]; exact hlt
      obtain ⟨a, a1, hA, ha, hab, q0, q1, q2, -⟩ := (X1.out.grow GU.out NBB.out.lo).rd.at hlt2
      have EI2 := Lib.hid (show (match insT c (cls V S) S.b f (x.sub[k]).er di with | some (true, d') => some (true, d') | some (false, d') => insL c (cls V S) S.b f (ers (x.sub.drop (k + 1))) d' | none => none) = some (r, d') from by
        have h := EI.out
        rw [drop_get hlt2, ers_cons, insL] at h
        exact h)
      have hmem : x.sub[k] ∈ x.sub := List.getElem_mem hlt2
      have YG := Lib.hid ((X1.out.grow GU.out NBB.out.lo).sub hmem)
      have IY := Lib.hid (IHH.out _ hmem)
      rw [hA] at b2
      clear hA
      generalize x.sub[k] = y at *
      cases hq : insT c (cls V S) S.b f y.er di with
      | none => have h := EI2.out; rw [hq] at h; cases h
      | some p =>
        obtain ⟨r1, d1⟩ := p
        obtain ⟨cy, ly⟩ := IY.out di d1 r1 db _ (H1.out.grow GU.out NBB.out) YG.out NBB.out DI.out LI.out hq
        have CY := Lib.hid cy
        have LY := Lib.hid ly
        rw [hq] at EI2
        unfold Ty.v at CY
        clear cy ly hq EI
        cases r1 with
        | true =>
          obtain ⟨rfl, rfl⟩ : r = true ∧ d' = d1 := by have := EI2.out; simp only [Option.some.injEq, Prod.mk.injEq] at this; exact ⟨this.1.symm, this.2.symm⟩
          go_wp2_with (go_at_call 104; (with_reducible refine CY.out.mono ?_); rintro e w2 ⟨rfl, g, hd⟩; have G2 := Lib.hid g; have D2 := Lib.hid hd; clear g hd)
          go_ret
          exact ⟨rfl, (World.grownBy.but GB.out _).trans (GU.out.trans G2.out), D2.out⟩
        | false =>
          go_wp2_with (go_at_call 104; (with_reducible refine CY.out.mono ?_); rintro e w2 ⟨rfl, g, hd⟩; have G2 := Lib.hid g; have D2 := Lib.hid hd; clear g hd)
          exact ⟨⟨k + 1, by simp, by omega, Lib.hid ⟨GU.out.trans G2.out, d1, D2.out, LY.out, EI2.out⟩⟩, by simp [intOf]; omega⟩
    · obtain rfl : N = k := by omega
      have h := EI.out
      rw [List.drop_of_length_le (by rw [HN.out]; exact Nat.le_refl _), ers_nil, insL] at h
      obtain ⟨rfl, rfl⟩ : r = false ∧ d' = di := by simp only [Option.some.injEq, Prod.mk.injEq] at h; exact ⟨h.1.symm, h.2.symm⟩
      clear h EI
      go_wp2
      go_ret
      exact ⟨rfl, (World.grownBy.but GB.out _).trans GU.out, DI.out⟩
theorem inside_any (b : SB) (B : Nat) (V : List Int) (S : SS) (L : List Ty) (c : Nat) : ∀ (n : Nat) (x : Ty) (d d' : List Bool) (r : Bool) (db : Nat) (W : World), SMem b B V S L W → TG B V x W → NB b B db → DM db d W → d.length = V.length → insP V S c n x.er d = some (r, d') → Calls Try.prog 104 #[.pointer (some ⟨b.sp, 0, none⟩), iv c, x.v, .slice (some ⟨db, 0, none⟩) V.length V.length] W (InP db r d' W) := by
  intro n
  induction n with
  | zero => intro x d d' r db W _ _ _ _ _ e; cases e
  | succ n ihn =>
    intro x
    induction x using Ty.ind with
    | h x ih =>
      intro d d' r db W h hx nb hd hl e
      rw [insP] at e
      by_cases hk : x.kind = 5
      · obtain ⟨K, v, A, cc, s⟩ := x
        have hgv := hx.gv
        simp only [Ty.kind] at hk
        subst hk
        rw [Ty.er] at e hgv
        have hs := good_var hgv.c rfl
        simp only [PT.var] at hs
        have hv : v ∈ V := hgv.v v (by rw [hs]; exact vin_vr.2 rfl)
        rw [hs] at e
        exact inside_var b B V S L c n ihn v _ d d' r db W h hv nb hd hl e
      · rw [er_eq, insT, if_neg hk] at e
        refine inside_sub b B V S L c _ x (fun y hy d d' r db W h hy' nb hd hl e => ⟨ih y hy d d' r db W h hy' nb hd hl (by rw [insP]; exact e), ?_⟩) d d' r db W h hx hk nb hd hl e
        have h3 := insP_len (n := n + 1) (V := V) (S := S) (c := c) (t := y.er) (d := d) (by rw [insP]; exact e)
        exact h3.trans hl
end Go.Proofs.Ytjlmhfdigoogfaa

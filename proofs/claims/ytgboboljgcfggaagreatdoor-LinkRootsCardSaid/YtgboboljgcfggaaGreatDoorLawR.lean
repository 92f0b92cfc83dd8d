/- Law: LinkRoots. -/
import Derived.Test.YtgboboljgcfggaaGreatDoorMd1
namespace Go.Proofs.YtgboboljgcfggaaGreatDoor
open Go.RowKit Go.Maps

theorem rd_nam {w : World} {Ad : Option Addr} {L : List Nam} (h : RD 2 Nam.cs w Ad L) {k : Nat} {x : Nam} (hx : L[k]? = some x) : ∃ a a1 : Addr, Ad = some a ∧ a.add (k * 2) = a1 ∧ w.cell? a1 = some (.string ⟨x.pack.toArray⟩) ∧ w.cell? ⟨a1.block, a1.off + 1, none⟩ = some (.int .i64 x.id) := by
  obtain ⟨hk, e2⟩ := List.getElem?_eq_some_iff.1 hx
  obtain ⟨a, a1, e, h1, -, h2, h3⟩ := h.nam hk
  rw [e2] at h2 h3
  exact ⟨a, a1, e, h1, h2, h3⟩
theorem spots_le {m : Nat} : ∀ (l : List PC), (∀ c ∈ l, c.blocks.length ≤ m) → (spots l).length ≤ l.length * m := by
  have key : ∀ (l : List PC) (i : Nat), (∀ c ∈ l, c.blocks.length ≤ m) → ((l.zipIdx i).flatMap fun (c, i) => (List.range c.blocks.length).map fun j : Nat => (⟨i, (j : Int)⟩ : Sp)).length ≤ l.length * m := by
    intro l
    induction l with
    | nil => intro i _; simp
    | cons c l ih =>
      intro i h
      have h1 := ih (i + 1) (fun c hc => h c (by simp [hc]))
      have h2 := h c (by simp)
      rw [List.zipIdx_cons, List.flatMap_cons, List.length_append, List.length_cons, Nat.succ_mul]
      simp only [List.length_map, List.length_range] at h1 ⊢
      omega
  exact fun l h => key l 0 h
theorem spots_sm {L : List Cod} (h : L.length ≤ 4 ∧ ∀ c ∈ L, SmC c) : (spots (pls L)).length ≤ 240 := by
  have h1 := spots_le (m := 60) (pls L) (fun c hc => by
    unfold pls at hc
    obtain ⟨d, hd, rfl⟩ := List.mem_map.1 hc
    have := (h.2 d hd).b
    unfold Cod.pl
    simpa using this)
  have h2 : (pls L).length = L.length := by unfold pls; simp
  rw [h2] at h1
  have := h.1
  have h3 : L.length * 60 ≤ 4 * 60 := Nat.mul_le_mul_right _ this
  omega
theorem sm_lim {L : List Cod} (h : L.length ≤ 4 ∧ ∀ c ∈ L, SmC c) : (∀ x ∈ L, x.Lim) ∧ ∀ c ∈ L, ∀ b ∈ c.bs, b.ins.length ≤ 100000 :=
  ⟨fun c hc => (h.2 c hc).lim, fun c hc b hb => by have := ((h.2 c hc).i b hb).1; omega⟩
theorem link_small (w : World) (Ad Ar : Option Addr) (cp cr : Nat) (L : List Cod) (R : List Nam) (hL : CRd w Ad L) (h : L.length ≤ 4 ∧ ∀ c ∈ L, SmC c) (hR : RD 2 Nam.cs w Ar R) (hr : R.length ≤ 8) (hok : ∀ n ∈ R, n.Ok) : Calls Tryz.prog 16 #[.slice Ad L.length cp, .slice Ar R.length cr] w (LkP L R w) :=
  link_any w Ad Ar cp cr _ _ L R hL rfl (by have := h.1; omega) (sm_lim h).1 (sm_lim h).2 (by have := spots_sm h; omega) hR rfl (by omega) hok
theorem cells8 {w : World} {m : Nat} {t : TypeId} {v0 v1 v2 v3 v4 v5 v6 v7 : Value} (h : w.heap[m]? = some (.cells #[v0, v1, v2, v3, v4, v5, v6, v7] t (0, 0))) : w.cell? ⟨m, 0, none⟩ = some v0 ∧ w.cell? ⟨m, 1, none⟩ = some v1 ∧ w.cell? ⟨m, 2, none⟩ = some v2 ∧ w.cell? ⟨m, 3, none⟩ = some v3 ∧ w.cell? ⟨m, 4, none⟩ = some v4 ∧ w.cell? ⟨m, 5, none⟩ = some v5 ∧ w.cell? ⟨m, 6, none⟩ = some v6 ∧ w.cell? ⟨m, 7, none⟩ = some v7 := by
  refine ⟨?_, ?_, ?_, ?_, ?_, ?_, ?_, ?_⟩ <;> (rw [Lib.cell_of_heap h]; rfl)
theorem dcN {V : World} {k : Nat} {x y : Value} {t : TypeId} (h : V.heap[k]? = some (.cells #[x, y] t (0, 0))) : V.cell? ⟨k, 0, none⟩ = some x ∧ V.cell? ⟨k, 1, none⟩ = some y :=
  ⟨by rw [Lib.cell_of_heap h]; rfl, by rw [Lib.cell_of_heap h]; rfl⟩
section
variable {P : Program} {ops : Array Oper} {Q : Exit → Act → World → Prop} {S : World → Prop}
/-- An operation that yields is taken; it is not written out. -/
theorem takeH {i : Nat} {d : Option Tmp} {v : Value} {fuel : Nat} {listed : Array Bool} {a : Act} {w : World} (hd : (ops[i]?).map (·.dst) = some d)
    (hs : Region.noSelect ops = true) (hf : Region.free .any ops listed i = true) (hr : (Region.ready .any ops listed).contains i = true)
    (hQ : ∀ c a w, Q (.panic c) (a.put d v) w → Q (.panic c) a w) (hy : ∀ oi, ops[i]? = some oi → YieldsIf P ops S oi v a) (hS : S w)
    (h : wpAnyH P .any ops Q S fuel (listed.setIfInBounds i true) (a.put d v) w) : wpAnyH P .any ops Q S (fuel + 1) listed a w := by
  cases ho : ops[i]? with
  | none => rw [ho] at hd; cases hd
  | some oi =>
    rw [ho] at hd
    have e : oi.dst = d := by simpa using hd
    subst e
    exact wpAnyH_take ho hs hf hr hQ (hy oi ho) hS h
/-- An operation that is not wanted is skipped. -/
theorem skipH {i : Nat} {d : Option Tmp} {fuel : Nat} {listed : Array Bool} {a : Act} {w : World} (hd : (ops[i]?).map (·.dst) = some d)
    (hs : Region.noSelect ops = true) (hf : Region.free .any ops listed i = true) (hr : (Region.ready .any ops listed).contains i = true)
    (hQ : ∀ c a w, Q (.panic c) (a.put d undef) w → Q (.panic c) a w) (hn : (ops[i]?).map (fun o => Region.wanted o (yielded ops a.tmps)) = some false) (hS : S w)
    (h : wpAnyH P .any ops Q S fuel (listed.setIfInBounds i true) (a.put d undef) w) : wpAnyH P .any ops Q S (fuel + 1) listed a w :=
  takeH hd hs hf hr hQ (fun oi ho => Or.inr ⟨by rw [ho] at hn; simpa using hn, rfl⟩) hS h
end
attribute [local irreducible] Calls in
set_option maxRecDepth 100000 in
set_option maxHeartbeats 8000000 in
theorem roots_walk (Ad Ar : Option Addr) (cp cr : Nat) (L : List Cod) (R : List Nam) (at_ : Nat) (seed : Int) (w : World) (hL : CRd w Ad L) (hl : L.length ≤ 9223372036854775807) (hR : RD 2 Nam.cs w Ar R) (hr : R.length ≤ 9223372036854775807) (hok : ∀ n ∈ R, n.Ok) (hat : at_ < 256) :
    Calls Tryz.prog 5 #[.slice Ad L.length cp, .slice Ar R.length cr, .agg #[.int .u8 at_, .int .u64 seed]] w fun e w' => e = .returned (.bool true) ∧ Gr w w' := by
  obtain ⟨nc, hnc⟩ : ∃ n, L.length = n := ⟨_, rfl⟩
  obtain ⟨nr, hnr⟩ : ∃ n, R.length = n := ⟨_, rfl⟩
  have HL := Lib.hid (fun V (g : Gr w V) => hL.gr g)
  have HR := Lib.hid (fun V (g : Gr w V) => hR.gr g)
  have HOK := Lib.hid hok
  have HNR := Lib.hid hnr
  have HNC := Lib.hid hnc
  have GC := Lib.hid (fun V (g : Gr w V) => great_any Ad cp L V (hL.gr g) hl)
  have AW := Lib.hid (fun V => awake_any V)
  have LK := Lib.hid (fun V (g : Gr w V) (h : L.length ≤ 4 ∧ ∀ c ∈ L, SmC c) (h8 : R.length ≤ 8) => link_small V Ad Ar cp cr L R (hL.gr g) h (hR.gr g) h8 hok)
  have LO := Lib.hid (fun V (g : Gr w V) (h : L.length ≤ 4 ∧ ∀ c ∈ L, SmC c) (A : Option Addr) (n : Nam) (hn : n ∈ R) (ha : RD 2 Nam.cs V A [n]) => link_small V Ad A cp 1 L [n] (hL.gr g) h ha (by simp) (fun m hm => by rw [List.mem_singleton] at hm; subst hm; exact hok m hn))
  rw [hnc] at hl GC LK LO ⊢
  rw [hnr] at hr LK ⊢
  clear hL hR hok hnc hnr
  have GX := Lib.hid (gr_al w (.cells #[.int .u8 at_, .int .u64 seed] 44))
  have X0 := Lib.hid (al_new w (.cells #[.int .u8 at_, .int .u64 seed] 44))
  obtain ⟨kc, hkc⟩ : ∃ k, w.heap.size = k := ⟨_, rfl⟩
  go_enter Tryz.func5, Tryz.ntmps5
  go_upto_region 1 with fail
  rw [hkc] at X0
  clear hkc
  generalize w.alloc (.cells #[.int .u8 at_, .int .u64 seed] 44) = W0 at *
  obtain ⟨c0, c1, -, -⟩ := (⟨by rw [Lib.cell_of_heap X0.out]; rfl, by rw [Lib.cell_of_heap X0.out]; rfl, trivial, trivial⟩ : W0.cell? ⟨kc, 0, none⟩ = some (.int .u8 at_) ∧ W0.cell? ⟨kc, 1, none⟩ = some (.int .u64 seed) ∧ True ∧ True)
  go_quiet (fail)
  have G1 := Lib.hid (GX.out.trans (gr_drewN W0 nq))
  generalize W0.drewN nq = W1 at *
  clear GX X0 c0 c1
  have GC := Lib.hid (GC.out W1 G1.out)
  by_cases h8 : 1 ≤ nr ∧ nr ≤ 8
  · obtain ⟨h1, h8⟩ := h8
    have e8 : decide (8 < nr) = false := decide_eq_false (by omega)
    have e0 : (nr == 0) = false := by simp; omega
    have e00 : ¬ nr = 0 := by omega
    go_upto_region 4 with (first
      | (go_at_call 15; refine GC.out.mono ?_; rintro e w1 ⟨g1, g, rfl, hg⟩; have G2 := Lib.hid (G1.out.trans g1); have HG := Lib.hid hg; clear g1 hg; cases g)
      | (go_at_call 6; refine (AW.out _).mono ?_; rintro e w2 ⟨rfl, g2⟩; have G3 := Lib.hid g2; clear g2))
    all_goals try (go_ret; exact ⟨rfl, G2.out.trans G3.out⟩)
    have SM := Lib.hid (HG.out (by simp))
    clear HG GC
    obtain ⟨i, hi⟩ : ∃ i, at_ % nr = i := ⟨_, rfl⟩
    have hil : i < nr := by rw [← hi]; exact Nat.mod_lt _ (by omega)
    have em : Int.tmod (at_ : Int) (nr : Int) = (i : Int) := by rw [← hi]; rfl
    have ew : IntKind.i64.wrap (at_ : Int) = (at_ : Int) := IntWalk.i64_in _ (by omega)
    obtain ⟨n, hn⟩ : ∃ n, R[i]? = some n := ⟨_, List.getElem?_eq_getElem (by rw [HNR.out]; exact hil)⟩
    obtain ⟨a, a1, eA, ha, y0, y1⟩ := rd_nam (HR.out _ G2.out) hn
    have HNM := Lib.hid (List.mem_of_getElem? hn)
    clear hi hn
    subst eA
    go_upto_region 5 with fail
    have GN := Lib.hid (G2.out.trans (gr_al w1 (.cells #[.string ⟨n.pack.toArray⟩, .int .i64 n.id] 33)))
    have XN := Lib.hid (al_new w1 (.cells #[.string ⟨n.pack.toArray⟩, .int .i64 n.id] 33))
    obtain ⟨kn, hkn⟩ : ∃ m, w1.heap.size = m := ⟨_, rfl⟩
    rw [hkn] at XN ⊢
    clear hkn y0 y1 em ew e8 e0 e00 ha
    generalize w1.alloc (.cells #[.string ⟨n.pack.toArray⟩, .int .i64 n.id] 33) = W2 at *
    have NX := Lib.hid (fun V (g : Gr W2 V) => dcN (gr_h g XN.out))
    obtain ⟨er, her⟩ : ∃ z, (linkV L R).1 = z := ⟨_, rfl⟩
    obtain ⟨er2, her2⟩ : ∃ z, (linkV L [n]).1 = z := ⟨_, rfl⟩
    have HER := Lib.hid her
    have HER2 := Lib.hid her2
    have LP := Lib.hid (show Calls Tryz.prog 16 #[.slice Ad nc cp, .slice (some a) nr cr] W2 (fun e w' => ∃ (bA : Option Addr) (bc : Nat) (bs : List Blk) (sA : Option Addr) (sc : Nat) (ss : List Stt) (nb ns : Nat), e = .returned (.tuple #[.agg #[.slice bA nb bc, .slice sA ns sc], .int .i64 er]) ∧ bs.length = nb ∧ ss.length = ns ∧ Prg.Rd w' ⟨bA, bc, bs, sA, sc, ss⟩ ∧ bs.map Blk.pb = (linkV L R).2.1 ∧ ss = (linkV L R).2.2 ∧ Gr W2 w' ∧ ∀ b ∈ bs, b.ins.length ≤ 100000) from
      (LK.out _ GN.out SM.out h8).mono fun e w' ⟨⟨bA, bc, bs, sA, sc, ss⟩, h1, h2, h3, h4, h5, h6⟩ => ⟨bA, bc, bs, sA, sc, ss, _, _, by rw [h1, her]; rfl, rfl, rfl, h2, h3, h4, h5, h6⟩)
    have LO := Lib.hid (fun V (g : Gr w V) (A : Option Addr) (ha : RD 2 Nam.cs V A [n]) => show Calls Tryz.prog 16 #[.slice Ad nc cp, .slice A 1 1] V (fun e w' => ∃ (bA : Option Addr) (bc : Nat) (bs : List Blk) (sA : Option Addr) (sc : Nat) (ss : List Stt) (nb ns : Nat), e = .returned (.tuple #[.agg #[.slice bA nb bc, .slice sA ns sc], .int .i64 er2]) ∧ bs.length = nb ∧ ss.length = ns ∧ Prg.Rd w' ⟨bA, bc, bs, sA, sc, ss⟩ ∧ bs.map Blk.pb = (linkV L [n]).2.1 ∧ ss = (linkV L [n]).2.2 ∧ Gr V w' ∧ ∀ b ∈ bs, b.ins.length ≤ 100000) from
      (LO.out V g SM.out A n HNM.out ha).mono fun e w' ⟨⟨bA, bc, bs, sA, sc, ss⟩, h1, h2, h3, h4, h5, h6⟩ => ⟨bA, bc, bs, sA, sc, ss, _, _, by rw [h1, her2]; rfl, rfl, rfl, h2, h3, h4, h5, h6⟩)
    clear LK her her2 GC
    go_upto_region 6 with (go_at_call 16; refine LP.out.mono ?_; rintro e w3 ⟨bA1, bc1, bs1, sA1, sc1, ss1, nb1, ns1, rfl, y1, y2, x1, x2, x3, g, x4⟩; have NB1 := Lib.hid y1; have NS1 := Lib.hid y2; have XR1 := Lib.hid x1; have XB1 := Lib.hid x2; have XS1 := Lib.hid x3; have LG1 := Lib.hid g; have XL1 := Lib.hid x4; clear x1 x2 x3 g x4 y1 y2)
    have XR1 := Lib.hid (fun V (g : Gr (w3.alloc (.cells #[.slice bA1 nb1 bc1, .slice sA1 ns1 sc1] 26)) V) => XR1.out.below (below_of ((gr_al w3 (.cells #[.slice bA1 nb1 bc1, .slice sA1 ns1 sc1] 26)).trans g)))
    have Y1 := Lib.hid (al_new w3 (.cells #[.slice bA1 nb1 bc1, .slice sA1 ns1 sc1] 26))
    obtain ⟨k1, hk1⟩ : ∃ m, w3.heap.size = m := ⟨_, rfl⟩
    rw [hk1] at Y1 ⊢
    have GA1 := Lib.hid (LG1.out.trans (gr_al w3 (.cells #[.slice bA1 nb1 bc1, .slice sA1 ns1 sc1] 26)))
    generalize w3.alloc (.cells #[.slice bA1 nb1 bc1, .slice sA1 ns1 sc1] 26) = W3 at *
    clear hk1 LG1
    clear LP
    obtain ⟨n0, n1⟩ := NX.out _ GA1.out
    have RN := Lib.hid (show RD 2 Nam.cs (W3.alloc (.cells #[.string ⟨n.pack.toArray⟩, .int .i64 n.id] 33)) (some ⟨W3.heap.size, 0, none⟩) [n] from rd_cells (t := 33) (fun _ => rfl) (al_new _ _))
    have GB := Lib.hid (gr_al W3 (.cells #[.string ⟨n.pack.toArray⟩, .int .i64 n.id] 33))
    have LO2 := Lib.hid (LO.out (W3.alloc (.cells #[.string ⟨n.pack.toArray⟩, .int .i64 n.id] 33)) (GN.out.trans (GA1.out.trans GB.out)) _ RN.out)
    go_upto_region 7 with (go_at_call 16; refine LO2.out.mono ?_; rintro e w4 ⟨bA2, bc2, bs2, sA2, sc2, ss2, nb2, ns2, rfl, y1, y2, x1, x2, x3, g, x4⟩; have NB2 := Lib.hid y1; have NS2 := Lib.hid y2; have XR2 := Lib.hid x1; have XB2 := Lib.hid x2; have XS2 := Lib.hid x3; have LG2 := Lib.hid g; have XL2 := Lib.hid x4; clear x1 x2 x3 g x4 y1 y2)
    have XR2 := Lib.hid (fun V (g : Gr (w4.alloc (.cells #[.slice bA2 nb2 bc2, .slice sA2 ns2 sc2] 26)) V) => XR2.out.below (below_of ((gr_al w4 (.cells #[.slice bA2 nb2 bc2, .slice sA2 ns2 sc2] 26)).trans g)))
    have Y2 := Lib.hid (al_new w4 (.cells #[.slice bA2 nb2 bc2, .slice sA2 ns2 sc2] 26))
    obtain ⟨k2, hk2⟩ : ∃ m, w4.heap.size = m := ⟨_, rfl⟩
    rw [hk2] at Y2 ⊢
    have GA2 := Lib.hid (show Gr W3 (w4.alloc (.cells #[.slice bA2 nb2 bc2, .slice sA2 ns2 sc2] 26)) from GB.out.trans (LG2.out.trans (gr_al w4 (.cells #[.slice bA2 nb2 bc2, .slice sA2 ns2 sc2] 26))))
    generalize w4.alloc (.cells #[.slice bA2 nb2 bc2, .slice sA2 ns2 sc2] 26) = W5 at *
    clear hk2 LG2 GB RN LO2 LO n0 n1
    have GW := Lib.hid (GN.out.trans (GA1.out.trans GA2.out))
    by_cases h0 : er = 0
    · subst h0
      have smh : L.length ≤ 4 ∧ ∀ c ∈ L, SmC c := by rw [HNC.out]; exact SM.out
      obtain ⟨z2, f, m, cc, k1m, k2m, r1, r2⟩ := roots_runs (X := ⟨bA1, bc1, bs1, sA1, sc1, ss1⟩) (Y := ⟨bA2, bc2, bs2, sA2, sc2, ss2⟩) HNM.out HER.out XB1.out XS1.out XB2.out XS2.out (sm_lim smh).2 (by rw [HNR.out]; exact h8) HOK.out XL1.out XL2.out seed
      have ez : er2 = 0 := by rw [← HER2.out]; exact z2
      subst ez
      have KM := Lib.hid (And.intro k1m k2m)
      have R1 := Lib.hid (fun V (g : Gr W3 V) => show Calls Tryz.prog 17 #[.agg #[.slice bA1 nb1 bc1, .slice sA1 ns1 sc1], .agg #[.string ⟨n.pack.toArray⟩, .int .i64 n.id], .int .u64 seed] V (fun e w' => V.grownBy w' none ∧ ∃ M : AM, e = .returned (.tuple #[M.v, iv cc]) ∧ M.er = renM f bs1 m ∧ M.Rd w') from by
        have h := r1 V (XR1.out V g)
        unfold Prg.v at h
        simp only [NB1.out, NS1.out] at h
        exact h)
      have R2 := Lib.hid (fun V (g : Gr W5 V) => show Calls Tryz.prog 17 #[.agg #[.slice bA2 nb2 bc2, .slice sA2 ns2 sc2], .agg #[.string ⟨n.pack.toArray⟩, .int .i64 n.id], .int .u64 seed] V (fun e w' => V.grownBy w' none ∧ ∃ M : AM, e = .returned (.tuple #[M.v, iv cc]) ∧ M.er = m ∧ M.Rd w') from by
        have h := r2 V (XR2.out V g)
        unfold Prg.v at h
        simp only [NB2.out, NS2.out] at h
        exact h)
      have PX1 := Lib.hid (fun V (g : Gr W3 V) => dcN (gr_h g Y1.out))
      have PX2 := Lib.hid (fun V (g : Gr W5 V) => dcN (gr_h g Y2.out))
      clear r1 r2 smh k1m k2m XB1 XB2 XS1 XS2 XL1 XL2 XR1 XR2 Y1 Y2 HER HER2
      obtain ⟨n0, n1⟩ := NX.out _ (GA1.out.trans GA2.out)
      obtain ⟨p0, p1⟩ := PX1.out _ GA2.out
      go_upto_region 10 with (go_at_call 17; refine (R1.out _ GA2.out).mono ?_; rintro e w6 ⟨g6, M1, rfl, her1, hx1⟩; have G6 := Lib.hid g6; have HE1 := Lib.hid her1; have HX1 := Lib.hid hx1; clear g6 her1 hx1; unfold AM.v)
      clear n0 n1 p0 p1
      have XM1 := Lib.hid (al_new w6 (.cells #[.slice M1.p.bA M1.p.bs.length M1.p.bc, .slice M1.p.sA M1.p.ss.length M1.p.sc, .slice M1.sA M1.S.length M1.sc, .slice M1.fA M1.F.length M1.fc, .int .i64 M1.steps, .int .u64 M1.seed, .bool M1.done, .int .i64 M1.err] 50))
      have G7 := Lib.hid (show Gr W5 (w6.alloc (.cells #[.slice M1.p.bA M1.p.bs.length M1.p.bc, .slice M1.p.sA M1.p.ss.length M1.p.sc, .slice M1.sA M1.S.length M1.sc, .slice M1.fA M1.F.length M1.fc, .int .i64 M1.steps, .int .u64 M1.seed, .bool M1.done, .int .i64 M1.err] 50)) from G6.out.trans (gr_al w6 (.cells #[.slice M1.p.bA M1.p.bs.length M1.p.bc, .slice M1.p.sA M1.p.ss.length M1.p.sc, .slice M1.sA M1.S.length M1.sc, .slice M1.fA M1.F.length M1.fc, .int .i64 M1.steps, .int .u64 M1.seed, .bool M1.done, .int .i64 M1.err] 50)))
      have HX1 := Lib.hid (HX1.out.grow (World.grownBy_alloc w6 (.cells #[.slice M1.p.bA M1.p.bs.length M1.p.bc, .slice M1.p.sA M1.p.ss.length M1.p.sc, .slice M1.sA M1.S.length M1.sc, .slice M1.fA M1.F.length M1.fc, .int .i64 M1.steps, .int .u64 M1.seed, .bool M1.done, .int .i64 M1.err] 50) none))
      obtain ⟨km1, hkm1⟩ : ∃ k, w6.heap.size = k := ⟨_, rfl⟩
      rw [hkm1] at XM1 ⊢
      clear hkm1
      generalize w6.alloc (.cells #[.slice M1.p.bA M1.p.bs.length M1.p.bc, .slice M1.p.sA M1.p.ss.length M1.p.sc, .slice M1.sA M1.S.length M1.sc, .slice M1.fA M1.F.length M1.fc, .int .i64 M1.steps, .int .u64 M1.seed, .bool M1.done, .int .i64 M1.err] 50) = W7 at *
      obtain ⟨n0, n1⟩ := NX.out _ (GA1.out.trans (GA2.out.trans G7.out))
      obtain ⟨p0, p1⟩ := PX2.out _ G7.out
      go_upto_region 11 with (go_at_call 17; refine (R2.out _ G7.out).mono ?_; rintro e w8 ⟨g8, M2, rfl, her1, hx1⟩; have G8 := Lib.hid g8; have HE2 := Lib.hid her1; have HX2 := Lib.hid hx1; clear g8 her1 hx1; unfold AM.v)
      clear n0 n1 p0 p1
      have XM2 := Lib.hid (al_new w8 (.cells #[.slice M2.p.bA M2.p.bs.length M2.p.bc, .slice M2.p.sA M2.p.ss.length M2.p.sc, .slice M2.sA M2.S.length M2.sc, .slice M2.fA M2.F.length M2.fc, .int .i64 M2.steps, .int .u64 M2.seed, .bool M2.done, .int .i64 M2.err] 50))
      have G9 := Lib.hid (show Gr W7 (w8.alloc (.cells #[.slice M2.p.bA M2.p.bs.length M2.p.bc, .slice M2.p.sA M2.p.ss.length M2.p.sc, .slice M2.sA M2.S.length M2.sc, .slice M2.fA M2.F.length M2.fc, .int .i64 M2.steps, .int .u64 M2.seed, .bool M2.done, .int .i64 M2.err] 50)) from G8.out.trans (gr_al w8 (.cells #[.slice M2.p.bA M2.p.bs.length M2.p.bc, .slice M2.p.sA M2.p.ss.length M2.p.sc, .slice M2.sA M2.S.length M2.sc, .slice M2.fA M2.F.length M2.fc, .int .i64 M2.steps, .int .u64 M2.seed, .bool M2.done, .int .i64 M2.err] 50)))
      have HX2 := Lib.hid (HX2.out.grow (World.grownBy_alloc w8 (.cells #[.slice M2.p.bA M2.p.bs.length M2.p.bc, .slice M2.p.sA M2.p.ss.length M2.p.sc, .slice M2.sA M2.S.length M2.sc, .slice M2.fA M2.F.length M2.fc, .int .i64 M2.steps, .int .u64 M2.seed, .bool M2.done, .int .i64 M2.err] 50) none))
      obtain ⟨km2, hkm2⟩ : ∃ k, w8.heap.size = k := ⟨_, rfl⟩
      rw [hkm2] at XM2 ⊢
      clear hkm2
      generalize w8.alloc (.cells #[.slice M2.p.bA M2.p.bs.length M2.p.bc, .slice M2.p.sA M2.p.ss.length M2.p.sc, .slice M2.sA M2.S.length M2.sc, .slice M2.fA M2.F.length M2.fc, .int .i64 M2.steps, .int .u64 M2.seed, .bool M2.done, .int .i64 M2.err] 50) = W9 at *
      have HX1 := Lib.hid (HX1.out.grow G9.out)
      have XM1 := Lib.hid (gr_h G9.out XM1.out)
      have eS : M1.steps = M2.steps := (congrArg MM.steps HE1.out).trans (congrArg MM.steps HE2.out).symm
      have eD : M1.done = M2.done := (congrArg MM.done HE1.out).trans (congrArg MM.done HE2.out).symm
      have eE : M1.err = M2.err := (congrArg MM.err HE1.out).trans (congrArg MM.err HE2.out).symm
      have Q1 : ∃ x : AV, LRd W9.heap.size noT W9 x.A x.c x.list ∧ x.er = ren f (vR m) ∧ ∀ V, W9.grownBy V none → Calls Tryz.prog 18 #[M1.v] V fun e w' => e = .returned (.tuple #[x.v, iv (iR m)]) ∧ V.grownBy w' none := by
        have hS : ers M1.S = m.S.map (ren f) := congrArg MM.S HE1.out
        have hn : M1.S.length = m.S.length := by have h := congrArg List.length hS; simpa using h
        have h := result_any M1 W9 HX1.out (fun hd he => by
          have h1 := KM.out.1 ((congrArg MM.done HE1.out).symm.trans hd)
          rw [he] at hn
          exact h1 (List.eq_nil_of_length_eq_zero (by simpa using hn.symm))) (by rw [hn]; exact KM.out.2)
        rw [HE1.out, vR_ren, iR_ren] at h
        exact h
      have Q2 : ∃ x : AV, LRd W9.heap.size noT W9 x.A x.c x.list ∧ x.er = vR m ∧ ∀ V, W9.grownBy V none → Calls Tryz.prog 18 #[M2.v] V fun e w' => e = .returned (.tuple #[x.v, iv (iR m)]) ∧ V.grownBy w' none := by
        have hS : ers M2.S = m.S := congrArg MM.S HE2.out
        have hn : M2.S.length = m.S.length := by have h := congrArg List.length hS; simpa using h
        have h := result_any M2 W9 HX2.out (fun hd he => by
          have h1 := KM.out.1 ((congrArg MM.done HE2.out).symm.trans hd)
          rw [he] at hn
          exact h1 (List.eq_nil_of_length_eq_zero (by simpa using hn.symm))) (by rw [hn]; exact KM.out.2)
        rw [HE2.out] at h
        exact h
      obtain ⟨x, lx, ex, cx⟩ := Q1
      obtain ⟨y, ly, ey, cy⟩ := Q2
      obtain ⟨ir, hir⟩ : ∃ z, iR m = z := ⟨_, rfl⟩
      rw [hir] at cx cy
      have CX := Lib.hid cx
      have CY := Lib.hid cy
      have LX := Lib.hid lx
      have LY := Lib.hid ly
      have EX := Lib.hid ex
      have EY := Lib.hid ey
      unfold AM.v at CX CY
      obtain ⟨⟨a0, a1', a2, a3, a4, a5, a6, a7⟩, -⟩ := cells36 XM1.out
      obtain ⟨⟨d0, d1, d2, d3, d4, d5, d6, d7⟩, -⟩ := cells36 XM2.out
      rw [eS] at a4 CX
      rw [eD] at a6 CX
      rw [eE] at a7 CX
      have ES := Lib.hid (And.intro eS (And.intro eD eE))
      clear cx cy lx ly ex ey hir eS eD eE R1 R2 PX1 PX2 HE1 HE2 HX1 HX2 KM
      go_upto_region 14 with (go_at_call 18; refine (CX.out _ (World.grownBy.refl _ _)).mono ?_; rintro e w10 ⟨rfl, g⟩; have G10 := Lib.hid g; clear g; unfold AV.v)
      have XX := Lib.hid (al_new w10 (.cells #[.int .i64 x.kind, .int .i64 x.int, .slice x.A x.list.length x.c, .int .i64 x.block, .string ⟨#[]⟩, .string ⟨#[]⟩, .slice none 0 0, .slice none 0 0] 56))
      have G11 := Lib.hid (show Gr W9 (w10.alloc (.cells #[.int .i64 x.kind, .int .i64 x.int, .slice x.A x.list.length x.c, .int .i64 x.block, .string ⟨#[]⟩, .string ⟨#[]⟩, .slice none 0 0, .slice none 0 0] 56)) from G10.out.trans (gr_al w10 (.cells #[.int .i64 x.kind, .int .i64 x.int, .slice x.A x.list.length x.c, .int .i64 x.block, .string ⟨#[]⟩, .string ⟨#[]⟩, .slice none 0 0, .slice none 0 0] 56)))
      obtain ⟨kx, hkx⟩ : ∃ k, w10.heap.size = k := ⟨_, rfl⟩
      rw [hkx] at XX ⊢
      clear hkx a0 a1' a2 a3 a4 a5 a6 a7 d0 d1 d2 d3 d4 d5 d6 d7 CX
      generalize w10.alloc (.cells #[.int .i64 x.kind, .int .i64 x.int, .slice x.A x.list.length x.c, .int .i64 x.block, .string ⟨#[]⟩, .string ⟨#[]⟩, .slice none 0 0, .slice none 0 0] 56) = W11 at *
      obtain ⟨⟨d0, d1, d2, d3, d4, d5, d6, d7⟩, -⟩ := cells36 (gr_h G11.out XM2.out)
      go_upto_region 15 with (go_at_call 18; refine (CY.out _ G11.out).mono ?_; rintro e w12 ⟨rfl, g⟩; have G12 := Lib.hid g; clear g; unfold AV.v)
      have XY := Lib.hid (al_new w12 (.cells #[.int .i64 y.kind, .int .i64 y.int, .slice y.A y.list.length y.c, .int .i64 y.block, .string ⟨#[]⟩, .string ⟨#[]⟩, .slice none 0 0, .slice none 0 0] 56))
      have G13 := Lib.hid (show Gr W11 (w12.alloc (.cells #[.int .i64 y.kind, .int .i64 y.int, .slice y.A y.list.length y.c, .int .i64 y.block, .string ⟨#[]⟩, .string ⟨#[]⟩, .slice none 0 0, .slice none 0 0] 56)) from G12.out.trans (gr_al w12 (.cells #[.int .i64 y.kind, .int .i64 y.int, .slice y.A y.list.length y.c, .int .i64 y.block, .string ⟨#[]⟩, .string ⟨#[]⟩, .slice none 0 0, .slice none 0 0] 56)))
      obtain ⟨ky, hky⟩ : ∃ k, w12.heap.size = k := ⟨_, rfl⟩
      rw [hky] at XY ⊢
      clear hky d0 d1 d2 d3 d4 d5 d6 d7 CY
      generalize w12.alloc (.cells #[.int .i64 y.kind, .int .i64 y.int, .slice y.A y.list.length y.c, .int .i64 y.block, .string ⟨#[]⟩, .string ⟨#[]⟩, .slice none 0 0, .slice none 0 0] 56) = W13 at *
      have LX := Lib.hid (fun V (g : Gr W13 V) => noT_up LX.out (G11.out.trans (G13.out.trans g)))
      have LY := Lib.hid (fun V (g : Gr W13 V) => noT_up LY.out (G11.out.trans (G13.out.trans g)))
      have CXY := Lib.hid (fun V (g : Gr W13 V) => And.intro (cells8 (gr_h g (gr_h G13.out XX.out))) (cells8 (gr_h g XY.out)))
      have szx : szL (ers x.list) 300 1 = szL (ers y.list) 300 1 := by
        have h1 : szV x.er 300 = szV y.er 300 := by rw [EX.out, EY.out, szV_ren]
        have e : ∀ z : AV, szV z.er 300 = szL (ers z.list) 300 1 := fun z => by cases z; rw [AV.er, szV]; rfl
        rw [e, e] at h1
        exact h1
      obtain ⟨sz, hsz⟩ : ∃ z, szL (ers y.list) 300 1 = z := ⟨_, rfl⟩
      have S1 := Lib.hid (fun V (g : Gr W13 V) => show Calls Tryz.prog 19 #[.agg #[.int .i64 x.kind, .int .i64 x.int, .slice x.A x.list.length x.c, .int .i64 x.block, .string ⟨#[]⟩, .string ⟨#[]⟩, .slice none 0 0, .slice none 0 0], .int .i64 300] V (fun e w' => e = .returned (.int .i64 sz) ∧ Gr V w') from by
        have h := size_any (LX.out V g) x.kind x.int x.block 300 V (gr_refl _) (by omega) (by omega)
        unfold SzP at h
        rw [szx, hsz] at h
        exact h)
      have S2 := Lib.hid (fun V (g : Gr W13 V) => show Calls Tryz.prog 19 #[.agg #[.int .i64 y.kind, .int .i64 y.int, .slice y.A y.list.length y.c, .int .i64 y.block, .string ⟨#[]⟩, .string ⟨#[]⟩, .slice none 0 0, .slice none 0 0], .int .i64 300] V (fun e w' => e = .returned (.int .i64 sz) ∧ Gr V w') from by
        have h := size_any (LY.out V g) y.kind y.int y.block 300 V (gr_refl _) (by omega) (by omega)
        unfold SzP at h
        rw [hsz] at h
        exact h)
      clear szx hsz
      have ek : x.kind = y.kind := by
        have h1 : x.er.kind = y.er.kind := by rw [EX.out, EY.out, ren_kind]
        have e : ∀ z : AV, z.er.kind = z.kind := fun z => by cases z; rw [AV.er]; rfl
        rw [e, e] at h1
        exact h1
      have EK := Lib.hid ek
      clear ek
      obtain ⟨⟨x0, x1, x2, x3, x4, x5, x6, x7⟩, ⟨y0, y1, y2, y3, y4, y5, y6, y7⟩⟩ := CXY.out _ (gr_refl _)
      have G5 := Lib.hid (GW.out.trans (G7.out.trans (G9.out.trans (G11.out.trans G13.out))))
      by_cases h3 : sz ≤ 300
      · have e3 : decide (300 < sz) = false := decide_eq_false (by omega)
        go_upto_region 17 with (first
          | (go_at_call 19; refine (S1.out _ (gr_refl _)).mono ?_; rintro e w14 ⟨rfl, g⟩; have G14 := Lib.hid g; clear g; clear x0 x1 x2 x3 x4 x5 x6 x7 y0 y1 y2 y3 y4 y5 y6 y7; obtain ⟨-, ⟨y0, y1, y2, y3, y4, y5, y6, y7⟩⟩ := CXY.out _ G14.out)
          | (go_at_call 19; refine (S2.out _ G14.out).mono ?_; rintro e w15 ⟨rfl, g⟩; have G15 := Lib.hid (G14.out.trans g); clear g; clear y0 y1 y2 y3 y4 y5 y6 y7))
        have GZ := Lib.hid (show Gr W13 w15 from G15.out)
        obtain ⟨⟨x0, x1, x2, x3, x4, x5, x6, x7⟩, ⟨y0, y1, y2, y3, y4, y5, y6, y7⟩⟩ := CXY.out _ GZ.out
        by_cases hz : ir = 0
        · subst hz
          have EP : ∀ z : AV, plV z.er = (plVL (ers z.list) && z.kind != 4) := fun z => by cases z; rw [AV.er, plV]; rfl
          obtain ⟨pv, hpv⟩ : ∃ z, plV (vR m) = z := ⟨_, rfl⟩
          have px : (plVL (ers x.list) && x.kind != 4) = pv := by rw [← EP, EX.out, plV_ren, hpv]
          have py : (plVL (ers y.list) && y.kind != 4) = pv := by rw [← EP, EY.out, hpv]
          have P1 := Lib.hid (fun V (g : Gr W13 V) => show Calls Tryz.prog 20 #[.agg #[.int .i64 x.kind, .int .i64 x.int, .slice x.A x.list.length x.c, .int .i64 x.block, .string ⟨#[]⟩, .string ⟨#[]⟩, .slice none 0 0, .slice none 0 0]] V (fun e w' => e = .returned (.bool pv) ∧ Gr V w') from by
            have h := plain_any30 (LX.out V g) x.kind x.int x.block V (gr_refl _)
            unfold BoP at h
            rw [px] at h
            exact h)
          have P2 := Lib.hid (fun V (g : Gr W13 V) => show Calls Tryz.prog 20 #[.agg #[.int .i64 y.kind, .int .i64 y.int, .slice y.A y.list.length y.c, .int .i64 y.block, .string ⟨#[]⟩, .string ⟨#[]⟩, .slice none 0 0, .slice none 0 0]] V (fun e w' => e = .returned (.bool pv) ∧ Gr V w') from by
            have h := plain_any30 (LY.out V g) y.kind y.int y.block V (gr_refl _)
            unfold BoP at h
            rw [py] at h
            exact h)
          have SA := Lib.hid (fun (hp : pv = true) V (g : Gr W13 V) => show Calls Tryz.prog 21 #[.agg #[.int .i64 x.kind, .int .i64 x.int, .slice x.A x.list.length x.c, .int .i64 x.block, .string ⟨#[]⟩, .string ⟨#[]⟩, .slice none 0 0, .slice none 0 0], .agg #[.int .i64 y.kind, .int .i64 y.int, .slice y.A y.list.length y.c, .int .i64 y.block, .string ⟨#[]⟩, .string ⟨#[]⟩, .slice none 0 0, .slice none 0 0]] V (fun e w' => e = .returned (.bool true) ∧ Gr V w') from
            same_any x y V (LX.out V g) (LY.out V g) (by rw [EX.out, EY.out, ren_plV f _ (hpv.trans hp)]))
          clear px py hpv EP
          cases pv
          · clear SA
            have K0 := Lib.hid (show Gr W13 w15.drew from GZ.out.trans (gr_drew _))
            refine wp_region_held_drew (S := fun U => (U.cell? ⟨kx, 0, none⟩ = some (.int .i64 x.kind) ∧ U.cell? ⟨kx, 1, none⟩ = some (.int .i64 x.int) ∧ U.cell? ⟨kx, 2, none⟩ = some (.slice x.A x.list.length x.c) ∧ U.cell? ⟨kx, 3, none⟩ = some (.int .i64 x.block) ∧ U.cell? ⟨kx, 4, none⟩ = some (.string ⟨#[]⟩) ∧ U.cell? ⟨kx, 5, none⟩ = some (.string ⟨#[]⟩) ∧ U.cell? ⟨kx, 6, none⟩ = some (.slice none 0 0) ∧ U.cell? ⟨kx, 7, none⟩ = some (.slice none 0 0)) ∧ (U.cell? ⟨ky, 0, none⟩ = some (.int .i64 y.kind) ∧ U.cell? ⟨ky, 1, none⟩ = some (.int .i64 y.int) ∧ U.cell? ⟨ky, 2, none⟩ = some (.slice y.A y.list.length y.c) ∧ U.cell? ⟨ky, 3, none⟩ = some (.int .i64 y.block) ∧ U.cell? ⟨ky, 4, none⟩ = some (.string ⟨#[]⟩) ∧ U.cell? ⟨ky, 5, none⟩ = some (.string ⟨#[]⟩) ∧ U.cell? ⟨ky, 6, none⟩ = some (.slice none 0 0) ∧ U.cell? ⟨ky, 7, none⟩ = some (.slice none 0 0))) (by kernel_rfl) (CXY.out _ K0.out) (fun hHeld => ?_)
            refine takeH (i := 0) (d := some 136) (v := .int .i64 0) (by rfl) (by kernel_rfl) (by kernel_rfl) (by kernel_rfl) (fun _ _ _ h => h) ?_ hHeld ?_
            · intro oi hoi; have ho := Option.some.inj hoi; subst ho; refine Or.inl ⟨by rfl, ?_⟩; intro w hSw; (try dsimp only at hSw); go_split_ands; go_simp
            try simp only [Act.put, List.setIfInBounds_toArray, List.set_cons_zero, List.set_cons_succ]
            refine takeH (i := 1) (d := some 137) (v := .int .i64 0) (by rfl) (by kernel_rfl) (by kernel_rfl) (by kernel_rfl) (fun _ _ _ h => h) ?_ hHeld ?_
            · intro oi hoi; have ho := Option.some.inj hoi; subst ho; refine Or.inl ⟨by rfl, ?_⟩; intro w hSw; (try dsimp only at hSw); go_split_ands; go_simp
            try simp only [Act.put, List.setIfInBounds_toArray, List.set_cons_zero, List.set_cons_succ]
            refine takeH (i := 2) (d := some 138) (v := .bool true) (by rfl) (by kernel_rfl) (by kernel_rfl) (by kernel_rfl) (fun _ _ _ h => h) ?_ hHeld ?_
            · intro oi hoi; have ho := Option.some.inj hoi; subst ho; refine Or.inl ⟨by rfl, ?_⟩; intro w hSw; (try dsimp only at hSw); go_split_ands; go_simp
            try simp only [Act.put, List.setIfInBounds_toArray, List.set_cons_zero, List.set_cons_succ]
            refine takeH (i := 3) (d := some 139) (v := .bool true) (by rfl) (by kernel_rfl) (by kernel_rfl) (by kernel_rfl) (fun _ _ _ h => h) ?_ hHeld ?_
            · intro oi hoi; have ho := Option.some.inj hoi; subst ho; refine Or.inl ⟨by rfl, ?_⟩; intro w hSw; (try dsimp only at hSw); go_split_ands; go_simp
            try simp only [Act.put, List.setIfInBounds_toArray, List.set_cons_zero, List.set_cons_succ]
            refine takeH (i := 4) (d := some 140) (v := .int .i64 0) (by rfl) (by kernel_rfl) (by kernel_rfl) (by kernel_rfl) (fun _ _ _ h => h) ?_ hHeld ?_
            · intro oi hoi; have ho := Option.some.inj hoi; subst ho; refine Or.inl ⟨by rfl, ?_⟩; intro w hSw; (try dsimp only at hSw); go_split_ands; go_simp
            try simp only [Act.put, List.setIfInBounds_toArray, List.set_cons_zero, List.set_cons_succ]
            refine takeH (i := 5) (d := some 141) (v := .bool false) (by rfl) (by kernel_rfl) (by kernel_rfl) (by kernel_rfl) (fun _ _ _ h => h) ?_ hHeld ?_
            · intro oi hoi; have ho := Option.some.inj hoi; subst ho; refine Or.inl ⟨by rfl, ?_⟩; intro w hSw; (try dsimp only at hSw); go_split_ands; go_simp
            try simp only [Act.put, List.setIfInBounds_toArray, List.set_cons_zero, List.set_cons_succ]
            refine takeH (i := 6) (d := some 142) (v := .bool false) (by rfl) (by kernel_rfl) (by kernel_rfl) (by kernel_rfl) (fun _ _ _ h => h) ?_ hHeld ?_
            · intro oi hoi; have ho := Option.some.inj hoi; subst ho; refine Or.inl ⟨by rfl, ?_⟩; intro w hSw; (try dsimp only at hSw); go_split_ands; go_simp
            try simp only [Act.put, List.setIfInBounds_toArray, List.set_cons_zero, List.set_cons_succ]
            refine takeH (i := 7) (d := some 143) (v := .agg #[.int .i64 x.kind, .int .i64 x.int, .slice x.A x.list.length x.c, .int .i64 x.block, .string ⟨#[]⟩, .string ⟨#[]⟩, .slice none 0 0, .slice none 0 0]) (by rfl) (by kernel_rfl) (by kernel_rfl) (by kernel_rfl) (fun _ _ _ h => h) ?_ hHeld ?_
            · intro oi hoi; have ho := Option.some.inj hoi; subst ho; refine Or.inl ⟨by rfl, ?_⟩; intro w hSw; (try dsimp only at hSw); go_split_ands; go_simp
            try simp only [Act.put, List.setIfInBounds_toArray, List.set_cons_zero, List.set_cons_succ]
            refine takeH (i := 9) (d := some 145) (v := .agg #[.int .i64 y.kind, .int .i64 y.int, .slice y.A y.list.length y.c, .int .i64 y.block, .string ⟨#[]⟩, .string ⟨#[]⟩, .slice none 0 0, .slice none 0 0]) (by rfl) (by kernel_rfl) (by kernel_rfl) (by kernel_rfl) (fun _ _ _ h => h) ?_ hHeld ?_
            · intro oi hoi; have ho := Option.some.inj hoi; subst ho; refine Or.inl ⟨by rfl, ?_⟩; intro w hSw; (try dsimp only at hSw); go_split_ands; go_simp
            try simp only [Act.put, List.setIfInBounds_toArray, List.set_cons_zero, List.set_cons_succ]
            refine wpAnyH_ready (rs := [8]) (by kernel_rfl) (by simp) ?_
            refine AllReadyH.cons rfl (fun K hK => ?_) AllReadyH.nil
            go_simp
            go_wp2_with (go_at_call 20; (with_reducible refine (P1.out _ K0.out).mono ?_); rintro e v1 ⟨rfl, g⟩; have K1 := Lib.hid (K0.out.trans g); clear g)
            refine hK.out _ _ ?_ (fun hHeld => ?_)
            · exact CXY.out _ K1.out
            clear hK K
            try simp only [Act.put, List.setIfInBounds_toArray, List.set_cons_zero, List.set_cons_succ]
            refine wpAnyH_ready (rs := [10]) (by kernel_rfl) (by simp) ?_
            refine AllReadyH.cons rfl (fun K hK => ?_) AllReadyH.nil
            go_simp
            go_wp2_with (go_at_call 20; (with_reducible refine (P2.out _ K1.out).mono ?_); rintro e v2 ⟨rfl, g⟩; have K2 := Lib.hid (K1.out.trans g); clear g)
            refine hK.out _ _ ?_ (fun hHeld => ?_)
            · exact CXY.out _ K2.out
            clear hK K
            try simp only [Act.put, List.setIfInBounds_toArray, List.set_cons_zero, List.set_cons_succ]
            refine takeH (i := 11) (d := some 147) (v := .bool true) (by rfl) (by kernel_rfl) (by kernel_rfl) (by kernel_rfl) (fun _ _ _ h => h) ?_ hHeld ?_
            · intro oi hoi; have ho := Option.some.inj hoi; subst ho; refine Or.inl ⟨by rfl, ?_⟩; intro w hSw; (try dsimp only at hSw); go_split_ands; go_simp
            try simp only [Act.put, List.setIfInBounds_toArray, List.set_cons_zero, List.set_cons_succ]
            refine takeH (i := 12) (d := some 148) (v := .bool true) (by rfl) (by kernel_rfl) (by kernel_rfl) (by kernel_rfl) (fun _ _ _ h => h) ?_ hHeld ?_
            · intro oi hoi; have ho := Option.some.inj hoi; subst ho; refine Or.inl ⟨by rfl, ?_⟩; intro w hSw; (try dsimp only at hSw); go_split_ands; go_simp
            try simp only [Act.put, List.setIfInBounds_toArray, List.set_cons_zero, List.set_cons_succ]
            refine takeH (i := 13) (d := some 149) (v := .agg #[.int .i64 x.kind, .int .i64 x.int, .slice x.A x.list.length x.c, .int .i64 x.block, .string ⟨#[]⟩, .string ⟨#[]⟩, .slice none 0 0, .slice none 0 0]) (by rfl) (by kernel_rfl) (by kernel_rfl) (by kernel_rfl) (fun _ _ _ h => h) ?_ hHeld ?_
            · intro oi hoi; have ho := Option.some.inj hoi; subst ho; refine Or.inl ⟨by rfl, ?_⟩; intro w hSw; (try dsimp only at hSw); go_split_ands; go_simp
            try simp only [Act.put, List.setIfInBounds_toArray, List.set_cons_zero, List.set_cons_succ]
            refine wpAnyH_ready (rs := [14]) (by kernel_rfl) (by simp) ?_
            refine AllReadyH.cons rfl (fun K hK => ?_) AllReadyH.nil
            go_simp
            go_wp2_with (go_at_call 20; (with_reducible refine (P1.out _ K2.out).mono ?_); rintro e v3 ⟨rfl, g⟩; have K3 := Lib.hid (K2.out.trans g); clear g)
            refine hK.out _ _ ?_ (fun hHeld => ?_)
            · exact CXY.out _ K3.out
            clear hK K
            try simp only [Act.put, List.setIfInBounds_toArray, List.set_cons_zero, List.set_cons_succ]
            refine takeH (i := 15) (d := some 151) (v := .bool true) (by rfl) (by kernel_rfl) (by kernel_rfl) (by kernel_rfl) (fun _ _ _ h => h) ?_ hHeld ?_
            · intro oi hoi; have ho := Option.some.inj hoi; subst ho; refine Or.inl ⟨by rfl, ?_⟩; intro w hSw; (try dsimp only at hSw); go_split_ands; go_simp
            try simp only [Act.put, List.setIfInBounds_toArray, List.set_cons_zero, List.set_cons_succ]
            refine takeH (i := 16) (d := some 152) (v := .bool true) (by rfl) (by kernel_rfl) (by kernel_rfl) (by kernel_rfl) (fun _ _ _ h => h) ?_ hHeld ?_
            · intro oi hoi; have ho := Option.some.inj hoi; subst ho; refine Or.inl ⟨by rfl, ?_⟩; intro w hSw; (try dsimp only at hSw); go_split_ands; go_simp
            try simp only [Act.put, List.setIfInBounds_toArray, List.set_cons_zero, List.set_cons_succ]
            refine skipH (i := 17) (d := some 153) (by rfl) (by kernel_rfl) (by kernel_rfl) (by kernel_rfl) (fun _ _ _ h => h) (by rfl) hHeld ?_
            try simp only [Act.put, List.setIfInBounds_toArray, List.set_cons_zero, List.set_cons_succ]
            refine skipH (i := 18) (d := some 154) (by rfl) (by kernel_rfl) (by kernel_rfl) (by kernel_rfl) (fun _ _ _ h => h) (by rfl) hHeld ?_
            try simp only [Act.put, List.setIfInBounds_toArray, List.set_cons_zero, List.set_cons_succ]
            refine skipH (i := 19) (d := some 155) (by rfl) (by kernel_rfl) (by kernel_rfl) (by kernel_rfl) (fun _ _ _ h => h) (by rfl) hHeld ?_
            try simp only [Act.put, List.setIfInBounds_toArray, List.set_cons_zero, List.set_cons_succ]
            refine takeH (i := 20) (d := some 156) (v := .bool true) (by rfl) (by kernel_rfl) (by kernel_rfl) (by kernel_rfl) (fun _ _ _ h => h) ?_ hHeld ?_
            · intro oi hoi; have ho := Option.some.inj hoi; subst ho; refine Or.inl ⟨by rfl, ?_⟩; intro w hSw; (try dsimp only at hSw); go_split_ands; go_simp
            try simp only [Act.put, List.setIfInBounds_toArray, List.set_cons_zero, List.set_cons_succ]
            refine takeH (i := 21) (d := some 157) (v := .bool true) (by rfl) (by kernel_rfl) (by kernel_rfl) (by kernel_rfl) (fun _ _ _ h => h) ?_ hHeld ?_
            · intro oi hoi; have ho := Option.some.inj hoi; subst ho; refine Or.inl ⟨by rfl, ?_⟩; intro w hSw; (try dsimp only at hSw); go_split_ands; go_simp
            try simp only [Act.put, List.setIfInBounds_toArray, List.set_cons_zero, List.set_cons_succ]
            refine takeH (i := 22) (d := some 158) (v := .bool true) (by rfl) (by kernel_rfl) (by kernel_rfl) (by kernel_rfl) (fun _ _ _ h => h) ?_ hHeld ?_
            · intro oi hoi; have ho := Option.some.inj hoi; subst ho; refine Or.inl ⟨by rfl, ?_⟩; intro w hSw; (try dsimp only at hSw); go_split_ands; go_simp
            try simp only [Act.put, List.setIfInBounds_toArray, List.set_cons_zero, List.set_cons_succ]
            refine takeH (i := 23) (d := some 159) (v := .bool true) (by rfl) (by kernel_rfl) (by kernel_rfl) (by kernel_rfl) (fun _ _ _ h => h) ?_ hHeld ?_
            · intro oi hoi; have ho := Option.some.inj hoi; subst ho; refine Or.inl ⟨by rfl, ?_⟩; intro w hSw; (try dsimp only at hSw); go_split_ands; go_simp
            try simp only [Act.put, List.setIfInBounds_toArray, List.set_cons_zero, List.set_cons_succ]
            refine takeH (i := 24) (d := some 160) (v := .bool true) (by rfl) (by kernel_rfl) (by kernel_rfl) (by kernel_rfl) (fun _ _ _ h => h) ?_ hHeld ?_
            · intro oi hoi; have ho := Option.some.inj hoi; subst ho; refine Or.inl ⟨by rfl, ?_⟩; intro w hSw; (try dsimp only at hSw); go_split_ands; go_simp
            try simp only [Act.put, List.setIfInBounds_toArray, List.set_cons_zero, List.set_cons_succ]
            refine wpAnyH_ready (rs := [25]) (by kernel_rfl) (by simp) ?_
            refine AllReadyH.cons rfl (fun K hK => ?_) AllReadyH.nil
            go_simp
            go_wp2_with (go_at_call 6; (with_reducible refine (AW.out _).mono ?_); rintro e v4 ⟨rfl, g⟩; have K4 := Lib.hid (K3.out.trans g); clear g)
            refine hK.out _ _ ?_ (fun hHeld => ?_)
            · exact CXY.out _ K4.out
            clear hK K
            try simp only [Act.put, List.setIfInBounds_toArray, List.set_cons_zero, List.set_cons_succ]
            refine takeH (i := 26) (d := some 162) (v := .bool true) (by rfl) (by kernel_rfl) (by kernel_rfl) (by kernel_rfl) (fun _ _ _ h => h) ?_ hHeld ?_
            · intro oi hoi; have ho := Option.some.inj hoi; subst ho; refine Or.inl ⟨by rfl, ?_⟩; intro w hSw; (try dsimp only at hSw); go_split_ands; go_simp
            try simp only [Act.put, List.setIfInBounds_toArray, List.set_cons_zero, List.set_cons_succ]
            refine takeH (i := 27) (d := some 6) (v := .bool true) (by rfl) (by kernel_rfl) (by kernel_rfl) (by kernel_rfl) (fun _ _ _ h => h) ?_ hHeld ?_
            · intro oi hoi; have ho := Option.some.inj hoi; subst ho; refine Or.inl ⟨by rfl, ?_⟩; intro w hSw; (try dsimp only at hSw); go_split_ands; go_simp
            try simp only [Act.put, List.setIfInBounds_toArray, List.set_cons_zero, List.set_cons_succ]
            refine wpAnyH_done (by kernel_rfl) ?_ _
            go_wp2
            go_ret
            exact ⟨rfl, G5.out.trans K4.out⟩

          · have SB := Lib.hid (show ∀ V, Gr W13 V → _ from fun V g => SA.out rfl V g)
            clear SA
            have K0 := Lib.hid (show Gr W13 w15.drew from GZ.out.trans (gr_drew _))
            refine wp_region_held_drew (S := fun U => (U.cell? ⟨kx, 0, none⟩ = some (.int .i64 x.kind) ∧ U.cell? ⟨kx, 1, none⟩ = some (.int .i64 x.int) ∧ U.cell? ⟨kx, 2, none⟩ = some (.slice x.A x.list.length x.c) ∧ U.cell? ⟨kx, 3, none⟩ = some (.int .i64 x.block) ∧ U.cell? ⟨kx, 4, none⟩ = some (.string ⟨#[]⟩) ∧ U.cell? ⟨kx, 5, none⟩ = some (.string ⟨#[]⟩) ∧ U.cell? ⟨kx, 6, none⟩ = some (.slice none 0 0) ∧ U.cell? ⟨kx, 7, none⟩ = some (.slice none 0 0)) ∧ (U.cell? ⟨ky, 0, none⟩ = some (.int .i64 y.kind) ∧ U.cell? ⟨ky, 1, none⟩ = some (.int .i64 y.int) ∧ U.cell? ⟨ky, 2, none⟩ = some (.slice y.A y.list.length y.c) ∧ U.cell? ⟨ky, 3, none⟩ = some (.int .i64 y.block) ∧ U.cell? ⟨ky, 4, none⟩ = some (.string ⟨#[]⟩) ∧ U.cell? ⟨ky, 5, none⟩ = some (.string ⟨#[]⟩) ∧ U.cell? ⟨ky, 6, none⟩ = some (.slice none 0 0) ∧ U.cell? ⟨ky, 7, none⟩ = some (.slice none 0 0))) (by kernel_rfl) (CXY.out _ K0.out) (fun hHeld => ?_)
            refine takeH (i := 0) (d := some 136) (v := .int .i64 0) (by rfl) (by kernel_rfl) (by kernel_rfl) (by kernel_rfl) (fun _ _ _ h => h) ?_ hHeld ?_
            · intro oi hoi; have ho := Option.some.inj hoi; subst ho; refine Or.inl ⟨by rfl, ?_⟩; intro w hSw; (try dsimp only at hSw); go_split_ands; go_simp
            try simp only [Act.put, List.setIfInBounds_toArray, List.set_cons_zero, List.set_cons_succ]
            refine takeH (i := 1) (d := some 137) (v := .int .i64 0) (by rfl) (by kernel_rfl) (by kernel_rfl) (by kernel_rfl) (fun _ _ _ h => h) ?_ hHeld ?_
            · intro oi hoi; have ho := Option.some.inj hoi; subst ho; refine Or.inl ⟨by rfl, ?_⟩; intro w hSw; (try dsimp only at hSw); go_split_ands; go_simp
            try simp only [Act.put, List.setIfInBounds_toArray, List.set_cons_zero, List.set_cons_succ]
            refine takeH (i := 2) (d := some 138) (v := .bool true) (by rfl) (by kernel_rfl) (by kernel_rfl) (by kernel_rfl) (fun _ _ _ h => h) ?_ hHeld ?_
            · intro oi hoi; have ho := Option.some.inj hoi; subst ho; refine Or.inl ⟨by rfl, ?_⟩; intro w hSw; (try dsimp only at hSw); go_split_ands; go_simp
            try simp only [Act.put, List.setIfInBounds_toArray, List.set_cons_zero, List.set_cons_succ]
            refine takeH (i := 3) (d := some 139) (v := .bool true) (by rfl) (by kernel_rfl) (by kernel_rfl) (by kernel_rfl) (fun _ _ _ h => h) ?_ hHeld ?_
            · intro oi hoi; have ho := Option.some.inj hoi; subst ho; refine Or.inl ⟨by rfl, ?_⟩; intro w hSw; (try dsimp only at hSw); go_split_ands; go_simp
            try simp only [Act.put, List.setIfInBounds_toArray, List.set_cons_zero, List.set_cons_succ]
            refine takeH (i := 4) (d := some 140) (v := .int .i64 0) (by rfl) (by kernel_rfl) (by kernel_rfl) (by kernel_rfl) (fun _ _ _ h => h) ?_ hHeld ?_
            · intro oi hoi; have ho := Option.some.inj hoi; subst ho; refine Or.inl ⟨by rfl, ?_⟩; intro w hSw; (try dsimp only at hSw); go_split_ands; go_simp
            try simp only [Act.put, List.setIfInBounds_toArray, List.set_cons_zero, List.set_cons_succ]
            refine takeH (i := 5) (d := some 141) (v := .bool false) (by rfl) (by kernel_rfl) (by kernel_rfl) (by kernel_rfl) (fun _ _ _ h => h) ?_ hHeld ?_
            · intro oi hoi; have ho := Option.some.inj hoi; subst ho; refine Or.inl ⟨by rfl, ?_⟩; intro w hSw; (try dsimp only at hSw); go_split_ands; go_simp
            try simp only [Act.put, List.setIfInBounds_toArray, List.set_cons_zero, List.set_cons_succ]
            refine takeH (i := 6) (d := some 142) (v := .bool false) (by rfl) (by kernel_rfl) (by kernel_rfl) (by kernel_rfl) (fun _ _ _ h => h) ?_ hHeld ?_
            · intro oi hoi; have ho := Option.some.inj hoi; subst ho; refine Or.inl ⟨by rfl, ?_⟩; intro w hSw; (try dsimp only at hSw); go_split_ands; go_simp
            try simp only [Act.put, List.setIfInBounds_toArray, List.set_cons_zero, List.set_cons_succ]
            refine takeH (i := 7) (d := some 143) (v := .agg #[.int .i64 x.kind, .int .i64 x.int, .slice x.A x.list.length x.c, .int .i64 x.block, .string ⟨#[]⟩, .string ⟨#[]⟩, .slice none 0 0, .slice none 0 0]) (by rfl) (by kernel_rfl) (by kernel_rfl) (by kernel_rfl) (fun _ _ _ h => h) ?_ hHeld ?_
            · intro oi hoi; have ho := Option.some.inj hoi; subst ho; refine Or.inl ⟨by rfl, ?_⟩; intro w hSw; (try dsimp only at hSw); go_split_ands; go_simp
            try simp only [Act.put, List.setIfInBounds_toArray, List.set_cons_zero, List.set_cons_succ]
            refine takeH (i := 9) (d := some 145) (v := .agg #[.int .i64 y.kind, .int .i64 y.int, .slice y.A y.list.length y.c, .int .i64 y.block, .string ⟨#[]⟩, .string ⟨#[]⟩, .slice none 0 0, .slice none 0 0]) (by rfl) (by kernel_rfl) (by kernel_rfl) (by kernel_rfl) (fun _ _ _ h => h) ?_ hHeld ?_
            · intro oi hoi; have ho := Option.some.inj hoi; subst ho; refine Or.inl ⟨by rfl, ?_⟩; intro w hSw; (try dsimp only at hSw); go_split_ands; go_simp
            try simp only [Act.put, List.setIfInBounds_toArray, List.set_cons_zero, List.set_cons_succ]
            refine wpAnyH_ready (rs := [8]) (by kernel_rfl) (by simp) ?_
            refine AllReadyH.cons rfl (fun K hK => ?_) AllReadyH.nil
            go_simp
            go_wp2_with (go_at_call 20; (with_reducible refine (P1.out _ K0.out).mono ?_); rintro e v1 ⟨rfl, g⟩; have K1 := Lib.hid (K0.out.trans g); clear g)
            refine hK.out _ _ ?_ (fun hHeld => ?_)
            · exact CXY.out _ K1.out
            clear hK K
            try simp only [Act.put, List.setIfInBounds_toArray, List.set_cons_zero, List.set_cons_succ]
            refine wpAnyH_ready (rs := [10]) (by kernel_rfl) (by simp) ?_
            refine AllReadyH.cons rfl (fun K hK => ?_) AllReadyH.nil
            go_simp
            go_wp2_with (go_at_call 20; (with_reducible refine (P2.out _ K1.out).mono ?_); rintro e v2 ⟨rfl, g⟩; have K2 := Lib.hid (K1.out.trans g); clear g)
            refine hK.out _ _ ?_ (fun hHeld => ?_)
            · exact CXY.out _ K2.out
            clear hK K
            try simp only [Act.put, List.setIfInBounds_toArray, List.set_cons_zero, List.set_cons_succ]
            refine takeH (i := 11) (d := some 147) (v := .bool true) (by rfl) (by kernel_rfl) (by kernel_rfl) (by kernel_rfl) (fun _ _ _ h => h) ?_ hHeld ?_
            · intro oi hoi; have ho := Option.some.inj hoi; subst ho; refine Or.inl ⟨by rfl, ?_⟩; intro w hSw; (try dsimp only at hSw); go_split_ands; go_simp
            try simp only [Act.put, List.setIfInBounds_toArray, List.set_cons_zero, List.set_cons_succ]
            refine takeH (i := 12) (d := some 148) (v := .bool true) (by rfl) (by kernel_rfl) (by kernel_rfl) (by kernel_rfl) (fun _ _ _ h => h) ?_ hHeld ?_
            · intro oi hoi; have ho := Option.some.inj hoi; subst ho; refine Or.inl ⟨by rfl, ?_⟩; intro w hSw; (try dsimp only at hSw); go_split_ands; go_simp
            try simp only [Act.put, List.setIfInBounds_toArray, List.set_cons_zero, List.set_cons_succ]
            refine takeH (i := 13) (d := some 149) (v := .agg #[.int .i64 x.kind, .int .i64 x.int, .slice x.A x.list.length x.c, .int .i64 x.block, .string ⟨#[]⟩, .string ⟨#[]⟩, .slice none 0 0, .slice none 0 0]) (by rfl) (by kernel_rfl) (by kernel_rfl) (by kernel_rfl) (fun _ _ _ h => h) ?_ hHeld ?_
            · intro oi hoi; have ho := Option.some.inj hoi; subst ho; refine Or.inl ⟨by rfl, ?_⟩; intro w hSw; (try dsimp only at hSw); go_split_ands; go_simp
            try simp only [Act.put, List.setIfInBounds_toArray, List.set_cons_zero, List.set_cons_succ]
            refine wpAnyH_ready (rs := [14]) (by kernel_rfl) (by simp) ?_
            refine AllReadyH.cons rfl (fun K hK => ?_) AllReadyH.nil
            go_simp
            go_wp2_with (go_at_call 20; (with_reducible refine (P1.out _ K2.out).mono ?_); rintro e v3 ⟨rfl, g⟩; have K3 := Lib.hid (K2.out.trans g); clear g)
            refine hK.out _ _ ?_ (fun hHeld => ?_)
            · exact CXY.out _ K3.out
            clear hK K
            try simp only [Act.put, List.setIfInBounds_toArray, List.set_cons_zero, List.set_cons_succ]
            refine takeH (i := 15) (d := some 151) (v := .bool false) (by rfl) (by kernel_rfl) (by kernel_rfl) (by kernel_rfl) (fun _ _ _ h => h) ?_ hHeld ?_
            · intro oi hoi; have ho := Option.some.inj hoi; subst ho; refine Or.inl ⟨by rfl, ?_⟩; intro w hSw; (try dsimp only at hSw); go_split_ands; go_simp
            try simp only [Act.put, List.setIfInBounds_toArray, List.set_cons_zero, List.set_cons_succ]
            refine takeH (i := 16) (d := some 152) (v := .bool false) (by rfl) (by kernel_rfl) (by kernel_rfl) (by kernel_rfl) (fun _ _ _ h => h) ?_ hHeld ?_
            · intro oi hoi; have ho := Option.some.inj hoi; subst ho; refine Or.inl ⟨by rfl, ?_⟩; intro w hSw; (try dsimp only at hSw); go_split_ands; go_simp
            try simp only [Act.put, List.setIfInBounds_toArray, List.set_cons_zero, List.set_cons_succ]
            refine takeH (i := 17) (d := some 153) (v := .agg #[.int .i64 x.kind, .int .i64 x.int, .slice x.A x.list.length x.c, .int .i64 x.block, .string ⟨#[]⟩, .string ⟨#[]⟩, .slice none 0 0, .slice none 0 0]) (by rfl) (by kernel_rfl) (by kernel_rfl) (by kernel_rfl) (fun _ _ _ h => h) ?_ hHeld ?_
            · intro oi hoi; have ho := Option.some.inj hoi; subst ho; refine Or.inl ⟨by rfl, ?_⟩; intro w hSw; (try dsimp only at hSw); go_split_ands; go_simp
            try simp only [Act.put, List.setIfInBounds_toArray, List.set_cons_zero, List.set_cons_succ]
            refine takeH (i := 18) (d := some 154) (v := .agg #[.int .i64 y.kind, .int .i64 y.int, .slice y.A y.list.length y.c, .int .i64 y.block, .string ⟨#[]⟩, .string ⟨#[]⟩, .slice none 0 0, .slice none 0 0]) (by rfl) (by kernel_rfl) (by kernel_rfl) (by kernel_rfl) (fun _ _ _ h => h) ?_ hHeld ?_
            · intro oi hoi; have ho := Option.some.inj hoi; subst ho; refine Or.inl ⟨by rfl, ?_⟩; intro w hSw; (try dsimp only at hSw); go_split_ands; go_simp
            try simp only [Act.put, List.setIfInBounds_toArray, List.set_cons_zero, List.set_cons_succ]
            refine wpAnyH_ready (rs := [19]) (by kernel_rfl) (by simp) ?_
            refine AllReadyH.cons rfl (fun K hK => ?_) AllReadyH.nil
            go_simp
            go_wp2_with (go_at_call 21; (with_reducible refine (SB.out _ K3.out).mono ?_); rintro e v4 ⟨rfl, g⟩; have K4 := Lib.hid (K3.out.trans g); clear g)
            refine hK.out _ _ ?_ (fun hHeld => ?_)
            · exact CXY.out _ K4.out
            clear hK K
            try simp only [Act.put, List.setIfInBounds_toArray, List.set_cons_zero, List.set_cons_succ]
            refine takeH (i := 20) (d := some 156) (v := .bool true) (by rfl) (by kernel_rfl) (by kernel_rfl) (by kernel_rfl) (fun _ _ _ h => h) ?_ hHeld ?_
            · intro oi hoi; have ho := Option.some.inj hoi; subst ho; refine Or.inl ⟨by rfl, ?_⟩; intro w hSw; (try dsimp only at hSw); go_split_ands; go_simp
            try simp only [Act.put, List.setIfInBounds_toArray, List.set_cons_zero, List.set_cons_succ]
            refine takeH (i := 21) (d := some 157) (v := .bool true) (by rfl) (by kernel_rfl) (by kernel_rfl) (by kernel_rfl) (fun _ _ _ h => h) ?_ hHeld ?_
            · intro oi hoi; have ho := Option.some.inj hoi; subst ho; refine Or.inl ⟨by rfl, ?_⟩; intro w hSw; (try dsimp only at hSw); go_split_ands; go_simp
            try simp only [Act.put, List.setIfInBounds_toArray, List.set_cons_zero, List.set_cons_succ]
            refine takeH (i := 22) (d := some 158) (v := .bool true) (by rfl) (by kernel_rfl) (by kernel_rfl) (by kernel_rfl) (fun _ _ _ h => h) ?_ hHeld ?_
            · intro oi hoi; have ho := Option.some.inj hoi; subst ho; refine Or.inl ⟨by rfl, ?_⟩; intro w hSw; (try dsimp only at hSw); go_split_ands; go_simp
            try simp only [Act.put, List.setIfInBounds_toArray, List.set_cons_zero, List.set_cons_succ]
            refine takeH (i := 23) (d := some 159) (v := .bool true) (by rfl) (by kernel_rfl) (by kernel_rfl) (by kernel_rfl) (fun _ _ _ h => h) ?_ hHeld ?_
            · intro oi hoi; have ho := Option.some.inj hoi; subst ho; refine Or.inl ⟨by rfl, ?_⟩; intro w hSw; (try dsimp only at hSw); go_split_ands; go_simp
            try simp only [Act.put, List.setIfInBounds_toArray, List.set_cons_zero, List.set_cons_succ]
            refine takeH (i := 24) (d := some 160) (v := .bool true) (by rfl) (by kernel_rfl) (by kernel_rfl) (by kernel_rfl) (fun _ _ _ h => h) ?_ hHeld ?_
            · intro oi hoi; have ho := Option.some.inj hoi; subst ho; refine Or.inl ⟨by rfl, ?_⟩; intro w hSw; (try dsimp only at hSw); go_split_ands; go_simp
            try simp only [Act.put, List.setIfInBounds_toArray, List.set_cons_zero, List.set_cons_succ]
            refine wpAnyH_ready (rs := [25]) (by kernel_rfl) (by simp) ?_
            refine AllReadyH.cons rfl (fun K hK => ?_) AllReadyH.nil
            go_simp
            go_wp2_with (go_at_call 6; (with_reducible refine (AW.out _).mono ?_); rintro e v5 ⟨rfl, g⟩; have K5 := Lib.hid (K4.out.trans g); clear g)
            refine hK.out _ _ ?_ (fun hHeld => ?_)
            · exact CXY.out _ K5.out
            clear hK K
            try simp only [Act.put, List.setIfInBounds_toArray, List.set_cons_zero, List.set_cons_succ]
            refine takeH (i := 26) (d := some 162) (v := .bool true) (by rfl) (by kernel_rfl) (by kernel_rfl) (by kernel_rfl) (fun _ _ _ h => h) ?_ hHeld ?_
            · intro oi hoi; have ho := Option.some.inj hoi; subst ho; refine Or.inl ⟨by rfl, ?_⟩; intro w hSw; (try dsimp only at hSw); go_split_ands; go_simp
            try simp only [Act.put, List.setIfInBounds_toArray, List.set_cons_zero, List.set_cons_succ]
            refine takeH (i := 27) (d := some 6) (v := .bool true) (by rfl) (by kernel_rfl) (by kernel_rfl) (by kernel_rfl) (fun _ _ _ h => h) ?_ hHeld ?_
            · intro oi hoi; have ho := Option.some.inj hoi; subst ho; refine Or.inl ⟨by rfl, ?_⟩; intro w hSw; (try dsimp only at hSw); go_split_ands; go_simp
            try simp only [Act.put, List.setIfInBounds_toArray, List.set_cons_zero, List.set_cons_succ]
            refine wpAnyH_done (by kernel_rfl) ?_ _
            go_wp2
            go_ret
            exact ⟨rfl, G5.out.trans K5.out⟩

        · have ez : (ir != 0) = true := by simpa using hz
          have K0 := Lib.hid (show Gr W13 w15.drew from GZ.out.trans (gr_drew _))
          refine wp_region_held_drew (S := fun U => (U.cell? ⟨kx, 0, none⟩ = some (.int .i64 x.kind) ∧ U.cell? ⟨kx, 1, none⟩ = some (.int .i64 x.int) ∧ U.cell? ⟨kx, 2, none⟩ = some (.slice x.A x.list.length x.c) ∧ U.cell? ⟨kx, 3, none⟩ = some (.int .i64 x.block) ∧ U.cell? ⟨kx, 4, none⟩ = some (.string ⟨#[]⟩) ∧ U.cell? ⟨kx, 5, none⟩ = some (.string ⟨#[]⟩) ∧ U.cell? ⟨kx, 6, none⟩ = some (.slice none 0 0) ∧ U.cell? ⟨kx, 7, none⟩ = some (.slice none 0 0)) ∧ (U.cell? ⟨ky, 0, none⟩ = some (.int .i64 y.kind) ∧ U.cell? ⟨ky, 1, none⟩ = some (.int .i64 y.int) ∧ U.cell? ⟨ky, 2, none⟩ = some (.slice y.A y.list.length y.c) ∧ U.cell? ⟨ky, 3, none⟩ = some (.int .i64 y.block) ∧ U.cell? ⟨ky, 4, none⟩ = some (.string ⟨#[]⟩) ∧ U.cell? ⟨ky, 5, none⟩ = some (.string ⟨#[]⟩) ∧ U.cell? ⟨ky, 6, none⟩ = some (.slice none 0 0) ∧ U.cell? ⟨ky, 7, none⟩ = some (.slice none 0 0))) (by kernel_rfl) (CXY.out _ K0.out) (fun hHeld => ?_)
          refine takeH (i := 0) (d := some 136) (v := .int .i64 ir) (by rfl) (by kernel_rfl) (by kernel_rfl) (by kernel_rfl) (fun _ _ _ h => h) ?_ hHeld ?_
          · intro oi hoi; have ho := Option.some.inj hoi; subst ho; refine Or.inl ⟨by rfl, ?_⟩; intro w hSw; (try dsimp only at hSw); go_split_ands; go_simp
          try simp only [Act.put, List.setIfInBounds_toArray, List.set_cons_zero, List.set_cons_succ]
          refine takeH (i := 1) (d := some 137) (v := .int .i64 ir) (by rfl) (by kernel_rfl) (by kernel_rfl) (by kernel_rfl) (fun _ _ _ h => h) ?_ hHeld ?_
          · intro oi hoi; have ho := Option.some.inj hoi; subst ho; refine Or.inl ⟨by rfl, ?_⟩; intro w hSw; (try dsimp only at hSw); go_split_ands; go_simp
          try simp only [Act.put, List.setIfInBounds_toArray, List.set_cons_zero, List.set_cons_succ]
          refine takeH (i := 2) (d := some 138) (v := .bool true) (by rfl) (by kernel_rfl) (by kernel_rfl) (by kernel_rfl) (fun _ _ _ h => h) ?_ hHeld ?_
          · intro oi hoi; have ho := Option.some.inj hoi; subst ho; refine Or.inl ⟨by rfl, ?_⟩; intro w hSw; (try dsimp only at hSw); go_split_ands; go_simp
          try simp only [Act.put, List.setIfInBounds_toArray, List.set_cons_zero, List.set_cons_succ]
          refine takeH (i := 3) (d := some 139) (v := .bool true) (by rfl) (by kernel_rfl) (by kernel_rfl) (by kernel_rfl) (fun _ _ _ h => h) ?_ hHeld ?_
          · intro oi hoi; have ho := Option.some.inj hoi; subst ho; refine Or.inl ⟨by rfl, ?_⟩; intro w hSw; (try dsimp only at hSw); go_split_ands; go_simp
          try simp only [Act.put, List.setIfInBounds_toArray, List.set_cons_zero, List.set_cons_succ]
          refine takeH (i := 4) (d := some 140) (v := .int .i64 ir) (by rfl) (by kernel_rfl) (by kernel_rfl) (by kernel_rfl) (fun _ _ _ h => h) ?_ hHeld ?_
          · intro oi hoi; have ho := Option.some.inj hoi; subst ho; refine Or.inl ⟨by rfl, ?_⟩; intro w hSw; (try dsimp only at hSw); go_split_ands; go_simp
          try simp only [Act.put, List.setIfInBounds_toArray, List.set_cons_zero, List.set_cons_succ]
          refine takeH (i := 5) (d := some 141) (v := .bool true) (by rfl) (by kernel_rfl) (by kernel_rfl) (by kernel_rfl) (fun _ _ _ h => h) ?_ hHeld ?_
          · intro oi hoi; have ho := Option.some.inj hoi; subst ho; refine Or.inl ⟨by rfl, ?_⟩; intro w hSw; (try dsimp only at hSw); go_split_ands; go_simp
          try simp only [Act.put, List.setIfInBounds_toArray, List.set_cons_zero, List.set_cons_succ]
          refine takeH (i := 6) (d := some 142) (v := .bool true) (by rfl) (by kernel_rfl) (by kernel_rfl) (by kernel_rfl) (fun _ _ _ h => h) ?_ hHeld ?_
          · intro oi hoi; have ho := Option.some.inj hoi; subst ho; refine Or.inl ⟨by rfl, ?_⟩; intro w hSw; (try dsimp only at hSw); go_split_ands; go_simp
          try simp only [Act.put, List.setIfInBounds_toArray, List.set_cons_zero, List.set_cons_succ]
          refine skipH (i := 7) (d := some 143) (by rfl) (by kernel_rfl) (by kernel_rfl) (by kernel_rfl) (fun _ _ _ h => h) (by rfl) hHeld ?_
          try simp only [Act.put, List.setIfInBounds_toArray, List.set_cons_zero, List.set_cons_succ]
          refine skipH (i := 8) (d := some 144) (by rfl) (by kernel_rfl) (by kernel_rfl) (by kernel_rfl) (fun _ _ _ h => h) (by rfl) hHeld ?_
          try simp only [Act.put, List.setIfInBounds_toArray, List.set_cons_zero, List.set_cons_succ]
          refine skipH (i := 9) (d := some 145) (by rfl) (by kernel_rfl) (by kernel_rfl) (by kernel_rfl) (fun _ _ _ h => h) (by rfl) hHeld ?_
          try simp only [Act.put, List.setIfInBounds_toArray, List.set_cons_zero, List.set_cons_succ]
          refine skipH (i := 10) (d := some 146) (by rfl) (by kernel_rfl) (by kernel_rfl) (by kernel_rfl) (fun _ _ _ h => h) (by rfl) hHeld ?_
          try simp only [Act.put, List.setIfInBounds_toArray, List.set_cons_zero, List.set_cons_succ]
          refine skipH (i := 11) (d := some 147) (by rfl) (by kernel_rfl) (by kernel_rfl) (by kernel_rfl) (fun _ _ _ h => h) (by rfl) hHeld ?_
          try simp only [Act.put, List.setIfInBounds_toArray, List.set_cons_zero, List.set_cons_succ]
          refine skipH (i := 12) (d := some 148) (by rfl) (by kernel_rfl) (by kernel_rfl) (by kernel_rfl) (fun _ _ _ h => h) (by rfl) hHeld ?_
          try simp only [Act.put, List.setIfInBounds_toArray, List.set_cons_zero, List.set_cons_succ]
          refine skipH (i := 13) (d := some 149) (by rfl) (by kernel_rfl) (by kernel_rfl) (by kernel_rfl) (fun _ _ _ h => h) (by rfl) hHeld ?_
          try simp only [Act.put, List.setIfInBounds_toArray, List.set_cons_zero, List.set_cons_succ]
          refine skipH (i := 14) (d := some 150) (by rfl) (by kernel_rfl) (by kernel_rfl) (by kernel_rfl) (fun _ _ _ h => h) (by rfl) hHeld ?_
          try simp only [Act.put, List.setIfInBounds_toArray, List.set_cons_zero, List.set_cons_succ]
          refine skipH (i := 15) (d := some 151) (by rfl) (by kernel_rfl) (by kernel_rfl) (by kernel_rfl) (fun _ _ _ h => h) (by rfl) hHeld ?_
          try simp only [Act.put, List.setIfInBounds_toArray, List.set_cons_zero, List.set_cons_succ]
          refine skipH (i := 16) (d := some 152) (by rfl) (by kernel_rfl) (by kernel_rfl) (by kernel_rfl) (fun _ _ _ h => h) (by rfl) hHeld ?_
          try simp only [Act.put, List.setIfInBounds_toArray, List.set_cons_zero, List.set_cons_succ]
          refine skipH (i := 17) (d := some 153) (by rfl) (by kernel_rfl) (by kernel_rfl) (by kernel_rfl) (fun _ _ _ h => h) (by rfl) hHeld ?_
          try simp only [Act.put, List.setIfInBounds_toArray, List.set_cons_zero, List.set_cons_succ]
          refine skipH (i := 18) (d := some 154) (by rfl) (by kernel_rfl) (by kernel_rfl) (by kernel_rfl) (fun _ _ _ h => h) (by rfl) hHeld ?_
          try simp only [Act.put, List.setIfInBounds_toArray, List.set_cons_zero, List.set_cons_succ]
          refine skipH (i := 19) (d := some 155) (by rfl) (by kernel_rfl) (by kernel_rfl) (by kernel_rfl) (fun _ _ _ h => h) (by rfl) hHeld ?_
          try simp only [Act.put, List.setIfInBounds_toArray, List.set_cons_zero, List.set_cons_succ]
          refine skipH (i := 20) (d := some 156) (by rfl) (by kernel_rfl) (by kernel_rfl) (by kernel_rfl) (fun _ _ _ h => h) (by rfl) hHeld ?_
          try simp only [Act.put, List.setIfInBounds_toArray, List.set_cons_zero, List.set_cons_succ]
          refine skipH (i := 21) (d := some 157) (by rfl) (by kernel_rfl) (by kernel_rfl) (by kernel_rfl) (fun _ _ _ h => h) (by rfl) hHeld ?_
          try simp only [Act.put, List.setIfInBounds_toArray, List.set_cons_zero, List.set_cons_succ]
          refine takeH (i := 22) (d := some 158) (v := .bool true) (by rfl) (by kernel_rfl) (by kernel_rfl) (by kernel_rfl) (fun _ _ _ h => h) ?_ hHeld ?_
          · intro oi hoi; have ho := Option.some.inj hoi; subst ho; refine Or.inl ⟨by rfl, ?_⟩; intro w hSw; (try dsimp only at hSw); go_split_ands; go_simp
          try simp only [Act.put, List.setIfInBounds_toArray, List.set_cons_zero, List.set_cons_succ]
          refine takeH (i := 23) (d := some 159) (v := .bool true) (by rfl) (by kernel_rfl) (by kernel_rfl) (by kernel_rfl) (fun _ _ _ h => h) ?_ hHeld ?_
          · intro oi hoi; have ho := Option.some.inj hoi; subst ho; refine Or.inl ⟨by rfl, ?_⟩; intro w hSw; (try dsimp only at hSw); go_split_ands; go_simp
          try simp only [Act.put, List.setIfInBounds_toArray, List.set_cons_zero, List.set_cons_succ]
          refine takeH (i := 24) (d := some 160) (v := .bool true) (by rfl) (by kernel_rfl) (by kernel_rfl) (by kernel_rfl) (fun _ _ _ h => h) ?_ hHeld ?_
          · intro oi hoi; have ho := Option.some.inj hoi; subst ho; refine Or.inl ⟨by rfl, ?_⟩; intro w hSw; (try dsimp only at hSw); go_split_ands; go_simp
          try simp only [Act.put, List.setIfInBounds_toArray, List.set_cons_zero, List.set_cons_succ]
          refine wpAnyH_ready (rs := [25]) (by kernel_rfl) (by simp) ?_
          refine AllReadyH.cons rfl (fun K hK => ?_) AllReadyH.nil
          go_simp
          go_wp2_with (go_at_call 6; (with_reducible refine (AW.out _).mono ?_); rintro e v1 ⟨rfl, g⟩; have K1 := Lib.hid (K0.out.trans g); clear g)
          refine hK.out _ _ ?_ (fun hHeld => ?_)
          · exact CXY.out _ K1.out
          clear hK K
          try simp only [Act.put, List.setIfInBounds_toArray, List.set_cons_zero, List.set_cons_succ]
          refine takeH (i := 26) (d := some 162) (v := .bool true) (by rfl) (by kernel_rfl) (by kernel_rfl) (by kernel_rfl) (fun _ _ _ h => h) ?_ hHeld ?_
          · intro oi hoi; have ho := Option.some.inj hoi; subst ho; refine Or.inl ⟨by rfl, ?_⟩; intro w hSw; (try dsimp only at hSw); go_split_ands; go_simp
          try simp only [Act.put, List.setIfInBounds_toArray, List.set_cons_zero, List.set_cons_succ]
          refine takeH (i := 27) (d := some 6) (v := .bool true) (by rfl) (by kernel_rfl) (by kernel_rfl) (by kernel_rfl) (fun _ _ _ h => h) ?_ hHeld ?_
          · intro oi hoi; have ho := Option.some.inj hoi; subst ho; refine Or.inl ⟨by rfl, ?_⟩; intro w hSw; (try dsimp only at hSw); go_split_ands; go_simp
          try simp only [Act.put, List.setIfInBounds_toArray, List.set_cons_zero, List.set_cons_succ]
          refine wpAnyH_done (by kernel_rfl) ?_ _
          go_wp2
          go_ret
          exact ⟨rfl, G5.out.trans K1.out⟩
      · have e3 : decide (300 < sz) = true := decide_eq_true (by omega)
        go_upto_region 16 with (go_at_call 19; refine (S1.out _ (gr_refl _)).mono ?_; rintro e w14 ⟨rfl, g⟩; have G14 := Lib.hid g; clear g)
        clear x0 x1 x2 x3 x4 x5 x6 x7 y0 y1 y2 y3 y4 y5 y6 y7
        obtain ⟨⟨x0, -⟩, ⟨y0, -⟩⟩ := CXY.out _ G14.out
        rw [EK.out] at x0
        go_wp2_with (go_at_call 6; refine (AW.out _).mono ?_; rintro e w16 ⟨rfl, g⟩; have G16 := Lib.hid g; clear g)
        go_ret
        exact ⟨rfl, G5.out.trans (G14.out.trans G16.out)⟩
    · have e0 : (er != 0) = true := by simpa using h0
      go_wp2_with (go_at_call 6; refine (AW.out _).mono ?_; rintro e w9 ⟨rfl, g9⟩; have G9 := Lib.hid g9; clear g9)
      go_ret
      exact ⟨rfl, GW.out.trans G9.out⟩
  · have h9 : nr = 0 ∨ 8 < nr := by omega
    rcases h9 with rfl | h9
    · go_wp2_with (first
        | (go_at_call 15; refine GC.out.mono ?_; rintro e w1 ⟨g1, g, rfl, hg⟩; have G2 := Lib.hid (G1.out.trans g1); clear g1 hg; cases g)
        | (go_at_call 6; refine (AW.out _).mono ?_; rintro e w2 ⟨rfl, g2⟩; have G3 := Lib.hid g2; clear g2))
      all_goals (go_ret; exact ⟨rfl, G2.out.trans G3.out⟩)
    · have e8 : decide (8 < nr) = true := decide_eq_true h9
      have e0 : (nr == 0) = false := by simp; omega
      have e00 : ¬ nr = 0 := by omega
      go_wp2_with (first
        | (go_at_call 15; refine GC.out.mono ?_; rintro e w1 ⟨g1, g, rfl, hg⟩; have G2 := Lib.hid (G1.out.trans g1); clear g1 hg; cases g)
        | (go_at_call 6; refine (AW.out _).mono ?_; rintro e w2 ⟨rfl, g2⟩; have G3 := Lib.hid g2; clear g2))
      all_goals (go_ret; exact ⟨rfl, G2.out.trans G3.out⟩)
end Go.Proofs.YtgboboljgcfggaaGreatDoor


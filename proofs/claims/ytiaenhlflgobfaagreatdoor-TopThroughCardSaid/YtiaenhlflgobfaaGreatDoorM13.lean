/- Walks and words: CaD, Tst, Tsu. -/
import Derived.Test.YtiaenhlflgobfaaGreatDoorFit
import Derived.Test.YtiaenhlflgobfaaGreatDoorIns
namespace Go.Proofs.YtiaenhlflgobfaaGreatDoor
open Go.RowKit
attribute [local irreducible] Calls in
set_option maxRecDepth 100000 in
set_option maxHeartbeats 4000000 in
theorem growD_any (n : Nat) (w : World) (hn : n ≤ 100000) : Calls Tryz.prog 147 #[.slice none 0 0, .int .i64 n] w fun e w' => ∃ v, e = .returned v ∧ OR 45 11 Dec.cs w' w.heap.size v ([] : List Dec) ∧ Gr w w' := by
  by_cases h0 : n = 0
  · subst h0
    go_enter Tryz.func147, Tryz.ntmps147
    go_wp2
    go_ret
    exact ⟨_, rfl, OR.nil, gr_refl _⟩
  · obtain ⟨i0, hi0, hz0, hzs, hzb⟩ := info_parts (show (Tryz.prog.info? 45).map (fun i => (i.zero, i.size, i.bytes)) = some (some (.agg #[iv 0, iv 0, .bool false, .slice none 0 0, .bool false, iv 0, .string ⟨#[]⟩, .string ⟨#[]⟩, iv 0, iv 0, .slice none 0 0]), 11, 136) by kernel_rfl)
    have hold : (Builtin.firstCells i0.size 0 (.slice none 0 0)).run Tryz.prog w.drew = .ok ([] : List Value).toArray w.drew := run_firstCells_none w.drew i0.size 0 0 0
    have h := fun ty => Lib.run_append_grow_zeros w 30 3 ty 45 i0 _ .i64 .i64 Tryz.underlying30 Tryz.underlying3 hi0 hz0 none 0 0 [] hold n (by omega) (by omega) (by omega) (by omega) (by rw [hzb]; omega) (by rw [hzb, Nat.zero_add]; exact growslice_fits (by omega) (by omega))
    simp only [Nat.zero_add] at h
    have hGn : n ≤ grownCap w n 0 45 := grownCap_ge w _ _ _
    have hG63 : grownCap w n 0 45 ≤ maxLen := grownCap_le_maxLen w n 0 45 (by unfold maxLen; omega)
    obtain ⟨G, hG⟩ : ∃ G, grownCap w n 0 45 = G := ⟨_, rfl⟩
    rw [hG] at h hGn hG63
    obtain ⟨ROW, hROW⟩ : ∃ ROW : Array Value, ROW = ([] : List Value).toArray ++ Builtin.zeroCells (Value.cells (.agg #[iv 0, iv 0, .bool false, .slice none 0 0, .bool false, iv 0, .string ⟨#[]⟩, .string ⟨#[]⟩, iv 0, iv 0, .slice none 0 0])) n ++ Builtin.zeroCells (Value.cells (.agg #[iv 0, iv 0, .bool false, .slice none 0 0, .bool false, iv 0, .string ⟨#[]⟩, .string ⟨#[]⟩, iv 0, iv 0, .slice none 0 0])) (G - n) := ⟨_, rfl⟩
    rw [← hROW] at h
    have hzc : ∀ q, (Builtin.zeroCells (Value.cells (.agg #[iv 0, iv 0, .bool false, .slice none 0 0, .bool false, iv 0, .string ⟨#[]⟩, .string ⟨#[]⟩, iv 0, iv 0, .slice none 0 0])) q).size = q * 11 := fun q => by simp [Builtin.zeroCells, Value.cells]
    have hRl : ROW.size = G * 11 := by
      rw [hROW, Array.size_append, Array.size_append, hzc, hzc]
      simp
      omega
    obtain ⟨W1, hW1⟩ : ∃ W1, W1 = w.drew.alloc (.cells ROW 45) := ⟨_, rfl⟩
    rw [← hW1] at h
    have FIN := Lib.hid (show OR 45 11 Dec.cs W1 w.heap.size (.slice (some ⟨w.heap.size, 0, none⟩) 0 G) ([] : List Dec) ∧ Gr w W1 from
      ⟨⟨by simp, .inr ⟨_, _, ROW, rfl, Nat.le_refl _, by rw [hW1]; exact al_new w.drew _, by simp, hG63, hRl, by simp⟩⟩, by rw [hW1]; exact (gr_drew w).trans (gr_al _ _)⟩)
    have HH := Lib.hid h
    have hn0 : (0 : Int) < (n : Int) := by omega
    have hn1 : ¬ ((n : Int) < 0) := by omega
    have hG9 : G ≤ 9223372036854775807 := by unfold maxLen at hG63; omega
    clear h hW1 hROW hRl hzc hold hG hi0 hz0 hzs hzb hG63
    go_enter Tryz.func147, Tryz.ntmps147
    go_wp2_with (at_builtin; refine Lib.wpList_append_run _ rfl _ _ _ _ rfl _ _ rfl rfl _ _ (HH.out _) ?_)
    go_ret
    exact ⟨_, rfl, FIN.out⟩
structure SLD where
  A : Option Addr
  c : Nat
  L : List Dec
def SLD.cs (s : SLD) : List Value := [.slice s.A s.L.length s.c]
def catD (S : List SLD) : List Dec := S.flatMap (·.L)
theorem catD_take (S : List SLD) (j : Nat) {s : SLD} (h : S[j]? = some s) : catD (S.take (j + 1)) = catD (S.take j) ++ s.L := by
  obtain ⟨hj, rfl⟩ := List.getElem?_eq_some_iff.1 h
  unfold catD
  rw [List.take_succ_eq_append_getElem hj, List.flatMap_append, List.flatMap_cons, List.flatMap_nil, List.append_nil]
theorem catD_le (S : List SLD) (j : Nat) : (catD (S.take j)).length ≤ (catD S).length := by
  have h : catD S = catD (S.take j) ++ catD (S.drop j) := by unfold catD; rw [← List.flatMap_append, List.take_append_drop]
  rw [h, List.length_append]
  omega
theorem rdSLD {w : World} {A : Option Addr} {S : List SLD} (h : RD 1 SLD.cs w A S) {k : Nat} {x : SLD} (hx : S[k]? = some x) : ∃ a a1 : Addr, A = some a ∧ a.add k = a1 ∧ a1.block < w.heap.size ∧ w.cell? a1 = some (.slice x.A x.L.length x.c) := by
  obtain ⟨hk, rfl⟩ := List.getElem?_eq_some_iff.1 hx
  obtain ⟨a, e, hb, hc⟩ := h.at hk
  exact ⟨a, _, e, rfl, by rw [add_block]; exact hb, by simpa using hc 0 _ rfl⟩
set_option maxRecDepth 100000 in
set_option maxHeartbeats 4000000 in
attribute [local irreducible] Calls in
theorem concatD_any (A : Option Addr) (c : Nat) (S : List SLD) (w : World) (hS : RD 1 SLD.cs w A S) (hl : S.length ≤ 1000) (hs : (catD S).length ≤ 100000) (hr : ∀ s ∈ S, RD 11 Dec.cs w s.A s.L) :
    Calls Tryz.prog 108 #[.slice A S.length c] w fun e w' => ∃ v, e = .returned v ∧ OR 45 11 Dec.cs w' w.heap.size v (catD S) ∧ Gr w w' := by
  obtain ⟨n, hn⟩ : ∃ n, S.length = n := ⟨_, rfl⟩
  obtain ⟨T0, hT⟩ : ∃ T0, (catD S).length = T0 := ⟨_, rfl⟩
  rw [hn] at hl
  rw [hn]
  have HN := Lib.hid hn
  have HT := Lib.hid hT
  have HTL := Lib.hid (show ∀ j, (catD (S.take j)).length ≤ T0 from fun j => by rw [← hT]; exact catD_le S j)
  rw [hT] at hs
  have HSL := Lib.hid hs
  have HS := Lib.hid (fun V (g : Gr w V) => hS.gr g)
  have HR := Lib.hid (fun s (h : s ∈ S) V (g : Gr w V) => (hr s h).gr g)
  have GC := Lib.hid (fun V => growD_any T0 V hs)
  clear hS hr hn hT
  go_enter Tryz.func108, Tryz.ntmps108
  go_wp2
  go_loopw [3, 5, 11] (fun s _ i V => ∃ j : Nat, j ≤ n ∧ i = .int .i64 j ∧ ∃ z : Nat, z ≤ 100000 ∧ s = .int .i64 z ∧ Hid (z = (catD (S.take j)).length) ∧ w = V) (fun _ _ i _ => n - (intOf i).toNat)
  case atStart => exact ⟨0, by omega, rfl, 0, by omega, rfl, Lib.hid (by simp [catD]), rfl⟩
  case round =>
    obtain ⟨j, hj, rfl, z, hz, rfl, HZ, rfl⟩ := hrel
    by_cases hlt : j < n
    · obtain ⟨s, hs⟩ : ∃ s, S[j]? = some s := ⟨_, List.getElem?_eq_getElem (by rw [HN.out]; exact hlt)⟩
      obtain ⟨a, a1, rfl, ha, hab, d0⟩ := rdSLD (HS.out _ (gr_refl _)) hs
      have HM := Lib.hid (List.mem_of_getElem? hs)
      have HC := Lib.hid (catD_take S j hs)
      obtain ⟨m, hm⟩ : ∃ m, s.L.length = m := ⟨_, rfl⟩
      rw [hm] at d0
      have hzm : z + m ≤ 100000 := by
        have h1 := HTL.out (j + 1)
        rw [HC.out, List.length_append, hm] at h1
        have := HZ.out
        have := HSL.out
        omega
      have HZ2 := Lib.hid (show z + m = (catD (S.take (j + 1))).length from by rw [HC.out, List.length_append, hm, HZ.out])
      have hlt2 : (j : Int) < (n : Int) := by omega
      have hnz : ¬ ((z : Int) + (m : Int) < 0) := by omega
      clear hs hm
      go_wp2
      exact ⟨⟨j + 1, by omega, by simp, z + m, hzm, by simp, HZ2, by first | rfl | trivial⟩, by simp [intOf]; omega⟩
    · obtain rfl : j = n := by omega
      have HZ2 := Lib.hid (show z = T0 from by rw [HZ.out, List.take_of_length_le (by rw [HN.out]; exact Nat.le_refl _)]; exact HT.out)
      obtain rfl : z = T0 := HZ2.out
      clear HZ HZ2
      have hnj : ¬ (j : Int) < (j : Int) := by omega
      go_wp2_with (go_at_call 147; (with_reducible refine (GC.out _).mono ?_); rintro e w6 ⟨v6, rfl, o6, g6⟩; have O6 := Lib.hid o6; have G6 := Lib.hid g6; clear o6 g6)
      go_loopw [6, 8, 27] (fun v _ i V => ∃ q : Nat, q ≤ j ∧ i = .int .i64 q ∧ Hid (OR 45 11 Dec.cs V w.heap.size v (catD (S.take q)) ∧ Gr w V)) (fun _ _ i _ => j - (intOf i).toNat)
      case atStart => exact ⟨0, by omega, rfl, Lib.hid ⟨by simpa [catD] using O6.out, G6.out⟩⟩
      case round =>
        obtain ⟨q, hq, rfl, HI⟩ := hrel
        by_cases hlt : q < j
        · obtain ⟨s, hs⟩ : ∃ s, S[q]? = some s := ⟨_, List.getElem?_eq_getElem (by rw [HN.out]; exact hlt)⟩
          obtain ⟨a, a1, rfl, ha, hab, d0⟩ := rdSLD (HS.out _ HI.out.2) hs
          have HRR := Lib.hid (HR.out s (List.mem_of_getElem? hs) _ HI.out.2)
          have HC := Lib.hid (catD_take S q hs)
          have LN := Lib.hid (show (catD (S.take q)).length + s.L.length ≤ 1000000 from by
            have h1 := HTL.out (q + 1)
            rw [HC.out, List.length_append] at h1
            have := HSL.out
            omega)
          have hlt2 : (q : Int) < (j : Int) := by omega
          have BW := Lib.hid HI.out.2.size
          rcases s with ⟨sA, sc, sL⟩
          dsimp only at d0 HRR HC LN
          obtain ⟨m, hm⟩ : ∃ m, sL.length = m := ⟨_, rfl⟩
          rw [hm] at d0
          have HM := Lib.hid hm
          clear hs hm
          go_wp2_with (at_builtin; refine wpList_app elD rfl (.tmp 31) (.tmp 32) rfl w.heap.size (v := u6) rfl HI.out.1 (A := sA) (M := sL) (m := m) (c := sc) HM.out rfl HRR.out LN.out BW.out ?_; intro v7 w7 o7 g7 b7; have O7 := Lib.hid o7; have G7 := Lib.hid (OR.grow HI.out.2 HI.out.1 (Nat.le_refl _) g7); clear o7 g7 b7)
          exact ⟨⟨q + 1, by omega, by simp, Lib.hid ⟨by rw [HC.out]; exact O7.out, G7.out⟩⟩, by simp [intOf]; omega⟩
        · obtain rfl : q = j := by omega
          have hnj2 : ¬ (q : Int) < (q : Int) := by omega
          have FF := Lib.hid (show OR 45 11 Dec.cs wr w.heap.size u6 (catD S) ∧ Gr w wr from ⟨by have h := HI.out.1; rwa [List.take_of_length_le (by rw [HN.out]; exact Nat.le_refl _)] at h, HI.out.2⟩)
          clear HI
          go_wp2
          go_ret
          exact ⟨_, rfl, FF.out⟩
end Go.Proofs.YtiaenhlflgobfaaGreatDoor
namespace Go.Proofs.YtiaenhlflgobfaaGreatDoor
open Go.RowKit
section
variable {α : Type} {e : TypeId} {n : Nat} {cs : α → List Value} {w V : World} {base : Nat} {v : Value} {L : List α}
theorem OR.typ (h : OR e n cs w base v L) {k : Nat} (hk : v.ownBlock = some k) : base ≤ k ∧ ∃ c, w.heap[k]? = some (Obj.cells c e (0, 0)) := by
  rcases h.2 with ⟨rfl, _⟩ | ⟨g, cap, cur, rfl, hg, hh, _⟩
  · simp [Value.ownBlock] at hk
  · simp [Value.ownBlock] at hk
    subst hk
    exact ⟨hg, _, hh⟩
theorem OR.keepT (h : OR e n cs w base v L) (g : w.grownBy V v.ownBlock) {k : Nat} {c : Array Value} {t : TypeId} {fr : Nat × Nat} (ht : t ≠ e) (hk : w.heap[k]? = some (.cells c t fr)) : V.heap[k]? = some (.cells c t fr) := by
  refine (g.block k (heap_lt hk) (fun e1 => ?_)).trans hk
  obtain ⟨-, c', h2⟩ := h.typ e1.symm
  rw [hk] at h2
  cases h2
  exact ht rfl
end
structure TD (w V : World) (m : Mod) (kd : Nat) (d : Dec) : Prop where
  u : m.uA = none ∧ m.uc = 0 ∧ m.uses = []
  dd : m.dA = some ⟨kd, 0, none⟩ ∧ m.dc = 1 ∧ m.decls = [d]
  l : sOk m.label
  h : V.heap[kd]? = some (.cells d.cs.toArray 45 (0, 0))
  b : d.body.Rd w
  n : SRd w d.nA d.nc d.names ∨ ∃ kn, d.nA = some ⟨kn, 0, none⟩ ∧ d.nc = 1 ∧ d.names = [[97]] ∧ V.heap[kn]? = some (.cells #[tv [97]] 9 (0, 0))
theorem TD.keep {w V V' : World} {m : Mod} {kd : Nat} {d : Dec} (h : TD w V m kd d) (hk : ∀ (k : Nat) (c : Array Value) (t : TypeId), t = 45 ∨ t = 9 → V.heap[k]? = some (.cells c t (0, 0)) → V'.heap[k]? = some (.cells c t (0, 0))) : TD w V' m kd d :=
  ⟨h.u, h.dd, h.l, hk _ _ _ (.inl rfl) h.h, h.b, by
    rcases h.n with h1 | ⟨kn, h1, h2, h3, h4⟩
    · exact .inl h1
    · exact .inr ⟨kn, h1, h2, h3, hk _ _ _ (.inr rfl) h4⟩⟩
theorem TD.gr {w V V' : World} {m : Mod} {kd : Nat} {d : Dec} (h : TD w V m kd d) (g : Gr V V') : TD w V' m kd d := h.keep fun _ _ _ _ h1 => gr_h g h1
theorem TD.rd {w V : World} {m : Mod} {kd : Nat} {d : Dec} (h : TD w V m kd d) (g : Gr w V) : m.Rd V := by
  obtain ⟨⟨u1, u2, u3⟩, ⟨d1, d2, d3⟩, l, hh, hb, hn⟩ := h
  rcases m with ⟨ml, mu, muc, mus, mdA, mdc, mds⟩
  dsimp only at u1 u2 u3 d1 d2 d3 l
  subst u1; subst u2; subst u3; subst d1; subst d2; subst d3
  refine ⟨l, SRd.nil V, ⟨⟨by simp, by show (1 : Nat) ≤ 9223372036854775807; omega, fun h => (by cases h), rd_cells (t := 45) Dec.cs_len (by rw [List.flatMap_cons, List.flatMap_nil, List.append_nil]; exact hh)⟩, fun x hx => ?_⟩⟩
  rw [List.mem_singleton.1 hx]
  refine ⟨?_, hb.gr g⟩
  rcases hn with h1 | ⟨kn, h1, h2, h3, h4⟩
  · exact h1.gr g
  · rw [h1, h2, h3]
    refine ⟨⟨by simp, by show (1 : Nat) ≤ 9223372036854775807; omega, fun h => (by cases h), rd_cells (t := 9) scs_len (by simpa [scs] using h4)⟩, fun s hs => ?_⟩
    rw [List.mem_singleton.1 hs]
    simp [sOk]
def TDs (w V : World) (L : List Mod) : Prop := ∀ m ∈ L, ∃ kd d, TD w V m kd d
theorem one_mod {V : World} {k : Nat} {m : Mod} (h : V.heap[k]? = some (.cells m.cs.toArray 39 (0, 0))) (hm : m.Rd V) : MRd V (some ⟨k, 0, none⟩) 1 [m] :=
  ⟨⟨by simp, by show (1 : Nat) ≤ 9223372036854775807; omega, fun h => (by cases h), rd_cells (t := 39) Mod.cs_len (by rw [List.flatMap_cons, List.flatMap_nil, List.append_nil]; exact h)⟩, fun x hx => by rw [List.mem_singleton.1 hx]; exact hm⟩
set_option maxRecDepth 100000 in
set_option maxHeartbeats 4000000 in
attribute [local irreducible] Calls in
theorem tests_two (e : Edt) (w : World) (he : e.Rd w) (hk : e.kind = 1 ∨ e.kind = 2 ∨ e.kind = 3 ∨ e.kind = 4) : Calls Tryz.prog 67 #[e.v] w fun x w' => ∃ a c L, x = .returned (.slice a L.length c) ∧ MRd w' a c L ∧ L.map Mod.er = tests e.er ∧ Gr w w' := by
  obtain ⟨c0, c1, c2, c3, c4⟩ := edtCells (al_new w (.cells #[iv e.kind, tv e.pack, tv e.text, .slice e.oA e.old.length e.oc, .slice e.nA e.new.length e.nc] 32))
  have GW := Lib.hid (gr_al w (.cells #[iv e.kind, tv e.pack, tv e.text, .slice e.oA e.old.length e.oc, .slice e.nA e.new.length e.nc] 32))
  have T1 := Lib.hid (show e.kind = 1 ∨ e.kind = 2 → tests e.er = [⟨e.pack, [], []⟩] from fun h => by unfold tests; rw [if_pos (show e.er.kind = 1 ∨ e.er.kind = 2 from h)]; rfl)
  have T2 := Lib.hid (show e.kind = 3 ∨ e.kind = 4 → tests e.er = [⟨e.pack, [e.text], []⟩] from fun h => by unfold tests; rw [if_neg (show ¬ (e.er.kind = 1 ∨ e.er.kind = 2) from by show ¬ (e.kind = 1 ∨ e.kind = 2); omega), if_pos (show e.er.kind = 3 ∨ e.er.kind = 4 from h)]; rfl)
  have LP := Lib.hid (And.intro he.p he.t)
  unfold Edt.v
  clear he
  obtain ⟨K, hK⟩ : ∃ K, e.kind = K := ⟨_, rfl⟩
  obtain ⟨X, hX⟩ : ∃ X, e.text = X := ⟨_, rfl⟩
  obtain ⟨Y, hY⟩ : ∃ Y, e.pack = Y := ⟨_, rfl⟩
  rw [hK] at c0 c1 c2 c3 c4 hk GW T1 T2 ⊢
  rw [hX] at c0 c1 c2 c3 c4 GW T2 LP ⊢
  rw [hY] at c0 c1 c2 c3 c4 GW T1 T2 LP ⊢
  clear hK hX hY
  rcases hk with rfl | rfl | rfl | rfl
  case inl | inr.inl =>
    have T := Lib.hid (T1.out (by decide))
    clear T1 T2
    go_enter Tryz.func67, Tryz.ntmps67
    go_wp2
    go_ret
    exact ⟨_, _, [⟨Y, none, 0, [], none, 0, []⟩], rfl, one_mod (by first | exact al_new _ _ | exact al_at _ _ (by simp)) ⟨LP.out.1, SRd.nil _, DRd.nil _⟩, by rw [T.out]; rfl, GW.out.trans (gr_al _ _)⟩
  case inr.inr.inl | inr.inr.inr =>
    have T := Lib.hid (T2.out (by decide))
    clear T1 T2
    go_enter Tryz.func67, Tryz.ntmps67
    go_wp2
    go_ret
    refine ⟨_, _, [⟨Y, some ⟨w.heap.size + 1, 0, none⟩, 1, [X], none, 0, []⟩], rfl, one_mod (by first | exact al_new _ _ | exact al_at _ _ (by simp)) ⟨LP.out.1, ⟨⟨by simp, by show (1 : Nat) ≤ 9223372036854775807; omega, fun h => (by cases h), rd_cells (t := 9) scs_len (gr_h (gr_al _ _) (al_at _ _ (by simp)))⟩, fun s hs => by rw [List.mem_singleton.1 hs]; exact LP.out.2⟩, DRd.nil _⟩, by rw [T.out]; rfl, (GW.out.trans (gr_al _ _)).trans (gr_al _ _)⟩
end Go.Proofs.YtiaenhlflgobfaaGreatDoor
namespace Go.Proofs.YtiaenhlflgobfaaGreatDoor
open Go.RowKit
def Dec.comp (K : Int) (kn : Nat) (d : Dec) : Dec :=
  ⟨d.id, if K = 7 ∨ K = 8 then 1 else d.kind, d.pub, if K = 8 ∨ K = 9 then some ⟨kn, 0, none⟩ else d.nA, if K = 8 ∨ K = 9 then 1 else d.nc, if K = 8 ∨ K = 9 then [[97]] else d.names, d.doubt, if K = 7 ∨ K = 9 then .mk 11 [] [] 0 0 none 0 [] else d.body⟩
theorem comp_er (K : Int) (kn : Nat) (d : Dec) : (d.comp K kn).er = complete K d.er := by
  unfold Dec.comp complete Dec.er
  congr 1
  by_cases h : K = 7 ∨ K = 9
  · simp only [if_pos h]; simp [Ex.er, nilE]
  · simp only [if_neg h]
theorem tstep {w w6 V V8 w7 : World} {v : Value} {Ls : List Mod} {m : Mod} {kd : Nat} {d' : Dec} (hi : OR 39 3 Mod.cs V w6.heap.size v Ls) (ht : TDs w V Ls) (g6 : Gr w6 V) (g8 : Gr V V8) (hm : TD w V8 m kd d') (g7 : V8.grownBy w7 v.ownBlock) : TDs w w7 (Ls ++ [m]) ∧ Gr w6 w7 := by
  have o8 := hi.gr g8
  have kp : ∀ (k : Nat) (c : Array Value) (t : TypeId), t = 45 ∨ t = 9 → V8.heap[k]? = some (.cells c t (0, 0)) → w7.heap[k]? = some (.cells c t (0, 0)) := fun k c t h1 h2 => o8.keepT g7 (by rcases h1 with rfl | rfl <;> decide) h2
  refine ⟨fun x hx => ?_, OR.grow (g6.trans g8) o8 (Nat.le_refl _) g7⟩
  rcases List.mem_append.1 hx with hx | hx
  · obtain ⟨k1, d1, h1⟩ := ht x hx
    exact ⟨k1, d1, (h1.gr g8).keep kp⟩
  · rw [List.mem_singleton.1 hx]
    exact ⟨kd, d', hm.keep kp⟩
set_option maxRecDepth 100000 in
set_option maxHeartbeats 4000000 in
attribute [local irreducible] Calls in
theorem tests_many (e : Edt) (w : World) (he : e.Rd w) (hk : 5 ≤ e.kind) (h9 : e.kind ≤ 9) (ho : e.old.length ≤ 1) (hn : e.new.length ≤ 1) : Calls Tryz.prog 67 #[e.v] w fun x w' => ∃ a c L, x = .returned (.slice a L.length c) ∧ MRd w' a c L ∧ L.map Mod.er = tests e.er ∧ Gr w w' := by
  obtain ⟨W, hW⟩ : ∃ W, w.alloc (.cells #[iv e.kind, tv e.pack, tv e.text, .slice e.oA e.old.length e.oc, .slice e.nA e.new.length e.nc] 32) = W := ⟨_, rfl⟩
  have GW := Lib.hid (show Gr w W by rw [← hW]; exact gr_al _ _)
  have CB := Lib.hid (fun V (g : Gr W V) => edtCells (V := V) (b := w.heap.size) (e := e) (gr_h g (by rw [← hW]; exact al_new _ _)))
  obtain ⟨ds, hds⟩ : ∃ ds, e.old ++ e.new = ds := ⟨_, rfl⟩
  have TT := Lib.hid (show tests e.er = ds.map fun d => ⟨e.pack, [], [complete e.kind d.er]⟩ from by
    unfold tests
    rw [if_neg (show ¬ (e.er.kind = 1 ∨ e.er.kind = 2) from by show ¬ (e.kind = 1 ∨ e.kind = 2); omega), if_neg (show ¬ (e.er.kind = 3 ∨ e.er.kind = 4) from by show ¬ (e.kind = 3 ∨ e.kind = 4); omega), ← hds]
    simp [Edt.er, Function.comp_def])
  have DR := Lib.hid (show ∀ d ∈ ds, d.Rd w from by rw [← hds]; intro d hd; rcases List.mem_append.1 hd with h | h; exact he.o.d d h; exact he.n.d d h)
  have LP := Lib.hid he.p
  obtain ⟨U, hU⟩ : ∃ U, W.alloc (.cells #[.slice e.oA e.old.length e.oc, .slice e.nA e.new.length e.nc] 30) = U := ⟨_, rfl⟩
  have GU := Lib.hid (show Gr W U by rw [← hU]; exact gr_al _ _)
  have CC := Lib.hid (show Calls Tryz.prog 108 #[.slice (some ⟨W.heap.size, 0, none⟩) 2 2] U fun x w' => ∃ v, x = .returned v ∧ OR 45 11 Dec.cs w' U.heap.size v ds ∧ Gr U w' from by
    have h := concatD_any (some ⟨W.heap.size, 0, none⟩) 2 [⟨e.oA, e.oc, e.old⟩, ⟨e.nA, e.nc, e.new⟩] U (rd_cells (t := 30) (fun _ => rfl) (by rw [← hU]; exact al_new _ _)) (by simp) (by simp [catD]; omega) (by
      intro s hs
      simp only [List.mem_cons, List.not_mem_nil, or_false] at hs
      rcases hs with rfl | rfl
      · exact (he.o.gr (GW.out.trans GU.out)).r
      · exact (he.n.gr (GW.out.trans GU.out)).r)
    rw [show catD [⟨e.oA, e.oc, e.old⟩, ⟨e.nA, e.nc, e.new⟩] = ds from by rw [← hds]; simp [catD]] at h
    exact h)
  have DL := Lib.hid (show ds.length ≤ 2 from by rw [← hds, List.length_append]; omega)
  unfold Edt.v
  clear he ho hn hds
  have HW := Lib.hid hW
  have HU := Lib.hid hU
  clear hW hU
  obtain ⟨K, hK⟩ : ∃ K, e.kind = K := ⟨_, rfl⟩
  rw [hK] at hk h9 CB HW TT ⊢
  clear hK
  have k1 : (K == 1) = false := by simp; omega
  have k2 : (K == 2) = false := by simp; omega
  have k3 : (K == 3) = false := by simp; omega
  have k4 : (K == 4) = false := by simp; omega
  go_enter Tryz.func67, Tryz.ntmps67
  go_upto_region 1 with fail
  rw [HW.out]
  obtain ⟨c0, c1, c2, c3, c4⟩ := CB.out _ (gr_refl _)
  go_wp2_with (rw [HU.out]; go_at_call 108; (with_reducible refine CC.out.mono ?_); rintro x w6 ⟨v6, rfl, o6, g6⟩; obtain ⟨dA, dc, rfl, hr6, hlc6, hc9, hA0, hA⟩ := o6.form2 Dec.cs_len; have R6 := Lib.hid (fun V (g : Gr w6 V) => hr6.gr g); have G6 := Lib.hid (GU.out.trans g6); clear o6 g6 hr6 hA0 hA)
  obtain ⟨n, hn⟩ : ∃ n, ds.length = n := ⟨_, rfl⟩
  have HN := Lib.hid hn
  rw [hn] at hlc6 ⊢
  have DL2 := Lib.hid (show n ≤ 2 from by rw [← hn]; exact DL.out)
  have hn9 : n ≤ 2 := DL2.out
  clear hn CC k1 k2 k3 k4 c0 c1 c2 c3 c4
  go_loopw [3, 5, 32] (fun v _ i V => ∃ j : Nat, j ≤ n ∧ i = iv j ∧ ∃ Ls : List Mod, Hid (Ls.length = j ∧ OR 39 3 Mod.cs V w6.heap.size v Ls ∧ TDs w V Ls ∧ Ls.map Mod.er = (ds.take j).map (fun d => ⟨e.pack, [], [complete K d.er]⟩) ∧ Gr w6 V)) (fun _ _ i _ => n - (intOf i).toNat)
  case atStart => exact ⟨0, by omega, rfl, [], Lib.hid ⟨rfl, OR.nil, fun m hm => absurd hm (by simp), by simp, gr_refl _⟩⟩
  case round =>
    obtain ⟨j, hj, rfl, Ls, HI⟩ := hrel
    by_cases hlt : j < n
    · obtain ⟨d, hd⟩ : ∃ d, ds[j]? = some d := ⟨_, List.getElem?_eq_getElem (by rw [HN.out]; exact hlt)⟩
      obtain ⟨a, a1, ea, ha, hab, d0, d1, d2, d3, d4, d5, d6, d7, d8, d9, d10⟩ := rdD (R6.out _ HI.out.2.2.2.2) hd
      obtain rfl := ea
      have DD := Lib.hid (DR.out d (List.mem_of_getElem? hd))
      have ET := Lib.hid (show ∀ m : Mod, m.er = ⟨e.pack, [], [complete K d.er]⟩ → (Ls ++ [m]).map Mod.er = (ds.take (j + 1)).map (fun d => ⟨e.pack, [], [complete K d.er]⟩) from fun m hm => by
        obtain ⟨hjl, hdd⟩ := List.getElem?_eq_some_iff.1 hd
        rw [List.take_succ_eq_append_getElem hjl, List.map_append, List.map_append, HI.out.2.2.2.1, hdd]
        simp [hm])
      have hlt2 : (j : Int) < (n : Int) := by omega
      obtain ⟨c0, c1, c2, c3, c4⟩ := CB.out _ (G6.out.trans HI.out.2.2.2.2)
      have lz : w.heap.size < wr.heap.size := by have h1 := (G6.out.trans HI.out.2.2.2.2).size; have h2 := congrArg (fun V => V.heap.size) HW.out; simp at h2; omega
      clear hd
      have hc : K = 5 ∨ K = 6 ∨ K = 7 ∨ K = 8 ∨ K = 9 := by omega
      rcases hc with rfl | rfl | rfl | rfl | rfl
      case inl =>
        obtain ⟨m, hm⟩ : ∃ m : Mod, m = ⟨e.pack, none, 0, [], some ⟨wr.heap.size + 1, 0, none⟩, 1, [d.comp 5 (wr.heap.size + 1)]⟩ := ⟨_, rfl⟩
        have HM := Lib.hid hm
        have ME := Lib.hid (show m.er = ⟨e.pack, [], [complete 5 d.er]⟩ from by rw [hm]; unfold Mod.er; simp only [List.map_cons, List.map_nil, comp_er])
        have MC := Lib.hid (show m.cs = [tv e.pack, .slice none 0 0, .slice (some ⟨wr.heap.size + 1, 0, none⟩) 1 1] from by rw [hm]; rfl)
        clear hm
        go_wp2_with (at_builtin; refine wpList_app elM rfl (.tmp 65) (.tmp 71) rfl w6.heap.size (v := u3) rfl (HI.out.2.1.gr (((gr_al _ _).trans (gr_al _ _)).trans (gr_al _ _))) (A := some ⟨_, 0, none⟩) (M := [m]) (m := 1) (c := 1) rfl rfl (rd_cells (t := 39) Mod.cs_len (by rw [List.flatMap_cons, List.flatMap_nil, List.append_nil, MC.out]; exact al_at _ _ (by simp))) (by have := HI.out.1; have := DL.out; simp; omega) (by have := HI.out.2.2.2.2.size; simp; omega) ?_
                     intro v7 w7 o7 g7 b7
                     have O7 := Lib.hid o7
                     have F7 := Lib.hid (tstep HI.out.2.1 HI.out.2.2.1 HI.out.2.2.2.2 (((gr_al _ _).trans (gr_al _ _)).trans (gr_al _ _)) (m := m) (kd := wr.heap.size + 1) (d' := d.comp 5 (wr.heap.size + 1)) ⟨by rw [HM.out]; exact ⟨rfl, rfl, rfl⟩, by rw [HM.out]; exact ⟨rfl, rfl, rfl⟩, by rw [HM.out]; exact LP.out, gr_h (gr_al _ _) (al_at _ _ (by simp)), DD.out.b, .inl DD.out.n⟩ g7)
                     clear o7 g7 b7)
        exact ⟨⟨j + 1, by omega, by simp, Ls ++ [m], Lib.hid ⟨by rw [List.length_append, HI.out.1]; rfl, O7.out, F7.out.1, ET.out m ME.out, F7.out.2⟩⟩, by simp [intOf]; omega⟩
      case inr.inl =>
        obtain ⟨m, hm⟩ : ∃ m : Mod, m = ⟨e.pack, none, 0, [], some ⟨wr.heap.size + 1, 0, none⟩, 1, [d.comp 6 (wr.heap.size + 1)]⟩ := ⟨_, rfl⟩
        have HM := Lib.hid hm
        have ME := Lib.hid (show m.er = ⟨e.pack, [], [complete 6 d.er]⟩ from by rw [hm]; unfold Mod.er; simp only [List.map_cons, List.map_nil, comp_er])
        have MC := Lib.hid (show m.cs = [tv e.pack, .slice none 0 0, .slice (some ⟨wr.heap.size + 1, 0, none⟩) 1 1] from by rw [hm]; rfl)
        clear hm
        go_wp2_with (at_builtin; refine wpList_app elM rfl (.tmp 65) (.tmp 71) rfl w6.heap.size (v := u3) rfl (HI.out.2.1.gr (((gr_al _ _).trans (gr_al _ _)).trans (gr_al _ _))) (A := some ⟨_, 0, none⟩) (M := [m]) (m := 1) (c := 1) rfl rfl (rd_cells (t := 39) Mod.cs_len (by rw [List.flatMap_cons, List.flatMap_nil, List.append_nil, MC.out]; exact al_at _ _ (by simp))) (by have := HI.out.1; have := DL.out; simp; omega) (by have := HI.out.2.2.2.2.size; simp; omega) ?_
                     intro v7 w7 o7 g7 b7
                     have O7 := Lib.hid o7
                     have F7 := Lib.hid (tstep HI.out.2.1 HI.out.2.2.1 HI.out.2.2.2.2 (((gr_al _ _).trans (gr_al _ _)).trans (gr_al _ _)) (m := m) (kd := wr.heap.size + 1) (d' := d.comp 6 (wr.heap.size + 1)) ⟨by rw [HM.out]; exact ⟨rfl, rfl, rfl⟩, by rw [HM.out]; exact ⟨rfl, rfl, rfl⟩, by rw [HM.out]; exact LP.out, gr_h (gr_al _ _) (al_at _ _ (by simp)), DD.out.b, .inl DD.out.n⟩ g7)
                     clear o7 g7 b7)
        exact ⟨⟨j + 1, by omega, by simp, Ls ++ [m], Lib.hid ⟨by rw [List.length_append, HI.out.1]; rfl, O7.out, F7.out.1, ET.out m ME.out, F7.out.2⟩⟩, by simp [intOf]; omega⟩
      case inr.inr.inl =>
        obtain ⟨m, hm⟩ : ∃ m : Mod, m = ⟨e.pack, none, 0, [], some ⟨wr.heap.size + 1, 0, none⟩, 1, [d.comp 7 (wr.heap.size + 1)]⟩ := ⟨_, rfl⟩
        have HM := Lib.hid hm
        have ME := Lib.hid (show m.er = ⟨e.pack, [], [complete 7 d.er]⟩ from by rw [hm]; unfold Mod.er; simp only [List.map_cons, List.map_nil, comp_er])
        have MC := Lib.hid (show m.cs = [tv e.pack, .slice none 0 0, .slice (some ⟨wr.heap.size + 1, 0, none⟩) 1 1] from by rw [hm]; rfl)
        clear hm
        go_wp2_with (at_builtin; refine wpList_app elM rfl (.tmp 65) (.tmp 71) rfl w6.heap.size (v := u3) rfl (HI.out.2.1.gr (((gr_al _ _).trans (gr_al _ _)).trans (gr_al _ _))) (A := some ⟨_, 0, none⟩) (M := [m]) (m := 1) (c := 1) rfl rfl (rd_cells (t := 39) Mod.cs_len (by rw [List.flatMap_cons, List.flatMap_nil, List.append_nil, MC.out]; exact al_at _ _ (by simp))) (by have := HI.out.1; have := DL.out; simp; omega) (by have := HI.out.2.2.2.2.size; simp; omega) ?_
                     intro v7 w7 o7 g7 b7
                     have O7 := Lib.hid o7
                     have F7 := Lib.hid (tstep HI.out.2.1 HI.out.2.2.1 HI.out.2.2.2.2 (((gr_al _ _).trans (gr_al _ _)).trans (gr_al _ _)) (m := m) (kd := wr.heap.size + 1) (d' := d.comp 7 (wr.heap.size + 1)) ⟨by rw [HM.out]; exact ⟨rfl, rfl, rfl⟩, by rw [HM.out]; exact ⟨rfl, rfl, rfl⟩, by rw [HM.out]; exact LP.out, gr_h (gr_al _ _) (al_at _ _ (by simp)), ⟨XRd.nil _, by simp [Ex.name, sOk, Dec.comp], by simp [Ex.more, sOk, Dec.comp]⟩, .inl DD.out.n⟩ g7)
                     clear o7 g7 b7)
        exact ⟨⟨j + 1, by omega, by simp, Ls ++ [m], Lib.hid ⟨by rw [List.length_append, HI.out.1]; rfl, O7.out, F7.out.1, ET.out m ME.out, F7.out.2⟩⟩, by simp [intOf]; omega⟩
      case inr.inr.inr.inl =>
        obtain ⟨m, hm⟩ : ∃ m : Mod, m = ⟨e.pack, none, 0, [], some ⟨wr.heap.size + 1 + 1, 0, none⟩, 1, [d.comp 8 (wr.heap.size + 1)]⟩ := ⟨_, rfl⟩
        have HM := Lib.hid hm
        have ME := Lib.hid (show m.er = ⟨e.pack, [], [complete 8 d.er]⟩ from by rw [hm]; unfold Mod.er; simp only [List.map_cons, List.map_nil, comp_er])
        have MC := Lib.hid (show m.cs = [tv e.pack, .slice none 0 0, .slice (some ⟨wr.heap.size + 1 + 1, 0, none⟩) 1 1] from by rw [hm]; rfl)
        clear hm
        go_wp2_with (at_builtin; refine wpList_app elM rfl (.tmp 65) (.tmp 71) rfl w6.heap.size (v := u3) rfl (HI.out.2.1.gr ((((gr_al _ _).trans (gr_al _ _)).trans (gr_al _ _)).trans (gr_al _ _))) (A := some ⟨_, 0, none⟩) (M := [m]) (m := 1) (c := 1) rfl rfl (rd_cells (t := 39) Mod.cs_len (by rw [List.flatMap_cons, List.flatMap_nil, List.append_nil, MC.out]; exact al_at _ _ (by simp))) (by have := HI.out.1; have := DL.out; simp; omega) (by have := HI.out.2.2.2.2.size; simp; omega) ?_
                     intro v7 w7 o7 g7 b7
                     have O7 := Lib.hid o7
                     have F7 := Lib.hid (tstep HI.out.2.1 HI.out.2.2.1 HI.out.2.2.2.2 ((((gr_al _ _).trans (gr_al _ _)).trans (gr_al _ _)).trans (gr_al _ _)) (m := m) (kd := wr.heap.size + 1 + 1) (d' := d.comp 8 (wr.heap.size + 1)) ⟨by rw [HM.out]; exact ⟨rfl, rfl, rfl⟩, by rw [HM.out]; exact ⟨rfl, rfl, rfl⟩, by rw [HM.out]; exact LP.out, gr_h (gr_al _ _) (al_at _ _ (by simp)), DD.out.b, .inr ⟨wr.heap.size + 1, rfl, rfl, rfl, gr_h ((gr_al _ _).trans (gr_al _ _)) (al_at _ _ (by simp))⟩⟩ g7)
                     clear o7 g7 b7)
        exact ⟨⟨j + 1, by omega, by simp, Ls ++ [m], Lib.hid ⟨by rw [List.length_append, HI.out.1]; rfl, O7.out, F7.out.1, ET.out m ME.out, F7.out.2⟩⟩, by simp [intOf]; omega⟩
      case inr.inr.inr.inr =>
        obtain ⟨m, hm⟩ : ∃ m : Mod, m = ⟨e.pack, none, 0, [], some ⟨wr.heap.size + 1 + 1, 0, none⟩, 1, [d.comp 9 (wr.heap.size + 1)]⟩ := ⟨_, rfl⟩
        have HM := Lib.hid hm
        have ME := Lib.hid (show m.er = ⟨e.pack, [], [complete 9 d.er]⟩ from by rw [hm]; unfold Mod.er; simp only [List.map_cons, List.map_nil, comp_er])
        have MC := Lib.hid (show m.cs = [tv e.pack, .slice none 0 0, .slice (some ⟨wr.heap.size + 1 + 1, 0, none⟩) 1 1] from by rw [hm]; rfl)
        clear hm
        go_wp2_with (at_builtin; refine wpList_app elM rfl (.tmp 65) (.tmp 71) rfl w6.heap.size (v := u3) rfl (HI.out.2.1.gr ((((gr_al _ _).trans (gr_al _ _)).trans (gr_al _ _)).trans (gr_al _ _))) (A := some ⟨_, 0, none⟩) (M := [m]) (m := 1) (c := 1) rfl rfl (rd_cells (t := 39) Mod.cs_len (by rw [List.flatMap_cons, List.flatMap_nil, List.append_nil, MC.out]; exact al_at _ _ (by simp))) (by have := HI.out.1; have := DL.out; simp; omega) (by have := HI.out.2.2.2.2.size; simp; omega) ?_
                     intro v7 w7 o7 g7 b7
                     have O7 := Lib.hid o7
                     have F7 := Lib.hid (tstep HI.out.2.1 HI.out.2.2.1 HI.out.2.2.2.2 ((((gr_al _ _).trans (gr_al _ _)).trans (gr_al _ _)).trans (gr_al _ _)) (m := m) (kd := wr.heap.size + 1 + 1) (d' := d.comp 9 (wr.heap.size + 1)) ⟨by rw [HM.out]; exact ⟨rfl, rfl, rfl⟩, by rw [HM.out]; exact ⟨rfl, rfl, rfl⟩, by rw [HM.out]; exact LP.out, gr_h (gr_al _ _) (al_at _ _ (by simp)), ⟨XRd.nil _, by simp [Ex.name, sOk, Dec.comp], by simp [Ex.more, sOk, Dec.comp]⟩, .inr ⟨wr.heap.size + 1, rfl, rfl, rfl, gr_h ((gr_al _ _).trans (gr_al _ _)) (al_at _ _ (by simp))⟩⟩ g7)
                     clear o7 g7 b7)
        exact ⟨⟨j + 1, by omega, by simp, Ls ++ [m], Lib.hid ⟨by rw [List.length_append, HI.out.1]; rfl, O7.out, F7.out.1, ET.out m ME.out, F7.out.2⟩⟩, by simp [intOf]; omega⟩
    · obtain rfl : j = n := by omega
      have FF := Lib.hid (show ∀ (A : Option Addr) (c : Nat), u3 = .slice A Ls.length c → RW 3 Mod.cs wr A c Ls → MRd wr A c Ls from fun A c _ h => ⟨h, fun m hm => by
        obtain ⟨kd, d', h1⟩ := HI.out.2.2.1 m hm
        exact h1.rd (GW.out.trans (G6.out.trans HI.out.2.2.2.2))⟩)
      have FE := Lib.hid (show Ls.map Mod.er = tests e.er from by rw [HI.out.2.2.2.1, TT.out, List.take_of_length_le (by rw [HN.out]; exact Nat.le_refl _)])
      have FG := Lib.hid (GW.out.trans (G6.out.trans HI.out.2.2.2.2))
      obtain ⟨A, c, rfl, hr, hlc, hcm, hA0, -⟩ := HI.out.2.1.form2 Mod.cs_len
      have FM := Lib.hid (FF.out A c rfl ⟨hlc, hcm, hA0, hr⟩)
      have hnj : ¬ (j : Int) < (j : Int) := by omega
      clear HI FF hr hlc hcm hA0
      go_wp2
      go_ret
      exact ⟨A, c, Ls, rfl, FM.out, FE.out, FG.out⟩
end Go.Proofs.YtiaenhlflgobfaaGreatDoor

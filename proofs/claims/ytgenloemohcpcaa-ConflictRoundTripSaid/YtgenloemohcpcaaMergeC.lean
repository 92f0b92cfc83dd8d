/- Walk of Merge: valid sums whose sides differ. -/
import Derived.Test.YtgenloemohcpcaaMergeA
import Derived.Test.YtgenloemohcpcaaTally
namespace Go.Proofs.Ytgenloemohcpcaa
open Go.RowKit Go.Maps

/-- What slices.Sorted hands back, the slice written out. -/
def KeysPost2 (w : World) (n : Nat) (cnt : T → Int) (e : Ending) (w' : World) : Prop :=
  ∃ A c ks, e = .returned (.slice A ks.length c) ∧ RD w' A ks ∧ (∀ a, A = some a → w.heap.size ≤ a.block) ∧ Srt ks ∧ ks.Nodup ∧ (∀ x, x ∉ ks → cnt x = 0) ∧ (∀ x ∈ ks, keyOf Try.prog 9 (tv x) = some (.string x)) ∧ ks.length ≤ n ∧ Below w.heap.size w w'
theorem sorted2 (bm n g : Nat) (cnt : T → Int) (w : World) (h : MapSt w bm n cnt) (hn : n ≤ 1000000) (hg : w.heap.size = g) :
    Calls Try.prog 31 #[.func (.func 45) #[] #[.pointer (some ⟨g, 0, none⟩)]] (w.alloc (.cells #[.map (some bm)] 48)) (KeysPost2 (w.alloc (.cells #[.map (some bm)] 48)) n cnt) := by
  subst hg
  refine (sorted_any bm n cnt w h hn).mono ?_
  rintro e w' ⟨v, ks, rfl, ho, h1, h2, h3, h4, h5, h6⟩
  obtain ⟨A, c, rfl, _, hr, hb⟩ := ho.form2
  exact ⟨A, c, ks, rfl, hr, hb, h1, h2, h3, h4, h5, h6⟩

theorem cs_final (b l r : SR) (x : T) : cs (((((([] ++ [(l.L, 1)]) ++ [(r.L, 1)]) ++ [(b.M, 1)]) ++ [(l.M, (-1))]) ++ [(r.M, (-1))]) ++ [(b.L, (-1))]) x = tot l.p x + tot r.p x - tot b.p x := by
  simp only [cs_snoc, SR.p, tot]
  simp [cs]
  omega

theorem pos_take (c : T → Int) (ks : List T) (k : Nat) : (pos c (ks.take k)).length ≤ (pos c ks).length := by
  have e : pos c ks = pos c (ks.take k) ++ pos c (ks.drop k) := by
    unfold pos
    rw [← List.flatMap_append, List.take_append_drop]
  rw [e, List.length_append]
  omega
theorem pos_succ (c : T → Int) {ks : List T} {k : Nat} (h : k < ks.length) : pos c (ks.take (k + 1)) = pos c (ks.take k) ++ List.replicate (c ks[k]).toNat ks[k] := by
  unfold pos
  rw [List.take_succ_eq_append_getElem h, List.flatMap_append]
  simp
theorem rep_succ (P : List T) (j : Nat) (s : T) : P ++ List.replicate j s ++ [s] = P ++ List.replicate (j + 1) s := by
  rw [List.replicate_succ', List.append_assoc]

theorem MS.bkA {W0 w w1 : World} {g : Nat} {PA PR : List T} {A B : Option Addr} {c d : Nat} (h : MS W0 w g PA PR A c B d) (o : Obj) (hg : (w.alloc o).grownBy w1 (Value.slice A PA.length c).ownBlock) : BK w1 g (.slice A PA.length c) (.slice B PR.length d) := by
  have hne : some g ≠ (Value.slice A PA.length c).ownBlock := fun e => by have := (World.ownsRow.lt h.oa g e.symm).1; have := h.lt; omega
  exact (hg.block g (by have := h.lt; have := h.gr.size; simp; omega) hne).trans (h.bk.alloc o)
theorem MS.bkR {W0 w w1 : World} {g : Nat} {PA PR : List T} {A B : Option Addr} {c d : Nat} (h : MS W0 w g PA PR A c B d) (o : Obj) (hg : (w.alloc o).grownBy w1 (Value.slice B PR.length d).ownBlock) : BK w1 g (.slice A PA.length c) (.slice B PR.length d) := by
  have hne : some g ≠ (Value.slice B PR.length d).ownBlock := fun e => by have := (World.ownsRow.lt h.ob g e.symm).1; have := h.lt; omega
  exact (hg.block g (by have := h.lt; have := h.gr.size; simp; omega) hne).trans (h.bk.alloc o)

theorem of_below {a w : World} (h : Below a.heap.size a w) (row : Option Nat) : a.grownBy w row := ⟨h.os, h.tape, h.output, h.size, fun i hi _ => h.block i hi⟩

/-- What stands behind the sorted keys. -/
structure After (w w4 W9 : World) (b l r : SR) (gm bm n : Nat) (cnt : T → Int) (ks : List T) (A9 : Option Addr) : Prop where
  k9 : Below w4.heap.size w4 W9
  box : Box w W9 b l r
  ge : w4.heap.size ≤ gm
  cell : W9.cell? ⟨w4.heap.size + 1, 0, none⟩ = some (.map (some bm))
  map : MapSt W9 bm n cnt
  rd : RD W9 A9 ks
  ap : ∀ a, A9 = some a → a.block ≠ gm
  ms : MS W9 W9 gm [] [] none 0 none 0
  bc : w4.heap.size + 1 < gm
  b3 : w.heap.size + 1 + 1 + 1 < w4.heap.size

theorem After.mk' {w w4 W7 W9 : World} {b l r : SR} {n : Nat} {cnt : T → Int} {ks : List T} {A9 : Option Addr} (bx : Box w w4 b l r) (k7 : Below w4.heap.size w4 W7) (x7 : W7.cell? ⟨w4.heap.size + 1, 0, none⟩ = some (.map (some w4.heap.size))) (sz : w4.heap.size + 1 < W7.heap.size)
    (m7 : MapSt W7 w4.heap.size n cnt) (r9 : RD W9 A9 ks) (a9 : ∀ a, A9 = some a → ((W7.alloc (.cells #[.slice none 0 0, .slice none 0 0] 24)).alloc (.cells #[.map (some w4.heap.size)] 48)).heap.size ≤ a.block)
    (k9 : Below ((W7.alloc (.cells #[.slice none 0 0, .slice none 0 0] 24)).alloc (.cells #[.map (some w4.heap.size)] 48)).heap.size ((W7.alloc (.cells #[.slice none 0 0, .slice none 0 0] 24)).alloc (.cells #[.map (some w4.heap.size)] 48)) W9) :
    After w w4 W9 b l r W7.heap.size w4.heap.size n cnt ks A9 := by
  have h79 : Below W7.heap.size W7 W9 := (((Below.refl _ _).alloc (Nat.le_refl _) _).alloc (by simp) _).trans (k9.mono (by simp; omega))
  have h49 : Below w4.heap.size w4 W9 := k7.trans (h79.mono k7.size)
  have bk : BK W9 W7.heap.size (.slice none 0 0) (.slice none 0 0) := ((BK.new W7 _ _).alloc _).below k9 (by simp; omega)
  refine ⟨h49, bx.below h49, k7.size, (h79.cell (p := ⟨w4.heap.size + 1, 0, none⟩) sz).trans x7, m7.kept (of_below h79 none) (by simp), r9, fun a ha e => ?_, ⟨bk, OT.nil _ _, OT.nil _ _, .inl rfl, World.grownBy.refl _ _, bk.lt⟩, sz, bx.b3.lt⟩
  have := a9 a ha
  simp at this
  omega

/-- append of texts, the new list under a name. -/
theorem wpList_app3 (w : World) {ops : Array Oper} {rest : List Oper} {o : Oper} {a : Act} {Q : Exit → Act → World → Prop} (hgd : o.guard = none) (s x : Operand)
    (ho : o.op = .call { callee := .builtin .append, args := #[s, x], argTypes := #[22, 22] }) (base : Nat) {v : Value} {L : List T} (hs : a.eval s = v) (hown : OT w base v L)
    {A : Option Addr} {M N : List T} {m c : Nat} (hN : L ++ M = N) (hm : M.length = m) (hx : a.eval x = .slice A m c) (hr : RD w A M) (hsz : L.length + M.length ≤ 1000000) (hb : base ≤ w.heap.size)
    (h : ∀ A' c' w', OT w' base (.slice A' N.length c') N → w.grownBy w' v.ownBlock → ((Value.slice A' N.length c').ownBlock = v.ownBlock ∨ (Value.slice A' N.length c').ownBlock = some w.heap.size) →
      wpList Try.prog ops Q rest (a.put o.dst (.slice A' N.length c')) w') : wpList Try.prog ops Q (o :: rest) a w := by
  subst hN
  exact wpList_app2 w hgd s x ho base hs hown hm hx hr hsz hb h

theorem OT.rd {w : World} {base : Nat} {A : Option Addr} {L : List T} {c : Nat} (h : OT w base (.slice A L.length c) L) : L.length ≤ c ∧ RD w A L := by
  obtain ⟨A', c', e, hc, hr, _⟩ := h.form
  injection e with e1 _ e3
  subst e1 e3
  exact ⟨hc, hr⟩

theorem ret_at {w0 w : World} (h : BK w (w0.heap.size + 1 + 1 + 1) (.slice none 0 0) (.slice none 0 0)) (be : Below w0.heap.size w0 w) (x y : Value) :
    ((w.setCell ⟨w0.heap.size + 1 + 1 + 1, 0, none⟩ x).setCell ⟨w0.heap.size + 1 + 1 + 1, 1, none⟩ y).cell? ⟨w0.heap.size + 1 + 1 + 1, 0, none⟩ = some x ∧
    ((w.setCell ⟨w0.heap.size + 1 + 1 + 1, 0, none⟩ x).setCell ⟨w0.heap.size + 1 + 1 + 1, 1, none⟩ y).cell? ⟨w0.heap.size + 1 + 1 + 1, 1, none⟩ = some y ∧
    Below w0.heap.size w0 ((w.setCell ⟨w0.heap.size + 1 + 1 + 1, 0, none⟩ x).setCell ⟨w0.heap.size + 1 + 1 + 1, 1, none⟩ y) ∧
    ∀ A L, RD w A L → RD ((w.setCell ⟨w0.heap.size + 1 + 1 + 1, 0, none⟩ x).setCell ⟨w0.heap.size + 1 + 1 + 1, 1, none⟩ y) A L := by
  have k := (h.set0 x).set1 y
  refine ⟨k.c0, k.c1, (be.setCell (p := ⟨w0.heap.size + 1 + 1 + 1, 0, none⟩) (by show _ ≤ w0.heap.size + 1 + 1 + 1; omega) x).setCell (p := ⟨w0.heap.size + 1 + 1 + 1, 1, none⟩) (by show _ ≤ w0.heap.size + 1 + 1 + 1; omega) y, fun A L hr => ?_⟩
  exact (hr.setSlice h.c0 x).setSlice (h.set0 x).c1 y

set_option maxRecDepth 100000 in
set_option maxHeartbeats 4000000 in
theorem merge_ne (b l r : SR) (w : World) (hb : b.Rd w) (hl : l.Rd w) (hr : r.Rd w) (h1 : chk b.L b.M = 0) (h2 : chk l.L l.M = 0) (h3 : chk r.L r.M = 0) (hq : l.p ≠ r.p)
    (hsz : b.L.length + b.M.length + l.L.length + l.M.length + r.L.length + r.M.length ≤ 900) :
    Calls Try.prog 12 #[b.val, l.val, r.val] w (MergePost b.p l.p r.p w) := by
  have st := chk_start w b l r hb hl hr
  have hall : ∀ j (h : j < [b, l, r].length), chk [b, l, r][j].L [b, l, r][j].M = 0 := by
    intro j hj
    match j, hj with
    | 0, _ => exact h1
    | 1, _ => exact h2
    | 2, _ => exact h3
  have e1 := mErr0 (b := b.p) (l := l.p) (r := r.p) h1 h2 h3
  have okb : Okp b.p := chk_zero.1 h1
  have okl : Okp l.p := chk_zero.1 h2
  have okr : Okp r.p := chk_zero.1 h3
  have hq' : same2 l.L l.M r.L r.M = false := by
    unfold SR.p at hq
    simp only [ne_eq, Prod.mk.injEq] at hq
    simp only [same2, Bool.and_eq_false_iff, decide_eq_false_iff_not]
    exact Classical.not_and_iff_not_or_not.1 hq
  have OKB := Lib.hid okb
  have OKL := Lib.hid okl
  have OKR := Lib.hid okr
  have NE := Lib.hid hq
  have E1 := Lib.hid e1
  have HQ := Lib.hid hq'
  have HA := Lib.hid hall
  have ST := Lib.hid st
  clear hb hl hr h1 h2 h3 hq hq' e1 hall st okb okl okr
  unfold SR.val
  go_enter Try.func12, Try.ntmps12
  go_wp2_with fail
  go_loopw [9, 10, 21] (fun _ _ i wr => ∃ k : Nat, k ≤ 3 ∧ i = .int .i64 k ∧ ChkSt w wr b l r k) (fun _ _ i _ => 3 - (intOf i).toNat)
  case atStart => exact ⟨0, by omega, rfl, ST.out⟩
  case round =>
    clear ST
    obtain ⟨k, hk, rfl, st⟩ := hrel
    by_cases hlt : k < 3
    · have hk3 : k < [b, l, r].length := hlt
      have hrd := st.box.mem (List.getElem_mem hk3)
      obtain ⟨c0, c1⟩ := st.ss k hk3
      have h0 := HA.out k hk3
      have t0 : (chk [b, l, r][k].L [b, l, r][k].M != 0) = false := by simpa using h0
      have NX := Lib.hid fun w' hb => st.next (w' := w') hb hk3 h0
      clear st h0 E1 HQ HA OKB OKL OKR NE
      generalize [b, l, r][k] = s at *
      go_wp2_with fail
      refine (check_any s.A s.B s.c s.d s.L s.M _ (hrd.a.alloc _) (hrd.b.alloc _) (by have := hrd.la; omega) hrd.lb).mono ?_
      rintro e w1 ⟨rfl, k1⟩
      have K1 := Lib.hid k1
      clear k1
      go_wp2_with fail
      go_roundw
      case rel => exact ⟨k + 1, by omega, by go_num, NX.out _ (((Below.refl _ _).alloc (Nat.le_refl _) _).trans (K1.out.mono (by simp)))⟩
      case measure => simp [intOf]; omega
    · have bx3 := st.box
      clear st HA
      have y0 := bx3.b1.c0
      have y1 := bx3.b1.c1
      have y2 := bx3.b2.c0
      have y3 := bx3.b2.c1
      go_wp2_with fail
      refine (equal2_any l.A l.B r.A r.B l.c l.d r.c r.d l.L l.M r.L r.M wr bx3.rl.a bx3.rl.b bx3.rr.a bx3.rr.b (by omega) (by omega)).mono ?_
      rintro e w4 ⟨rfl, k4⟩
      rw [HQ.out]
      have bx4 := bx3.below k4
      clear k4 bx3 y0 y1 y2 y3 hk hlt
      have hmm := @run_makeMap Try.prog
      have K1 : Below w4.heap.size w4 ((w4.alloc (.map #[] 0)).alloc (.cells #[.map (some w4.heap.size)] 48)) := ((Below.refl _ _).alloc (Nat.le_refl _) _).alloc (by simp) _
      have M1 := (mapst_start w4).alloc (.cells #[.map (some w4.heap.size)] 48)
      have x1 : ((w4.alloc (.map #[] 0)).alloc (.cells #[.map (some w4.heap.size)] 48)).cell? ⟨w4.heap.size + 1, 0, none⟩ = some (.map (some w4.heap.size)) := by
        simp [World.cell?_alloc_at]
      have sz1 : w4.heap.size + 1 < ((w4.alloc (.map #[] 0)).alloc (.cells #[.map (some w4.heap.size)] 48)).heap.size := by simp
      have V1 := (K1.cell (p := ⟨w.heap.size + 1, 0, none⟩) bx4.b1.lt).trans bx4.b1.c0
      have BX := Lib.hid bx4
      have k1 := Lib.hid K1
      have m1 := Lib.hid M1
      clear bx4 K1 M1
      go_wp2_with fail
      clear hmm
      generalize (w4.alloc (.map #[] 0)).alloc (.cells #[.map (some w4.heap.size)] 48) = W1 at *
      clear V1
      refine (tally2 [] l.A l.c l.L 1 (w4.heap.size + 1) w4.heap.size (0) W1 (BX.out.rl.a.below k1.out) (by omega) (by simp) OKL.out.la x1 m1.out (by omega) (by simp) (by simp [lens] <;> omega)).mono ?_
      rintro e W2 ⟨rfl, M, G⟩
      have m2 := Lib.hid M
      have x2 := G.cell x1 (map_far m1.out x1)
      have K := grown_to k1.out G (Nat.le_refl _) k1.out.size
      have sz2 := Nat.lt_of_lt_of_le sz1 G.size
      have k2 := Lib.hid K
      have V := (K.cell (p := ⟨w.heap.size + 1 + 1, 0, none⟩) BX.out.b2.lt).trans BX.out.b2.c0
      clear M G K k1 m1 x1 sz1
      go_wp2_with fail
      clear V
      refine (tally2 ([] ++ [(l.L, 1)]) r.A r.c r.L 1 (w4.heap.size + 1) w4.heap.size (0 + l.L.length) W2 (BX.out.rr.a.below k2.out) (by omega) (by simp) OKR.out.la x2 m2.out (by omega) (by simp) (by simp [lens] <;> omega)).mono ?_
      rintro e W3 ⟨rfl, M, G⟩
      have m3 := Lib.hid M
      have x3 := G.cell x2 (map_far m2.out x2)
      have K := grown_to k2.out G (Nat.le_refl _) k2.out.size
      have sz3 := Nat.lt_of_lt_of_le sz2 G.size
      have k3 := Lib.hid K
      have V := (K.cell (p := ⟨w.heap.size, 1, none⟩) BX.out.b0.lt).trans BX.out.b0.c1
      clear M G K k2 m2 x2 sz2
      go_wp2_with fail
      clear V
      refine (tally2 (([] ++ [(l.L, 1)]) ++ [(r.L, 1)]) b.B b.d b.M 1 (w4.heap.size + 1) w4.heap.size (0 + l.L.length + r.L.length) W3 (BX.out.rb.b.below k3.out) (by omega) (by simp) OKB.out.lr x3 m3.out (by omega) (by simp) (by simp [lens] <;> omega)).mono ?_
      rintro e W4 ⟨rfl, M, G⟩
      have m4 := Lib.hid M
      have x4 := G.cell x3 (map_far m3.out x3)
      have K := grown_to k3.out G (Nat.le_refl _) k3.out.size
      have sz4 := Nat.lt_of_lt_of_le sz3 G.size
      have k4 := Lib.hid K
      have V := (K.cell (p := ⟨w.heap.size + 1, 1, none⟩) BX.out.b1.lt).trans BX.out.b1.c1
      clear M G K k3 m3 x3 sz3
      go_wp2_with fail
      clear V
      refine (tally2 ((([] ++ [(l.L, 1)]) ++ [(r.L, 1)]) ++ [(b.M, 1)]) l.B l.d l.M (-1) (w4.heap.size + 1) w4.heap.size (0 + l.L.length + r.L.length + b.M.length) W4 (BX.out.rl.b.below k4.out) (by omega) (by simp) OKL.out.lr x4 m4.out (by omega) (by simp) (by simp [lens] <;> omega)).mono ?_
      rintro e W5 ⟨rfl, M, G⟩
      have m5 := Lib.hid M
      have x5 := G.cell x4 (map_far m4.out x4)
      have K := grown_to k4.out G (Nat.le_refl _) k4.out.size
      have sz5 := Nat.lt_of_lt_of_le sz4 G.size
      have k5 := Lib.hid K
      have V := (K.cell (p := ⟨w.heap.size + 1 + 1, 1, none⟩) BX.out.b2.lt).trans BX.out.b2.c1
      clear M G K k4 m4 x4 sz4
      go_wp2_with fail
      clear V
      refine (tally2 (((([] ++ [(l.L, 1)]) ++ [(r.L, 1)]) ++ [(b.M, 1)]) ++ [(l.M, (-1))]) r.B r.d r.M (-1) (w4.heap.size + 1) w4.heap.size (0 + l.L.length + r.L.length + b.M.length + l.M.length) W5 (BX.out.rr.b.below k5.out) (by omega) (by simp) OKR.out.lr x5 m5.out (by omega) (by simp) (by simp [lens] <;> omega)).mono ?_
      rintro e W6 ⟨rfl, M, G⟩
      have m6 := Lib.hid M
      have x6 := G.cell x5 (map_far m5.out x5)
      have K := grown_to k5.out G (Nat.le_refl _) k5.out.size
      have sz6 := Nat.lt_of_lt_of_le sz5 G.size
      have k6 := Lib.hid K
      have V := (K.cell (p := ⟨w.heap.size, 0, none⟩) BX.out.b0.lt).trans BX.out.b0.c0
      clear M G K k5 m5 x5 sz5
      go_wp2_with fail
      clear V
      refine (tally2 ((((([] ++ [(l.L, 1)]) ++ [(r.L, 1)]) ++ [(b.M, 1)]) ++ [(l.M, (-1))]) ++ [(r.M, (-1))]) b.A b.c b.L (-1) (w4.heap.size + 1) w4.heap.size (0 + l.L.length + r.L.length + b.M.length + l.M.length + r.M.length) W6 (BX.out.rb.a.below k6.out) (by omega) (by simp) OKB.out.la x6 m6.out (by omega) (by simp) (by simp [lens] <;> omega)).mono ?_
      rintro e W7 ⟨rfl, M, G⟩
      have m7 := Lib.hid M
      have x7 := G.cell x6 (map_far m6.out x6)
      have K := grown_to k6.out G (Nat.le_refl _) k6.out.size
      have sz7 := Nat.lt_of_lt_of_le sz6 G.size
      have k7 := Lib.hid K
      clear M G K k6 m6 x6 sz6
      have cnt7 : ∃ cnt : T → Int, (∀ x, cnt x = tot l.p x + tot r.p x - tot b.p x) ∧ MapSt W7 w4.heap.size (0 + l.L.length + r.L.length + b.M.length + l.M.length + r.M.length + b.L.length) cnt := ⟨_, cs_final b l r, m7.out⟩
      obtain ⟨cnt, hcnt, hm7⟩ := cnt7
      have CNT := Lib.hid hcnt
      have M7 := Lib.hid hm7
      clear m7 hcnt hm7
      go_wp2_with fail
      refine (keys_any (some w4.heap.size) _).mono ?_
      rintro e w' ⟨rfl, rfl⟩
      go_wp2_with fail
      refine (sorted2 w4.heap.size (0 + l.L.length + r.L.length + b.M.length + l.M.length + r.M.length + b.L.length) (W7.heap.size + 1) cnt _ (M7.out.alloc _) (by omega) (by simp)).mono ?_
      rintro e W9 ⟨A9, c9, ks, rfl, r9, a9, hsrt, hnd, hout, htx, hks, k9⟩
      have af := After.mk' BX.out k7.out x7 sz7 M7.out r9 a9 k9
      have AF := Lib.hid af
      have hmg := prog_merge OKL.out NE.out cnt ks hsrt hnd CNT.out hout
      have hml := mrg_len OKB.out OKL.out OKR.out
      have hbd : ∀ x, -900 ≤ cnt x ∧ cnt x ≤ 900 := by
        intro x
        have e := CNT.out x
        have c1 : l.L.count x ≤ l.L.length := List.count_le_length
        have c2 : l.M.count x ≤ l.M.length := List.count_le_length
        have c3 : r.L.count x ≤ r.L.length := List.count_le_length
        have c4 : r.M.count x ≤ r.M.length := List.count_le_length
        have c5 : b.L.count x ≤ b.L.length := List.count_le_length
        have c6 : b.M.count x ≤ b.M.length := List.count_le_length
        simp only [tot, SR.p] at e
        omega
      rw [← hmg] at hml
      have n1 : (pos cnt ks).length ≤ 900 := by
        have := hml.2.1
        simp only [SR.p] at this
        omega
      have n2 : (pos (fun x => - cnt x) ks).length ≤ 900 := by
        have := hml.2.2
        simp only [SR.p] at this
        omega
      have hq1 : ∀ k, (pos cnt (ks.take k)).length ≤ 900 := fun k => Nat.le_trans (pos_take _ _ _) n1
      have hq2 : ∀ k, (pos (fun x => - cnt x) (ks.take k)).length ≤ 900 := fun k => Nat.le_trans (pos_take _ _ _) n2
      have MG := Lib.hid hmg
      have BD := Lib.hid hbd
      have Q1 := Lib.hid hq1
      have Q2 := Lib.hid hq2
      have TX := Lib.hid htx
      clear af hmg hml hbd n1 n2 hq1 hq2 htx k9 r9 a9 hsrt hnd hout k7 x7 sz7 M7 CNT OKB OKL OKR NE BX HQ
      generalize W7.heap.size = gm at *
      go_wp2_with fail
      go_loopw [72] (fun i wr => ∃ (k : Nat) (A : Option Addr) (c : Nat) (B : Option Addr) (d : Nat), k ≤ ks.length ∧ i = .int .i64 k ∧ MS W9 wr gm (pos cnt (ks.take k)) (pos (fun x => - cnt x) (ks.take k)) A c B d) (fun i _ => ks.length - (intOf i).toNat)
      case atStart => exact ⟨0, none, 0, none, 0, Nat.zero_le _, rfl, AF.out.ms⟩
      case round =>
        obtain ⟨k, A, c, B, d, hk, rfl, ms⟩ := hrel
        by_cases hlt : k < ks.length
        · obtain ⟨a, ea, hab, hac⟩ := AF.out.rd.at hlt
          have hac' := ms.gr.cell hac (by rw [add_block]; simpa using AF.out.ap a ea)
          subst ea
          have hcv := ms.gr.cell AF.out.cell (by simpa using Nat.ne_of_lt AF.out.bc)
          obtain ⟨D, hown, hD⟩ := AF.out.map.kept ms.gr (by have h1 := AF.out.bc; simp; omega)
          have hkey := TX.out ks[k] (List.getElem_mem hlt)
          have hbs := BD.out ks[k]
          have ps1 := pos_succ cnt hlt
          have ps2 := pos_succ (fun x => - cnt x) hlt
          have PS1 := Lib.hid ps1
          have PS2 := Lib.hid ps2
          have q1 := Q1.out k
          have q2 := Q2.out k
          have HD := Lib.hid hD
          clear ps1 ps2 hD
          generalize hp1 : pos cnt (ks.take k) = P1 at *
          generalize hp2 : pos (fun x => - cnt x) (ks.take k) = P2 at *
          clear hp1 hp2
          have MS0 := Lib.hid ms
          clear ms
          go_wp2_with (first
            | (at_lookup; refine wpList_lookup_own_int _ rfl _ _ 48 rfl 9 3 .i64 law9 Try.underlying48 Try.underlying3 (zero3 _) w4.heap.size _ D rfl hown _ _ rfl hkey ?_; intro z hat hwc; have hz := Lib.hid (HD.out.eq hat); clear hat))
          have MS1 := Lib.hid (show MS W9 wr gm (P1 ++ List.replicate 0 ks[k]) P2 A c B d by simpa using MS0.out)
          have hz1 : z ≤ 900 := by rw [hz.out]; exact hbs.2
          clear hcv hown MS0 hac' hac
          go_loopw [79] (fun i wr => ∃ (j : Nat) (A : Option Addr) (c : Nat) (B : Option Addr) (d : Nat), j ≤ z.toNat ∧ i = .int .i64 j ∧ MS W9 wr gm (P1 ++ List.replicate j ks[k]) P2 A c B d) (fun i _ => z.toNat - (intOf i).toNat)
          case atStart => exact ⟨0, A, c, B, d, Nat.zero_le _, rfl, MS1.out⟩
          case round =>
            clear MS1
            obtain ⟨j, A, c, B, d, hj, rfl, ms⟩ := hrel
            by_cases hjz : (j : Int) < z
            · have hl : (P1 ++ List.replicate j ks[k]).length ≤ 5000 := by simp; omega
              obtain ⟨N, hN⟩ : ∃ N, P1 ++ List.replicate (j + 1) ks[k] = N := ⟨_, rfl⟩
              have hN' := (rep_succ P1 j ks[k]).trans hN
              have HN := Lib.hid hN
              generalize P1 ++ List.replicate j ks[k] = PJ at *
              have HN' := Lib.hid hN'
              clear hN hN'
              have f0 := ms.bk.c0
              have MSJ := Lib.hid ms
              clear ms
              go_wp2_with (first
                | (at_builtin; refine wpList_app3 _ rfl (.tmp 82) (.tmp 84) rfl W9.heap.size (v := .slice A PJ.length c) rfl (MSJ.out.oa.alloc _) (M := [ks[k]]) (N := N) HN'.out rfl rfl (rd_one _ ks[k] 9) (by simp only [List.length_singleton]; omega) (by have := MSJ.out.gr.size; simp; omega) ?_; intro A2 c2 w1 o1 g1 l1; have bk1 := MSJ.out.bkA _ g1; have g10 := bk1.c0; have g11 := bk1.c1; have g12 := bk1.f0 0; have MS2 := Lib.hid (MSJ.out.addA _ o1 g1 l1); clear bk1 o1 g1 l1))
              go_roundw
              case rel =>
                have h2 := MS2.out
                rw [← HN.out] at h2 ⊢
                exact ⟨j + 1, A2, c2, B, d, by omega, by go_num, h2⟩
              case measure => simp [intOf]; omega
            · have ej : j = z.toNat := by omega
              rw [ej, hz.out, ← PS1.out] at ms
              generalize hP3 : pos cnt (ks.take (k + 1)) = P3 at *
              have HP3 := Lib.hid hP3
              clear hP3
              have hcv := ms.gr.cell AF.out.cell (by simpa using Nat.ne_of_lt AF.out.bc)
              obtain ⟨D2, hown, hD⟩ := AF.out.map.kept ms.gr (by have h1 := AF.out.bc; simp; omega)
              have HD2 := Lib.hid hD
              have MS3 := Lib.hid ms
              clear hD ms
              go_wp2_with (first
                | (at_lookup; refine wpList_lookup_own_int _ rfl _ _ 48 rfl 9 3 .i64 law9 Try.underlying48 Try.underlying3 (zero3 _) w4.heap.size _ D2 rfl hown _ _ rfl hkey ?_; intro z2 hat hwc; have hz2 := Lib.hid (HD2.out.eq hat); have hz3 : -900 ≤ z2 := (by rw [hz2.out]; exact hbs.1); have hz4 : z2 ≤ 900 := (by rw [hz2.out]; exact hbs.2); clear hat))
              have MS4 := Lib.hid (show MS W9 wr gm P3 (P2 ++ List.replicate 0 ks[k]) A c B d by simpa using MS3.out)
              clear hcv hown MS3
              go_loopw [92] (fun i wr => ∃ (j : Nat) (A : Option Addr) (c : Nat) (B : Option Addr) (d : Nat), j ≤ (-z2).toNat ∧ i = .int .i64 j ∧ MS W9 wr gm P3 (P2 ++ List.replicate j ks[k]) A c B d) (fun i _ => (-z2).toNat - (intOf i).toNat)
              case atStart => exact ⟨0, A, c, B, d, Nat.zero_le _, rfl, MS4.out⟩
              case round =>
                clear MS4
                obtain ⟨j, A, c, B, d, hj, rfl, ms⟩ := hrel
                by_cases hjz : (j : Int) < -z2
                · have hl : (P2 ++ List.replicate j ks[k]).length ≤ 5000 := by simp; omega
                  obtain ⟨N, hN⟩ : ∃ N, P2 ++ List.replicate (j + 1) ks[k] = N := ⟨_, rfl⟩
                  have hN' := (rep_succ P2 j ks[k]).trans hN
                  have HN := Lib.hid hN
                  generalize P2 ++ List.replicate j ks[k] = PJ at *
                  have HN' := Lib.hid hN'
                  clear hN hN'
                  have f0 := ms.bk.c1
                  have MSJ := Lib.hid ms
                  clear ms
                  go_wp2_with (first
                    | (at_builtin; refine wpList_app3 _ rfl (.tmp 95) (.tmp 97) rfl W9.heap.size (v := .slice B PJ.length d) rfl (MSJ.out.ob.alloc _) (M := [ks[k]]) (N := N) HN'.out rfl rfl (rd_one _ ks[k] 9) (by simp only [List.length_singleton]; omega) (by have := MSJ.out.gr.size; simp; omega) ?_; intro A2 c2 w1 o1 g1 l1; have bk1 := MSJ.out.bkR _ g1; have g10 := bk1.c0; have g11 := bk1.c1; have g12 := bk1.f0 1; have MS2 := Lib.hid (MSJ.out.addR _ o1 g1 l1); clear bk1 o1 g1 l1))
                  go_roundw
                  case rel =>
                    have h2 := MS2.out
                    rw [← HN.out] at h2 ⊢
                    exact ⟨j + 1, A, c, A2, c2, by omega, by go_num, h2⟩
                  case measure => simp [intOf]; omega
                · have ej : j = (-z2).toNat := by omega
                  rw [ej, hz2.out, ← PS2.out] at ms
                  have MS5 := Lib.hid ms
                  clear ms
                  go_wp2_with fail
                  go_roundw
                  case rel => exact ⟨k + 1, A, c, B, d, by omega, by go_num, by rw [HP3.out]; exact MS5.out⟩
                  case measure => simp [intOf]; omega
        · rw [List.take_of_length_le (by omega)] at ms
          have hm : mrg b.p l.p r.p = (pos cnt ks, pos (fun x => - cnt x) ks) := MG.out.symm
          have e9 := E1.out
          rw [hm] at e9
          have E9 := Lib.hid e9
          have q1 := Q1.out ks.length
          have q2 := Q2.out ks.length
          rw [List.take_length] at q1 q2
          clear e9 hm E1 MG
          generalize pos cnt ks = P1 at *
          generalize pos (fun x => - cnt x) ks = P2 at *
          have f0 := ms.bk.c0
          have f1 := ms.bk.c1
          obtain ⟨hc1, ra⟩ := ms.oa.rd
          obtain ⟨hc2, rb⟩ := ms.ob.rd
          have hlt3 := AF.out.b3
          have hge := AF.out.ge
          have bk3 : BK wr (w.heap.size + 1 + 1 + 1) (.slice none 0 0) (.slice none 0 0) := (ms.gr.block _ AF.out.box.b3.lt (by simp; omega)).trans AF.out.box.b3
          have be : Below w.heap.size w wr := grown_to AF.out.box.be ms.gr (by omega) AF.out.box.be.size
          have p0 := bk3.c0
          have p1 := bk3.c1
          have p2 := bk3.f0 0
          have p3 := bk3.f0 1
          have BK3 := Lib.hid bk3
          have BE := Lib.hid be
          clear ms AF bk3 be hlt3 hge
          go_wp2_with fail
          obtain ⟨g0, g1, g2, g3⟩ := ret_at BK3.out BE.out (.slice A P1.length c) (.slice B P2.length d)
          generalize (wr.setCell { block := w.heap.size + 1 + 1 + 1, off := 0 } (Value.slice A P1.length c)).setCell { block := w.heap.size + 1 + 1 + 1, off := 1 } (Value.slice B P2.length d) = w9 at *
          refine bodyPost_ret (v := .tuple #[sv A B P1.length c P2.length d, .int .i64 0]) (by simp [results, Try.results12, go_sem, g0, g1]) rfl ⟨⟨A, B, c, d, P1, P2⟩, ?_, ⟨g3 _ _ ra, g3 _ _ rb, hc1, hc2, by simp only; omega, by simp only; omega⟩, ?_, g2⟩
          · rw [E9.out.1]; rfl
          · rw [E9.out.2]; rfl
end Go.Proofs.Ytgenloemohcpcaa

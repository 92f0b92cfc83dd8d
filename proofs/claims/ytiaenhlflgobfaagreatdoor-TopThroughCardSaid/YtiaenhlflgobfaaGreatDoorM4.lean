/- Walks and words: SyA, SyB. -/
import Derived.Test.YtiaenhlflgobfaaGreatDoorMis
import Derived.Test.YtiaenhlflgobfaaGreatDoorTpG
import Derived.Test.YtiaenhlflgobfaaGreatDoorM3
namespace Go.Proofs.YtiaenhlflgobfaaGreatDoor
open Go.RowKit
theorem not_kws {s : T} (h : s ∉ kws) : (s == [99, 97, 115, 101]) = false ∧ (s == [99, 104, 97, 110, 99, 101]) = false ∧ (s == [99, 111, 110, 102, 108, 105, 99, 116]) = false ∧ (s == [101, 108, 115, 101]) = false ∧ (s == [102, 97, 108, 115, 101]) = false ∧ (s == [102, 108, 97, 107, 121]) = false ∧ (s == [102, 117, 110]) = false ∧ (s == [105, 102]) = false ∧ (s == [105, 110]) = false ∧ (s == [108, 101, 116]) = false ∧ (s == [110, 105, 108]) = false ∧ (s == [111, 102]) = false ∧ (s == [112, 117, 98]) = false ∧ (s == [116, 101, 115, 116]) = false ∧ (s == [116, 104, 101, 110]) = false ∧ (s == [116, 114, 117, 101]) = false ∧ (s == [117, 115, 101]) = false := by
  simp only [kws, List.mem_cons, List.not_mem_nil, or_false, not_or] at h
  obtain ⟨h0, h1, h2, h3, h4, h5, h6, h7, h8, h9, h10, h11, h12, h13, h14, h15, h16⟩ := h
  exact ⟨beq_false_of_ne h0, beq_false_of_ne h1, beq_false_of_ne h2, beq_false_of_ne h3, beq_false_of_ne h4, beq_false_of_ne h5, beq_false_of_ne h6, beq_false_of_ne h7, beq_false_of_ne h8, beq_false_of_ne h9, beq_false_of_ne h10, beq_false_of_ne h11, beq_false_of_ne h12, beq_false_of_ne h13, beq_false_of_ne h14, beq_false_of_ne h15, beq_false_of_ne h16⟩
set_option maxRecDepth 100000 in
theorem name_any (s : T) (w : World) (hs : s.length ≤ 9223372036854775807) : Calls Tryz.prog 210 #[tv s] w fun e w' => e = .returned (.bool (nmB s)) ∧ Gr w w' := by
  have hw := word_any s w hs
  by_cases h : s ∈ kws
  · have e : nmB s = false := by unfold nmB; simp [h]
    rw [e]
    simp only [kws, List.mem_cons, List.not_mem_nil, or_false] at h
    clear hw hs e
    rcases h with rfl | rfl | rfl | rfl | rfl | rfl | rfl | rfl | rfl | rfl | rfl | rfl | rfl | rfl | rfl | rfl | rfl
    all_goals
      go_enter Tryz.func210, Tryz.ntmps210
      go_wp2
      go_ret
      exact ⟨rfl, gr_refl _⟩
  · have e : nmB s = (wd s && decide (s.length ≤ 24)) := by unfold nmB; simp [h]
    obtain ⟨h0, h1, h2, h3, h4, h5, h6, h7, h8, h9, h10, h11, h12, h13, h14, h15, h16⟩ := not_kws h
    rw [e]
    generalize (wd s && decide (s.length ≤ 24)) = b at *
    go_enter Tryz.func210, Tryz.ntmps210
    go_wp2_with (go_at_call 131; refine hw.mono ?_; rintro e w1 ⟨rfl, g⟩)
    go_ret
    exact ⟨rfl, gr_of g⟩
def shV (o : Option (Int × Int × Int)) : Value := match o with | some (a, b, c) => .tuple #[.agg #[iv a, iv b, iv c], .bool true] | none => .tuple #[.agg #[iv 0, iv 0, iv 0], .bool false]
set_option maxRecDepth 100000 in
set_option maxHeartbeats 2000000 in
theorem shape_any (k : Int) (w : World) : Calls Tryz.prog 186 #[iv k] w fun e w' => e = .returned (shV (shp k)) ∧ Gr w w' := by
  by_cases hk : 1 ≤ k ∧ k ≤ 15
  · have h : k = 1 ∨ k = 2 ∨ k = 3 ∨ k = 4 ∨ k = 5 ∨ k = 6 ∨ k = 7 ∨ k = 8 ∨ k = 9 ∨ k = 10 ∨ k = 11 ∨ k = 12 ∨ k = 13 ∨ k = 14 ∨ k = 15 := by omega
    clear hk
    rcases h with rfl | rfl | rfl | rfl | rfl | rfl | rfl | rfl | rfl | rfl | rfl | rfl | rfl | rfl | rfl
    all_goals
      go_enter Tryz.func186, Tryz.ntmps186
      go_wp2
      exact bodyPost_ret (results_row_tmp (P := Tryz.prog) rfl _ _ w.heap.size _ _ _ _ rfl rfl (al_new _ _) rfl rfl rfl) rfl ⟨rfl, gr_al _ _⟩
  · have e : shp k = none := by
      unfold shp
      rw [if_neg (by omega), if_neg (by omega), if_neg (by omega), if_neg (by omega), if_neg (by omega), if_neg (by omega), if_neg (by omega), if_neg (by omega), if_neg (by omega), if_neg (by omega), if_neg (by omega)]
    rw [e]
    have h1 : (k == 1) = false := by simp; omega
    have h2 : (k == 2) = false := by simp; omega
    have h3 : (k == 3) = false := by simp; omega
    have h4 : (k == 4) = false := by simp; omega
    have h5 : (k == 5) = false := by simp; omega
    have h6 : (k == 6) = false := by simp; omega
    have h7 : (k == 7) = false := by simp; omega
    have h8 : (k == 8) = false := by simp; omega
    have h9 : (k == 9) = false := by simp; omega
    have h10 : (k == 10) = false := by simp; omega
    have h11 : (k == 11) = false := by simp; omega
    have h12 : (k == 12) = false := by simp; omega
    have h13 : (k == 13) = false := by simp; omega
    have h14 : (k == 14) = false := by simp; omega
    have h15 : (k == 15) = false := by simp; omega
    clear hk e
    go_enter Tryz.func186, Tryz.ntmps186
    go_wp2
    exact bodyPost_ret (results_row_tmp (P := Tryz.prog) rfl _ _ w.heap.size _ _ _ _ rfl rfl (al_new _ _) rfl rfl rfl) rfl ⟨rfl, gr_al _ _⟩
theorem op_in (c : UInt8) : decide (0 ≤ Lib.indexByte [43, 45, 42, 61, 60] c) = ops5.contains [c] := by
  rw [Bool.eq_iff_iff]
  simp only [Lib.indexByte, ops5]
  by_cases h1 : c = 43
  · subst h1; decide
  by_cases h2 : c = 45
  · subst h2; decide
  by_cases h3 : c = 42
  · subst h3; decide
  by_cases h4 : c = 61
  · subst h4; decide
  by_cases h5 : c = 60
  · subst h5; decide
  · have k1 := Ne.symm h1; have k2 := Ne.symm h2; have k3 := Ne.symm h3; have k4 := Ne.symm h4; have k5 := Ne.symm h5
    simp [h1, h2, h3, h4, h5, k1, k2, k3, k4, k5]
theorem cNames_of (e : PE) (n : Int) (b : Bool) (hb : (if e.kind = 5 then decide (e.name = []) || lab e.name else if e.kind = 10 then ops5.contains e.name else if 1 ≤ n then nmB e.name else true) = b) :
    cNames e n = if !b || (decide (n = 2) && !nmB e.more) then 6 else if e.kind = 13 ∧ e.name = e.more then 7 else 0 := by
  subst hb
  rfl
theorem ops_len {s : T} (h : s.length ≠ 1) : ops5.contains s = false := by
  rw [Bool.eq_false_iff]
  intro k
  have k := List.contains_iff_mem.1 k
  simp only [ops5, List.mem_cons, List.not_mem_nil, or_false] at k
  rcases k with rfl | rfl | rfl | rfl | rfl <;> exact h rfl
theorem ex_box (x : Ex) (w V : World) (g : Gr (w.alloc (.cells #[iv x.kind, tv x.name, tv x.more, iv x.int, iv x.den, .slice x.A x.sub.length x.c] 43)) V) :
    V.cell? ⟨w.heap.size, 0, none⟩ = some (iv x.kind) ∧ V.cell? ⟨w.heap.size, 1, none⟩ = some (tv x.name) ∧ V.cell? ⟨w.heap.size, 2, none⟩ = some (tv x.more) := by
  have h := gr_h g (al_new _ _)
  refine ⟨?_, ?_, ?_⟩ <;> (rw [Lib.cell_of_heap h]; rfl)
set_option maxRecDepth 100000 in
set_option maxHeartbeats 4000000 in
attribute [local irreducible] Calls in
theorem checkNames_any (x : Ex) (n : Int) (w : World) (hn : sOk x.name) (hm : sOk x.more) : Calls Tryz.prog 187 #[x.v, iv n] w fun e w' => e = .returned (iv (cNames x.er n)) ∧ Gr w w' := by
  have CX := Lib.hid (ex_box x w)
  have GX := Lib.hid (gr_al w (.cells #[iv x.kind, tv x.name, tv x.more, iv x.int, iv x.den, .slice x.A x.sub.length x.c] 43))
  have LA := Lib.hid (fun V => label_any x.name V hn)
  have NA := Lib.hid (fun V => name_any x.name V hn)
  have NM := Lib.hid (fun V => name_any x.more V hm)
  obtain ⟨r, hr⟩ : ∃ r, cNames x.er n = r := ⟨_, rfl⟩
  rw [hr]
  have HR := cNames_of x.er n
  rw [hr, er_kind, er_name, er_more] at HR
  clear hr
  unfold Ex.v
  generalize x.kind = k at *
  generalize x.name = nm at *
  generalize x.more = mo at *
  generalize x.int = i4 at *
  generalize x.den = i5 at *
  obtain ⟨lo, hlo⟩ : ∃ b, lab nm = b := ⟨_, rfl⟩
  obtain ⟨bn, hbn⟩ : ∃ b, nmB nm = b := ⟨_, rfl⟩
  obtain ⟨bm, hbm⟩ : ∃ b, nmB mo = b := ⟨_, rfl⟩
  rw [hlo] at HR LA
  rw [hbn] at HR NA
  rw [hbm] at HR NM
  clear hlo hbn hbm hn hm
  go_enter Tryz.func187, Tryz.ntmps187
  go_upto_region 1 with fail
  generalize w.alloc (.cells #[iv k, tv nm, tv mo, iv i4, iv i5, .slice x.A x.sub.length x.c] 43) = W at *
  generalize w.heap.size = bx at *
  have G1 := Lib.hid (gr_refl W)
  obtain ⟨c0, c1, c2⟩ := CX.out _ G1.out
  by_cases h5 : k = 5
  · subst h5
    by_cases hz : nm = []
    · subst hz
      have HR := HR true (by simp)
      by_cases h2 : n = 2
      · subst h2
        cases bm with
        | false =>
          obtain rfl : r = 6 := by rw [HR]; simp
          clear HR
          go_wp2_with (first
            | (go_at_call 81; (with_reducible refine (LA.out _).mono ?_); rintro e w1 ⟨rfl, g1⟩; have G1 := Lib.hid (gr_of g1); clear g1 c0 c1 c2; obtain ⟨c0, c1, c2⟩ := CX.out _ G1.out; (try dsimp only))
            | (go_at_call 213; (with_reducible refine (CO.out _).mono ?_); rintro e w1 ⟨rfl, rfl⟩; (try dsimp only))
            | (go_at_call 210; (with_reducible refine (NA.out _).mono ?_); rintro e w1 ⟨rfl, g1⟩; have G1 := Lib.hid g1; clear g1 c0 c1 c2; obtain ⟨c0, c1, c2⟩ := CX.out _ G1.out; (try dsimp only))
            | (go_at_call 210; (with_reducible refine (NM.out _).mono ?_); rintro e w2 ⟨rfl, g1⟩; have G2 := Lib.hid (G1.out.trans g1); clear g1 c0 c1 c2; obtain ⟨c0, c1, c2⟩ := CX.out _ G2.out; (try dsimp only)))
          go_ret
          first | exact ⟨rfl, GX.out.trans G2.out⟩ | exact ⟨rfl, GX.out.trans G1.out⟩
        | true =>
          obtain rfl : r = 0 := by rw [HR]; simp
          clear HR
          go_wp2_with (first
            | (go_at_call 81; (with_reducible refine (LA.out _).mono ?_); rintro e w1 ⟨rfl, g1⟩; have G1 := Lib.hid (gr_of g1); clear g1 c0 c1 c2; obtain ⟨c0, c1, c2⟩ := CX.out _ G1.out; (try dsimp only))
            | (go_at_call 213; (with_reducible refine (CO.out _).mono ?_); rintro e w1 ⟨rfl, rfl⟩; (try dsimp only))
            | (go_at_call 210; (with_reducible refine (NA.out _).mono ?_); rintro e w1 ⟨rfl, g1⟩; have G1 := Lib.hid g1; clear g1 c0 c1 c2; obtain ⟨c0, c1, c2⟩ := CX.out _ G1.out; (try dsimp only))
            | (go_at_call 210; (with_reducible refine (NM.out _).mono ?_); rintro e w2 ⟨rfl, g1⟩; have G2 := Lib.hid (G1.out.trans g1); clear g1 c0 c1 c2; obtain ⟨c0, c1, c2⟩ := CX.out _ G2.out; (try dsimp only)))
          go_ret
          first | exact ⟨rfl, GX.out.trans G2.out⟩ | exact ⟨rfl, GX.out.trans G1.out⟩
      · have q2 : (n == 2) = false := by simpa using h2
        obtain rfl : r = 0 := by rw [HR]; simp [h2]
        clear HR
        go_wp2_with (first
          | (go_at_call 81; (with_reducible refine (LA.out _).mono ?_); rintro e w1 ⟨rfl, g1⟩; have G1 := Lib.hid (gr_of g1); clear g1 c0 c1 c2; obtain ⟨c0, c1, c2⟩ := CX.out _ G1.out; (try dsimp only))
          | (go_at_call 213; (with_reducible refine (CO.out _).mono ?_); rintro e w1 ⟨rfl, rfl⟩; (try dsimp only))
          | (go_at_call 210; (with_reducible refine (NA.out _).mono ?_); rintro e w1 ⟨rfl, g1⟩; have G1 := Lib.hid g1; clear g1 c0 c1 c2; obtain ⟨c0, c1, c2⟩ := CX.out _ G1.out; (try dsimp only))
          | (go_at_call 210; (with_reducible refine (NM.out _).mono ?_); rintro e w2 ⟨rfl, g1⟩; have G2 := Lib.hid (G1.out.trans g1); clear g1 c0 c1 c2; obtain ⟨c0, c1, c2⟩ := CX.out _ G2.out; (try dsimp only)))
        go_ret
        first | exact ⟨rfl, GX.out.trans G2.out⟩ | exact ⟨rfl, GX.out.trans G1.out⟩
    · have hz' : (nm == []) = false := by simpa using hz
      cases lo with
      | false =>
        have HR := HR false (by simp [hz])
        clear hz
        obtain rfl : r = 6 := by rw [HR]; simp
        clear HR
        go_wp2_with (first
          | (go_at_call 81; (with_reducible refine (LA.out _).mono ?_); rintro e w1 ⟨rfl, g1⟩; have G1 := Lib.hid (gr_of g1); clear g1 c0 c1 c2; obtain ⟨c0, c1, c2⟩ := CX.out _ G1.out; (try dsimp only))
          | (go_at_call 213; (with_reducible refine (CO.out _).mono ?_); rintro e w1 ⟨rfl, rfl⟩; (try dsimp only))
          | (go_at_call 210; (with_reducible refine (NA.out _).mono ?_); rintro e w1 ⟨rfl, g1⟩; have G1 := Lib.hid g1; clear g1 c0 c1 c2; obtain ⟨c0, c1, c2⟩ := CX.out _ G1.out; (try dsimp only))
          | (go_at_call 210; (with_reducible refine (NM.out _).mono ?_); rintro e w2 ⟨rfl, g1⟩; have G2 := Lib.hid (G1.out.trans g1); clear g1 c0 c1 c2; obtain ⟨c0, c1, c2⟩ := CX.out _ G2.out; (try dsimp only)))
        go_ret
        first | exact ⟨rfl, GX.out.trans G2.out⟩ | exact ⟨rfl, GX.out.trans G1.out⟩
      | true =>
        have HR := HR true (by simp)
        clear hz
        by_cases h2 : n = 2
        · subst h2
          cases bm with
          | false =>
            obtain rfl : r = 6 := by rw [HR]; simp
            clear HR
            go_wp2_with (first
              | (go_at_call 81; (with_reducible refine (LA.out _).mono ?_); rintro e w1 ⟨rfl, g1⟩; have G1 := Lib.hid (gr_of g1); clear g1 c0 c1 c2; obtain ⟨c0, c1, c2⟩ := CX.out _ G1.out; (try dsimp only))
              | (go_at_call 213; (with_reducible refine (CO.out _).mono ?_); rintro e w1 ⟨rfl, rfl⟩; (try dsimp only))
              | (go_at_call 210; (with_reducible refine (NA.out _).mono ?_); rintro e w1 ⟨rfl, g1⟩; have G1 := Lib.hid g1; clear g1 c0 c1 c2; obtain ⟨c0, c1, c2⟩ := CX.out _ G1.out; (try dsimp only))
              | (go_at_call 210; (with_reducible refine (NM.out _).mono ?_); rintro e w2 ⟨rfl, g1⟩; have G2 := Lib.hid (G1.out.trans g1); clear g1 c0 c1 c2; obtain ⟨c0, c1, c2⟩ := CX.out _ G2.out; (try dsimp only)))
            go_ret
            first | exact ⟨rfl, GX.out.trans G2.out⟩ | exact ⟨rfl, GX.out.trans G1.out⟩
          | true =>
            obtain rfl : r = 0 := by rw [HR]; simp
            clear HR
            go_wp2_with (first
              | (go_at_call 81; (with_reducible refine (LA.out _).mono ?_); rintro e w1 ⟨rfl, g1⟩; have G1 := Lib.hid (gr_of g1); clear g1 c0 c1 c2; obtain ⟨c0, c1, c2⟩ := CX.out _ G1.out; (try dsimp only))
              | (go_at_call 213; (with_reducible refine (CO.out _).mono ?_); rintro e w1 ⟨rfl, rfl⟩; (try dsimp only))
              | (go_at_call 210; (with_reducible refine (NA.out _).mono ?_); rintro e w1 ⟨rfl, g1⟩; have G1 := Lib.hid g1; clear g1 c0 c1 c2; obtain ⟨c0, c1, c2⟩ := CX.out _ G1.out; (try dsimp only))
              | (go_at_call 210; (with_reducible refine (NM.out _).mono ?_); rintro e w2 ⟨rfl, g1⟩; have G2 := Lib.hid (G1.out.trans g1); clear g1 c0 c1 c2; obtain ⟨c0, c1, c2⟩ := CX.out _ G2.out; (try dsimp only)))
            go_ret
            first | exact ⟨rfl, GX.out.trans G2.out⟩ | exact ⟨rfl, GX.out.trans G1.out⟩
        · have q2 : (n == 2) = false := by simpa using h2
          obtain rfl : r = 0 := by rw [HR]; simp [h2]
          clear HR
          go_wp2_with (first
            | (go_at_call 81; (with_reducible refine (LA.out _).mono ?_); rintro e w1 ⟨rfl, g1⟩; have G1 := Lib.hid (gr_of g1); clear g1 c0 c1 c2; obtain ⟨c0, c1, c2⟩ := CX.out _ G1.out; (try dsimp only))
            | (go_at_call 213; (with_reducible refine (CO.out _).mono ?_); rintro e w1 ⟨rfl, rfl⟩; (try dsimp only))
            | (go_at_call 210; (with_reducible refine (NA.out _).mono ?_); rintro e w1 ⟨rfl, g1⟩; have G1 := Lib.hid g1; clear g1 c0 c1 c2; obtain ⟨c0, c1, c2⟩ := CX.out _ G1.out; (try dsimp only))
            | (go_at_call 210; (with_reducible refine (NM.out _).mono ?_); rintro e w2 ⟨rfl, g1⟩; have G2 := Lib.hid (G1.out.trans g1); clear g1 c0 c1 c2; obtain ⟨c0, c1, c2⟩ := CX.out _ G2.out; (try dsimp only)))
          go_ret
          first | exact ⟨rfl, GX.out.trans G2.out⟩ | exact ⟨rfl, GX.out.trans G1.out⟩
  have q5 : (k == 5) = false := by simpa using h5
  by_cases h10 : k = 10
  · subst h10
    by_cases hl : nm.length = 1
    · obtain ⟨c, rfl⟩ := one_of hl
      have CO := Lib.hid (fun V => contains1_any ⟨#[43, 45, 42, 61, 60]⟩ c V)
      rw [show (⟨#[43, 45, 42, 61, 60]⟩ : ByteArray).data.toList = [43, 45, 42, 61, 60] from rfl, op_in] at CO
      obtain ⟨bo, hbo⟩ : ∃ b, ops5.contains [c] = b := ⟨_, rfl⟩
      rw [hbo] at CO HR
      clear hl hbo h5
      cases bo with
      | false =>
        have HR := HR false (by simp)
        obtain rfl : r = 6 := by rw [HR]; simp
        clear HR
        go_wp2_with (first
          | (go_at_call 81; (with_reducible refine (LA.out _).mono ?_); rintro e w1 ⟨rfl, g1⟩; have G1 := Lib.hid (gr_of g1); clear g1 c0 c1 c2; obtain ⟨c0, c1, c2⟩ := CX.out _ G1.out; (try dsimp only))
          | (go_at_call 213; (with_reducible refine (CO.out _).mono ?_); rintro e w1 ⟨rfl, rfl⟩; (try dsimp only))
          | (go_at_call 210; (with_reducible refine (NA.out _).mono ?_); rintro e w1 ⟨rfl, g1⟩; have G1 := Lib.hid g1; clear g1 c0 c1 c2; obtain ⟨c0, c1, c2⟩ := CX.out _ G1.out; (try dsimp only))
          | (go_at_call 210; (with_reducible refine (NM.out _).mono ?_); rintro e w2 ⟨rfl, g1⟩; have G2 := Lib.hid (G1.out.trans g1); clear g1 c0 c1 c2; obtain ⟨c0, c1, c2⟩ := CX.out _ G2.out; (try dsimp only)))
        go_ret
        first | exact ⟨rfl, GX.out.trans G2.out⟩ | exact ⟨rfl, GX.out.trans G1.out⟩
      | true =>
        have HR := HR true (by simp)
        by_cases h2 : n = 2
        · subst h2
          cases bm with
          | false =>
            obtain rfl : r = 6 := by rw [HR]; simp
            clear HR
            go_wp2_with (first
              | (go_at_call 81; (with_reducible refine (LA.out _).mono ?_); rintro e w1 ⟨rfl, g1⟩; have G1 := Lib.hid (gr_of g1); clear g1 c0 c1 c2; obtain ⟨c0, c1, c2⟩ := CX.out _ G1.out; (try dsimp only))
              | (go_at_call 213; (with_reducible refine (CO.out _).mono ?_); rintro e w1 ⟨rfl, rfl⟩; (try dsimp only))
              | (go_at_call 210; (with_reducible refine (NA.out _).mono ?_); rintro e w1 ⟨rfl, g1⟩; have G1 := Lib.hid g1; clear g1 c0 c1 c2; obtain ⟨c0, c1, c2⟩ := CX.out _ G1.out; (try dsimp only))
              | (go_at_call 210; (with_reducible refine (NM.out _).mono ?_); rintro e w2 ⟨rfl, g1⟩; have G2 := Lib.hid (G1.out.trans g1); clear g1 c0 c1 c2; obtain ⟨c0, c1, c2⟩ := CX.out _ G2.out; (try dsimp only)))
            go_ret
            first | exact ⟨rfl, GX.out.trans G2.out⟩ | exact ⟨rfl, GX.out.trans G1.out⟩
          | true =>
            obtain rfl : r = 0 := by rw [HR]; simp
            clear HR
            go_wp2_with (first
              | (go_at_call 81; (with_reducible refine (LA.out _).mono ?_); rintro e w1 ⟨rfl, g1⟩; have G1 := Lib.hid (gr_of g1); clear g1 c0 c1 c2; obtain ⟨c0, c1, c2⟩ := CX.out _ G1.out; (try dsimp only))
              | (go_at_call 213; (with_reducible refine (CO.out _).mono ?_); rintro e w1 ⟨rfl, rfl⟩; (try dsimp only))
              | (go_at_call 210; (with_reducible refine (NA.out _).mono ?_); rintro e w1 ⟨rfl, g1⟩; have G1 := Lib.hid g1; clear g1 c0 c1 c2; obtain ⟨c0, c1, c2⟩ := CX.out _ G1.out; (try dsimp only))
              | (go_at_call 210; (with_reducible refine (NM.out _).mono ?_); rintro e w2 ⟨rfl, g1⟩; have G2 := Lib.hid (G1.out.trans g1); clear g1 c0 c1 c2; obtain ⟨c0, c1, c2⟩ := CX.out _ G2.out; (try dsimp only)))
            go_ret
            first | exact ⟨rfl, GX.out.trans G2.out⟩ | exact ⟨rfl, GX.out.trans G1.out⟩
        · have q2 : (n == 2) = false := by simpa using h2
          obtain rfl : r = 0 := by rw [HR]; simp [h2]
          clear HR
          go_wp2_with (first
            | (go_at_call 81; (with_reducible refine (LA.out _).mono ?_); rintro e w1 ⟨rfl, g1⟩; have G1 := Lib.hid (gr_of g1); clear g1 c0 c1 c2; obtain ⟨c0, c1, c2⟩ := CX.out _ G1.out; (try dsimp only))
            | (go_at_call 213; (with_reducible refine (CO.out _).mono ?_); rintro e w1 ⟨rfl, rfl⟩; (try dsimp only))
            | (go_at_call 210; (with_reducible refine (NA.out _).mono ?_); rintro e w1 ⟨rfl, g1⟩; have G1 := Lib.hid g1; clear g1 c0 c1 c2; obtain ⟨c0, c1, c2⟩ := CX.out _ G1.out; (try dsimp only))
            | (go_at_call 210; (with_reducible refine (NM.out _).mono ?_); rintro e w2 ⟨rfl, g1⟩; have G2 := Lib.hid (G1.out.trans g1); clear g1 c0 c1 c2; obtain ⟨c0, c1, c2⟩ := CX.out _ G2.out; (try dsimp only)))
          go_ret
          first | exact ⟨rfl, GX.out.trans G2.out⟩ | exact ⟨rfl, GX.out.trans G1.out⟩
    · have hl' : ((nm.length : Int) == 1) = false := by simp; omega
      have HR := HR false (by rw [if_neg h5, if_pos rfl, ops_len hl])
      clear hl h5
      obtain rfl : r = 6 := by rw [HR]; simp
      clear HR
      go_wp2_with (first
        | (go_at_call 81; (with_reducible refine (LA.out _).mono ?_); rintro e w1 ⟨rfl, g1⟩; have G1 := Lib.hid (gr_of g1); clear g1 c0 c1 c2; obtain ⟨c0, c1, c2⟩ := CX.out _ G1.out; (try dsimp only))
        | (go_at_call 213; (with_reducible refine (CO.out _).mono ?_); rintro e w1 ⟨rfl, rfl⟩; (try dsimp only))
        | (go_at_call 210; (with_reducible refine (NA.out _).mono ?_); rintro e w1 ⟨rfl, g1⟩; have G1 := Lib.hid g1; clear g1 c0 c1 c2; obtain ⟨c0, c1, c2⟩ := CX.out _ G1.out; (try dsimp only))
        | (go_at_call 210; (with_reducible refine (NM.out _).mono ?_); rintro e w2 ⟨rfl, g1⟩; have G2 := Lib.hid (G1.out.trans g1); clear g1 c0 c1 c2; obtain ⟨c0, c1, c2⟩ := CX.out _ G2.out; (try dsimp only)))
      go_ret
      first | exact ⟨rfl, GX.out.trans G2.out⟩ | exact ⟨rfl, GX.out.trans G1.out⟩
  have q10 : (k == 10) = false := by simpa using h10
  by_cases h1 : 1 ≤ n
  · have q1 : decide (1 ≤ n) = true := decide_eq_true h1
    cases bn with
    | false =>
      have HR := HR false (by rw [if_neg h5, if_neg h10, if_pos h1])
      clear h5 h10 h1
      obtain rfl : r = 6 := by rw [HR]; simp
      clear HR
      go_wp2_with (first
        | (go_at_call 81; (with_reducible refine (LA.out _).mono ?_); rintro e w1 ⟨rfl, g1⟩; have G1 := Lib.hid (gr_of g1); clear g1 c0 c1 c2; obtain ⟨c0, c1, c2⟩ := CX.out _ G1.out; (try dsimp only))
        | (go_at_call 213; (with_reducible refine (CO.out _).mono ?_); rintro e w1 ⟨rfl, rfl⟩; (try dsimp only))
        | (go_at_call 210; (with_reducible refine (NA.out _).mono ?_); rintro e w1 ⟨rfl, g1⟩; have G1 := Lib.hid g1; clear g1 c0 c1 c2; obtain ⟨c0, c1, c2⟩ := CX.out _ G1.out; (try dsimp only))
        | (go_at_call 210; (with_reducible refine (NM.out _).mono ?_); rintro e w2 ⟨rfl, g1⟩; have G2 := Lib.hid (G1.out.trans g1); clear g1 c0 c1 c2; obtain ⟨c0, c1, c2⟩ := CX.out _ G2.out; (try dsimp only)))
      go_ret
      first | exact ⟨rfl, GX.out.trans G2.out⟩ | exact ⟨rfl, GX.out.trans G1.out⟩
    | true =>
      have HR := HR true (by rw [if_neg h5, if_neg h10, if_pos h1])
      clear h5 h10 h1
      by_cases h2 : n = 2
      · subst h2
        cases bm with
        | false =>
          obtain rfl : r = 6 := by rw [HR]; simp
          clear HR
          go_wp2_with (first
            | (go_at_call 81; (with_reducible refine (LA.out _).mono ?_); rintro e w1 ⟨rfl, g1⟩; have G1 := Lib.hid (gr_of g1); clear g1 c0 c1 c2; obtain ⟨c0, c1, c2⟩ := CX.out _ G1.out; (try dsimp only))
            | (go_at_call 213; (with_reducible refine (CO.out _).mono ?_); rintro e w1 ⟨rfl, rfl⟩; (try dsimp only))
            | (go_at_call 210; (with_reducible refine (NA.out _).mono ?_); rintro e w1 ⟨rfl, g1⟩; have G1 := Lib.hid g1; clear g1 c0 c1 c2; obtain ⟨c0, c1, c2⟩ := CX.out _ G1.out; (try dsimp only))
            | (go_at_call 210; (with_reducible refine (NM.out _).mono ?_); rintro e w2 ⟨rfl, g1⟩; have G2 := Lib.hid (G1.out.trans g1); clear g1 c0 c1 c2; obtain ⟨c0, c1, c2⟩ := CX.out _ G2.out; (try dsimp only)))
          go_ret
          first | exact ⟨rfl, GX.out.trans G2.out⟩ | exact ⟨rfl, GX.out.trans G1.out⟩
        | true =>
          by_cases h13 : k = 13
          · subst h13
            by_cases he : nm = mo
            · obtain rfl : r = 7 := by rw [HR]; simp [he]
              have he' : (nm == mo) = true := by simpa using he
              clear HR he
              go_wp2_with (first
                | (go_at_call 81; (with_reducible refine (LA.out _).mono ?_); rintro e w1 ⟨rfl, g1⟩; have G1 := Lib.hid (gr_of g1); clear g1 c0 c1 c2; obtain ⟨c0, c1, c2⟩ := CX.out _ G1.out; (try dsimp only))
                | (go_at_call 213; (with_reducible refine (CO.out _).mono ?_); rintro e w1 ⟨rfl, rfl⟩; (try dsimp only))
                | (go_at_call 210; (with_reducible refine (NA.out _).mono ?_); rintro e w1 ⟨rfl, g1⟩; have G1 := Lib.hid g1; clear g1 c0 c1 c2; obtain ⟨c0, c1, c2⟩ := CX.out _ G1.out; (try dsimp only))
                | (go_at_call 210; (with_reducible refine (NM.out _).mono ?_); rintro e w2 ⟨rfl, g1⟩; have G2 := Lib.hid (G1.out.trans g1); clear g1 c0 c1 c2; obtain ⟨c0, c1, c2⟩ := CX.out _ G2.out; (try dsimp only)))
              go_ret
              first | exact ⟨rfl, GX.out.trans G2.out⟩ | exact ⟨rfl, GX.out.trans G1.out⟩
            · obtain rfl : r = 0 := by rw [HR]; simp [he]
              have he' : (nm == mo) = false := by simpa using he
              clear HR he
              go_wp2_with (first
                | (go_at_call 81; (with_reducible refine (LA.out _).mono ?_); rintro e w1 ⟨rfl, g1⟩; have G1 := Lib.hid (gr_of g1); clear g1 c0 c1 c2; obtain ⟨c0, c1, c2⟩ := CX.out _ G1.out; (try dsimp only))
                | (go_at_call 213; (with_reducible refine (CO.out _).mono ?_); rintro e w1 ⟨rfl, rfl⟩; (try dsimp only))
                | (go_at_call 210; (with_reducible refine (NA.out _).mono ?_); rintro e w1 ⟨rfl, g1⟩; have G1 := Lib.hid g1; clear g1 c0 c1 c2; obtain ⟨c0, c1, c2⟩ := CX.out _ G1.out; (try dsimp only))
                | (go_at_call 210; (with_reducible refine (NM.out _).mono ?_); rintro e w2 ⟨rfl, g1⟩; have G2 := Lib.hid (G1.out.trans g1); clear g1 c0 c1 c2; obtain ⟨c0, c1, c2⟩ := CX.out _ G2.out; (try dsimp only)))
              go_ret
              first | exact ⟨rfl, GX.out.trans G2.out⟩ | exact ⟨rfl, GX.out.trans G1.out⟩
          · obtain rfl : r = 0 := by rw [HR]; simp [h13]
            have q13 : (k == 13) = false := by simpa using h13
            clear HR h13
            go_wp2_with (first
              | (go_at_call 81; (with_reducible refine (LA.out _).mono ?_); rintro e w1 ⟨rfl, g1⟩; have G1 := Lib.hid (gr_of g1); clear g1 c0 c1 c2; obtain ⟨c0, c1, c2⟩ := CX.out _ G1.out; (try dsimp only))
              | (go_at_call 213; (with_reducible refine (CO.out _).mono ?_); rintro e w1 ⟨rfl, rfl⟩; (try dsimp only))
              | (go_at_call 210; (with_reducible refine (NA.out _).mono ?_); rintro e w1 ⟨rfl, g1⟩; have G1 := Lib.hid g1; clear g1 c0 c1 c2; obtain ⟨c0, c1, c2⟩ := CX.out _ G1.out; (try dsimp only))
              | (go_at_call 210; (with_reducible refine (NM.out _).mono ?_); rintro e w2 ⟨rfl, g1⟩; have G2 := Lib.hid (G1.out.trans g1); clear g1 c0 c1 c2; obtain ⟨c0, c1, c2⟩ := CX.out _ G2.out; (try dsimp only)))
            go_ret
            first | exact ⟨rfl, GX.out.trans G2.out⟩ | exact ⟨rfl, GX.out.trans G1.out⟩
      · have q2 : (n == 2) = false := by simpa using h2
        by_cases h13 : k = 13
        · subst h13
          by_cases he : nm = mo
          · obtain rfl : r = 7 := by rw [HR]; simp [he, h2]
            have he' : (nm == mo) = true := by simpa using he
            clear HR he
            go_wp2_with (first
              | (go_at_call 81; (with_reducible refine (LA.out _).mono ?_); rintro e w1 ⟨rfl, g1⟩; have G1 := Lib.hid (gr_of g1); clear g1 c0 c1 c2; obtain ⟨c0, c1, c2⟩ := CX.out _ G1.out; (try dsimp only))
              | (go_at_call 213; (with_reducible refine (CO.out _).mono ?_); rintro e w1 ⟨rfl, rfl⟩; (try dsimp only))
              | (go_at_call 210; (with_reducible refine (NA.out _).mono ?_); rintro e w1 ⟨rfl, g1⟩; have G1 := Lib.hid g1; clear g1 c0 c1 c2; obtain ⟨c0, c1, c2⟩ := CX.out _ G1.out; (try dsimp only))
              | (go_at_call 210; (with_reducible refine (NM.out _).mono ?_); rintro e w2 ⟨rfl, g1⟩; have G2 := Lib.hid (G1.out.trans g1); clear g1 c0 c1 c2; obtain ⟨c0, c1, c2⟩ := CX.out _ G2.out; (try dsimp only)))
            go_ret
            first | exact ⟨rfl, GX.out.trans G2.out⟩ | exact ⟨rfl, GX.out.trans G1.out⟩
          · obtain rfl : r = 0 := by rw [HR]; simp [he, h2]
            have he' : (nm == mo) = false := by simpa using he
            clear HR he
            go_wp2_with (first
              | (go_at_call 81; (with_reducible refine (LA.out _).mono ?_); rintro e w1 ⟨rfl, g1⟩; have G1 := Lib.hid (gr_of g1); clear g1 c0 c1 c2; obtain ⟨c0, c1, c2⟩ := CX.out _ G1.out; (try dsimp only))
              | (go_at_call 213; (with_reducible refine (CO.out _).mono ?_); rintro e w1 ⟨rfl, rfl⟩; (try dsimp only))
              | (go_at_call 210; (with_reducible refine (NA.out _).mono ?_); rintro e w1 ⟨rfl, g1⟩; have G1 := Lib.hid g1; clear g1 c0 c1 c2; obtain ⟨c0, c1, c2⟩ := CX.out _ G1.out; (try dsimp only))
              | (go_at_call 210; (with_reducible refine (NM.out _).mono ?_); rintro e w2 ⟨rfl, g1⟩; have G2 := Lib.hid (G1.out.trans g1); clear g1 c0 c1 c2; obtain ⟨c0, c1, c2⟩ := CX.out _ G2.out; (try dsimp only)))
            go_ret
            first | exact ⟨rfl, GX.out.trans G2.out⟩ | exact ⟨rfl, GX.out.trans G1.out⟩
        · obtain rfl : r = 0 := by rw [HR]; simp [h13, h2]
          have q13 : (k == 13) = false := by simpa using h13
          clear HR h13
          go_wp2_with (first
            | (go_at_call 81; (with_reducible refine (LA.out _).mono ?_); rintro e w1 ⟨rfl, g1⟩; have G1 := Lib.hid (gr_of g1); clear g1 c0 c1 c2; obtain ⟨c0, c1, c2⟩ := CX.out _ G1.out; (try dsimp only))
            | (go_at_call 213; (with_reducible refine (CO.out _).mono ?_); rintro e w1 ⟨rfl, rfl⟩; (try dsimp only))
            | (go_at_call 210; (with_reducible refine (NA.out _).mono ?_); rintro e w1 ⟨rfl, g1⟩; have G1 := Lib.hid g1; clear g1 c0 c1 c2; obtain ⟨c0, c1, c2⟩ := CX.out _ G1.out; (try dsimp only))
            | (go_at_call 210; (with_reducible refine (NM.out _).mono ?_); rintro e w2 ⟨rfl, g1⟩; have G2 := Lib.hid (G1.out.trans g1); clear g1 c0 c1 c2; obtain ⟨c0, c1, c2⟩ := CX.out _ G2.out; (try dsimp only)))
          go_ret
          first | exact ⟨rfl, GX.out.trans G2.out⟩ | exact ⟨rfl, GX.out.trans G1.out⟩
  · have q1 : decide (1 ≤ n) = false := decide_eq_false h1
    have HR := HR true (by rw [if_neg h5, if_neg h10, if_neg h1])
    have h2 : ¬ n = 2 := by omega
    have q2 : (n == 2) = false := by simpa using h2
    clear h5 h10 h1
    by_cases h13 : k = 13
    · subst h13
      by_cases he : nm = mo
      · obtain rfl : r = 7 := by rw [HR]; simp [he, h2]
        have he' : (nm == mo) = true := by simpa using he
        clear HR he
        go_wp2_with (first
          | (go_at_call 81; (with_reducible refine (LA.out _).mono ?_); rintro e w1 ⟨rfl, g1⟩; have G1 := Lib.hid (gr_of g1); clear g1 c0 c1 c2; obtain ⟨c0, c1, c2⟩ := CX.out _ G1.out; (try dsimp only))
          | (go_at_call 213; (with_reducible refine (CO.out _).mono ?_); rintro e w1 ⟨rfl, rfl⟩; (try dsimp only))
          | (go_at_call 210; (with_reducible refine (NA.out _).mono ?_); rintro e w1 ⟨rfl, g1⟩; have G1 := Lib.hid g1; clear g1 c0 c1 c2; obtain ⟨c0, c1, c2⟩ := CX.out _ G1.out; (try dsimp only))
          | (go_at_call 210; (with_reducible refine (NM.out _).mono ?_); rintro e w2 ⟨rfl, g1⟩; have G2 := Lib.hid (G1.out.trans g1); clear g1 c0 c1 c2; obtain ⟨c0, c1, c2⟩ := CX.out _ G2.out; (try dsimp only)))
        go_ret
        first | exact ⟨rfl, GX.out.trans G2.out⟩ | exact ⟨rfl, GX.out.trans G1.out⟩
      · obtain rfl : r = 0 := by rw [HR]; simp [he, h2]
        have he' : (nm == mo) = false := by simpa using he
        clear HR he
        go_wp2_with (first
          | (go_at_call 81; (with_reducible refine (LA.out _).mono ?_); rintro e w1 ⟨rfl, g1⟩; have G1 := Lib.hid (gr_of g1); clear g1 c0 c1 c2; obtain ⟨c0, c1, c2⟩ := CX.out _ G1.out; (try dsimp only))
          | (go_at_call 213; (with_reducible refine (CO.out _).mono ?_); rintro e w1 ⟨rfl, rfl⟩; (try dsimp only))
          | (go_at_call 210; (with_reducible refine (NA.out _).mono ?_); rintro e w1 ⟨rfl, g1⟩; have G1 := Lib.hid g1; clear g1 c0 c1 c2; obtain ⟨c0, c1, c2⟩ := CX.out _ G1.out; (try dsimp only))
          | (go_at_call 210; (with_reducible refine (NM.out _).mono ?_); rintro e w2 ⟨rfl, g1⟩; have G2 := Lib.hid (G1.out.trans g1); clear g1 c0 c1 c2; obtain ⟨c0, c1, c2⟩ := CX.out _ G2.out; (try dsimp only)))
        go_ret
        first | exact ⟨rfl, GX.out.trans G2.out⟩ | exact ⟨rfl, GX.out.trans G1.out⟩
    · obtain rfl : r = 0 := by rw [HR]; simp [h13, h2]
      have q13 : (k == 13) = false := by simpa using h13
      clear HR h13
      go_wp2_with (first
        | (go_at_call 81; (with_reducible refine (LA.out _).mono ?_); rintro e w1 ⟨rfl, g1⟩; have G1 := Lib.hid (gr_of g1); clear g1 c0 c1 c2; obtain ⟨c0, c1, c2⟩ := CX.out _ G1.out; (try dsimp only))
        | (go_at_call 213; (with_reducible refine (CO.out _).mono ?_); rintro e w1 ⟨rfl, rfl⟩; (try dsimp only))
        | (go_at_call 210; (with_reducible refine (NA.out _).mono ?_); rintro e w1 ⟨rfl, g1⟩; have G1 := Lib.hid g1; clear g1 c0 c1 c2; obtain ⟨c0, c1, c2⟩ := CX.out _ G1.out; (try dsimp only))
        | (go_at_call 210; (with_reducible refine (NM.out _).mono ?_); rintro e w2 ⟨rfl, g1⟩; have G2 := Lib.hid (G1.out.trans g1); clear g1 c0 c1 c2; obtain ⟨c0, c1, c2⟩ := CX.out _ G2.out; (try dsimp only)))
      go_ret
      first | exact ⟨rfl, GX.out.trans G2.out⟩ | exact ⟨rfl, GX.out.trans G1.out⟩
end Go.Proofs.YtiaenhlflgobfaaGreatDoor
namespace Go.Proofs.YtiaenhlflgobfaaGreatDoor
open Go.RowKit
theorem ex_box6 (x : Ex) (w V : World) (g : Gr (w.alloc (.cells #[iv x.kind, tv x.name, tv x.more, iv x.int, iv x.den, .slice x.A x.sub.length x.c] 43)) V) :
    V.cell? ⟨w.heap.size, 0, none⟩ = some (iv x.kind) ∧ V.cell? ⟨w.heap.size, 1, none⟩ = some (tv x.name) ∧ V.cell? ⟨w.heap.size, 2, none⟩ = some (tv x.more) ∧ V.cell? ⟨w.heap.size, 3, none⟩ = some (iv x.int) ∧ V.cell? ⟨w.heap.size, 4, none⟩ = some (iv x.den) ∧ V.cell? ⟨w.heap.size, 5, none⟩ = some (.slice x.A x.sub.length x.c) := by
  have h := gr_h g (al_new _ _)
  refine ⟨?_, ?_, ?_, ?_, ?_, ?_⟩ <;> (rw [Lib.cell_of_heap h]; rfl)
theorem cNums_of (e : PE) (b : Bool) (hb : (if e.kind = 1 then decide (-999999999 ≤ e.int) && decide (e.int ≤ 999999999) else if e.kind = 2 then decide (e.int = 0) || decide (e.int = 1) else if e.kind = 5 then decide (1 ≤ e.int) && decide (e.int ≤ 999999)
    else if e.kind = 14 then decide (1 ≤ e.den) && decide (e.den ≤ 999999) && decide (0 ≤ e.int) && decide (e.int ≤ e.den) else true) = b) : cNums e = if b then 0 else 2 := by
  subst hb
  rfl
set_option maxRecDepth 100000 in
set_option maxHeartbeats 4000000 in
theorem checkNumbers_any (x : Ex) (w : World) : Calls Tryz.prog 188 #[x.v] w fun e w' => e = .returned (iv (cNums x.er)) ∧ Gr w w' := by
  have CX := Lib.hid (ex_box6 x w)
  have GX := Lib.hid (gr_al w (.cells #[iv x.kind, tv x.name, tv x.more, iv x.int, iv x.den, .slice x.A x.sub.length x.c] 43))
  obtain ⟨r, hr⟩ : ∃ r, cNums x.er = r := ⟨_, rfl⟩
  rw [hr]
  have HR := cNums_of x.er
  rw [hr, er_kind, er_int, er_den] at HR
  clear hr
  unfold Ex.v
  generalize x.kind = k at *
  generalize x.name = nm at *
  generalize x.more = mo at *
  generalize x.int = i at *
  generalize x.den = d at *
  go_enter Tryz.func188, Tryz.ntmps188
  go_upto_region 1 with fail
  generalize w.alloc (.cells #[iv k, tv nm, tv mo, iv i, iv d, .slice x.A x.sub.length x.c] 43) = W at *
  generalize w.heap.size = bx at *
  obtain ⟨c0, -, -, c3, c4, -⟩ := CX.out _ (gr_refl _)
  clear CX
  by_cases k1 : k = 1
  · subst k1
    by_cases h1 : -999999999 ≤ i
    · by_cases h2 : i ≤ 999999999
      · obtain rfl : r = 0 := HR true (by simp [h1, h2])
        have q1 : decide (-999999999 ≤ i) = true := decide_eq_true h1
        have q2 : decide (i ≤ 999999999) = true := decide_eq_true h2
        clear HR
        go_wp2
        go_ret
        exact ⟨rfl, GX.out⟩
      · obtain rfl : r = 2 := HR false (by simp [h1, h2])
        have q1 : decide (-999999999 ≤ i) = true := decide_eq_true h1
        have q2 : decide (i ≤ 999999999) = false := decide_eq_false h2
        clear HR
        go_wp2
        go_ret
        exact ⟨rfl, GX.out⟩
    · obtain rfl : r = 2 := HR false (by simp [h1])
      have q1 : decide (-999999999 ≤ i) = false := decide_eq_false h1
      clear HR
      go_wp2
      go_ret
      exact ⟨rfl, GX.out⟩
  have e1 : (k == 1) = false := by simpa using k1
  by_cases k2 : k = 2
  · subst k2
    by_cases h1 : i = 0
    · subst h1
      obtain rfl : r = 0 := HR true (by simp)
      clear HR
      go_wp2
      go_ret
      exact ⟨rfl, GX.out⟩
    · by_cases h2 : i = 1
      · subst h2
        obtain rfl : r = 0 := HR true (by simp)
        clear HR
        go_wp2
        go_ret
        exact ⟨rfl, GX.out⟩
      · have q1 : (i == 0) = false := by simpa using h1
        have q2 : (i == 1) = false := by simpa using h2
        obtain rfl : r = 2 := HR false (by simp [h1, h2])
        clear HR
        go_wp2
        go_ret
        exact ⟨rfl, GX.out⟩
  have e2 : (k == 2) = false := by simpa using k2
  by_cases k5 : k = 5
  · subst k5
    by_cases h1 : 1 ≤ i
    · by_cases h2 : i ≤ 999999
      · obtain rfl : r = 0 := HR true (by simp [h1, h2])
        have q1 : decide (1 ≤ i) = true := decide_eq_true h1
        have q2 : decide (i ≤ 999999) = true := decide_eq_true h2
        clear HR
        go_wp2
        go_ret
        exact ⟨rfl, GX.out⟩
      · obtain rfl : r = 2 := HR false (by simp [h1, h2])
        have q1 : decide (1 ≤ i) = true := decide_eq_true h1
        have q2 : decide (i ≤ 999999) = false := decide_eq_false h2
        clear HR
        go_wp2
        go_ret
        exact ⟨rfl, GX.out⟩
    · obtain rfl : r = 2 := HR false (by simp [h1])
      have q1 : decide (1 ≤ i) = false := decide_eq_false h1
      clear HR
      go_wp2
      go_ret
      exact ⟨rfl, GX.out⟩
  have e5 : (k == 5) = false := by simpa using k5
  by_cases k14 : k = 14
  · subst k14
    by_cases h0 : 1 ≤ d
    case neg =>
      obtain rfl : r = 2 := HR false (by simp [h0])
      have q0 : decide (1 ≤ d) = false := decide_eq_false h0
      clear HR
      go_wp2
      go_ret
      exact ⟨rfl, GX.out⟩
    by_cases h1 : d ≤ 999999
    case neg =>
      obtain rfl : r = 2 := HR false (by simp [h0, h1])
      have q0 : decide (1 ≤ d) = true := decide_eq_true h0
      have q1 : decide (d ≤ 999999) = false := decide_eq_false h1
      clear HR
      go_wp2
      go_ret
      exact ⟨rfl, GX.out⟩
    by_cases h2 : 0 ≤ i
    case neg =>
      obtain rfl : r = 2 := HR false (by simp [h0, h1, h2])
      have q0 : decide (1 ≤ d) = true := decide_eq_true h0
      have q1 : decide (d ≤ 999999) = true := decide_eq_true h1
      have q2 : decide (0 ≤ i) = false := decide_eq_false h2
      clear HR
      go_wp2
      go_ret
      exact ⟨rfl, GX.out⟩
    by_cases h3 : i ≤ d
    case neg =>
      obtain rfl : r = 2 := HR false (by simp [h0, h1, h2, h3])
      have q0 : decide (1 ≤ d) = true := decide_eq_true h0
      have q1 : decide (d ≤ 999999) = true := decide_eq_true h1
      have q2 : decide (0 ≤ i) = true := decide_eq_true h2
      have q3 : decide (i ≤ d) = false := decide_eq_false h3
      clear HR
      go_wp2
      go_ret
      exact ⟨rfl, GX.out⟩
    obtain rfl : r = 0 := HR true (by simp [h0, h1, h2, h3])
    have q0 : decide (1 ≤ d) = true := decide_eq_true h0
    have q1 : decide (d ≤ 999999) = true := decide_eq_true h1
    have q2 : decide (0 ≤ i) = true := decide_eq_true h2
    have q3 : decide (i ≤ d) = true := decide_eq_true h3
    clear HR
    go_wp2
    go_ret
    exact ⟨rfl, GX.out⟩
  have e14 : (k == 14) = false := by simpa using k14
  obtain rfl : r = 0 := HR true (by simp [k1, k2, k5, k14])
  clear HR
  go_wp2
  go_ret
  exact ⟨rfl, GX.out⟩
end Go.Proofs.YtiaenhlflgobfaaGreatDoor

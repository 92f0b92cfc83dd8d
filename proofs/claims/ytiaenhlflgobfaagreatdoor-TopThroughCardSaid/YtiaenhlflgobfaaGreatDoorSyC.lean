/- Walk: one expression. -/
import Derived.Test.YtiaenhlflgobfaaGreatDoorM4
namespace Go.Proofs.YtiaenhlflgobfaaGreatDoor
open Go.RowKit
theorem shp_six {k a b c : Int} (h : shp k = some (a, b, c)) : (a = 0 ∧ b = 1) ∨ (a = 1 ∧ b = 0) ∨ (a = 2 ∧ b = 0) ∨ (a = 1 ∧ b = 1) ∨ (a = 0 ∧ b = 0) ∨ (a = 0 ∧ b = 2) := by
  unfold shp at h
  repeat' split at h
  all_goals first | (simp only [Option.some.injEq, Prod.mk.injEq] at h; omega) | (cases h)
theorem ckN_of {e : PE} {a b c : Int} (h : shp e.kind = some (a, b, c)) : ckN e = if (a < 1 ∧ e.name ≠ []) ∨ (a < 2 ∧ e.more ≠ []) ∨ (b < 1 ∧ e.int ≠ 0) ∨ (b < 2 ∧ e.den ≠ 0) ∨ (e.sub.length : Int) ≠ c then 1 else if cNames e a ≠ 0 then cNames e a else cNums e := by
  unfold ckN
  rw [h]
set_option maxRecDepth 100000 in
set_option maxHeartbeats 8000000 in
attribute [local irreducible] Calls in
theorem checkNode_any (x : Ex) (w : World) (hx : x.Rd w) : Calls Tryz.prog 140 #[x.v] w fun e w' => e = .returned (iv (ckN x.er)) ∧ Gr w w' := by
  have CX := Lib.hid (ex_box6 x w)
  have GX := Lib.hid (gr_al w (.cells #[iv x.kind, tv x.name, tv x.more, iv x.int, iv x.den, .slice x.A x.sub.length x.c] 43))
  have HS := Lib.hid (fun V => shape_any x.kind V)
  have CN := Lib.hid (fun V a => checkNames_any x a V hx.n hx.m)
  have CM := Lib.hid (fun V => checkNumbers_any x V)
  obtain ⟨r, hr⟩ : ∃ r, ckN x.er = r := ⟨_, rfl⟩
  rw [hr]
  obtain ⟨sh, hsh⟩ : ∃ s, shp x.kind = s := ⟨_, rfl⟩
  rw [hsh] at HS
  cases sh with
  | none =>
    obtain rfl : r = 9 := by
      rw [← hr]
      unfold ckN
      rw [er_kind, hsh]
    unfold Ex.v
    unfold shV at HS
    clear hr hsh hx CN CM
    obtain ⟨c0, c1, c2, c3, c4, c5⟩ := CX.out _ (gr_refl _)
    go_enter Tryz.func140, Tryz.ntmps140
    go_wp2_with (go_at_call 186; (with_reducible refine (HS.out _).mono ?_); rintro e w1 ⟨rfl, g1⟩; have G1 := Lib.hid g1; clear g1; (try dsimp only))
    go_ret
    exact ⟨rfl, GX.out.trans (G1.out.trans (gr_al _ _))⟩
  | some abc =>
    obtain ⟨a, b, c⟩ := abc
    have HR := ckN_of (e := x.er) (show shp x.er.kind = some (a, b, c) by rw [er_kind]; exact hsh)
    rw [hr, er_name, er_more, er_int, er_den, er_sub, ers_length] at HR
    have six := shp_six hsh
    have hl : x.sub.length ≤ 9223372036854775807 := Nat.le_trans hx.s.rw.hc hx.s.rw.hm
    have CN := Lib.hid (fun V => CN.out V a)
    unfold shV at HS
    obtain ⟨na, hna⟩ : ∃ n, cNames x.er a = n := ⟨_, rfl⟩
    obtain ⟨nb, hnb⟩ : ∃ n, cNums x.er = n := ⟨_, rfl⟩
    rw [hna] at HR CN
    rw [hnb] at HR CM
    clear hr hsh hx hna hnb
    unfold Ex.v at CN CM ⊢
    generalize x.kind = k at *
    generalize x.name = nm at *
    generalize x.more = mo at *
    generalize x.int = i at *
    generalize x.den = d at *
    generalize x.sub.length = n at *
    generalize x.A = xA at *
    generalize x.c = xc at *
    go_enter Tryz.func140, Tryz.ntmps140
    go_upto_region 1 with fail
    generalize w.alloc (.cells #[iv k, tv nm, tv mo, iv i, iv d, .slice xA n xc] 43) = W at *
    generalize w.heap.size = bx at *
    obtain ⟨c0, c1, c2, c3, c4, c5⟩ := CX.out _ (gr_refl _)
    go_upto_region 2 with (go_at_call 186; (with_reducible refine (HS.out _).mono ?_); rintro e w1 ⟨rfl, g1⟩; have G1 := Lib.hid g1; clear g1 c0 c1 c2 c3 c4 c5; (try dsimp only))
    have G2 := Lib.hid (G1.out.trans (gr_al w1 (.cells #[iv a, iv b, iv c] 259)))
    have SX := Lib.hid (fun V (g : Gr (w1.alloc (.cells #[iv a, iv b, iv c] 259)) V) => show V.cell? ⟨w1.heap.size, 0, none⟩ = some (iv a) ∧ V.cell? ⟨w1.heap.size, 1, none⟩ = some (iv b) ∧ V.cell? ⟨w1.heap.size, 2, none⟩ = some (iv c) from by
      have h := gr_h g (al_new _ _)
      refine ⟨?_, ?_, ?_⟩ <;> (rw [Lib.cell_of_heap h]; rfl))
    generalize w1.alloc (.cells #[iv a, iv b, iv c] 259) = W2 at *
    generalize w1.heap.size = sx at *
    clear HS G1
    obtain ⟨c0, c1, c2, c3, c4, c5⟩ := CX.out _ G2.out
    obtain ⟨s0, s1, s2⟩ := SX.out _ (gr_refl _)
    rcases six with ⟨rfl, rfl⟩ | ⟨rfl, rfl⟩ | ⟨rfl, rfl⟩ | ⟨rfl, rfl⟩ | ⟨rfl, rfl⟩ | ⟨rfl, rfl⟩
    · by_cases t_nm : nm = []
      case neg =>
        obtain rfl : r = 1 := by rw [HR]; simp [t_nm]
        have u_nm : nm.isEmpty = false := by simpa using t_nm
        clear HR CN CM
        go_wp2
        go_ret
        exact ⟨rfl, GX.out.trans G2.out⟩
      subst t_nm
      by_cases t_mo : mo = []
      case neg =>
        obtain rfl : r = 1 := by rw [HR]; simp [t_mo]
        have u_mo : mo.isEmpty = false := by simpa using t_mo
        clear HR CN CM
        go_wp2
        go_ret
        exact ⟨rfl, GX.out.trans G2.out⟩
      subst t_mo
      by_cases t_d : d = 0
      case neg =>
        obtain rfl : r = 1 := by rw [HR]; simp [t_d]
        have u_d : (d == 0) = false := by simpa using t_d
        clear HR CN CM
        go_wp2
        go_ret
        exact ⟨rfl, GX.out.trans G2.out⟩
      subst t_d
      by_cases tc : (n : Int) = c
      case neg =>
        obtain rfl : r = 1 := by rw [HR]; simp [tc]
        have uc : ((n : Int) != c) = true := by simpa using tc
        clear HR CN CM
        go_wp2
        go_ret
        exact ⟨rfl, GX.out.trans G2.out⟩
      have uc : ((n : Int) != c) = false := by simpa using tc
      by_cases hn : na = 0
      · subst hn
        obtain rfl : nb = r := by rw [HR]; simp [tc]
        clear HR
        go_wp2_with (first
          | (go_at_call 187; (with_reducible refine (CN.out _).mono ?_); rintro e w3 ⟨rfl, g1⟩; have G3 := Lib.hid (G2.out.trans g1); clear g1 c0 c1 c2 c3 c4 c5; obtain ⟨c0, c1, c2, c3, c4, c5⟩ := CX.out _ G3.out; (try dsimp only))
          | (go_at_call 188; (with_reducible refine (CM.out _).mono ?_); rintro e w4 ⟨rfl, g1⟩; have G4 := Lib.hid (G3.out.trans g1); clear g1; (try dsimp only)))
        go_ret
        exact ⟨rfl, GX.out.trans G4.out⟩
      · obtain rfl : na = r := by rw [HR]; simp [tc, hn]
        have hn' : (na != 0) = true := by simpa using hn
        clear HR
        go_wp2_with (go_at_call 187; (with_reducible refine (CN.out _).mono ?_); rintro e w3 ⟨rfl, g1⟩; have G3 := Lib.hid (G2.out.trans g1); clear g1 c0 c1 c2 c3 c4 c5; obtain ⟨c0, c1, c2, c3, c4, c5⟩ := CX.out _ G3.out; (try dsimp only))
        go_ret
        exact ⟨rfl, GX.out.trans G3.out⟩
    · by_cases t_mo : mo = []
      case neg =>
        obtain rfl : r = 1 := by rw [HR]; simp [t_mo]
        have u_mo : mo.isEmpty = false := by simpa using t_mo
        clear HR CN CM
        go_wp2
        go_ret
        exact ⟨rfl, GX.out.trans G2.out⟩
      subst t_mo
      by_cases t_i : i = 0
      case neg =>
        obtain rfl : r = 1 := by rw [HR]; simp [t_i]
        have u_i : (i == 0) = false := by simpa using t_i
        clear HR CN CM
        go_wp2
        go_ret
        exact ⟨rfl, GX.out.trans G2.out⟩
      subst t_i
      by_cases t_d : d = 0
      case neg =>
        obtain rfl : r = 1 := by rw [HR]; simp [t_d]
        have u_d : (d == 0) = false := by simpa using t_d
        clear HR CN CM
        go_wp2
        go_ret
        exact ⟨rfl, GX.out.trans G2.out⟩
      subst t_d
      by_cases tc : (n : Int) = c
      case neg =>
        obtain rfl : r = 1 := by rw [HR]; simp [tc]
        have uc : ((n : Int) != c) = true := by simpa using tc
        clear HR CN CM
        go_wp2
        go_ret
        exact ⟨rfl, GX.out.trans G2.out⟩
      have uc : ((n : Int) != c) = false := by simpa using tc
      by_cases hn : na = 0
      · subst hn
        obtain rfl : nb = r := by rw [HR]; simp [tc]
        clear HR
        go_wp2_with (first
          | (go_at_call 187; (with_reducible refine (CN.out _).mono ?_); rintro e w3 ⟨rfl, g1⟩; have G3 := Lib.hid (G2.out.trans g1); clear g1 c0 c1 c2 c3 c4 c5; obtain ⟨c0, c1, c2, c3, c4, c5⟩ := CX.out _ G3.out; (try dsimp only))
          | (go_at_call 188; (with_reducible refine (CM.out _).mono ?_); rintro e w4 ⟨rfl, g1⟩; have G4 := Lib.hid (G3.out.trans g1); clear g1; (try dsimp only)))
        go_ret
        exact ⟨rfl, GX.out.trans G4.out⟩
      · obtain rfl : na = r := by rw [HR]; simp [tc, hn]
        have hn' : (na != 0) = true := by simpa using hn
        clear HR
        go_wp2_with (go_at_call 187; (with_reducible refine (CN.out _).mono ?_); rintro e w3 ⟨rfl, g1⟩; have G3 := Lib.hid (G2.out.trans g1); clear g1 c0 c1 c2 c3 c4 c5; obtain ⟨c0, c1, c2, c3, c4, c5⟩ := CX.out _ G3.out; (try dsimp only))
        go_ret
        exact ⟨rfl, GX.out.trans G3.out⟩
    · by_cases t_i : i = 0
      case neg =>
        obtain rfl : r = 1 := by rw [HR]; simp [t_i]
        have u_i : (i == 0) = false := by simpa using t_i
        clear HR CN CM
        go_wp2
        go_ret
        exact ⟨rfl, GX.out.trans G2.out⟩
      subst t_i
      by_cases t_d : d = 0
      case neg =>
        obtain rfl : r = 1 := by rw [HR]; simp [t_d]
        have u_d : (d == 0) = false := by simpa using t_d
        clear HR CN CM
        go_wp2
        go_ret
        exact ⟨rfl, GX.out.trans G2.out⟩
      subst t_d
      by_cases tc : (n : Int) = c
      case neg =>
        obtain rfl : r = 1 := by rw [HR]; simp [tc]
        have uc : ((n : Int) != c) = true := by simpa using tc
        clear HR CN CM
        go_wp2
        go_ret
        exact ⟨rfl, GX.out.trans G2.out⟩
      have uc : ((n : Int) != c) = false := by simpa using tc
      by_cases hn : na = 0
      · subst hn
        obtain rfl : nb = r := by rw [HR]; simp [tc]
        clear HR
        go_wp2_with (first
          | (go_at_call 187; (with_reducible refine (CN.out _).mono ?_); rintro e w3 ⟨rfl, g1⟩; have G3 := Lib.hid (G2.out.trans g1); clear g1 c0 c1 c2 c3 c4 c5; obtain ⟨c0, c1, c2, c3, c4, c5⟩ := CX.out _ G3.out; (try dsimp only))
          | (go_at_call 188; (with_reducible refine (CM.out _).mono ?_); rintro e w4 ⟨rfl, g1⟩; have G4 := Lib.hid (G3.out.trans g1); clear g1; (try dsimp only)))
        go_ret
        exact ⟨rfl, GX.out.trans G4.out⟩
      · obtain rfl : na = r := by rw [HR]; simp [tc, hn]
        have hn' : (na != 0) = true := by simpa using hn
        clear HR
        go_wp2_with (go_at_call 187; (with_reducible refine (CN.out _).mono ?_); rintro e w3 ⟨rfl, g1⟩; have G3 := Lib.hid (G2.out.trans g1); clear g1 c0 c1 c2 c3 c4 c5; obtain ⟨c0, c1, c2, c3, c4, c5⟩ := CX.out _ G3.out; (try dsimp only))
        go_ret
        exact ⟨rfl, GX.out.trans G3.out⟩
    · by_cases t_mo : mo = []
      case neg =>
        obtain rfl : r = 1 := by rw [HR]; simp [t_mo]
        have u_mo : mo.isEmpty = false := by simpa using t_mo
        clear HR CN CM
        go_wp2
        go_ret
        exact ⟨rfl, GX.out.trans G2.out⟩
      subst t_mo
      by_cases t_d : d = 0
      case neg =>
        obtain rfl : r = 1 := by rw [HR]; simp [t_d]
        have u_d : (d == 0) = false := by simpa using t_d
        clear HR CN CM
        go_wp2
        go_ret
        exact ⟨rfl, GX.out.trans G2.out⟩
      subst t_d
      by_cases tc : (n : Int) = c
      case neg =>
        obtain rfl : r = 1 := by rw [HR]; simp [tc]
        have uc : ((n : Int) != c) = true := by simpa using tc
        clear HR CN CM
        go_wp2
        go_ret
        exact ⟨rfl, GX.out.trans G2.out⟩
      have uc : ((n : Int) != c) = false := by simpa using tc
      by_cases hn : na = 0
      · subst hn
        obtain rfl : nb = r := by rw [HR]; simp [tc]
        clear HR
        go_wp2_with (first
          | (go_at_call 187; (with_reducible refine (CN.out _).mono ?_); rintro e w3 ⟨rfl, g1⟩; have G3 := Lib.hid (G2.out.trans g1); clear g1 c0 c1 c2 c3 c4 c5; obtain ⟨c0, c1, c2, c3, c4, c5⟩ := CX.out _ G3.out; (try dsimp only))
          | (go_at_call 188; (with_reducible refine (CM.out _).mono ?_); rintro e w4 ⟨rfl, g1⟩; have G4 := Lib.hid (G3.out.trans g1); clear g1; (try dsimp only)))
        go_ret
        exact ⟨rfl, GX.out.trans G4.out⟩
      · obtain rfl : na = r := by rw [HR]; simp [tc, hn]
        have hn' : (na != 0) = true := by simpa using hn
        clear HR
        go_wp2_with (go_at_call 187; (with_reducible refine (CN.out _).mono ?_); rintro e w3 ⟨rfl, g1⟩; have G3 := Lib.hid (G2.out.trans g1); clear g1 c0 c1 c2 c3 c4 c5; obtain ⟨c0, c1, c2, c3, c4, c5⟩ := CX.out _ G3.out; (try dsimp only))
        go_ret
        exact ⟨rfl, GX.out.trans G3.out⟩
    · by_cases t_nm : nm = []
      case neg =>
        obtain rfl : r = 1 := by rw [HR]; simp [t_nm]
        have u_nm : nm.isEmpty = false := by simpa using t_nm
        clear HR CN CM
        go_wp2
        go_ret
        exact ⟨rfl, GX.out.trans G2.out⟩
      subst t_nm
      by_cases t_mo : mo = []
      case neg =>
        obtain rfl : r = 1 := by rw [HR]; simp [t_mo]
        have u_mo : mo.isEmpty = false := by simpa using t_mo
        clear HR CN CM
        go_wp2
        go_ret
        exact ⟨rfl, GX.out.trans G2.out⟩
      subst t_mo
      by_cases t_i : i = 0
      case neg =>
        obtain rfl : r = 1 := by rw [HR]; simp [t_i]
        have u_i : (i == 0) = false := by simpa using t_i
        clear HR CN CM
        go_wp2
        go_ret
        exact ⟨rfl, GX.out.trans G2.out⟩
      subst t_i
      by_cases t_d : d = 0
      case neg =>
        obtain rfl : r = 1 := by rw [HR]; simp [t_d]
        have u_d : (d == 0) = false := by simpa using t_d
        clear HR CN CM
        go_wp2
        go_ret
        exact ⟨rfl, GX.out.trans G2.out⟩
      subst t_d
      by_cases tc : (n : Int) = c
      case neg =>
        obtain rfl : r = 1 := by rw [HR]; simp [tc]
        have uc : ((n : Int) != c) = true := by simpa using tc
        clear HR CN CM
        go_wp2
        go_ret
        exact ⟨rfl, GX.out.trans G2.out⟩
      have uc : ((n : Int) != c) = false := by simpa using tc
      by_cases hn : na = 0
      · subst hn
        obtain rfl : nb = r := by rw [HR]; simp [tc]
        clear HR
        go_wp2_with (first
          | (go_at_call 187; (with_reducible refine (CN.out _).mono ?_); rintro e w3 ⟨rfl, g1⟩; have G3 := Lib.hid (G2.out.trans g1); clear g1 c0 c1 c2 c3 c4 c5; obtain ⟨c0, c1, c2, c3, c4, c5⟩ := CX.out _ G3.out; (try dsimp only))
          | (go_at_call 188; (with_reducible refine (CM.out _).mono ?_); rintro e w4 ⟨rfl, g1⟩; have G4 := Lib.hid (G3.out.trans g1); clear g1; (try dsimp only)))
        go_ret
        exact ⟨rfl, GX.out.trans G4.out⟩
      · obtain rfl : na = r := by rw [HR]; simp [tc, hn]
        have hn' : (na != 0) = true := by simpa using hn
        clear HR
        go_wp2_with (go_at_call 187; (with_reducible refine (CN.out _).mono ?_); rintro e w3 ⟨rfl, g1⟩; have G3 := Lib.hid (G2.out.trans g1); clear g1 c0 c1 c2 c3 c4 c5; obtain ⟨c0, c1, c2, c3, c4, c5⟩ := CX.out _ G3.out; (try dsimp only))
        go_ret
        exact ⟨rfl, GX.out.trans G3.out⟩
    · by_cases t_nm : nm = []
      case neg =>
        obtain rfl : r = 1 := by rw [HR]; simp [t_nm]
        have u_nm : nm.isEmpty = false := by simpa using t_nm
        clear HR CN CM
        go_wp2
        go_ret
        exact ⟨rfl, GX.out.trans G2.out⟩
      subst t_nm
      by_cases t_mo : mo = []
      case neg =>
        obtain rfl : r = 1 := by rw [HR]; simp [t_mo]
        have u_mo : mo.isEmpty = false := by simpa using t_mo
        clear HR CN CM
        go_wp2
        go_ret
        exact ⟨rfl, GX.out.trans G2.out⟩
      subst t_mo
      by_cases tc : (n : Int) = c
      case neg =>
        obtain rfl : r = 1 := by rw [HR]; simp [tc]
        have uc : ((n : Int) != c) = true := by simpa using tc
        clear HR CN CM
        go_wp2
        go_ret
        exact ⟨rfl, GX.out.trans G2.out⟩
      have uc : ((n : Int) != c) = false := by simpa using tc
      by_cases hn : na = 0
      · subst hn
        obtain rfl : nb = r := by rw [HR]; simp [tc]
        clear HR
        go_wp2_with (first
          | (go_at_call 187; (with_reducible refine (CN.out _).mono ?_); rintro e w3 ⟨rfl, g1⟩; have G3 := Lib.hid (G2.out.trans g1); clear g1 c0 c1 c2 c3 c4 c5; obtain ⟨c0, c1, c2, c3, c4, c5⟩ := CX.out _ G3.out; (try dsimp only))
          | (go_at_call 188; (with_reducible refine (CM.out _).mono ?_); rintro e w4 ⟨rfl, g1⟩; have G4 := Lib.hid (G3.out.trans g1); clear g1; (try dsimp only)))
        go_ret
        exact ⟨rfl, GX.out.trans G4.out⟩
      · obtain rfl : na = r := by rw [HR]; simp [tc, hn]
        have hn' : (na != 0) = true := by simpa using hn
        clear HR
        go_wp2_with (go_at_call 187; (with_reducible refine (CN.out _).mono ?_); rintro e w3 ⟨rfl, g1⟩; have G3 := Lib.hid (G2.out.trans g1); clear g1 c0 c1 c2 c3 c4 c5; obtain ⟨c0, c1, c2, c3, c4, c5⟩ := CX.out _ G3.out; (try dsimp only))
        go_ret
        exact ⟨rfl, GX.out.trans G3.out⟩
end Go.Proofs.YtiaenhlflgobfaaGreatDoor

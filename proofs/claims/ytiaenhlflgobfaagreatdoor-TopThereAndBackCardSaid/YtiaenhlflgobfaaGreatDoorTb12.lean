/- Words. -/
import Derived.Test.YtiaenhlflgobfaaGreatDoorTb11
namespace Go.Proofs.YtiaenhlflgobfaaGreatDoor
open Go.RowKit
theorem Zw (x : Ex) (w V : World) (g : Gr (w.alloc (.cells #[iv x.kind,tv x.name,tv x.more,iv x.int,iv x.den,.slice x.A x.sub.length x.c] 43)) V) :
 V.cell? ⟨w.heap.size,0,none⟩ = some (iv x.kind) ∧ V.cell? ⟨w.heap.size,1,none⟩ = some (tv x.name) ∧ V.cell? ⟨w.heap.size,2,none⟩ = some (tv x.more) ∧ V.cell? ⟨w.heap.size,3,none⟩ = some (iv x.int) ∧ V.cell? ⟨w.heap.size,4,none⟩ = some (iv x.den) ∧ V.cell? ⟨w.heap.size,5,none⟩ = some (.slice x.A x.sub.length x.c):=by
 have h:=Qe g (Qd _ _)
 refine ⟨?_,?_,?_,?_,?_,?_⟩ <;> (rw [Lib.cell_of_heap h];rfl)
theorem Qop (e : PE) (b : Bool) (hb : (if e.kind = 1 then decide (-999999999 ≤ e.int) && decide (e.int ≤ 999999999) else if e.kind = 2 then decide (e.int = 0) || decide (e.int = 1) else if e.kind = 5 then decide (1 ≤ e.int) && decide (e.int ≤ 999999)
 else if e.kind = 14 then decide (1 ≤ e.den) && decide (e.den ≤ 999999) && decide (0 ≤ e.int) && decide (e.int ≤ e.den) else true) = b) : Qc4 e = if b then 0 else 2:=by
 subst hb
 rfl
set_option maxRecDepth 100000 in
set_option maxHeartbeats 4000000 in
theorem Qcy (x : Ex) (w : World) : Calls Tryz.prog 188 #[x.v] w fun e w' => e = .returned (iv (Qc4 x.er)) ∧ Gr w w':=by
 have CX:=Qo0 (Zw x w)
 have GX:=Qo0 (Qa w (.cells #[iv x.kind,tv x.name,tv x.more,iv x.int,iv x.den,.slice x.A x.sub.length x.c] 43))
 obtain ⟨r,hr⟩ : ∃ r,Qc4 x.er = r:=⟨_,rfl⟩
 rw [hr]
 have HR:=Qop x.er
 rw [hr,Zk,Qfz,Qf0] at HR
 clear hr
 unfold Ex.v
 generalize x.kind = k at *
 generalize x.name = nm at *
 generalize x.more = mo at *
 generalize x.int = i at *
 generalize x.den = d at *
 go_enter Tryz.func188,Tryz.ntmps188
 go_upto_region 1 with fail
 generalize w.alloc (.cells #[iv k,tv nm,tv mo,iv i,iv d,.slice x.A x.sub.length x.c] 43) = W at *
 generalize w.heap.size = bx at *
 obtain ⟨c0,-,-,c3,c4,-⟩:=CX.out _ (Qc _)
 clear CX
 by_cases k1 : k = 1
 ·subst k1
  by_cases h1 : -999999999 ≤ i
  ·by_cases h2 : i ≤ 999999999
   ·obtain rfl : r = 0:=HR true (by simp [h1,h2])
    have q1 : decide (-999999999 ≤ i) = true:=decide_eq_true h1
    have q2 : decide (i ≤ 999999999) = true:=decide_eq_true h2
    clear HR
    go_wp2
    go_ret
    exact ⟨rfl,GX.out⟩
   ·obtain rfl : r = 2:=HR false (by simp [h1,h2])
    have q1 : decide (-999999999 ≤ i) = true:=decide_eq_true h1
    have q2 : decide (i ≤ 999999999) = false:=decide_eq_false h2
    clear HR
    go_wp2
    go_ret
    exact ⟨rfl,GX.out⟩
  ·obtain rfl : r = 2:=HR false (by simp [h1])
   have q1 : decide (-999999999 ≤ i) = false:=decide_eq_false h1
   clear HR
   go_wp2
   go_ret
   exact ⟨rfl,GX.out⟩
 have e1 : (k == 1) = false:=by simpa using k1
 by_cases k2 : k = 2
 ·subst k2
  by_cases h1 : i = 0
  ·subst h1
   obtain rfl : r = 0:=HR true (by simp)
   clear HR
   go_wp2
   go_ret
   exact ⟨rfl,GX.out⟩
  ·by_cases h2 : i = 1
   ·subst h2
    obtain rfl : r = 0:=HR true (by simp)
    clear HR
    go_wp2
    go_ret
    exact ⟨rfl,GX.out⟩
   ·have q1 : (i == 0) = false:=by simpa using h1
    have q2 : (i == 1) = false:=by simpa using h2
    obtain rfl : r = 2:=HR false (by simp [h1,h2])
    clear HR
    go_wp2
    go_ret
    exact ⟨rfl,GX.out⟩
 have e2 : (k == 2) = false:=by simpa using k2
 by_cases k5 : k = 5
 ·subst k5
  by_cases h1 : 1 ≤ i
  ·by_cases h2 : i ≤ 999999
   ·obtain rfl : r = 0:=HR true (by simp [h1,h2])
    have q1 : decide (1 ≤ i) = true:=decide_eq_true h1
    have q2 : decide (i ≤ 999999) = true:=decide_eq_true h2
    clear HR
    go_wp2
    go_ret
    exact ⟨rfl,GX.out⟩
   ·obtain rfl : r = 2:=HR false (by simp [h1,h2])
    have q1 : decide (1 ≤ i) = true:=decide_eq_true h1
    have q2 : decide (i ≤ 999999) = false:=decide_eq_false h2
    clear HR
    go_wp2
    go_ret
    exact ⟨rfl,GX.out⟩
  ·obtain rfl : r = 2:=HR false (by simp [h1])
   have q1 : decide (1 ≤ i) = false:=decide_eq_false h1
   clear HR
   go_wp2
   go_ret
   exact ⟨rfl,GX.out⟩
 have e5 : (k == 5) = false:=by simpa using k5
 by_cases k14 : k = 14
 ·subst k14
  by_cases h0 : 1 ≤ d
  case neg =>
   obtain rfl : r = 2:=HR false (by simp [h0])
   have q0 : decide (1 ≤ d) = false:=decide_eq_false h0
   clear HR
   go_wp2
   go_ret
   exact ⟨rfl,GX.out⟩
  by_cases h1 : d ≤ 999999
  case neg =>
   obtain rfl : r = 2:=HR false (by simp [h0,h1])
   have q0 : decide (1 ≤ d) = true:=decide_eq_true h0
   have q1 : decide (d ≤ 999999) = false:=decide_eq_false h1
   clear HR
   go_wp2
   go_ret
   exact ⟨rfl,GX.out⟩
  by_cases h2 : 0 ≤ i
  case neg =>
   obtain rfl : r = 2:=HR false (by simp [h0,h1,h2])
   have q0 : decide (1 ≤ d) = true:=decide_eq_true h0
   have q1 : decide (d ≤ 999999) = true:=decide_eq_true h1
   have q2 : decide (0 ≤ i) = false:=decide_eq_false h2
   clear HR
   go_wp2
   go_ret
   exact ⟨rfl,GX.out⟩
  by_cases h3 : i ≤ d
  case neg =>
   obtain rfl : r = 2:=HR false (by simp [h0,h1,h2,h3])
   have q0 : decide (1 ≤ d) = true:=decide_eq_true h0
   have q1 : decide (d ≤ 999999) = true:=decide_eq_true h1
   have q2 : decide (0 ≤ i) = true:=decide_eq_true h2
   have q3 : decide (i ≤ d) = false:=decide_eq_false h3
   clear HR
   go_wp2
   go_ret
   exact ⟨rfl,GX.out⟩
  obtain rfl : r = 0:=HR true (by simp [h0,h1,h2,h3])
  have q0 : decide (1 ≤ d) = true:=decide_eq_true h0
  have q1 : decide (d ≤ 999999) = true:=decide_eq_true h1
  have q2 : decide (0 ≤ i) = true:=decide_eq_true h2
  have q3 : decide (i ≤ d) = true:=decide_eq_true h3
  clear HR
  go_wp2
  go_ret
  exact ⟨rfl,GX.out⟩
 have e14 : (k == 14) = false:=by simpa using k14
 obtain rfl : r = 0:=HR true (by simp [k1,k2,k5,k14])
 clear HR
 go_wp2
 go_ret
 exact ⟨rfl,GX.out⟩
end Go.Proofs.YtiaenhlflgobfaaGreatDoor

/- The walks and the words of the family link, part 4: Cmt, SoL, Srt, Cpa, Cpt, Rst, Pg3, LkN, ChkD, ChkE, LnW, Pg4, LnX. -/
import Derived.Test.YtgboboljgcfggaaGreatDoorM3
import Derived.Sort.Grow
import Derived.Shelf.SlGeneric
import Derived.Shelf.SlSortCmp.SmallK
import Derived.Ground.SlsfProg
import Derived.Test.YtgboboljgcfggaaGreatDoorProg
import Derived.Lib.SliceRun
import Derived.Deep.RegionLaw
import Derived.Deep.DeepCutAuto
import Derived.LoopTactic
import Derived.BigQuiet
import Derived.StillTailTactics
namespace Go.Proofs.YtgboboljgcfggaaGreatDoor
open Go.RowKit
theorem grow3 (w : World) (o o' o'' : Obj) : (((w.alloc o).alloc o').drewN 1).alloc o'' = Sort.grow (w.drewN 1) #[o, o', o''] := by
  rw [Sort.alloc_eq_grow, Sort.alloc_eq_grow, Sort.alloc_eq_grow]
  show Sort.grow (Sort.grow (Sort.grow (w.drewN 1) #[o]) #[o']) #[o''] = _
  rw [Sort.grow_grow, Sort.grow_grow]
  rfl
theorem op_faS {o : Oper} {a : Act} {w : World} {x : Tmp} {g f : Nat} (hd : o.dst.isSome = true) (ho : o.op = .fieldAddr 79 (.tmp x) 0) (h : a.eval (.tmp x) = .pointer (some ⟨g, f, none⟩)) : (execOp a.eval o).run Tryz.prog w = .ok (nx o (.pointer (some ⟨g, f, none⟩))) w := by
  rw [nx_some hd]
  unfold Act.eval at h
  obtain ⟨d, op, t, ps, af, gu⟩ := o
  simp only at ho
  subst ho
  go_simp

set_option maxRecDepth 100000 in
set_option maxHeartbeats 2000000 in
theorem cmpStt_any (p : T) (i u : Int) (q : T) (j v : Int) (w : World) : Calls Tryz.prog 73 #[.agg #[tv p, .int .i64 i, .int .i64 u], .agg #[tv q, .int .i64 j, .int .i64 v]] w fun e w' => e = .returned (.int .i64 (cN p i q j)) ∧ ∃ os, w' = Sort.grow (w.drewN 1) os := by
  have C1 := fun W => cmpStr_any p q W
  have C2 := fun W => cmpInt_any i j W
  have C3 := fun g W h0 h1 => or2_any (cS p q) (cI i j) g W h0 h1
  have E : Hid ((if cS p q ≠ 0 then cS p q else cI i j) = cN p i q j) := Lib.hid rfl
  rw [E.out] at C3
  generalize cN p i q j = r at *
  generalize cS p q = a at *
  generalize cI i j = b at *
  have H1 := Lib.hid C1
  have H2 := Lib.hid C2
  have H3 := Lib.hid C3
  have NN : ∀ o o', (((w.alloc o).alloc o').drew.alloc (.cells #[iv a, iv b] 3)).cell? ⟨w.heap.size + 1 + 1, 0, none⟩ = some (iv a) ∧ (((w.alloc o).alloc o').drew.alloc (.cells #[iv a, iv b] 3)).cell? ⟨w.heap.size + 1 + 1, 1, none⟩ = some (iv b) := fun o o' => by
    have h := al_new ((w.alloc o).alloc o').drew (.cells #[iv a, iv b] 3)
    rw [show ((w.alloc o).alloc o').drew.heap.size = w.heap.size + 1 + 1 by simp] at h
    exact ⟨by rw [Lib.cell_of_heap h]; rfl, by rw [Lib.cell_of_heap h]; rfl⟩
  have NN := Lib.hid NN
  clear C1 C2 C3 E
  go_enter Tryz.func73, Tryz.ntmps73
  go_wp2
  have k0 := al_new w (.cells #[tv p, .int .i64 i, .int .i64 u] 79)
  have k1 := al_new (w.alloc (.cells #[tv p, .int .i64 i, .int .i64 u] 79)) (.cells #[tv q, .int .i64 j, .int .i64 v] 79)
  have c0 : ((w.alloc (.cells #[tv p, .int .i64 i, .int .i64 u] 79)).alloc (.cells #[tv q, .int .i64 j, .int .i64 v] 79)).cell? ⟨w.heap.size, 0, none⟩ = some (tv p) := by rw [World.cell?_of_block (w := w.alloc (.cells #[tv p, .int .i64 i, .int .i64 u] 79)) (Below.heap_alloc _ _ _ (by simp)), Lib.cell_of_heap k0]; rfl
  have c1 : ((w.alloc (.cells #[tv p, .int .i64 i, .int .i64 u] 79)).alloc (.cells #[tv q, .int .i64 j, .int .i64 v] 79)).cell? ⟨w.heap.size, 1, none⟩ = some (iv i) := by rw [World.cell?_of_block (w := w.alloc (.cells #[tv p, .int .i64 i, .int .i64 u] 79)) (Below.heap_alloc _ _ _ (by simp)), Lib.cell_of_heap k0]; rfl
  have sz : (w.alloc (.cells #[tv p, .int .i64 i, .int .i64 u] 79)).heap.size = w.heap.size + 1 := by simp
  rw [sz] at k1
  have c2 : ((w.alloc (.cells #[tv p, .int .i64 i, .int .i64 u] 79)).alloc (.cells #[tv q, .int .i64 j, .int .i64 v] 79)).cell? ⟨w.heap.size + 1, 0, none⟩ = some (tv q) := by rw [Lib.cell_of_heap k1]; rfl
  have c3 : ((w.alloc (.cells #[tv p, .int .i64 i, .int .i64 u] 79)).alloc (.cells #[tv q, .int .i64 j, .int .i64 v] 79)).cell? ⟨w.heap.size + 1, 1, none⟩ = some (iv j) := by rw [Lib.cell_of_heap k1]; rfl
  refine wp_phaseT [false, false, false, false, false, false, false, false, false, false, false, false, false, false] [[]] [Value.pointer (some ⟨w.heap.size, 0, none⟩), Value.pointer (some ⟨w.heap.size, 0, none⟩), tv p, Value.pointer (some ⟨w.heap.size + 1, 0, none⟩), Value.pointer (some ⟨w.heap.size + 1, 0, none⟩), tv q, iv a, Value.pointer (some ⟨w.heap.size, 0, none⟩), Value.pointer (some ⟨w.heap.size, 1, none⟩), iv i, Value.pointer (some ⟨w.heap.size + 1, 0, none⟩), Value.pointer (some ⟨w.heap.size + 1, 1, none⟩), iv j, iv b] [_] 0 14 (by decide) (by kernel_rfl) (by kernel_rfl) (by kernel_rfl) (by kernel_rfl) rfl (by kernel_rfl) (fun _ => by kernel_rfl) (fun _ => by kernel_rfl) rfl rfl ⟨?_, ?_, ?_, ?_, ?_, ?_, ?_, ?_, ?_, ?_, ?_, ?_, ?_, ?_, trivial⟩ rfl (by kernel_rfl) ?_
  · intro kk aa hk E
    have h2 : aa.eval (.tmp 2) = Value.pointer (some ⟨w.heap.size, 0, none⟩) := (E 2 (by kernel_rfl)).trans (by kernel_rfl)
    exact obl_pure (by kernel_rfl) rfl hk fun w => op_faS rfl rfl h2
  · intro kk aa hk E
    have h5 : aa.eval (.tmp 5) = Value.pointer (some ⟨w.heap.size, 0, none⟩) := (E 5 (by kernel_rfl)).trans (by kernel_rfl)
    exact obl_pure (by kernel_rfl) rfl hk fun w => op_faN rfl (.inl rfl) rfl h5
  · intro kk aa hk E
    have h6 : aa.eval (.tmp 6) = Value.pointer (some ⟨w.heap.size, 0, none⟩) := (E 6 (by kernel_rfl)).trans (by kernel_rfl)
    refine obl_read (ks := [0]) (by kernel_rfl) (by kernel_rfl) rfl hk ⟨?_, trivial⟩
    · intro w' hw; cases hw; exact op_load1 rfl (by decide) rfl h6 c0
  · intro kk aa hk E
    have h3 : aa.eval (.tmp 3) = Value.pointer (some ⟨w.heap.size + 1, 0, none⟩) := (E 3 (by kernel_rfl)).trans (by kernel_rfl)
    exact obl_pure (by kernel_rfl) rfl hk fun w => op_faS rfl rfl h3
  · intro kk aa hk E
    have h8 : aa.eval (.tmp 8) = Value.pointer (some ⟨w.heap.size + 1, 0, none⟩) := (E 8 (by kernel_rfl)).trans (by kernel_rfl)
    exact obl_pure (by kernel_rfl) rfl hk fun w => op_faN rfl (.inl rfl) rfl h8
  · intro kk aa hk E
    have h9 : aa.eval (.tmp 9) = Value.pointer (some ⟨w.heap.size + 1, 0, none⟩) := (E 9 (by kernel_rfl)).trans (by kernel_rfl)
    refine obl_read (ks := [0]) (by kernel_rfl) (by kernel_rfl) rfl hk ⟨?_, trivial⟩
    · intro w' hw; cases hw; exact op_load1 rfl (by decide) rfl h9 c2
  · intro kk aa hk E
    have h7 : aa.eval (.tmp 7) = tv p := (E 7 (by kernel_rfl)).trans (by kernel_rfl)
    have h10 : aa.eval (.tmp 10) = tv q := (E 10 (by kernel_rfl)).trans (by kernel_rfl)
    refine obl_call (ks := [0]) (by kernel_rfl) (by kernel_rfl) rfl hk ⟨?_, trivial⟩
    · intro w' hw; cases hw; exact op_callS rfl h7 h10 (H1.out _)
  · intro kk aa hk E
    have h2 : aa.eval (.tmp 2) = Value.pointer (some ⟨w.heap.size, 0, none⟩) := (E 2 (by kernel_rfl)).trans (by kernel_rfl)
    exact obl_pure (by kernel_rfl) rfl hk fun w => op_faS rfl rfl h2
  · intro kk aa hk E
    have h12 : aa.eval (.tmp 12) = Value.pointer (some ⟨w.heap.size, 0, none⟩) := (E 12 (by kernel_rfl)).trans (by kernel_rfl)
    exact obl_pure (by kernel_rfl) rfl hk fun w => op_faN rfl (.inr rfl) rfl h12
  · intro kk aa hk E
    have h13 : aa.eval (.tmp 13) = Value.pointer (some ⟨w.heap.size, 1, none⟩) := (E 13 (by kernel_rfl)).trans (by kernel_rfl)
    refine obl_read (ks := [0]) (by kernel_rfl) (by kernel_rfl) rfl hk ⟨?_, trivial⟩
    · intro w' hw; cases hw; exact op_load1 rfl (by decide) rfl h13 c1
  · intro kk aa hk E
    have h3 : aa.eval (.tmp 3) = Value.pointer (some ⟨w.heap.size + 1, 0, none⟩) := (E 3 (by kernel_rfl)).trans (by kernel_rfl)
    exact obl_pure (by kernel_rfl) rfl hk fun w => op_faS rfl rfl h3
  · intro kk aa hk E
    have h15 : aa.eval (.tmp 15) = Value.pointer (some ⟨w.heap.size + 1, 0, none⟩) := (E 15 (by kernel_rfl)).trans (by kernel_rfl)
    exact obl_pure (by kernel_rfl) rfl hk fun w => op_faN rfl (.inr rfl) rfl h15
  · intro kk aa hk E
    have h16 : aa.eval (.tmp 16) = Value.pointer (some ⟨w.heap.size + 1, 1, none⟩) := (E 16 (by kernel_rfl)).trans (by kernel_rfl)
    refine obl_read (ks := [0]) (by kernel_rfl) (by kernel_rfl) rfl hk ⟨?_, trivial⟩
    · intro w' hw; cases hw; exact op_load1 rfl (by decide) rfl h16 c3
  · intro kk aa hk E
    have h14 : aa.eval (.tmp 14) = iv i := (E 14 (by kernel_rfl)).trans (by kernel_rfl)
    have h17 : aa.eval (.tmp 17) = iv j := (E 17 (by kernel_rfl)).trans (by kernel_rfl)
    refine obl_call (ks := [0]) (by kernel_rfl) (by kernel_rfl) rfl hk ⟨?_, trivial⟩
    · intro w' hw; cases hw; exact op_callI rfl h14 h17 (H2.out _)
  intro af haf
  simp only [List.take_succ_cons, List.take_zero, finA, Act.put, List.setIfInBounds_toArray, List.set_cons_succ, List.set_cons_zero] at haf
  subst haf
  simp only [List.drop_succ_cons, List.drop_zero]
  clear k0 k1 c0 c1 c2 c3 sz
  go_wp2_with (go_at_call 74; refine (H3.out _ _ (NN.out _ _).1 (NN.out _ _).2).mono ?_; rintro e w1 ⟨rfl, rfl⟩)
  go_ret
  exact ⟨rfl, #[Obj.cells #[tv p, .int .i64 i, .int .i64 u] 79, Obj.cells #[tv q, .int .i64 j, .int .i64 v] 79, Obj.cells #[iv a, iv b] 3], grow3 _ _ _ _⟩
end Go.Proofs.YtgboboljgcfggaaGreatDoor
namespace Go.Proofs
open Go.Shelf
def Tryz.sortS_ren : Go.Shelf.Ren := ⟨fun | 6 => 72 | 15 => 97 | 14 => 96 | 28 => 125 | 29 => 126 | 20 => 117 | 21 => 118 | 22 => 119 | 23 => 120 | 24 => 121 | 25 => 122 | 26 => 123 | 27 => 124 | 46 => 154 | 47 => 155 | 48 => 156 | 49 => 157 | 50 => 158 | 57 => 166 | n => n, fun | 22 => 24 | 24 => 79 | 25 => 155 | 3 => 3 | 39 => 181 | 0 => 0 | 53 => 211 | 55 => 42 | 4 => 4 | 46 => 205 | 45 => 204 | 50 => 148 | 5 => 5 | 9 => 9 | 66 => 221 | 70 => 225 | 76 => 230 | 77 => 231 | n => n, fun | n => n⟩
theorem Tryz.sortS : Go.Proofs.SlLaysF0.n6 Tryz.prog Tryz.sortS_ren := {
  mixed := by kernel_rfl
  f6 := ⟨Tryz.f72.name, by decide, Tryz.func72.trans (congrArg some (by kernel_rfl))⟩
  f14 := ⟨Tryz.f96.name, by decide, Tryz.func96.trans (congrArg some (by kernel_rfl))⟩
  f15 := Tryz.func97.trans (congrArg some (by kernel_rfl))
  f20 := ⟨Tryz.f117.name, by decide, Tryz.func117.trans (congrArg some (by kernel_rfl))⟩
  f21 := ⟨Tryz.f118.name, by decide, Tryz.func118.trans (congrArg some (by kernel_rfl))⟩
  f22 := ⟨Tryz.f119.name, by decide, Tryz.func119.trans (congrArg some (by kernel_rfl))⟩
  f23 := ⟨Tryz.f120.name, by decide, Tryz.func120.trans (congrArg some (by kernel_rfl))⟩
  f24 := ⟨Tryz.f121.name, by decide, Tryz.func121.trans (congrArg some (by kernel_rfl))⟩
  f25 := ⟨Tryz.f122.name, by decide, Tryz.func122.trans (congrArg some (by kernel_rfl))⟩
  f26 := ⟨Tryz.f123.name, by decide, Tryz.func123.trans (congrArg some (by kernel_rfl))⟩
  f27 := ⟨Tryz.f124.name, by decide, Tryz.func124.trans (congrArg some (by kernel_rfl))⟩
  f28 := Tryz.func125.trans (congrArg some (by kernel_rfl))
  f29 := Tryz.func126.trans (congrArg some (by kernel_rfl))
  f46 := ⟨Tryz.f154.name, by decide, Tryz.func154.trans (congrArg some (by kernel_rfl))⟩
  f47 := Tryz.func155.trans (congrArg some (by kernel_rfl))
  f48 := Tryz.func156.trans (congrArg some (by kernel_rfl))
  f49 := ⟨Tryz.f157.name, by decide, Tryz.func157.trans (congrArg some (by kernel_rfl))⟩
  f50 := ⟨Tryz.f158.name, by decide, Tryz.func158.trans (congrArg some (by kernel_rfl))⟩
  f57 := ⟨Tryz.f166.name, by decide, Tryz.func166.trans (congrArg some (by kernel_rfl))⟩
  t0 := Tryz.underlying0
  a0 := Tryz.isAgg0
  z0 := Tryz.sizeOf0
  v0 := Tryz.zeroValue0
  t3 := Tryz.underlying3
  a3 := Tryz.isAgg3
  z3 := Tryz.sizeOf3
  v3 := Tryz.zeroValue3
  t4 := Tryz.underlying4
  a4 := Tryz.isAgg4
  z4 := Tryz.sizeOf4
  v4 := Tryz.zeroValue4
  t5 := Tryz.underlying5
  a5 := Tryz.isAgg5
  z5 := Tryz.sizeOf5
  v5 := Tryz.zeroValue5
  t9 := Tryz.underlying9
  a9 := Tryz.isAgg9
  z9 := Tryz.sizeOf9
  v9 := Tryz.zeroValue9
  t22 := Tryz.underlying24
  a22 := Tryz.isAgg24
  z22 := Tryz.sizeOf24
  v22 := Tryz.zeroValue24
  t25 := Tryz.underlying155
  a25 := Tryz.isAgg155
  z25 := Tryz.sizeOf155
  v25 := Tryz.zeroValue155
  t39 := Tryz.underlying181
  a39 := Tryz.isAgg181
  z39 := Tryz.sizeOf181
  v39 := Tryz.zeroValue181
  t45 := Tryz.underlying204
  a45 := Tryz.isAgg204
  z45 := Tryz.sizeOf204
  v45 := Tryz.zeroValue204
  t46 := Tryz.underlying205
  a46 := Tryz.isAgg205
  z46 := Tryz.sizeOf205
  v46 := Tryz.zeroValue205
  t50 := Tryz.underlying148
  a50 := Tryz.isAgg148
  z50 := Tryz.sizeOf148
  v50 := Tryz.zeroValue148
  t53 := Tryz.underlying211
  a53 := Tryz.isAgg211
  z53 := Tryz.sizeOf211
  v53 := Tryz.zeroValue211
  t55 := Tryz.underlying42
  a55 := Tryz.isAgg42
  z55 := Tryz.sizeOf42
  v55 := Tryz.zeroValue42
  t66 := Tryz.underlying221
  a66 := Tryz.isAgg221
  z66 := Tryz.sizeOf221
  v66 := Tryz.zeroValue221
  t70 := Tryz.underlying225
  a70 := Tryz.isAgg225
  z70 := Tryz.sizeOf225
  v70 := Tryz.zeroValue225
  t76 := Tryz.underlying230
  a76 := Tryz.isAgg230
  z76 := Tryz.sizeOf230
  v76 := Tryz.zeroValue230
  t77 := Tryz.underlying231
  a77 := Tryz.isAgg231
  z77 := Tryz.sizeOf231
  v77 := Tryz.zeroValue231 }
end Go.Proofs
namespace Go.Proofs.YtgboboljgcfggaaGreatDoor
open Go.RowKit Go.Shelf Go.Sort

def cfS (x y : Stt) : Int := cN x.pack x.id y.pack y.id
theorem cfS_lt (x y : Stt) : ltOf cfS x y = nmLt x.pack x.id y.pack y.id := by
  have h := cN_lt x.pack x.id y.pack y.id
  unfold ltOf cfS
  cases hq : nmLt x.pack x.id y.pack y.id
  · rw [hq] at h
    simp at h ⊢
    omega
  · rw [hq] at h
    simp at h ⊢
    omega
theorem ltS_iff (x y : Stt) : ltOf cfS x y = true ↔ nlt x y := by rw [cfS_lt]; exact Iff.rfl
theorem swoS : Sort.SWO (ltOf cfS) where
  irrefl x := by
    have h := nlt_irr x
    rw [← ltS_iff] at h
    simpa using h
  trans x y z h k := by
    rw [ltS_iff] at *
    exact nlt_tr h k
  ntrans x y z h k := by
    have h1 : ¬ nlt x y := by rw [← ltS_iff, h]; simp
    have h2 : ¬ nlt y z := by rw [← ltS_iff, k]; simp
    have h3 : ¬ nlt x z := by
      intro h3
      rcases nlt_tri x y with h4 | h4 | h4
      · exact h1 h4
      · apply h2
        rw [nlt_iff] at h3 ⊢
        rw [← h4.1, ← h4.2]
        exact h3
      · exact h2 (nlt_tr h4 h3)
    rw [← ltS_iff] at h3
    simpa using h3
theorem len_any (n : Nat) (W : World) (h : n ≤ 12) : Calls Tryz.prog 97 #[.int .u64 n] W fun e w' => (∃ l : Int, e = .returned (.int .i64 l)) ∧ w' = W := by
  have h64 : Calls Tryz.prog 126 #[.int .u64 n] W fun e w' => (∃ l : Int, e = .returned (.int .i64 l)) ∧ w' = W := by
    rcases n with _ | _ | _ | _ | _ | _ | _ | _ | _ | _ | _ | _ | _ | n
    all_goals first
      | (go_enter Tryz.func126, Tryz.ntmps126
         go_wp2
         go_ret
         exact ⟨⟨_, rfl⟩, rfl⟩)
      | omega
  go_enter Tryz.func97, Tryz.ntmps97
  go_wp2_with (go_at_call 126; refine h64.mono ?_; rintro e w' ⟨⟨l, rfl⟩, rfl⟩)
  go_ret
  exact ⟨⟨_, rfl⟩, rfl⟩
instance : Inhabited Stt := ⟨⟨[], 0, 0⟩⟩
theorem flatK_list (L : List Stt) : (flatK Stt.cs 3 L.toArray).toList = L.flatMap Stt.cs := by
  apply List.ext_getElem?
  intro t
  have hs : (flatK Stt.cs 3 L.toArray).toList.length = L.length * 3 := by simp
  by_cases ht : t < L.length * 3
  · have e0 : t / 3 < L.length := by omega
    have e1 : t % 3 < 3 := Nat.mod_lt _ (by omega)
    have e2 : t / 3 * 3 + t % 3 = t := by omega
    have h1 := get_flatK Stt.cs 3 L.toArray t (by simpa using ht)
    have h2 := flat_at Stt.cs 3 (fun _ => rfl) e1 L (t / 3) (List.getElem?_eq_getElem e0)
    rw [e2] at h2
    rw [h2, Array.getElem?_toList, Array.getElem?_eq_getElem (by simpa using ht)]
    rw [getElem!_pos (flatK Stt.cs 3 L.toArray) t (by simpa using ht)] at h1
    rw [h1, getElem!_pos L.toArray (t / 3) (by simpa using e0)]
    have e3 : t % 3 < (Stt.cs L[t / 3]).length := e1
    rw [List.getElem?_eq_getElem e3]
    rw [List.getElem_toArray]
    exact congrArg some (getElem!_pos (Stt.cs L[t / 3]) (t % 3) e3)
  · rw [List.getElem?_eq_none (by rw [hs]; omega), List.getElem?_eq_none (by rw [flat_len Stt.cs 3 (fun _ => rfl)]; omega)]
theorem put_row {B g cap n : Nat} {L M : List Stt} {w : World} (o : OR 79 3 Stt.cs w B (.slice (some ⟨g, 0, none⟩) n cap) L) (hn : L.length = n) (hm : M.length = n) (q : Nat) (os : Array Obj) :
    OR 79 3 Stt.cs (sortWorldK Stt.cs 3 w g 0 q M.toArray os) B (.slice (some ⟨g, 0, none⟩) n cap) M ∧ w.grownBy (sortWorldK Stt.cs 3 w g 0 q M.toArray os) (some g) := by
  have hlt := (o.lt g rfl).2
  have gr : w.grownBy (sortWorldK Stt.cs 3 w g 0 q M.toArray os) (some g) := by
    refine ⟨rfl, rfl, rfl, ?_, fun k hk hne => ?_⟩
    · simp [sortWorldK, Sort.grow, putRowK, Sort.putRow, Sort.mapBlock, Sort.ahead]
    · rw [sortWorldK, Sort.heap_grow_old _ _ (by simpa [putRowK, Sort.putRow, Sort.mapBlock, Sort.ahead] using hk)]
      simp only [putRowK, Sort.putRow, Sort.mapBlock, Sort.ahead, Array.getElem?_modify]
      rw [if_neg (fun e => hne (by rw [e]))]
  refine ⟨?_, gr⟩
  have h2 := o
  unfold OR at h2 ⊢
  rw [hn] at h2
  rw [hm]
  obtain ⟨e0, e1⟩ := h2
  refine ⟨by rw [flat_len Stt.cs 3 (fun _ => rfl), hm], ?_⟩
  rcases e1 with ⟨e1, -⟩ | ⟨g', cap', cur, e1, hb, hh, hnc, hmx, hs, hx⟩
  · cases e1
  · simp only [Value.slice.injEq, Option.some.injEq, Addr.mk.injEq, and_true, true_and] at e1
    obtain ⟨rfl, rfl⟩ := e1
    refine .inr ⟨g, cap, Sort.putCells id 0 (flatK Stt.cs 3 M.toArray) cur, rfl, hb, ?_, hnc, hmx, by simpa [Sort.putCells] using hs, ?_⟩
    · rw [sortWorldK, Sort.heap_grow_old _ _ (by simpa [putRowK, Sort.putRow, Sort.mapBlock, Sort.ahead] using hlt)]
      simp only [putRowK, Sort.putRow, Sort.mapBlock, Sort.ahead, Array.getElem?_modify, if_true, hh, Option.map_some, Sort.onCells]
    · rw [← flatK_list]
      apply List.ext_getElem?
      intro t
      have hsz : (flatK Stt.cs 3 M.toArray).size = n * 3 := by simp [hm]
      rw [List.getElem?_take]
      by_cases ht : t < n * 3
      · rw [if_pos ht]
        have hc : t < cur.size := by omega
        rw [Array.getElem?_toList, Array.getElem?_toList, Array.getElem?_eq_getElem (by simpa [Sort.putCells] using hc), Array.getElem?_eq_getElem (by omega)]
        simp only [Sort.putCells, Array.getElem_mapIdx]
        rw [if_pos (by omega), Nat.sub_zero, getElem!_pos _ _ (by omega)]
        rfl
      · rw [if_neg ht, List.getElem?_eq_none (by simp [hm]; omega)]
theorem sort_nil (w : World) : Calls Tryz.prog 72 #[.slice none 0 0, .func (.func 73) #[] #[]] w fun e w' => e = .returned (.tuple #[]) ∧ w' = w := by
  have hi : Calls Tryz.prog 117 #[.slice none 0 0, .int .i64 0, .int .i64 0, .func (.func 73) #[] #[]] w fun e w' => e = .returned (.tuple #[]) ∧ w' = w := by
    go_enter Tryz.func117, Tryz.ntmps117
    go_wp2
    refine wp_loop_rounds 1 ?_
    rw [rounds_succ]
    go_wp2
    go_end0
    exact ⟨rfl, rfl⟩
  have hp : ∀ l : Int, Calls Tryz.prog 96 #[.slice none 0 0, .int .i64 0, .int .i64 0, .int .i64 l, .func (.func 73) #[] #[]] w fun e w' => e = .returned (.tuple #[]) ∧ w' = w := fun l => by
    go_enter Tryz.func96, Tryz.ntmps96
    go_wp2
    refine wp_loop_rounds 1 ?_
    rw [rounds_succ]
    go_wp2_with (go_at_call 117; refine hi.mono ?_; rintro e w' ⟨rfl, hw⟩; have hw := hw.symm; subst hw)
    (try simp only [Exit.inBlock, Exit.then]); refine bodyPost_ret (results_none rfl _ _ _) rfl ?_
    exact ⟨rfl, rfl⟩
  have hl := len_any 0 w (by omega)
  go_enter Tryz.func72, Tryz.ntmps72
  go_wp2_with (first | (go_at_call 97; refine hl.mono ?_; rintro e w' ⟨⟨l, rfl⟩, hw⟩; have hw := hw.symm; subst hw) | (go_at_call 96; refine (hp _).mono ?_; rintro e w' ⟨rfl, hw⟩; have hw := hw.symm; subst hw))
  go_end0
  exact ⟨rfl, rfl⟩
/-- SortFunc of a row of the call's own. -/
theorem sort_own (B : Nat) (v : Value) (L : List Stt) (w : World) (o : OR 79 3 Stt.cs w B v L) (hl : L.length ≤ 12) :
    Calls Tryz.prog 72 #[v, .func (.func 73) #[] #[]] w fun e w' => e = .returned (.tuple #[]) ∧ ∃ M : List Stt, M.Perm L ∧ M.Pairwise (fun a b => ¬ nlt b a) ∧ OR 79 3 Stt.cs w' B v M ∧ w.grownBy w' v.ownBlock := by
  rcases o.2 with ⟨rfl, h⟩ | ⟨b, cap, cur, rfl, hg, hh, hnc, hm, hs, hx⟩
  · obtain rfl := List.eq_nil_of_length_eq_zero h
    refine (sort_nil w).mono ?_
    rintro e w' ⟨rfl, rfl⟩
    exact ⟨rfl, [], .nil, .nil, OR.nil, World.grownBy.refl _ _⟩
  · have eg : ∀ args w, (callFunc 73 args).run Tryz.prog w = .ok (.enter 73 args) w := enters_of Tryz.func73 (by kernel_rfl) rfl
    have hH : HoldsK Stt.cs 3 w b 0 L.toArray := by
      intro t ht
      have ho : w.ownsRow B 79 3 (.slice (some ⟨b, 0, none⟩) L.length cap) L.length (L.flatMap Stt.cs) := o
      have ht' : t < L.length * 3 := by simpa using ht
      refine ⟨?_, by rw [Nat.zero_add]; exact ho.frozenAt t⟩
      rw [Nat.zero_add, ho.cellAt t ht', ← flatK_list, Array.getElem?_toList, Array.getElem?_eq_getElem ht, getElem!_pos (flatK Stt.cs 3 L.toArray) t ht]
      rfl
    have hcmp : CmpLays Tryz.prog 73 #[] Stt.cs 3 cfS b 0 L.toArray.size w := fun m os dk _ x y => by
      refine (cmpStt_any x.pack x.id x.block y.pack y.id y.block _).mono ?_
      rintro e w' ⟨he, os', hw⟩
      exact ⟨he, 1, os', hw⟩
    have hcon := AnyQ.slices_SortFunc_small_sorted Tryz.sortS 3 Tryz.isAgg79 Tryz.sizeOf79 Stt.cs (fun _ => rfl) (fun x u hu => by
      simp only [Stt.cs, List.mem_cons, List.not_mem_nil, or_false] at hu
      rcases hu with rfl | rfl | rfl <;> rfl) cfS 73 #[] swoS b 0 cap L.toArray w eg hcmp hH (heap_lt hh) (by simpa using hl) len_any
    change Calls Tryz.prog 72 _ _ _ at hcon
    refine (show Calls Tryz.prog 72 #[.slice (some ⟨b, 0, none⟩) L.toArray.size cap, .func (.func 73) #[] #[]] w _ from hcon).mono ?_
    rintro e w' ⟨rfl, d', n, os, ⟨hsz, -, hp⟩, hsrt, rfl⟩
    have hsz2 : d'.size = L.length := by simpa using hsz
    have e1 : d'.extract 0 L.toArray.size = d' := by rw [← hsz]; simp
    have e2 : L.toArray.extract 0 L.toArray.size = L.toArray := by simp
    rw [e1, e2] at hp
    have hpl : d'.toList.Perm L := by simpa using hp
    obtain ⟨h1, h2⟩ := put_row o rfl (M := d'.toList) (by simpa using hsz2) n os
    refine ⟨rfl, d'.toList, hpl, ?_, h1, h2⟩
    rw [List.pairwise_iff_getElem]
    intro i j hi hj hij
    have h3 := hsrt i j (Nat.zero_le _) hij (by rw [← hsz]; simpa using hj)
    rw [getElem!_pos d' j (by simpa using hj), getElem!_pos d' i (by simpa using hi)] at h3
    rw [← ltS_iff]
    simpa using h3
end Go.Proofs.YtgboboljgcfggaaGreatDoor
namespace Go.Proofs.YtgboboljgcfggaaGreatDoor
open Go.RowKit

theorem cmpS_snoc (x y : Stt) : ∀ l : List Stt, cmpS (l ++ [y, x]) = if y = x then cmpS (l ++ [y]) else cmpS (l ++ [y]) ++ [x]
  | [] => by
    simp only [List.nil_append, cmpS]
    split
    · rename_i h; subst h; rfl
    · rfl
  | [z] => by
    show cmpS [z, y, x] = if y = x then cmpS [z, y] else cmpS [z, y] ++ [x]
    by_cases h1 : z = y <;> by_cases h2 : y = x <;> simp [cmpS, h1, h2]
  | z :: u :: l => by
    have ih := cmpS_snoc x y (u :: l)
    simp only [List.cons_append] at ih ⊢
    rw [cmpS, cmpS, ih]
    by_cases h1 : z = u <;> by_cases h2 : y = x <;> simp [h1, h2]
theorem cmpS_take {L : List Stt} {k : Nat} {x y : Stt} (hx : L[k + 1]? = some x) (hy : L[k]? = some y) : cmpS (L.take (k + 1 + 1)) = if y = x then cmpS (L.take (k + 1)) else cmpS (L.take (k + 1)) ++ [x] := by
  rw [List.take_add_one (i := k + 1), List.take_add_one (i := k), hx, hy]
  have h := cmpS_snoc x y (L.take k)
  simpa using h
theorem take_one_cmp (L : List Stt) : cmpS (L.take 1) = L.take 1 := by
  cases L with
  | nil => rfl
  | cons a l => simp [cmpS]
/-- The inner loop's word: what the row holds. -/
structure CI (B g cap n : Nat) (L : List Stt) (w : World) (j kk : Nat) (V : World) : Prop where
  ex : ∃ C : List Stt, OR 79 3 Stt.cs V B (.slice (some ⟨g, 0, none⟩) n cap) C ∧ C.length = n ∧ C.take kk = cmpS (L.take j) ∧ C.drop kk = L.drop kk
  g : w.grownBy V (some g)
  lt : kk < j
  pos : 1 ≤ kk
theorem grb_trans {w V U : World} {r : Option Nat} (h : w.grownBy V r) (k : V.grownBy U r) : w.grownBy U r := h.trans k
theorem CI.at {B g cap n : Nat} {L : List Stt} {w V : World} {j kk : Nat} (h : CI B g cap n L w j kk V) {i : Nat} (hi : kk ≤ i) (hn : i < n) {x : Stt} (hx : L[i]? = some x) : V.cell? ⟨g, i * 3, none⟩ = some (.string ⟨x.pack.toArray⟩) ∧ V.cell? ⟨g, i * 3 + 1, none⟩ = some (.int .i64 x.id) ∧ V.cell? ⟨g, i * 3 + 2, none⟩ = some (.int .i64 x.block) ∧ ∀ j, V.frozen? ⟨g, j, none⟩ = false := by
  obtain ⟨C, ho, hc, -, hd⟩ := h.ex
  have hxi : C[i]? = some x := by
    have h1 := congrArg (fun l => l[i - kk]?) hd
    simp only [List.getElem?_drop, show kk + (i - kk) = i from by omega] at h1
    rw [h1, hx]
  have ho' : V.ownsRow B 79 3 (.slice (some ⟨g, 0, none⟩) n cap) n (C.flatMap Stt.cs) := by have h2 := ho; unfold OR at h2; rwa [hc] at h2
  have q : ∀ m u, m < 3 → (Stt.cs x)[m]? = some u → V.cell? ⟨g, i * 3 + m, none⟩ = some u := fun m u hm hu => by
    rw [ho'.cellAt (i * 3 + m) (by omega), flat_at Stt.cs 3 (fun _ => rfl) hm C i hxi]
    exact hu
  exact ⟨q 0 _ (by omega) rfl, q 1 _ (by omega) rfl, q 2 _ (by omega) rfl, fun m => ho'.frozenAt m⟩
theorem flat_set {C : List Stt} {k : Nat} (x : Stt) (h : k < C.length) : (((C.flatMap Stt.cs).set (k * 3) (tv x.pack)).set (k * 3 + 1) (iv x.id)).set (k * 3 + 2) (iv x.block) = (C.set k x).flatMap Stt.cs := by
  induction C generalizing k with
  | nil => simp at h
  | cons a C ih =>
    cases k with
    | zero => simp [Stt.cs]
    | succ k =>
      have h2 := ih (k := k) (by simpa using h)
      rw [List.set_cons_succ, List.flatMap_cons, List.flatMap_cons, ← h2]
      simp only [Stt.cs, Nat.succ_mul, List.cons_append, List.nil_append]
      rw [show k * 3 + 3 + 1 = k * 3 + 1 + 3 from by omega, show k * 3 + 3 + 2 = k * 3 + 2 + 3 from by omega]
      simp
theorem CI.put {B g cap n : Nat} {L : List Stt} {w V : World} {j kk : Nat} (h : CI B g cap n L w j kk V) (hj : j < n) {x : Stt} (hn : cmpS (L.take (j + 1)) = cmpS (L.take j) ++ [x]) : CI B g cap n L w (j + 1) (kk + 1) (((V.setCell ⟨g, kk * 3, none⟩ (tv x.pack)).setCell ⟨g, kk * 3 + 1, none⟩ (iv x.id)).setCell ⟨g, kk * 3 + 2, none⟩ (iv x.block)) := by
  obtain ⟨C, ho, hc, ht, hd⟩ := h.ex
  have hlt := h.lt
  have ho' : V.ownsRow B 79 3 (.slice (some ⟨g, 0, none⟩) n cap) n (C.flatMap Stt.cs) := by have h2 := ho; unfold OR at h2; rwa [hc] at h2
  have s1 := ho'.stored (kk * 3) (tv x.pack)
  have s2 := s1.1.stored (kk * 3 + 1) (iv x.id)
  have s3 := s2.1.stored (kk * 3 + 2) (iv x.block)
  refine ⟨⟨C.set kk x, ?_, by simpa using hc, ?_, ?_⟩, ((h.g.trans s1.2).trans s2.2).trans s3.2, by omega, by have := h.pos; omega⟩
  · unfold OR
    rw [List.length_set, hc, ← flat_set x (by omega)]
    exact s3.1
  · rw [hn, ← ht, List.take_add_one, List.getElem?_set_self (by omega), List.take_set_of_le (by omega)]
    rfl
  · rw [List.drop_set_of_lt (by omega)]
    have h1 := congrArg (fun l => l.drop 1) hd
    simpa only [List.drop_drop] using h1
theorem CI.skip {B g cap n : Nat} {L : List Stt} {w V : World} {j kk : Nat} (h : CI B g cap n L w j kk V) (hn : cmpS (L.take (j + 1)) = cmpS (L.take j)) : CI B g cap n L w (j + 1) kk V :=
  ⟨by rw [hn]; exact h.ex, h.g, by have := h.lt; omega, h.pos⟩
theorem CI.drewN {B g cap n : Nat} {L : List Stt} {w V : World} {j kk : Nat} (h : CI B g cap n L w j kk V) (m : Nat) : CI B g cap n L w j kk (V.drewN m) := by
  obtain ⟨C, ho, r⟩ := h.ex
  exact ⟨⟨C, ho.gr (gr_drewN _ _), r⟩, h.g.trans (World.grownBy.but (gr_drewN _ _) _), h.lt, h.pos⟩
theorem setCells_row {B g cap n : Nat} {xs : List Value} : ∀ (vs : List Value) (o : Nat) (V : World), V.ownsRow B 79 3 (.slice (some ⟨g, 0, none⟩) n cap) n xs → xs.length ≤ o → (V.setCells g o vs).ownsRow B 79 3 (.slice (some ⟨g, 0, none⟩) n cap) n xs ∧ V.grownBy (V.setCells g o vs) (some g)
  | [], o, V, h, _ => ⟨h, World.grownBy.refl _ _⟩
  | u :: vs, o, V, h, ho => by
    have s1 := h.stored o u
    rw [List.set_eq_of_length_le ho] at s1
    have s2 := setCells_row vs (o + 1) _ s1.1 (by omega)
    rw [World.setCells]
    exact ⟨s2.1, s1.2.trans s2.2⟩
/-- The end: what is behind goes. -/
theorem CI.cut {B g cap n : Nat} {L : List Stt} {w V : World} {kk : Nat} (h : CI B g cap n L w n kk V) (hl : L.length = n) (vs : List Value) : ∃ c', OR 79 3 Stt.cs (V.setCells g (kk * 3) vs) B (.slice (some ⟨g, 0, none⟩) kk cap) (cmpS L) ∧ kk = (cmpS L).length ∧ w.grownBy (V.setCells g (kk * 3) vs) (some g) ∧ c' = cap := by
  obtain ⟨C, ho, hc, ht, hd⟩ := h.ex
  have hlt := h.lt
  rw [List.take_of_length_le (Nat.le_of_eq hl)] at ht
  have hk : (cmpS L).length = kk := by rw [← ht, List.length_take]; omega
  have h2 := ho
  unfold OR at h2
  rw [hc] at h2
  have h3 : V.ownsRow B 79 3 (.slice (some ⟨g, 0, none⟩) kk cap) kk ((cmpS L).flatMap Stt.cs) := by
    obtain ⟨e0, e1⟩ := h2
    refine ⟨by rw [flat_len Stt.cs 3 (fun _ => rfl), hk], ?_⟩
    rcases e1 with ⟨e1, -⟩ | ⟨g', cap', cur, e1, hb, hh, hnc, hm, hs, hx⟩
    · cases e1
    · simp only [Value.slice.injEq, Option.some.injEq, Addr.mk.injEq, and_true, true_and] at e1
      obtain ⟨rfl, rfl⟩ := e1
      refine .inr ⟨g, cap, cur, rfl, hb, hh, by omega, hm, hs, ?_⟩
      rw [← ht]
      have e5 : cur.toList.take (kk * 3) = (cur.toList.take (n * 3)).take (kk * 3) := by rw [List.take_take, Nat.min_eq_left (by omega)]
      rw [e5, hx]
      conv => lhs; rw [← List.take_append_drop kk C]
      rw [List.flatMap_append, List.take_append_of_le_length (by rw [flat_len Stt.cs 3 (fun _ => rfl), List.length_take, hc]; omega)]
      rw [List.take_of_length_le (by rw [flat_len Stt.cs 3 (fun _ => rfl), List.length_take, hc]; omega)]
  have h4 := setCells_row vs (kk * 3) V h3 (by rw [flat_len Stt.cs 3 (fun _ => rfl), hk]; exact Nat.le_refl _)
  exact ⟨cap, by unfold OR; rw [hk]; exact h4.1, hk.symm, h.g.trans h4.2, rfl⟩
end Go.Proofs.YtgboboljgcfggaaGreatDoor
namespace Go.Proofs.YtgboboljgcfggaaGreatDoor
open Go.RowKit
theorem stt_ne {x y : Stt} (h : x ≠ y) : (x.pack == y.pack) = false ∨ ((x.pack == y.pack) = true ∧ (x.id == y.id) = false) ∨ ((x.pack == y.pack) = true ∧ (x.id == y.id) = true ∧ (x.block == y.block) = false) := by
  obtain ⟨a, b, c⟩ := x
  obtain ⟨d, e, f⟩ := y
  by_cases h1 : a = d
  · by_cases h2 : b = e
    · right; right
      refine ⟨by simpa using h1, by simpa using h2, ?_⟩
      simpa using fun h3 => h (by rw [h1, h2, h3])
    · right; left
      exact ⟨by simpa using h1, by simpa using h2⟩
  · left
    simpa using h1
/-- What Compact leaves. -/
def CpP (B g cap : Nat) (L : List Stt) (w : World) (e : Ending) (w' : World) : Prop := e = .returned (.slice (some ⟨g, 0, none⟩) (cmpS L).length cap) ∧ OR 79 3 Stt.cs w' B (.slice (some ⟨g, 0, none⟩) (cmpS L).length cap) (cmpS L) ∧ w.grownBy w' (some g)
theorem CpP.same {B g cap n : Nat} {L : List Stt} {w w' : World} (h : OR 79 3 Stt.cs w B (.slice (some ⟨g, 0, none⟩) n cap) L) (hn : L.length = n) (e : cmpS L = L) (hg : Gr w w') : CpP B g cap L w (.returned (.slice (some ⟨g, 0, none⟩) n cap)) w' := by
  unfold CpP
  rw [e, hn]
  exact ⟨rfl, h.gr hg, World.grownBy.but hg _⟩
theorem clear_row {B g cap n kk : Nat} {L : List Stt} {w V : World} (h : CI B g cap n L w n kk V) (hk : kk < n) (ty : TypeId) (c : Nat) : ∃ vs, (Builtin.clear_ #[24] ty #[.slice (some ⟨g, kk * 3, none⟩) (n - kk) c]).run Tryz.prog V = .ok (.tuple #[]) (V.setCells g (kk * 3) vs) := by
  obtain ⟨C, ho, hc, -, -⟩ := h.ex
  have ho' : V.ownsRow B 79 3 (.slice (some ⟨g, 0, none⟩) n cap) n (C.flatMap Stt.cs) := by have h2 := ho; unfold OR at h2; rwa [hc] at h2
  have hz : ∀ W, (zeroValue 79).run Tryz.prog W = .ok (.agg #[.string ⟨#[]⟩, iv 0, iv 0]) W := Tryz.zeroValue79
  obtain ⟨vs, hvs⟩ : ∃ vs, (Builtin.zeroCells (Value.agg #[.string ⟨#[]⟩, iv 0, iv 0]).cells (n - kk)).toList = vs := ⟨_, rfl⟩
  have hlen : vs.length = (n - kk) * 3 := by rw [← hvs]; simp [Builtin.zeroCells, Value.cells]
  have h1 : ∀ v ∈ vs, v.oneCell' = true := by
    intro v hv
    rw [← hvs] at hv
    simp [Builtin.zeroCells, Value.cells] at hv
    obtain ⟨a, _, rfl⟩ := hv
    have h3 : a % 3 < 3 := Nat.mod_lt _ (by omega)
    generalize a % 3 = q at h3
    rcases q with _ | _ | _ | q
    · rfl
    · rfl
    · rfl
    · omega
  have hst := run_storeCells_cells (P := Tryz.prog) g (kk * 3) vs 0 V (fun j hj => by
      rw [Nat.add_zero]
      rw [ho'.cellAt _ (by omega)]
      rw [List.getElem?_eq_getElem (by rw [flat_len Stt.cs 3 (fun _ => rfl), hc]; omega)]
      rfl) (fun j _ => ho'.frozenAt _) h1
  simp only [Nat.add_zero] at hst
  obtain ⟨d, hd⟩ : ∃ d, n - kk = d + 1 := ⟨n - kk - 1, by omega⟩
  refine ⟨vs, ?_⟩
  rw [hd] at hvs ⊢
  simp [Builtin.clear_, run_underlying Tryz.underlying24, hz, hvs, hst]
attribute [local irreducible] Calls in
set_option maxRecDepth 100000 in
set_option maxHeartbeats 4000000 in
theorem compact_any (B g cap n : Nat) (L : List Stt) (w : World) (o : OR 79 3 Stt.cs w B (.slice (some ⟨g, 0, none⟩) n cap) L) (hn : L.length = n) (hl : n ≤ 100000) (hc : n ≤ cap) (hcm : cap ≤ 9223372036854775807) :
    Calls Tryz.prog 77 #[.slice (some ⟨g, 0, none⟩) n cap] w (CpP B g cap L w) := by
  have HN := Lib.hid hn
  have HO := Lib.hid o
  have HR := Lib.hid (show ∀ V, Gr w V → ∀ k x, L[k]? = some x → V.cell? ⟨g, k * 3, none⟩ = some (.string ⟨x.pack.toArray⟩) ∧ V.cell? ⟨g, k * 3 + 1, none⟩ = some (.int .i64 x.id) ∧ V.cell? ⟨g, k * 3 + 2, none⟩ = some (.int .i64 x.block) from fun V gv k x h => by
    obtain ⟨A0, c0, e0, hr⟩ := OR.form (cs := Stt.cs) (n := 3) (fun _ => rfl) (o.gr gv)
    cases e0
    obtain ⟨hkl, hx⟩ := List.getElem?_eq_some_iff.1 h
    obtain ⟨a, a1, e1, e2, -, q0, q1, q2⟩ := hr.stt hkl
    cases e1
    rw [hx] at q0 q1 q2
    have ea : a1 = ⟨g, k * 3, none⟩ := by
      rw [← e2]
      by_cases h0 : k * 3 = 0
      · rw [h0]; rfl
      · rw [fld_add _ _ h0]; simp
    subst ea
    exact ⟨q0, q1, q2⟩)
  clear hn o
  by_cases h2 : n < 2
  · have hs := CpP.same (w' := w) HO.out HN.out (by
      have h3 := take_one_cmp L
      have h4 := HN.out
      rwa [List.take_of_length_le (by omega)] at h3) (gr_refl _)
    have HS := Lib.hid hs
    clear hs
    go_enter Tryz.func77, Tryz.ntmps77
    go_wp2
    go_ret
    exact HS.out
  · go_enter Tryz.func77, Tryz.ntmps77
    go_wp2
    go_loopw [3] (fun u V => ∃ k : Nat, 1 ≤ k ∧ k ≤ n ∧ u = .int .i64 k ∧ Hid (Gr w V ∧ cmpS (L.take k) = L.take k)) (fun u _ => n - (intOf u).toNat)
    case atStart => exact ⟨1, Nat.le_refl _, by omega, rfl, Lib.hid ⟨gr_refl _, take_one_cmp L⟩⟩
    case round =>
      obtain ⟨k, hk1, hk, rfl, HG⟩ := hrel
      by_cases hlt : k < n
      · obtain ⟨j, rfl⟩ : ∃ j, k = j + 1 := ⟨k - 1, by omega⟩
        obtain ⟨x, hx⟩ : ∃ x, L[j + 1]? = some x := ⟨_, List.getElem?_eq_getElem (by rw [HN.out]; exact hlt)⟩
        obtain ⟨y, hy⟩ : ∃ y, L[j]? = some y := ⟨_, List.getElem?_eq_getElem (by rw [HN.out]; omega)⟩
        obtain ⟨x0, x1, x2⟩ := HR.out _ HG.out.1 (j + 1) x hx
        obtain ⟨y0, y1, y2⟩ := HR.out _ HG.out.1 j y hy
        have HX := Lib.hid (show L[j + 1]? = some x ∧ L[j]? = some y from ⟨hx, hy⟩)
        clear hx hy
        by_cases hxy : x = y
        · subst hxy
          have HE := Lib.hid (show cmpS (L.take (j + 1 + 1)) = L.take (j + 1) from by rw [cmpS_take HX.out.1 HX.out.2, if_pos rfl, HG.out.2])
          go_upto_region 6 with (fail)
          go_quiet (fail)
          generalize hV : World.drewN wr _ = V1
          have G1 := Lib.hid (show Gr w V1 from by rw [← hV]; exact HG.out.1.trans (gr_drewN _ _))
          clear hV x0 x1 x2 y0 y1 y2
          go_wp2
          go_loopw [3, 5] (fun u v V => ∃ kk m : Nat, j + 2 + m ≤ n ∧ u = .int .i64 kk ∧ v = .int .i64 ((m + 1 : Nat) : Int) ∧ Hid (CI B g cap n L w (j + 2 + m) kk V)) (fun _ v _ => n - (intOf v).toNat)
          case atStart => exact ⟨j + 1, 0, by omega, rfl, rfl, Lib.hid ⟨⟨L, HO.out.gr G1.out, HN.out, HE.out.symm, rfl⟩, World.grownBy.but G1.out _, by omega, by omega⟩⟩
          case round =>
            obtain ⟨kk, m, hm, rfl, rfl, HC⟩ := hrel
            have hkk := HC.out.lt
            by_cases hlt2 : j + 2 + m < n
            · obtain ⟨x2, hx2⟩ : ∃ x, L[j + 2 + m]? = some x := ⟨_, List.getElem?_eq_getElem (by rw [HN.out]; exact hlt2)⟩
              obtain ⟨y2, hy2⟩ : ∃ y, L[j + 1 + m]? = some y := ⟨_, List.getElem?_eq_getElem (by rw [HN.out]; omega)⟩
              obtain ⟨p0, p1, p2, fz⟩ := HC.out.at (by omega) hlt2 hx2
              obtain ⟨q0, q1, q2, -⟩ := HC.out.at (i := j + 1 + m) (by omega) (by omega) hy2
              rw [show (j + 2 + m) * 3 = (j + 1) * 3 + (m + 1) * 3 from by omega] at p0 p1 p2
              rw [show (j + 1 + m) * 3 = (j + 1) * 3 + m * 3 from by omega] at q0 q1 q2
              obtain ⟨n2, hn2⟩ : ∃ n2, n - (j + 1) = n2 := ⟨_, rfl⟩
              have hm2 : m + 1 < n2 := by omega
              have hkn : kk < n := by omega
              obtain ⟨z, hz⟩ : ∃ z, L[kk]? = some z := ⟨_, List.getElem?_eq_getElem (by rw [HN.out]; exact hkn)⟩
              obtain ⟨r0, r1, r2, -⟩ := HC.out.at (i := kk) (by omega) hkn hz
              have f0 := fz (kk * 3)
              have f1 := fz (kk * 3 + 1)
              have f2 := fz (kk * 3 + 2)
              have TK := Lib.hid (cmpS_take (k := j + 1 + m) (by rw [show j + 1 + m + 1 = j + 2 + m from by omega]; exact hx2) hy2)
              rw [hn2]
              clear fz hx2 hy2 hz
              by_cases he : x2 = y2
              · subst he
                have CN := Lib.hid (HC.out.skip (by
                  have h := TK.out
                  rw [if_pos rfl] at h
                  rw [show j + 2 + m + 1 = j + 1 + m + 1 + 1 from by omega, show j + 2 + m = j + 1 + m + 1 from by omega]
                  exact h))
                go_upto_region 11 with (fail)
                go_quiet (fail)
                go_wp2
                exact ⟨⟨kk, m + 1, by omega, rfl, by simp, Lib.hid (CN.out.drewN _)⟩, by simp [intOf]; omega⟩
              · have CN := Lib.hid (fun e => HC.out.drewN e)
                have NE := Lib.hid (stt_ne he)
                have NX := Lib.hid (show cmpS (L.take (j + 2 + m + 1)) = cmpS (L.take (j + 2 + m)) ++ [x2] from by
                  have h := TK.out
                  rw [if_neg (fun e => he e.symm)] at h
                  rw [show j + 2 + m + 1 = j + 1 + m + 1 + 1 from by omega, show j + 2 + m = j + 1 + m + 1 from by omega]
                  exact h)
                clear he
                rcases NE.out with e1 | ⟨e1, e2⟩ | ⟨e1, e2, e3⟩
                all_goals go_upto_region 11 with (fail)
                all_goals go_quiet (fail)
                all_goals go_wp2
                all_goals exact ⟨⟨kk + 1, m + 1, by omega, by simp, by simp, Lib.hid ((CN.out _).put hlt2 NX.out)⟩, by simp [intOf]; omega⟩
            · have hjn : j + 2 + m = n := by omega
              have HC2 := Lib.hid (show CI B g cap n L w n kk wr from by rw [← hjn] at HC ⊢; exact HC.out)
              have hkn : kk < n := by omega
              obtain ⟨vs, cl⟩ := clear_row HC2.out hkn 0 (cap - kk)
              have n1 : n - (j + 1) = m + 1 := by omega
              rw [n1]
              go_wp2
              go_ret
              obtain ⟨c', h1, h2, h3, -⟩ := HC2.out.cut HN.out vs
              exact ⟨by rw [h2]; rfl, by rw [← h2]; exact h1, h3⟩
        · have NE := Lib.hid (stt_ne hxy)
          have NX := Lib.hid (show cmpS (L.take (j + 1 + 1)) = L.take (j + 1 + 1) from by rw [cmpS_take HX.out.1 HX.out.2, if_neg (fun e => hxy e.symm), HG.out.2, List.take_add_one (i := j + 1), HX.out.1]; rfl)
          clear hxy
          rcases NE.out with e1 | ⟨e1, e2⟩ | ⟨e1, e2, e3⟩
          all_goals go_upto_region 6 with (fail)
          all_goals go_quiet (fail)
          all_goals go_wp2
          all_goals exact ⟨⟨j + 1 + 1, by omega, by omega, by simp, Lib.hid ⟨HG.out.1.trans (gr_drewN _ _), NX.out⟩⟩, by simp [intOf]; omega⟩
      · obtain rfl : n = k := by omega
        have hs := CpP.same (w' := wr) HO.out HN.out (by
          have h := HG.out.2
          rwa [List.take_of_length_le (Nat.le_of_eq HN.out)] at h) HG.out.1
        have HS := Lib.hid hs
        clear hs
        go_wp2
        go_ret
        exact HS.out

theorem compact_nil (w : World) : Calls Tryz.prog 77 #[.slice none 0 0] w fun e w' => e = .returned (.slice none 0 0) ∧ w' = w := by
  go_enter Tryz.func77, Tryz.ntmps77
  go_wp2
  go_ret
  exact ⟨rfl, rfl⟩
/-- Compact of a row of the call's own. -/
theorem compact_own (B : Nat) (v : Value) (L : List Stt) (w : World) (o : OR 79 3 Stt.cs w B v L) (hl : L.length ≤ 100000) :
    Calls Tryz.prog 77 #[v] w fun e w' => ∃ v', e = .returned v' ∧ OR 79 3 Stt.cs w' B v' (cmpS L) ∧ w.grownBy w' v.ownBlock := by
  rcases o.2 with ⟨rfl, h⟩ | ⟨g, cap, cur, rfl, hg, hh, hnc, hm, hs, hx⟩
  · obtain rfl := List.eq_nil_of_length_eq_zero h
    refine (compact_nil w).mono ?_
    rintro e w' ⟨rfl, rfl⟩
    exact ⟨_, rfl, OR.nil, World.grownBy.refl _ _⟩
  · refine (compact_any B g cap L.length L w o rfl hl hnc (by unfold maxLen at hm; omega)).mono ?_
    rintro e w' ⟨rfl, h2, h3⟩
    exact ⟨_, rfl, h2, h3⟩
end Go.Proofs.YtgboboljgcfggaaGreatDoor
namespace Go.Proofs.YtgboboljgcfggaaGreatDoor
open Go.RowKit

theorem elT : EL 24 79 3 Stt.cs where
  hn _ := rfl
  h1 x u hu := by
    simp only [Stt.cs, List.mem_cons, List.not_mem_nil, or_false] at hu
    rcases hu with rfl | rfl | rfl <;> rfl
  ht := Tryz.underlying24
  hi := ⟨.agg #[.string ⟨#[]⟩, iv 0, iv 0], 32, by kernel_rfl, rfl, by decide⟩
  h0 := by decide
theorem insS_skip {s : Stt} : ∀ (P R : List Stt), (∀ x ∈ P, nmLt x.pack x.id s.pack s.id = true) → insS (P ++ R) s = P ++ insS R s
  | [], _, _ => rfl
  | x :: P, R, h => by
    rw [List.cons_append, insS, if_pos (h x (by simp)), insS_skip P R (fun y hy => h y (by simp [hy]))]
    rfl
theorem insS_end {L : List Stt} {s : Stt} {k : Nat} (h : ∀ x ∈ L.take k, nmLt x.pack x.id s.pack s.id = true) (hk : L.length = k) : insS L s = [] ++ L.take k ++ [s] ++ L.drop k := by
  have h1 := insS_skip (L.take k) (L.drop k) h
  rw [List.take_append_drop] at h1
  rw [h1, List.drop_eq_nil_of_le (by omega)]
  simp [insS]
theorem insS_mid {L : List Stt} {s y : Stt} {k : Nat} (h : ∀ x ∈ L.take k, nmLt x.pack x.id s.pack s.id = true) (hy : L[k]? = some y) (hn : nmLt y.pack y.id s.pack s.id = false) (hne : ¬ (y.pack = s.pack ∧ y.id = s.id)) : insS L s = [] ++ L.take k ++ [s] ++ L.drop k := by
  have h1 := insS_skip (L.take k) (L.drop k) h
  rw [List.take_append_drop] at h1
  obtain ⟨hk, e⟩ := List.getElem?_eq_some_iff.1 hy
  rw [h1, List.drop_eq_getElem_cons hk, e]
  simp [insS, hn, hne]
theorem insS_old {L : List Stt} {s y : Stt} {k : Nat} (h : ∀ x ∈ L.take k, nmLt x.pack x.id s.pack s.id = true) (hy : L[k]? = some y) (hn : nmLt y.pack y.id s.pack s.id = false) (he : y.pack = s.pack ∧ y.id = s.id) : insS L s = L := by
  have h1 := insS_skip (L.take k) (L.drop k) h
  rw [List.take_append_drop] at h1
  obtain ⟨hk, e⟩ := List.getElem?_eq_some_iff.1 hy
  rw [h1]
  conv => rhs; rw [← List.take_append_drop k L]
  rw [List.drop_eq_getElem_cons hk, e, insS, if_neg (by rw [hn]; decide), if_pos he]
/-- What start leaves. -/
def StP (L : List Stt) (s : Stt) (w : World) (e : Ending) (w' : World) : Prop := ∃ A' c', e = .returned (.slice A' (insS L s).length c') ∧ RD 3 Stt.cs w' A' (insS L s) ∧ Gr w w' ∧ (insS L s).length ≤ c' ∧ c' ≤ 9223372036854775807 ∧ (A' = none → c' = 0)
theorem st_old {L : List Stt} {s : Stt} {w w' : World} {Ad : Option Addr} {cp n : Nat} (he : insS L s = L) (hl : L.length = n) (hr : RD 3 Stt.cs w' Ad L) (g : Gr w w') (h1 : n ≤ cp) (h2 : cp ≤ 9223372036854775807) (h3 : Ad = none → cp = 0) : StP L s w (.returned (.slice Ad n cp)) w' := by
  unfold StP
  rw [he, hl]
  exact ⟨Ad, cp, rfl, hr, g, h1, h2, h3⟩
theorem st_new {L M : List Stt} {s : Stt} {w w' : World} {v : Value} {b : Nat} (hx : insS L s = M) (ho : OR 79 3 Stt.cs w' b v M) (g : Gr w w') : StP L s w (.returned v) w' := by
  obtain ⟨A', c', rfl, hr, h1, h2, h3, -⟩ := ho.form2 elT.hn
  unfold StP
  rw [hx]
  exact ⟨A', c', rfl, hr, g, h1, h2, h3⟩
end Go.Proofs.YtgboboljgcfggaaGreatDoor
namespace Go.Proofs.YtgboboljgcfggaaGreatDoor
open Go.RowKit Go.Maps Go.Shelf
attribute [local go_sem] Oper.semAt_some

def Nam.cs (n : Nam) : List Value := [tv n.pack, iv n.id]
theorem RD.nam {w : World} {Ad : Option Addr} {L : List Nam} (h : RD 2 Nam.cs w Ad L) {k : Nat} (hk : k < L.length) : ∃ a a1 : Addr, Ad = some a ∧ a.add (k * 2) = a1 ∧ a1.block < w.heap.size ∧ w.cell? a1 = some (.string ⟨L[k].pack.toArray⟩) ∧ w.cell? ⟨a1.block, a1.off + 1, none⟩ = some (.int .i64 L[k].id) := by
  obtain ⟨a, e, hb, hc⟩ := h.at hk
  refine ⟨a, _, e, rfl, by rw [add_block]; exact hb, by simpa using hc 0 _ rfl, ?_⟩
  rw [← fld_add _ 1 (by omega), add_add']; exact hc 1 _ rfl
/-- The block of a root. -/
def rootN (L : List Cod) (K : List Sp) (n : T × Int) : Int := match findC (pls L) 0 n.1 n.2 with | some s => (K.idxOf s : Int) | none => 0
def stN (L : List Cod) (K : List Sp) (n : Nam) : Stt := stOf (rootN L K) (n.pack, n.id)
/-- What program leaves. -/
def PgP (L : List Cod) (K : List Sp) (R : List Nam) (w : World) (e : Ending) (w' : World) : Prop := ∃ X : Prg, e = .returned X.v ∧ X.Rd w' ∧ X.bs.map Blk.pb = progB (pls L) K ∧ X.ss = startsOf (rootN L K) (R.map fun n => (n.pack, n.id)) ∧ Gr w w' ∧ ∀ b ∈ X.bs, b.ins.length ≤ 100000
theorem results_prog {fn : Func} {p : Tmp} (h : fn.results = #[.cell p 26]) (tmps : Array Value) (w : World) (a : Addr) (x y : Value) (hp : tmps.getD p undef = .pointer (some a)) (h0 : w.cell? a = some x) (h1 : w.cell? ⟨a.block, a.off + 1, none⟩ = some y) : (results fn tmps).run Tryz.prog w = .ok (.agg #[x, y]) w := by
  have ha := Tryz.isAgg26
  have hz := Tryz.sizeOf26
  rw [results_cell1 h, hp]
  simp [go_sem, ha, hz, loadVar, h0, h1]
/-- Between the rounds of program's second loop. -/
structure SgS (w V : World) (v1 v2 : Value) (ss : List Stt) (W : World) : Prop where
  g : V.grownBy W (some (w.heap.size + 2))
  p : W.heap[w.heap.size + 2]? = some (.cells #[v1, v2] 26 (0, 0))
  o : OR 79 3 Stt.cs W V.heap.size v2 ss
section
variable {w V W W' W1 W2 : World} {v1 v2 v' : Value} {ss M : List Stt}
theorem SgS.gw (h : SgS w V v1 v2 ss W) (g : Gr w V) : Gr w W := gr_own g (by omega) h.g
theorem SgS.go (h : SgS w V v1 v2 ss W) (g : Gr W W') : SgS w V v1 v2 ss W' := ⟨h.g.trans (World.grownBy.but g _), gr_h g h.p, h.o.gr g⟩
theorem SgS.c (h : SgS w V v1 v2 ss W) : W.cell? ⟨w.heap.size + 2, 0, none⟩ = some v1 ∧ W.cell? ⟨w.heap.size + 2, 1, none⟩ = some v2 ∧ ∀ j, W.frozen? ⟨w.heap.size + 2, j, none⟩ = false :=
  ⟨by rw [Lib.cell_of_heap h.p]; rfl, by rw [Lib.cell_of_heap h.p]; rfl, frz h.p⟩
/-- The row of the starts changes; it is stored. -/
theorem SgS.put (h : SgS w V v1 v2 ss W) (hV : w.heap.size + 2 < V.heap.size) (o' : OR 79 3 Stt.cs W1 V.heap.size v' M) (g' : W.grownBy W1 v2.ownBlock) : SgS w V v1 v' M (W1.setCell ⟨w.heap.size + 2, 1, none⟩ v') := by
  have own : ∀ j, v2.ownBlock = some j → V.heap.size ≤ j := fun j hj => (h.o.lt j hj).1
  have hp := heap_lt h.p
  have st : ∀ j, j < V.heap.size → W1.heap[j]? = W.heap[j]? := fun j hj => g'.block j (by have := h.g.size; omega) (fun e => by have := own j e.symm; omega)
  refine ⟨⟨g'.os.trans h.g.os, g'.tape.trans h.g.tape, g'.output.trans h.g.output, ?_, fun j hj hn => ?_⟩, ?_, ?_⟩
  · have := h.g.size
    have := g'.size
    simp only [World.setCell, Array.size_modify]
    omega
  · exact (Below.heap_setCell _ _ _ _ (by show j ≠ w.heap.size + 2; exact fun e => hn (by rw [e]))).trans ((st j hj).trans (h.g.block j hj hn))
  · have h1 := (st _ hV).trans h.p
    simp [World.setCell, Array.getElem?_modify, h1]
  · refine o'.kept (grown_set _ _ _) ?_
    cases hq : v'.ownBlock with
    | none => exact .inl rfl
    | some j => right; intro e; cases e; have := (o'.lt _ hq).1; omega
/-- The row of the starts changes where it lies. -/
theorem SgS.row (h : SgS w V v1 v2 ss W) (hV : w.heap.size + 2 < V.heap.size) (o' : OR 79 3 Stt.cs W1 V.heap.size v2 M) (g' : W.grownBy W1 v2.ownBlock) : SgS w V v1 v2 M W1 := by
  have own : ∀ j, v2.ownBlock = some j → V.heap.size ≤ j := fun j hj => (h.o.lt j hj).1
  have st : ∀ j, j < V.heap.size → W1.heap[j]? = W.heap[j]? := fun j hj => g'.block j (by have := h.g.size; omega) (fun e => by have := own j e.symm; omega)
  exact ⟨⟨g'.os.trans h.g.os, g'.tape.trans h.g.tape, g'.output.trans h.g.output, Nat.le_trans h.g.size g'.size, fun j hj hn => (st j hj).trans (h.g.block j hj hn)⟩, (st _ hV).trans h.p, o'⟩
end
theorem stt_form {w : World} {B n : Nat} {v : Value} {D : List Stt} (hn : D.length = n) (o : OR 79 3 Stt.cs w B v D) : ∃ A c, v = .slice A n c := by
  obtain ⟨A, c, e, -⟩ := o.form elT.hn
  exact ⟨A, c, by rw [e, hn]⟩
theorem sorted_ok {L : List Cod} {K : List Sp} {R : List Nam} {M : List Stt} (hp : M.Perm (R.map (stN L K))) (hs : M.Pairwise (fun a b => ¬ nlt b a)) : cmpS M = startsOf (rootN L K) (R.map fun n => (n.pack, n.id)) := by
  refine cmpS_eq (by rw [List.map_map]; exact hp) ?_
  have hm : ∀ a ∈ M, ∃ n : Nam, a = stN L K n := fun a ha => by
    obtain ⟨n, -, e⟩ := List.mem_map.1 ((hp.mem_iff).1 ha)
    exact ⟨n, e.symm⟩
  refine (List.Pairwise.and_mem.1 hs).imp fun {a b} ⟨ha, hb, h⟩ => ?_
  obtain ⟨m, rfl⟩ := hm a ha
  obtain ⟨n, rfl⟩ := hm b hb
  rcases nlt_tri (stN L K m) (stN L K n) with h1 | h1 | h1
  · exact .inl h1
  · right
    have e1 : m.pack = n.pack := h1.1
    have e2 : m.id = n.id := h1.2
    unfold stN
    rw [e1, e2]
  · exact absurd h1 h
end Go.Proofs.YtgboboljgcfggaaGreatDoor
namespace Go.Proofs.YtgboboljgcfggaaGreatDoor
open Go.RowKit Go.Maps

theorem own_in {v v' : Value} {m M : Nat} (h : v'.ownBlock = v.ownBlock ∨ v'.ownBlock = some m) (hm : M ≤ m) : ∀ j, v'.ownBlock = some j → v.ownBlock = some j ∨ M ≤ j := fun j hj => by
  rcases h with h | h
  · exact .inl (h ▸ hj)
  · right; have := Option.some.inj (h.symm.trans hj); omega
attribute [local irreducible] Calls in
set_option maxRecDepth 100000 in
set_option maxHeartbeats 4000000 in
theorem need2_any (kb m1 m2 base : Nat) (Ad : Option Addr) (cp n : Nat) (dl : MK Nam) (K : List Sp) (v : Value) (x : Sp) (w : World) (h : LM kb m1 m2 base Ad cp n dl K v w) (hk : x.Key) (hl : K.length ≤ 100000) (hb : base ≤ w.heap.size) :
    Calls Tryz.prog 42 #[.pointer (some ⟨kb, 0, none⟩), .agg #[.int .i64 x.code, .int .i64 x.block]] w fun e w' => e = .returned (.tuple #[]) ∧ ∃ v', LM kb m1 m2 base Ad cp n dl (addS K x) v' w' ∧ NF kb m2 base v w w' ∧ ∀ j, v'.ownBlock = some j → v.ownBlock = some j ∨ w.heap.size ≤ j := by
  have GW := Lib.hid (gr_al w (.cells #[.int .i64 x.code, .int .i64 x.block] 107))
  have HX := Lib.hid (fun V (g : Gr (w.alloc (.cells #[.int .i64 x.code, .int .i64 x.block] 107)) V) => (show V.cell? ⟨w.heap.size, 0, none⟩ = some (.int .i64 x.code) ∧ V.cell? ⟨w.heap.size, 1, none⟩ = some (.int .i64 x.block) from by
    have h := gr_h g (al_new w (.cells #[.int .i64 x.code, .int .i64 x.block] 107))
    exact ⟨by rw [Lib.cell_of_heap h]; rfl, by rw [Lib.cell_of_heap h]; rfl⟩))
  have HXB := Lib.hid (al_new w (.cells #[.int .i64 x.code, .int .i64 x.block] 107))
  have H1 := Lib.hid (h.gr (gr_al w (.cells #[.int .i64 x.code, .int .i64 x.block] 107)))
  have H := Lib.hid h
  have hkb := heap_lt h.h
  obtain ⟨A1, c1, e1, -⟩ := h.o.form elS.hn
  obtain ⟨nk, hnk⟩ : ∃ m, K.length = m := ⟨_, rfl⟩
  have HNK := Lib.hid hnk
  rw [hnk] at e1 hl
  subst e1
  clear h hnk
  go_enter Tryz.func42, Tryz.ntmps42
  go_upto_region 1 with (fail)
  generalize hW1 : World.alloc w _ = W1 at *
  have HS1 := Lib.hid (show W1.heap.size = w.heap.size + 1 from by rw [← hW1]; simp)
  clear hW1
  obtain ⟨x0, x1⟩ := HX.out _ (gr_refl _)
  obtain ⟨⟨-, -, k2, k3⟩, fz⟩ := H1.out.hd
  have f3 := fz 3
  have LKK := Lib.hid (fun V (g : Gr W1 V) => show (Instr.lookup 110 (.map (some m2)) (.agg #[.int .i64 x.code, .int .i64 x.block]) true).run Tryz.prog V = .ok (.tuple #[((if x ∈ K then some (iv (K.idxOf x)) else none).getD (iv 0)), .bool (if x ∈ K then some (iv (K.idxOf x)) else none).isSome]) V from by
    have h := (lookup_k ktS (H1.out.gr g).n (H1.out.gr g).ln Tryz.underlying110 (z := iv 0) (by kernel_rfl) hk).2
    rw [numL_get] at h
    exact h)
  have HKY := Lib.hid hk
  clear hk
  by_cases hx : x ∈ K
  · simp only [if_pos hx] at LKK
    have lk0 := LKK.out _ (gr_refl W1)
    have lk1 := LKK.out _ (gr_drew W1)
    have lk2 := fun n => LKK.out _ (gr_drewN W1 n)
    have HE := Lib.hid (show addS K x = K from by unfold addS; rw [if_pos hx])
    clear hx fz
    go_quiet (fail)
    go_wp2
    go_end0
    exact ⟨rfl, _, by rw [HE.out]; exact H1.out.gr (gr_drewN _ _), NF.of (GW.out.trans (gr_drewN _ _)), fun j hj => .inl hj⟩
  · simp only [if_neg hx] at LKK
    have lk0 := LKK.out _ (gr_refl W1)
    have lk1 := LKK.out _ (gr_drew W1)
    have lk2 := fun n => LKK.out _ (gr_drewN W1 n)
    have HNX := Lib.hid hx
    clear hx fz
    go_quiet (fail)
    generalize hW2 : World.drewN W1 _ = W2
    have G2 := Lib.hid (show Gr W1 W2 from by rw [← hW2]; exact gr_drewN _ _)
    clear hW2 x0 x1 k2 k3 f3 lk0 lk1 lk2 LKK
    have H2 := Lib.hid (H1.out.gr G2.out)
    obtain ⟨x0, x1⟩ := HX.out _ G2.out
    obtain ⟨⟨-, -, k2, k3⟩, fz⟩ := H2.out.hd
    go_upto_region 3 with (fail)
    go_still_tail 10, (by kernel_rfl)
    change wpList _ _ _ _ _ W2.drew
    generalize hW3 : W2.drew = W3
    have G3 := Lib.hid (show Gr W2 W3 from by rw [← hW3]; exact gr_drew _)
    clear hW3 x0 x1 k2 k3 fz
    have H3 := Lib.hid (H2.out.gr G3.out)
    have up := (show (Instr.mapUpdate 110 (.map (some m2)) (.agg #[.int .i64 x.code, .int .i64 x.block]) (iv nk)).run Tryz.prog W3 = .ok () (setM Sp.v W3 m2 (numL K ++ [(x, iv nk)])) from update_k ktS H3.out.n H3.out.ln Tryz.underlying110 HKY.out (numL_no HNX.out) (iv nk))
    go_upto_region 4 with (fail)
    clear up
    have hlt := H3.out.lt
    have hne := H3.out.ne
    have hown := H3.out.o.lt
    have hk3 := heap_lt H3.out.h
    have HW4 := Lib.hid (show Gr (setM Sp.v W3 m2 (numL K ++ [(x, iv K.length)])) (setM Sp.v W3 m2 (numL K ++ [(x, iv nk)])) from by rw [HNK.out]; exact gr_refl _)
    have HK4 := Lib.hid (show (setM Sp.v W3 m2 (numL K ++ [(x, iv nk)])).heap[kb]? = some (.cells #[.slice Ad n cp, .map (some m1), .map (some m2), .slice A1 nk c1] 113 (0, 0)) from (setM_other hne.2.1).trans H3.out.h)
    have HX4 := Lib.hid (show (setM Sp.v W3 m2 (numL K ++ [(x, iv nk)])).heap[w.heap.size]? = some (.cells #[.int .i64 x.code, .int .i64 x.block] 107 (0, 0)) from (setM_other (by have := H.out.n.lt; omega)).trans (gr_h (G2.out.trans G3.out) HXB.out))
    have HO4 := Lib.hid (show OR 107 2 Sp.cs (setM Sp.v W3 m2 (numL K ++ [(x, iv nk)])) base (.slice A1 nk c1) K from H3.out.o.kept (grown_setM _ _ _) (by
      cases hq : (Value.slice A1 nk c1).ownBlock with
      | none => exact .inl rfl
      | some j => right; intro e2; have := (hown j hq).1; cases e2; omega))
    have HB4 := Lib.hid (show base ≤ (setM Sp.v W3 m2 (numL K ++ [(x, iv nk)])).heap.size from by rw [setM_size]; have := G3.out.size; have := G2.out.size; have := HS1.out; omega)
    have HZ4 := Lib.hid (show w.heap.size ≤ (setM Sp.v W3 m2 (numL K ++ [(x, iv nk)])).heap.size from by rw [setM_size]; have := G3.out.size; have := G2.out.size; have := HS1.out; omega)
    generalize hW4 : setM Sp.v W3 m2 (numL K ++ [(x, iv nk)]) = W4 at *
    clear hW4
    have k3 : W4.cell? ⟨kb, 3, none⟩ = some (.slice A1 nk c1) := by rw [Lib.cell_of_heap HK4.out]; rfl
    have x0 : W4.cell? ⟨w.heap.size, 0, none⟩ = some (.int .i64 x.code) := by rw [Lib.cell_of_heap HX4.out]; rfl
    have x1 : W4.cell? ⟨w.heap.size, 1, none⟩ = some (.int .i64 x.block) := by rw [Lib.cell_of_heap HX4.out]; rfl
    have k3a := gr_c (gr_al W4 (.cells #[.int .i64 x.code, .int .i64 x.block] 107)) k3
    have HOA := Lib.hid (HO4.out.alloc (.cells #[.int .i64 x.code, .int .i64 x.block] 107))
    have HBA := Lib.hid (show base ≤ (W4.alloc (.cells #[.int .i64 x.code, .int .i64 x.block] 107)).heap.size from by have := HB4.out; simp; omega)
    have HLT := Lib.hid hlt
    have HOW := Lib.hid (fun j (hj : (Value.slice A1 nk c1).ownBlock = some j) => (hown j hj).1)
    clear hne hown hk3 hlt hkb
    go_region_law (first | (refine step_app elS rfl (.tmp 31) (.tmp 33) rfl base rfl HOA.out (A := some ⟨W4.heap.size, 0, none⟩) (M := [x]) (m := 1) (c := 1) rfl rfl (rd_cells (t := 107) elS.hn (al_new _ _)) (by have := HNK.out; simp; omega) HBA.out ?_; intro v7 w7 o7 g7 b7; obtain ⟨A7, c7, rfl⟩ := app_val HNK.out o7; have O7 := Lib.hid o7; have G7 := Lib.hid g7; have B7 := Lib.hid b7; obtain ⟨q7, fz7⟩ := LM.mid HK4.out HOW.out HLT.out.1 ((gr_al _ _).trans (gr_drew _)) g7; have z7 := fz7 3; clear o7 g7 b7 fz7))
    all_goals go_wp2
    all_goals go_end0
    all_goals obtain ⟨L1, L2⟩ := H3.out.put HNX.out HKY.out (HW4.out.trans ((gr_al _ _).trans (gr_drew _))) O7.out G7.out
    all_goals exact ⟨rfl, _, L1, L2.pre (GW.out.trans (G2.out.trans G3.out)), own_in B7.out (by have := HZ4.out; simp; omega)⟩
end Go.Proofs.YtgboboljgcfggaaGreatDoor
namespace Go.Proofs.YtgboboljgcfggaaGreatDoor
open Go.RowKit

set_option maxRecDepth 100000 in
set_option maxHeartbeats 4000000 in
theorem instr_any (p : Prg) (x : Blk) (op a b : Int) (name : T) (w : World) (hp : p.Rd w)(hpl : p.bs.length ≤ 9223372036854775807) :
    Calls Tryz.prog 58 #[p.v, x.v, (Ins.mk op a b name).v] w fun e w' => e = .returned (.int .i64 (ckI p.bs x.ins.length op a b name)) ∧ Below w.heap.size w w' := by
  have PL := fun (W : World) (hb : Below w.heap.size w W) => ranged_any p x op a b name W (hp.below hb) hpl
  have FI := fun W => shape_any op W
  unfold Prg.v Blk.v Ins.v at PL
  unfold Prg.v Blk.v Ins.v
  simp only [] at PL ⊢
  have SH := fun h : fK op = true => shapes h
  unfold ckI
  generalize inR p.bs x.ins.length op a b = R at *
  generalize fK op = K at *
  generalize fA op = A at *
  generalize fB op = B at *
  generalize fN op = Nm at *
  cases K with
  | false =>
    have HFI := Lib.hid FI
    clear FI SH PL hp
    have hs : ckB false A B Nm R a b name = 9 := rfl
    rw [hs]
    clear hs
    go_enter Tryz.func58, Tryz.ntmps58
    go_wp2_with (go_at_call 87; refine (HFI.out _).mono ?_; rintro e w1 ⟨rfl, rfl⟩)
    go_ret
    exact ⟨rfl, bel3 _ _ _ _⟩
  | true =>
    have hsh := SH rfl
    have HPL := Lib.hid PL
    have HFI := Lib.hid FI
    clear FI SH PL hp
    rcases hsh with ⟨rfl, rfl, rfl⟩ | ⟨rfl, rfl, rfl⟩ | ⟨rfl, rfl, rfl⟩ | ⟨rfl, rfl, rfl⟩
    · -- 1 0 0
      by_cases qb' : b = 0
      rotate_right
      · have qb : (b != 0) = true := by simpa using qb'
        have hs : ckB true true false false R a b name = 1 := by simp [ckB, qb']
        rw [hs]
        clear hs
        clear qb'
        go_enter Tryz.func58, Tryz.ntmps58
        go_wp2_with (first | (go_at_call 87; refine (HFI.out _).mono ?_; rintro e w1 ⟨rfl, rfl⟩) | (go_at_call 88; refine (HPL.out _ (bel3 _ _ _ _)).mono ?_; rintro e w2 ⟨rfl, k2⟩))
        go_ret
        exact ⟨rfl, bel3 _ _ _ _⟩
      subst qb'
      have qb : ((0 : Int) != 0) = false := rfl
      by_cases qn' : name = []
      rotate_right
      · have qn : (name != []) = true := by simpa using qn'
        have qn2 : name.isEmpty = false := by simpa using qn'
        have hs : ckB true true false false R a 0 name = 1 := by simp [ckB, qn']
        rw [hs]
        clear hs
        clear qn'
        go_enter Tryz.func58, Tryz.ntmps58
        go_wp2_with (first | (go_at_call 87; refine (HFI.out _).mono ?_; rintro e w1 ⟨rfl, rfl⟩) | (go_at_call 88; refine (HPL.out _ (bel3 _ _ _ _)).mono ?_; rintro e w2 ⟨rfl, k2⟩))
        go_ret
        exact ⟨rfl, bel3 _ _ _ _⟩
      subst qn'
      have qn : (([] : T) != []) = false := rfl
      cases R with
      | false =>
        have hs : ckB true true false false false a 0 [] = 2 := by simp [ckB]
        rw [hs]
        clear hs
        go_enter Tryz.func58, Tryz.ntmps58
        go_wp2_with (first | (go_at_call 87; refine (HFI.out _).mono ?_; rintro e w1 ⟨rfl, rfl⟩) | (go_at_call 88; refine (HPL.out _ (bel3 _ _ _ _)).mono ?_; rintro e w2 ⟨rfl, k2⟩))
        go_ret
        exact ⟨rfl, (bel3 w _ _ _).trans (k2.mono (bel3 w _ _ _).size)⟩
      | true =>
        have hs : ckB true true false false true a 0 [] = 0 := by simp [ckB]
        rw [hs]
        clear hs
        go_enter Tryz.func58, Tryz.ntmps58
        go_wp2_with (first | (go_at_call 87; refine (HFI.out _).mono ?_; rintro e w1 ⟨rfl, rfl⟩) | (go_at_call 88; refine (HPL.out _ (bel3 _ _ _ _)).mono ?_; rintro e w2 ⟨rfl, k2⟩))
        go_ret
        exact ⟨rfl, (bel3 w _ _ _).trans (k2.mono (bel3 w _ _ _).size)⟩
    · -- 0 0 1
      by_cases qa' : a = 0
      rotate_right
      · have qa : (a != 0) = true := by simpa using qa'
        have hs : ckB true false false true R a b name = 1 := by simp [ckB, qa']
        rw [hs]
        clear hs
        clear qa'
        go_enter Tryz.func58, Tryz.ntmps58
        go_wp2_with (first | (go_at_call 87; refine (HFI.out _).mono ?_; rintro e w1 ⟨rfl, rfl⟩) | (go_at_call 88; refine (HPL.out _ (bel3 _ _ _ _)).mono ?_; rintro e w2 ⟨rfl, k2⟩))
        go_ret
        exact ⟨rfl, bel3 _ _ _ _⟩
      subst qa'
      have qa : ((0 : Int) != 0) = false := rfl
      by_cases qb' : b = 0
      rotate_right
      · have qb : (b != 0) = true := by simpa using qb'
        have hs : ckB true false false true R 0 b name = 1 := by simp [ckB, qb']
        rw [hs]
        clear hs
        clear qb'
        go_enter Tryz.func58, Tryz.ntmps58
        go_wp2_with (first | (go_at_call 87; refine (HFI.out _).mono ?_; rintro e w1 ⟨rfl, rfl⟩) | (go_at_call 88; refine (HPL.out _ (bel3 _ _ _ _)).mono ?_; rintro e w2 ⟨rfl, k2⟩))
        go_ret
        exact ⟨rfl, bel3 _ _ _ _⟩
      subst qb'
      have qb : ((0 : Int) != 0) = false := rfl
      by_cases z43 : name = [43]
      · subst z43
        have hk : nmOk [43] = true := rfl
        cases R with
        | false =>
          have hs : ckB true false false true false 0 0 [43] = 2 := by simp [ckB, hk]
          rw [hs]
          clear hs
          go_enter Tryz.func58, Tryz.ntmps58
          go_wp2_with (first | (go_at_call 87; refine (HFI.out _).mono ?_; rintro e w1 ⟨rfl, rfl⟩) | (go_at_call 88; refine (HPL.out _ (bel3 _ _ _ _)).mono ?_; rintro e w2 ⟨rfl, k2⟩))
          go_ret
          exact ⟨rfl, (bel3 w _ _ _).trans (k2.mono (bel3 w _ _ _).size)⟩
        | true =>
          have hs : ckB true false false true true 0 0 [43] = 0 := by simp [ckB, hk]
          rw [hs]
          clear hs
          go_enter Tryz.func58, Tryz.ntmps58
          go_wp2_with (first | (go_at_call 87; refine (HFI.out _).mono ?_; rintro e w1 ⟨rfl, rfl⟩) | (go_at_call 88; refine (HPL.out _ (bel3 _ _ _ _)).mono ?_; rintro e w2 ⟨rfl, k2⟩))
          go_ret
          exact ⟨rfl, (bel3 w _ _ _).trans (k2.mono (bel3 w _ _ _).size)⟩
      by_cases z45 : name = [45]
      · subst z45
        have hk : nmOk [45] = true := rfl
        cases R with
        | false =>
          have hs : ckB true false false true false 0 0 [45] = 2 := by simp [ckB, hk]
          rw [hs]
          clear hs
          go_enter Tryz.func58, Tryz.ntmps58
          go_wp2_with (first | (go_at_call 87; refine (HFI.out _).mono ?_; rintro e w1 ⟨rfl, rfl⟩) | (go_at_call 88; refine (HPL.out _ (bel3 _ _ _ _)).mono ?_; rintro e w2 ⟨rfl, k2⟩))
          go_ret
          exact ⟨rfl, (bel3 w _ _ _).trans (k2.mono (bel3 w _ _ _).size)⟩
        | true =>
          have hs : ckB true false false true true 0 0 [45] = 0 := by simp [ckB, hk]
          rw [hs]
          clear hs
          go_enter Tryz.func58, Tryz.ntmps58
          go_wp2_with (first | (go_at_call 87; refine (HFI.out _).mono ?_; rintro e w1 ⟨rfl, rfl⟩) | (go_at_call 88; refine (HPL.out _ (bel3 _ _ _ _)).mono ?_; rintro e w2 ⟨rfl, k2⟩))
          go_ret
          exact ⟨rfl, (bel3 w _ _ _).trans (k2.mono (bel3 w _ _ _).size)⟩
      by_cases z42 : name = [42]
      · subst z42
        have hk : nmOk [42] = true := rfl
        cases R with
        | false =>
          have hs : ckB true false false true false 0 0 [42] = 2 := by simp [ckB, hk]
          rw [hs]
          clear hs
          go_enter Tryz.func58, Tryz.ntmps58
          go_wp2_with (first | (go_at_call 87; refine (HFI.out _).mono ?_; rintro e w1 ⟨rfl, rfl⟩) | (go_at_call 88; refine (HPL.out _ (bel3 _ _ _ _)).mono ?_; rintro e w2 ⟨rfl, k2⟩))
          go_ret
          exact ⟨rfl, (bel3 w _ _ _).trans (k2.mono (bel3 w _ _ _).size)⟩
        | true =>
          have hs : ckB true false false true true 0 0 [42] = 0 := by simp [ckB, hk]
          rw [hs]
          clear hs
          go_enter Tryz.func58, Tryz.ntmps58
          go_wp2_with (first | (go_at_call 87; refine (HFI.out _).mono ?_; rintro e w1 ⟨rfl, rfl⟩) | (go_at_call 88; refine (HPL.out _ (bel3 _ _ _ _)).mono ?_; rintro e w2 ⟨rfl, k2⟩))
          go_ret
          exact ⟨rfl, (bel3 w _ _ _).trans (k2.mono (bel3 w _ _ _).size)⟩
      by_cases z61 : name = [61]
      · subst z61
        have hk : nmOk [61] = true := rfl
        cases R with
        | false =>
          have hs : ckB true false false true false 0 0 [61] = 2 := by simp [ckB, hk]
          rw [hs]
          clear hs
          go_enter Tryz.func58, Tryz.ntmps58
          go_wp2_with (first | (go_at_call 87; refine (HFI.out _).mono ?_; rintro e w1 ⟨rfl, rfl⟩) | (go_at_call 88; refine (HPL.out _ (bel3 _ _ _ _)).mono ?_; rintro e w2 ⟨rfl, k2⟩))
          go_ret
          exact ⟨rfl, (bel3 w _ _ _).trans (k2.mono (bel3 w _ _ _).size)⟩
        | true =>
          have hs : ckB true false false true true 0 0 [61] = 0 := by simp [ckB, hk]
          rw [hs]
          clear hs
          go_enter Tryz.func58, Tryz.ntmps58
          go_wp2_with (first | (go_at_call 87; refine (HFI.out _).mono ?_; rintro e w1 ⟨rfl, rfl⟩) | (go_at_call 88; refine (HPL.out _ (bel3 _ _ _ _)).mono ?_; rintro e w2 ⟨rfl, k2⟩))
          go_ret
          exact ⟨rfl, (bel3 w _ _ _).trans (k2.mono (bel3 w _ _ _).size)⟩
      by_cases z60 : name = [60]
      · subst z60
        have hk : nmOk [60] = true := rfl
        cases R with
        | false =>
          have hs : ckB true false false true false 0 0 [60] = 2 := by simp [ckB, hk]
          rw [hs]
          clear hs
          go_enter Tryz.func58, Tryz.ntmps58
          go_wp2_with (first | (go_at_call 87; refine (HFI.out _).mono ?_; rintro e w1 ⟨rfl, rfl⟩) | (go_at_call 88; refine (HPL.out _ (bel3 _ _ _ _)).mono ?_; rintro e w2 ⟨rfl, k2⟩))
          go_ret
          exact ⟨rfl, (bel3 w _ _ _).trans (k2.mono (bel3 w _ _ _).size)⟩
        | true =>
          have hs : ckB true false false true true 0 0 [60] = 0 := by simp [ckB, hk]
          rw [hs]
          clear hs
          go_enter Tryz.func58, Tryz.ntmps58
          go_wp2_with (first | (go_at_call 87; refine (HFI.out _).mono ?_; rintro e w1 ⟨rfl, rfl⟩) | (go_at_call 88; refine (HPL.out _ (bel3 _ _ _ _)).mono ?_; rintro e w2 ⟨rfl, k2⟩))
          go_ret
          exact ⟨rfl, (bel3 w _ _ _).trans (k2.mono (bel3 w _ _ _).size)⟩
      have hk : nmOk name = false := by simp [nmOk, *]
      have y43 : (name == [43]) = false := by simpa using z43
      have y45 : (name == [45]) = false := by simpa using z45
      have y42 : (name == [42]) = false := by simpa using z42
      have y61 : (name == [61]) = false := by simpa using z61
      have y60 : (name == [60]) = false := by simpa using z60
      have hs : ckB true false false true R 0 0 name = 6 := by simp [ckB, hk]
      rw [hs]
      clear hs
      clear z43 z45 z42 z61 z60
      go_enter Tryz.func58, Tryz.ntmps58
      go_wp2_with (first | (go_at_call 87; refine (HFI.out _).mono ?_; rintro e w1 ⟨rfl, rfl⟩) | (go_at_call 88; refine (HPL.out _ (bel3 _ _ _ _)).mono ?_; rintro e w2 ⟨rfl, k2⟩))
      go_ret
      exact ⟨rfl, bel3 _ _ _ _⟩
    · -- 1 1 0
      by_cases qn' : name = []
      rotate_right
      · have qn : (name != []) = true := by simpa using qn'
        have qn2 : name.isEmpty = false := by simpa using qn'
        have hs : ckB true true true false R a b name = 1 := by simp [ckB, qn']
        rw [hs]
        clear hs
        clear qn'
        go_enter Tryz.func58, Tryz.ntmps58
        go_wp2_with (first | (go_at_call 87; refine (HFI.out _).mono ?_; rintro e w1 ⟨rfl, rfl⟩) | (go_at_call 88; refine (HPL.out _ (bel3 _ _ _ _)).mono ?_; rintro e w2 ⟨rfl, k2⟩))
        go_ret
        exact ⟨rfl, bel3 _ _ _ _⟩
      subst qn'
      have qn : (([] : T) != []) = false := rfl
      cases R with
      | false =>
        have hs : ckB true true true false false a b [] = 2 := by simp [ckB]
        rw [hs]
        clear hs
        go_enter Tryz.func58, Tryz.ntmps58
        go_wp2_with (first | (go_at_call 87; refine (HFI.out _).mono ?_; rintro e w1 ⟨rfl, rfl⟩) | (go_at_call 88; refine (HPL.out _ (bel3 _ _ _ _)).mono ?_; rintro e w2 ⟨rfl, k2⟩))
        go_ret
        exact ⟨rfl, (bel3 w _ _ _).trans (k2.mono (bel3 w _ _ _).size)⟩
      | true =>
        have hs : ckB true true true false true a b [] = 0 := by simp [ckB]
        rw [hs]
        clear hs
        go_enter Tryz.func58, Tryz.ntmps58
        go_wp2_with (first | (go_at_call 87; refine (HFI.out _).mono ?_; rintro e w1 ⟨rfl, rfl⟩) | (go_at_call 88; refine (HPL.out _ (bel3 _ _ _ _)).mono ?_; rintro e w2 ⟨rfl, k2⟩))
        go_ret
        exact ⟨rfl, (bel3 w _ _ _).trans (k2.mono (bel3 w _ _ _).size)⟩
    · -- 0 0 0
      by_cases qa' : a = 0
      rotate_right
      · have qa : (a != 0) = true := by simpa using qa'
        have hs : ckB true false false false R a b name = 1 := by simp [ckB, qa']
        rw [hs]
        clear hs
        clear qa'
        go_enter Tryz.func58, Tryz.ntmps58
        go_wp2_with (first | (go_at_call 87; refine (HFI.out _).mono ?_; rintro e w1 ⟨rfl, rfl⟩) | (go_at_call 88; refine (HPL.out _ (bel3 _ _ _ _)).mono ?_; rintro e w2 ⟨rfl, k2⟩))
        go_ret
        exact ⟨rfl, bel3 _ _ _ _⟩
      subst qa'
      have qa : ((0 : Int) != 0) = false := rfl
      by_cases qb' : b = 0
      rotate_right
      · have qb : (b != 0) = true := by simpa using qb'
        have hs : ckB true false false false R 0 b name = 1 := by simp [ckB, qb']
        rw [hs]
        clear hs
        clear qb'
        go_enter Tryz.func58, Tryz.ntmps58
        go_wp2_with (first | (go_at_call 87; refine (HFI.out _).mono ?_; rintro e w1 ⟨rfl, rfl⟩) | (go_at_call 88; refine (HPL.out _ (bel3 _ _ _ _)).mono ?_; rintro e w2 ⟨rfl, k2⟩))
        go_ret
        exact ⟨rfl, bel3 _ _ _ _⟩
      subst qb'
      have qb : ((0 : Int) != 0) = false := rfl
      by_cases qn' : name = []
      rotate_right
      · have qn : (name != []) = true := by simpa using qn'
        have qn2 : name.isEmpty = false := by simpa using qn'
        have hs : ckB true false false false R 0 0 name = 1 := by simp [ckB, qn']
        rw [hs]
        clear hs
        clear qn'
        go_enter Tryz.func58, Tryz.ntmps58
        go_wp2_with (first | (go_at_call 87; refine (HFI.out _).mono ?_; rintro e w1 ⟨rfl, rfl⟩) | (go_at_call 88; refine (HPL.out _ (bel3 _ _ _ _)).mono ?_; rintro e w2 ⟨rfl, k2⟩))
        go_ret
        exact ⟨rfl, bel3 _ _ _ _⟩
      subst qn'
      have qn : (([] : T) != []) = false := rfl
      cases R with
      | false =>
        have hs : ckB true false false false false 0 0 [] = 2 := by simp [ckB]
        rw [hs]
        clear hs
        go_enter Tryz.func58, Tryz.ntmps58
        go_wp2_with (first | (go_at_call 87; refine (HFI.out _).mono ?_; rintro e w1 ⟨rfl, rfl⟩) | (go_at_call 88; refine (HPL.out _ (bel3 _ _ _ _)).mono ?_; rintro e w2 ⟨rfl, k2⟩))
        go_ret
        exact ⟨rfl, (bel3 w _ _ _).trans (k2.mono (bel3 w _ _ _).size)⟩
      | true =>
        have hs : ckB true false false false true 0 0 [] = 0 := by simp [ckB]
        rw [hs]
        clear hs
        go_enter Tryz.func58, Tryz.ntmps58
        go_wp2_with (first | (go_at_call 87; refine (HFI.out _).mono ?_; rintro e w1 ⟨rfl, rfl⟩) | (go_at_call 88; refine (HPL.out _ (bel3 _ _ _ _)).mono ?_; rintro e w2 ⟨rfl, k2⟩))
        go_ret
        exact ⟨rfl, (bel3 w _ _ _).trans (k2.mono (bel3 w _ _ _).size)⟩
end Go.Proofs.YtgboboljgcfggaaGreatDoor
namespace Go.Proofs.YtgboboljgcfggaaGreatDoor
open Go.RowKit

/-- How many instructions, as an int counts them. -/
def cntW (bs : List Blk) : Int := bs.foldl (fun c b => Go.RowKit.wrap64 (c + b.ins.length)) 0
theorem cntW_succ {bs : List Blk} {k : Nat} (hk : k < bs.length) : cntW (bs.take (k + 1)) = Go.RowKit.wrap64 (cntW (bs.take k) + bs[k].ins.length) := by
  unfold cntW
  rw [List.take_succ_eq_append_getElem hk, List.foldl_append]
  rfl
/-- The first error. -/
def fe : List Int → Int
  | [] => 0
  | x :: l => if x = 0 then fe l else x
theorem fe_snoc (l : List Int) (x : Int) (h : fe l = 0) : fe (l ++ [x]) = x := by
  induction l with
  | nil => by_cases hx : x = 0 <;> simp [fe, hx]
  | cons y l ih =>
    by_cases hy : y = 0
    · simp only [List.cons_append, fe, if_pos hy] at h ⊢
      exact ih h
    · simp only [fe, if_neg hy] at h
      exact absurd h hy
theorem fe_app (l m : List Int) (h : fe l ≠ 0) : fe (l ++ m) = fe l := by
  induction l with
  | nil => exact absurd rfl h
  | cons y l ih =>
    by_cases hy : y = 0
    · simp only [List.cons_append, fe, if_pos hy] at h ⊢
      exact ih h
    · simp only [List.cons_append, fe, if_neg hy]
theorem fe_at {L : List Int} {k : Nat} (hk : k < L.length) (h0 : fe (L.take k) = 0) : (L[k] ≠ 0 → fe L = L[k]) ∧ (L[k] = 0 → fe (L.take (k + 1)) = 0) := by
  have h1 := fe_snoc (L.take k) L[k] h0
  rw [← List.take_succ_eq_append_getElem hk] at h1
  refine ⟨fun h => ?_, fun h => h1.trans h⟩
  have h2 := fe_app (L.take (k + 1)) (L.drop (k + 1)) (by rw [h1]; exact h)
  rw [List.take_append_drop] at h2
  exact h2.trans h1
def errI (bs : List Blk) (b : Blk) : List Int := b.ins.map fun x => ckI bs b.ins.length x.op x.a x.b x.name
def errB (bs : List Blk) (b : Blk) : Int := if b.cap < 0 ∨ 1000 < b.cap then 2 else fe (errI bs b)
def ordS (ss : List Stt) (s : Stt) : Nat → Int
  | 0 => 0
  | j + 1 => match ss[j]? with
    | none => 0
    | some q => if nmLt q.pack q.id s.pack s.id then 0 else 10
theorem ordS_succ {ss : List Stt} {s q : Stt} {j : Nat} (h : ss[j]? = some q) : ordS ss s (j + 1) = if nmLt q.pack q.id s.pack s.id then 0 else 10 := by simp only [ordS, h]
def errS (bs : List Blk) (ss : List Stt) (i : Nat) : Int := match ss[i]? with
  | none => 0
  | some s => if lab s.pack = false then 6 else if s.id < 1 ∨ 999999 < s.id ∨ plainB bs s.block = false then 2 else ordS ss s i
def errP (p : Prg) : Int := if 2000 < p.bs.length ∨ 20000 < cntW p.bs then 4 else if fe (p.bs.map (errB p.bs)) ≠ 0 then fe (p.bs.map (errB p.bs)) else fe ((List.range p.ss.length).map (errS p.bs p.ss))

theorem heap_lt_cell {w : World} {b i : Nat} {v : Value} (h : w.cell? ⟨b, i, none⟩ = some v) : b < w.heap.size := by
  unfold World.cell? at h
  split at h
  · rename_i hh; exact (Array.getElem?_eq_some_iff.1 hh).1
  · cases h
theorem bAl (w : World) (o : Obj) : Below w.heap.size w (w.alloc o) := (Below.refl _ _).alloc (Nat.le_refl _) _
set_option maxRecDepth 100000 in
set_option maxHeartbeats 8000000 in
theorem check_any (p : Prg) (w : World) (hp : p.Rd w) (hb : p.bs.length ≤ 9223372036854775807) (hs : p.ss.length ≤ 9223372036854775807) (hi : ∀ b ∈ p.bs, b.ins.length ≤ 9223372036854775807) (hnl : ∀ b ∈ p.bs, ∀ x ∈ b.ins, x.name.length ≤ 9223372036854775807) (hnp : ∀ s ∈ p.ss, s.pack.length ≤ 9223372036854775807) :
    Calls Tryz.prog 26 #[p.v] w fun e w' => e = .returned (.int .i64 (errP p)) ∧ Below w.heap.size w w' := by
  unfold Prg.v
  obtain ⟨W, hW⟩ : ∃ W, W = w.alloc (.cells #[.slice p.bA p.bs.length p.bc, .slice p.sA p.ss.length p.sc] 26) := ⟨_, rfl⟩
  have hB0 : Below w.heap.size w W := by rw [hW]; exact (Below.refl _ _).alloc (Nat.le_refl _) _
  have hbx : W.heap[w.heap.size]? = some (.cells #[.slice p.bA p.bs.length p.bc, .slice p.sA p.ss.length p.sc] 26 (0, 0)) := by rw [hW]; exact al_new w _
  have ALL := Lib.hid (fun (V : World) (h : Below W.heap.size W V) => show p.Rd V ∧ V.cell? ⟨w.heap.size, 0, none⟩ = some (.slice p.bA p.bs.length p.bc) ∧ V.cell? ⟨w.heap.size, 1, none⟩ = some (.slice p.sA p.ss.length p.sc) from by
    have hk := (h.block _ (heap_lt hbx)).trans hbx
    exact ⟨(hp.below hB0).below h, by rw [Lib.cell_of_heap hk]; rfl, by rw [Lib.cell_of_heap hk]; rfl⟩)
  obtain ⟨-, x0, x1⟩ := ALL.out W (Below.refl _ _)
  have HB0 := Lib.hid hB0
  have HW := Lib.hid hW
  clear hW hB0 hbx hp
  go_enter Tryz.func26, Tryz.ntmps26
  go_wp2
  rw [← HW.out]
  go_loopw [3, 5, 16] (fun c _ i wr => ∃ k : Nat, k ≤ p.bs.length ∧ i = .int .i64 k ∧ c = .int .i64 (cntW (p.bs.take k)) ∧ Hid (Below W.heap.size W wr)) (fun _ _ i _ => p.bs.length - (intOf i).toNat)
  case atStart => exact ⟨0, Nat.zero_le _, rfl, rfl, Lib.hid (Below.refl _ _)⟩
  case round =>
    obtain ⟨k, hk, rfl, rfl, HB⟩ := hrel
    by_cases hlt : k < p.bs.length
    · obtain ⟨hpr, y0, y1⟩ := ALL.out wr HB.out
      obtain ⟨a, a1, hA, ha, hab, c0, c1, c2⟩ := hpr.b.blk hlt
      have hcs := cntW_succ hlt
      have HCS := Lib.hid hcs
      have HBN := fun o => Lib.hid (HB.out.alloc HB.out.size o)
      have hA' := Lib.hid hA
      rw [hA]
      clear hcs hpr x0 x1 hA
      go_wp2
      exact ⟨⟨k + 1, by omega, by simp, by rw [HCS.out], HBN _⟩, by simp [intOf]; omega⟩
    · obtain rfl : k = p.bs.length := by omega
      rw [List.take_length]
      obtain ⟨hpr, y0, y1⟩ := ALL.out wr HB.out
      have HB1 := Lib.hid (HB0.out.trans (HB.out.mono HB0.out.size))
      by_cases h4 : 2000 < p.bs.length ∨ 20000 < cntW p.bs
      · have hE : Hid (errP p = 4) := Lib.hid (by unfold errP; rw [if_pos h4])
        clear hpr x0 x1
        by_cases h5 : 2000 < p.bs.length
        · have z1 : (2000 : Int) < (p.bs.length : Int) := by omega
          go_wp2
          go_ret
          exact ⟨by rw [hE.out]; rfl, HB1.out⟩
        · have z1 : ¬ (2000 : Int) < (p.bs.length : Int) := by omega
          have z2 : 20000 < cntW p.bs := h4.resolve_left h5
          go_wp2
          go_ret
          exact ⟨by rw [hE.out]; rfl, HB1.out⟩
      · have z1 : ¬ (2000 : Int) < (p.bs.length : Int) := by omega
        have z2 : ¬ 20000 < cntW p.bs := fun h => h4 (.inr h)
        have hE : Hid (errP p = if fe (p.bs.map (errB p.bs)) ≠ 0 then fe (p.bs.map (errB p.bs)) else fe ((List.range p.ss.length).map (errS p.bs p.ss))) := Lib.hid (by unfold errP; rw [if_neg h4])
        clear hpr x0 x1 HB1 h4
        have FB := Lib.hid (Nat.le_refl 0)
        go_wp2
        go_loopw [7, 9, 10, 37, 49, 50, 51, 52] (fun _ _ _ i _ _ _ _ wr => ∃ k : Nat, k ≤ p.bs.length ∧ i = .int .i64 k ∧ Hid (Below W.heap.size W wr) ∧ Hid (fe ((p.bs.map (errB p.bs)).take k) = 0)) (fun _ _ _ i _ _ _ _ _ => p.bs.length - (intOf i).toNat)
        case atStart => exact ⟨0, Nat.zero_le _, rfl, HB, Lib.hid rfl⟩
        case round =>
          clear HB
          obtain ⟨k, hk, rfl, HB, HF⟩ := hrel
          by_cases hlt : k < p.bs.length
          · obtain ⟨hpr, y0', y1'⟩ := ALL.out wr HB.out
            obtain ⟨a, a1, hA, ha, hab, c0, c1, c2⟩ := hpr.b.blk hlt
            have hA' := Lib.hid hA
            obtain ⟨blk, hblk⟩ : ∃ blk, blk = p.bs[k] := ⟨_, rfl⟩
            rw [← hblk] at c0 c1 c2
            have HBK := Lib.hid hblk
            have hml : k < (p.bs.map (errB p.bs)).length := by simpa using hlt
            obtain ⟨f1, f2⟩ := fe_at hml HF.out
            rw [List.getElem_map, ← hblk] at f1 f2
            have F1 := Lib.hid f1
            have F2 := Lib.hid f2
            have hbm : blk ∈ p.bs := by rw [hblk]; exact List.getElem_mem hlt
            have hil := hi blk hbm
            have HBM := Lib.hid hbm
            rw [hA]
            clear f1 f2 hpr hblk hA hbm y0 y1
            by_cases hc : blk.cap < 0 ∨ 1000 < blk.cap
            · have e2 : errB p.bs blk = 2 := by unfold errB; rw [if_pos hc]
              have hE2 : Hid (errP p = 2) := Lib.hid (by rw [hE.out, F1.out (by rw [e2]; decide), e2]; rfl)
              have HB1 := fun o => Lib.hid (HB0.out.trans ((HB.out.alloc HB.out.size o).mono HB0.out.size))
              clear e2
              by_cases hc0 : blk.cap < 0
              · go_wp2
                go_ret
                exact ⟨by rw [hE2.out]; rfl, (HB1 _).out⟩
              · have hc1 : 1000 < blk.cap := hc.resolve_left hc0
                go_wp2
                go_ret
                exact ⟨by rw [hE2.out]; rfl, (HB1 _).out⟩
            · have hc0 : ¬ blk.cap < 0 := fun h => hc (.inl h)
              have hc1 : ¬ 1000 < blk.cap := fun h => hc (.inr h)
              have eB : Hid (errB p.bs blk = fe (errI p.bs blk)) := Lib.hid (by unfold errB; rw [if_neg hc])
              have eL : (errI p.bs blk).length = blk.ins.length := by simp [errI]
              have HBA := fun o => Lib.hid (HB.out.alloc HB.out.size o)
              have kn := fun o => Lib.hid (al_new wr o)
              clear hc
              go_wp2
              generalize hM7 : wr.heap.size = M7 at *
              have kn7 := kn (.cells #[.int .i64 blk.cap, .bool blk.param, .slice blk.A blk.ins.length blk.c] 69)
              have hb7 := HBA (.cells #[.int .i64 blk.cap, .bool blk.param, .slice blk.A blk.ins.length blk.c] 69)
              clear kn HBA
              generalize wr.alloc (.cells #[.int .i64 blk.cap, .bool blk.param, .slice blk.A blk.ins.length blk.c] 69) = V7 at *
              have ALL7 := Lib.hid (fun (v : World) (h : Below V7.heap.size V7 v) => show (p.Rd v ∧ v.cell? ⟨w.heap.size, 0, none⟩ = some (.slice p.bA p.bs.length p.bc) ∧ v.cell? ⟨w.heap.size, 1, none⟩ = some (.slice p.sA p.ss.length p.sc)) ∧ v.cell? ⟨M7, 0, none⟩ = some (.int .i64 blk.cap) ∧ v.cell? ⟨M7, 1, none⟩ = some (.bool blk.param) ∧ v.cell? ⟨M7, 2, none⟩ = some (.slice blk.A blk.ins.length blk.c) ∧ Below W.heap.size W v from by
                have hk := (h.block _ (heap_lt kn7.out)).trans kn7.out
                have hb := hb7.out.trans (h.mono hb7.out.size)
                exact ⟨ALL.out v hb, by rw [Lib.cell_of_heap hk]; rfl, by rw [Lib.cell_of_heap hk]; rfl, by rw [Lib.cell_of_heap hk]; rfl, hb⟩)
              clear hM7 hb7 kn7
              go_loopw [9, 10, 52] (fun _ _ i v => ∃ j : Nat, j ≤ blk.ins.length ∧ i = .int .i64 j ∧ Hid (Below V7.heap.size V7 v) ∧ Hid (fe ((errI p.bs blk).take j) = 0)) (fun _ _ i _ => blk.ins.length - (intOf i).toNat)
              case atStart => exact ⟨0, Nat.zero_le _, rfl, Lib.hid (Below.refl _ _), Lib.hid rfl⟩
              case round =>
                obtain ⟨j, hj, rfl, HV, HG⟩ := hrel
                obtain ⟨⟨pv, y0, y1⟩, d0, d1, d2, bv⟩ := ALL7.out _ HV.out
                by_cases hjl : j < blk.ins.length
                · obtain ⟨b', b1, hbA, hb1, hbb, i0, i1, i2, i3⟩ := (pv.i blk HBM.out).ins hjl
                  obtain ⟨x, hx⟩ : ∃ x, x = blk.ins[j] := ⟨_, rfl⟩
                  rw [← hx] at i0 i1 i2 i3
                  have hxm : x ∈ blk.ins := by rw [hx]; exact List.getElem_mem hjl
                  obtain ⟨g1, g2⟩ := fe_at (L := errI p.bs blk) (by rw [eL]; exact hjl) HG.out
                  have eg : (errI p.bs blk)[j]'(by rw [eL]; exact hjl) = ckI p.bs blk.ins.length x.op x.a x.b x.name := by simp [errI, hx]
                  rw [eg] at g1 g2
                  have G1 := Lib.hid g1
                  have G2 := Lib.hid g2
                  have yl := heap_lt_cell y0
                  have dl := heap_lt_cell d0
                  have y0a := fun o => cell_al y0 yl o
                  have y1a := fun o => cell_al y1 yl o
                  have d0a := fun o => cell_al d0 dl o
                  have d1a := fun o => cell_al d1 dl o
                  have d2a := fun o => cell_al d2 dl o
                  have CK : ∀ o, Calls Tryz.prog 51 #[.agg #[.slice p.bA p.bs.length p.bc, .slice p.sA p.ss.length p.sc], .agg #[.int .i64 blk.cap, .bool blk.param, .slice blk.A blk.ins.length blk.c], .agg #[.int .i64 x.op, .int .i64 x.a, .int .i64 x.b, .string ⟨x.name.toArray⟩]] (wr.alloc o) fun e w' => e = .returned (.int .i64 (ckI p.bs blk.ins.length x.op x.a x.b x.name)) ∧ Below wr.heap.size wr w' := fun o =>
                    (checkInstr_any p blk x.op x.a x.b x.name (wr.alloc o) (pv.below (bAl _ o)) (hnl blk HBM.out x hxm)).mono fun e w' h => ⟨h.1, (bAl wr o).trans (h.2.mono (by simp))⟩
                  have eRet : ckI p.bs blk.ins.length x.op x.a x.b x.name ≠ 0 → errP p = ckI p.bs blk.ins.length x.op x.a x.b x.name := fun h => by
                    have h1 := g1 h
                    have h2 : errB p.bs blk = ckI p.bs blk.ins.length x.op x.a x.b x.name := eB.out.trans h1
                    have h3 := F1.out (by rw [h2]; exact h)
                    rw [hE.out, h3, h2, if_pos h]
                  have ER := Lib.hid eRet
                  generalize ckI p.bs blk.ins.length x.op x.a x.b x.name = ck at *
                  have CK := Lib.hid CK
                  have BV := Lib.hid bv
                  rw [hbA]
                  clear g1 g2 eg hbA hx hxm pv bv eRet yl dl c0 c1 c2 y0' y1'
                  by_cases hck : ck = 0
                  · have t1 : (ck != 0) = false := by simp [hck]
                    have G3 := Lib.hid (G2.out hck)
                    have NB : ∀ w', Below wr.heap.size wr w' → Below V7.heap.size V7 w' := fun w' h => HV.out.trans (h.mono HV.out.size)
                    have NB := Lib.hid NB
                    clear hck
                    go_wp2_with (go_at_call 51; refine (CK.out _).mono ?_; rintro e w3 ⟨rfl, b3⟩; have B3 := Lib.hid b3; clear b3)
                    exact ⟨⟨j + 1, by omega, by simp, Lib.hid (NB.out _ B3.out), G3⟩, by simp [intOf]; omega⟩
                  · have t1 : (ck != 0) = true := by simpa using hck
                    have E3 := Lib.hid (ER.out hck)
                    have NB : ∀ w', Below wr.heap.size wr w' → Below w.heap.size w w' := fun w' h => HB0.out.trans ((BV.out.trans (h.mono BV.out.size)).mono HB0.out.size)
                    have NB := Lib.hid NB
                    clear hck
                    go_wp2_with (go_at_call 51; refine (CK.out _).mono ?_; rintro e w3 ⟨rfl, b3⟩; have B3 := Lib.hid b3; clear b3)
                    go_ret
                    exact ⟨by rw [E3.out]; rfl, NB.out _ B3.out⟩
                · obtain rfl : j = blk.ins.length := by omega
                  have h0 := HG.out
                  rw [← eL, List.take_length] at h0
                  have F3 := Lib.hid (F2.out (by rw [eB.out]; exact h0))
                  have BV := Lib.hid bv
                  clear h0 pv bv c0 c1 c2 y0' y1'
                  go_wp2
                  exact ⟨⟨k + 1, by omega, by simp, BV, F3⟩, by simp [intOf]; omega⟩
          · obtain rfl : k = p.bs.length := by omega
            have h0 := HF.out
            rw [show (p.bs.map (errB p.bs)).take p.bs.length = p.bs.map (errB p.bs) from List.take_of_length_le (by simp)] at h0
            have hE3 : Hid (errP p = fe ((List.range p.ss.length).map (errS p.bs p.ss))) := Lib.hid (by rw [hE.out, h0]; rfl)
            obtain ⟨hpr, y0, y1⟩ := ALL.out wr HB.out
            clear h0 HF hE hpr
            go_wp2
            clear y0 y1
            go_loopw [11, 12, 68, 69, 70, 71, 72, 73] (fun _ _ i _ _ _ _ _ wr => ∃ k : Nat, k ≤ p.ss.length ∧ i = .int .i64 k ∧ Hid (Below W.heap.size W wr) ∧ Hid (fe (((List.range p.ss.length).map (errS p.bs p.ss)).take k) = 0)) (fun _ _ i _ _ _ _ _ _ => p.ss.length - (intOf i).toNat)
            case atStart => exact ⟨0, Nat.zero_le _, rfl, HB, Lib.hid rfl⟩
            case round =>
              clear HB
              obtain ⟨k, hk, rfl, HB, HF⟩ := hrel
              by_cases hlt : k < p.ss.length
              · obtain ⟨hpr, y0, y1⟩ := ALL.out _ HB.out
                obtain ⟨a, a1, hA, ha, hab, c0, c1, c2⟩ := hpr.s.stt hlt
                obtain ⟨s, hs'⟩ : ∃ s, s = p.ss[k] := ⟨_, rfl⟩
                rw [← hs'] at c0 c1 c2
                have hsm : s ∈ p.ss := by rw [hs']; exact List.getElem_mem hlt
                have hsk : p.ss[k]? = some s := by rw [hs']; simp [hlt]
                obtain ⟨f1, f2⟩ := fe_at (L := (List.range p.ss.length).map (errS p.bs p.ss)) (by simpa using hlt) HF.out
                have eg : ((List.range p.ss.length).map (errS p.bs p.ss))[k]'(by simpa using hlt) = errS p.bs p.ss k := by simp
                rw [eg] at f1 f2
                have ER : Hid (errS p.bs p.ss k ≠ 0 → errP p = errS p.bs p.ss k) := Lib.hid fun h => hE3.out.trans (f1 h)
                have F2 := Lib.hid f2
                have yl := heap_lt_cell y0
                have y0a := fun o => cell_al y0 yl o
                have y1a := fun o => cell_al y1 yl o
                have LA : ∀ o, Calls Tryz.prog 52 #[tv s.pack] (wr.alloc o) fun e w' => e = .returned (.bool (lab s.pack)) ∧ Below (wr.alloc o).heap.size (wr.alloc o) w' := fun o => label_any s.pack (wr.alloc o) (hnp s hsm)
                have LA := Lib.hid LA
                have HSK := Lib.hid hsk
                have HPR := Lib.hid hpr
                have HA := Lib.hid hA
                have NB : ∀ o w', Below (wr.alloc o).heap.size (wr.alloc o) w' → Below W.heap.size W w' ∧ Below w.heap.size w w' := fun o w' h => by
                  have h1 := HB.out.trans (((bAl wr o).trans (h.mono (by simp))).mono HB.out.size)
                  exact ⟨h1, HB0.out.trans (h1.mono HB0.out.size)⟩
                have NB := Lib.hid NB
                rw [hA]
                clear f1 f2 eg hsm hsk hpr hA hs'
                cases hlab : lab s.pack with
                | false =>
                  have E6 : Hid (errP p = 6) := Lib.hid (by
                    have : errS p.bs p.ss k = 6 := by unfold errS; rw [HSK.out]; simp only [hlab, if_true]
                    rw [ER.out (by rw [this]; decide), this])
                  rw [hlab] at LA
                  clear hlab
                  go_wp2_with (go_at_call 52; refine (LA.out _).mono ?_; rintro e w3 ⟨rfl, b3⟩; have B3 := Lib.hid (NB.out _ _ b3); clear b3)
                  go_ret
                  exact ⟨by rw [E6.out]; rfl, B3.out.2⟩
                | true =>
                  rw [hlab] at LA
                  have hsA := HA.out
                  have PL : ∀ V, Below W.heap.size W V → Calls Tryz.prog 53 #[.agg #[.slice p.bA p.bs.length p.bc, .slice (some a) p.ss.length p.sc], .int .i64 s.block] V fun e w' => e = .returned (.bool (plainB p.bs s.block)) ∧ Below V.heap.size V w' := fun V hV => by
                    have h := plain_any p s.block V (ALL.out V hV).1
                    unfold Prg.v at h
                    rw [hsA] at h
                    exact h
                  have PL := Lib.hid PL
                  have BOX : ∀ o w', Below (wr.alloc (.cells #[.string ⟨s.pack.toArray⟩, .int .i64 s.id, .int .i64 s.block] 79)).heap.size (wr.alloc (.cells #[.string ⟨s.pack.toArray⟩, .int .i64 s.id, .int .i64 s.block] 79)) w' → o = (0 : Nat) → w'.cell? ⟨wr.heap.size, 0, none⟩ = some (.string ⟨s.pack.toArray⟩) ∧ w'.cell? ⟨wr.heap.size, 1, none⟩ = some (.int .i64 s.id) ∧ w'.cell? ⟨wr.heap.size, 2, none⟩ = some (.int .i64 s.block) ∧ w'.cell? ⟨w.heap.size, 0, none⟩ = some (.slice p.bA p.bs.length p.bc) ∧ w'.cell? ⟨w.heap.size, 1, none⟩ = some (.slice (some a) p.ss.length p.sc) := fun o w' h _ => by
                    have k3 := (h.block wr.heap.size (by simp)).trans (al_new wr _)
                    obtain ⟨_, k4, k5⟩ := ALL.out w' (NB.out _ _ h).1
                    rw [hsA] at k5
                    exact ⟨by rw [Lib.cell_of_heap k3]; rfl, by rw [Lib.cell_of_heap k3]; rfl, by rw [Lib.cell_of_heap k3]; rfl, k4, k5⟩
                  have BOX := Lib.hid BOX
                  clear hsA y0 y1 y0a y1a
                  by_cases hbad : s.id < 1 ∨ 999999 < s.id ∨ plainB p.bs s.block = false
                  · have E2 : Hid (errP p = 2) := Lib.hid (by
                      have : errS p.bs p.ss k = 2 := by unfold errS; rw [HSK.out]; simp only [hlab, Bool.true_eq_false, if_false, if_pos hbad]
                      rw [ER.out (by rw [this]; decide), this])
                    clear hlab
                    by_cases hb1 : s.id < 1
                    · go_wp2_with (go_at_call 52; refine (LA.out _).mono ?_; rintro e w3 ⟨rfl, b3⟩; obtain ⟨q0, q1, q2, q3, q4⟩ := BOX.out 0 w3 b3 rfl; have B3 := Lib.hid (NB.out _ _ b3); clear b3)
                      go_ret
                      exact ⟨by rw [E2.out]; rfl, B3.out.2⟩
                    · by_cases hb2 : 999999 < s.id
                      · go_wp2_with (go_at_call 52; refine (LA.out _).mono ?_; rintro e w3 ⟨rfl, b3⟩; obtain ⟨q0, q1, q2, q3, q4⟩ := BOX.out 0 w3 b3 rfl; have B3 := Lib.hid (NB.out _ _ b3); clear b3)
                        go_ret
                        exact ⟨by rw [E2.out]; rfl, B3.out.2⟩
                      · have hb3 : plainB p.bs s.block = false := (hbad.resolve_left hb1).resolve_left hb2
                        rw [hb3] at PL
                        clear hb3 hbad
                        go_wp2_with (first | (go_at_call 52; refine (LA.out _).mono ?_; rintro e w3 ⟨rfl, b3⟩; obtain ⟨q0, q1, q2, q3, q4⟩ := BOX.out 0 w3 b3 rfl; have B3 := Lib.hid (NB.out _ _ b3); clear b3) | (go_at_call 53; refine (PL.out _ B3.out.1).mono ?_; rintro e w4 ⟨rfl, b4⟩; have B4 := Lib.hid (B3.out.2.trans (b4.mono B3.out.2.size)); clear b4))
                        go_ret
                        exact ⟨by rw [E2.out]; rfl, B4.out⟩
                  · have hb1 : ¬ s.id < 1 := fun h => hbad (.inl h)
                    have hb2 : ¬ 999999 < s.id := fun h => hbad (.inr (.inl h))
                    have hb3 : plainB p.bs s.block = true := by
                      cases h : plainB p.bs s.block with
                      | true => rfl
                      | false => exact absurd (.inr (.inr h)) hbad
                    rw [hb3] at PL
                    have eS : errS p.bs p.ss k = ordS p.ss s k := by
                      unfold errS
                      rw [HSK.out]
                      simp only [hlab, Bool.true_eq_false, if_false, if_neg hbad]
                    have ES := Lib.hid eS
                    clear eS hb3 hbad hlab
                    go_wp2_with (first | (go_at_call 52; refine (LA.out _).mono ?_; rintro e w3 ⟨rfl, b3⟩; obtain ⟨q0, q1, q2, q3, q4⟩ := BOX.out 0 w3 b3 rfl; have B3 := Lib.hid (NB.out _ _ b3); have BB3 := Lib.hid b3; clear b3) | (go_at_call 53; refine (PL.out _ B3.out.1).mono ?_; rintro e w4 ⟨rfl, b4⟩; clear q0 q1 q2 q3 q4; have b5 := BB3.out.trans (b4.mono BB3.out.size); obtain ⟨q0, q1, q2, q3, q4⟩ := BOX.out 0 w4 b5 rfl; have B4 := Lib.hid (NB.out _ _ b5); clear b4 b5))
                    by_cases hk0 : k = 0
                    · subst hk0
                      have F3 := Lib.hid (F2.out (by rw [ES.out]; rfl))
                      have D4 := Lib.hid (fun n => show Below W.heap.size W (w4.drewN n) from ⟨B4.out.1.os, B4.out.1.tape, B4.out.1.output, B4.out.1.size, B4.out.1.block⟩)
                      clear ES ER
                      go_quiet (fail)
                      go_wp2
                      exact ⟨⟨1, by omega, rfl, Lib.hid (D4.out _), F3⟩, by simp [intOf]; omega⟩
                    · obtain ⟨j, hkj⟩ : ∃ j, k = j + 1 := ⟨k - 1, by omega⟩
                      have hjl : j < p.ss.length := by omega
                      obtain ⟨a', e1, hA', he1, heb, v0, v1, v2⟩ := (ALL.out w4 B4.out.1).1.s.stt hjl
                      obtain rfl : a' = a := by have := HA.out; rw [hA'] at this; exact Option.some.inj this
                      obtain ⟨q, hq⟩ : ∃ q, q = p.ss[j] := ⟨_, rfl⟩
                      rw [← hq] at v0 v1 v2
                      have hqk : p.ss[j]? = some q := by rw [hq]; simp [hjl]
                      have eo : errS p.bs p.ss k = if nmLt q.pack q.id s.pack s.id then 0 else 10 := by
                        rw [ES.out, hkj, ordS_succ hqk]
                      have hcn := cN_lt q.pack q.id s.pack s.id
                      have CMP : ∀ V, Calls Tryz.prog 54 #[.agg #[.string ⟨q.pack.toArray⟩, .int .i64 q.id], .agg #[.string ⟨s.pack.toArray⟩, .int .i64 s.id]] V fun e w' => e = .returned (.int .i64 (cN q.pack q.id s.pack s.id)) ∧ Below V.heap.size V w' := fun V => compare_any q.pack q.id s.pack s.id V
                      have CMP := Lib.hid CMP
                      have EO := Lib.hid eo
                      have w1' : IntKind.i64.wrap ((k : Int) - 1) = (j : Int) := by rw [IntWalk.i64_in _ (by omega)]; omega
                      have w2' : (0 : Int) < (k : Int) := by omega
                      have w2n : 0 < k := by omega
                      have w3' : ((j : Int)).toNat = j := by omega
                      have w4' : (0 : Int) ≤ (j : Int) := by omega
                      have w5' : (j : Int) < (p.ss.length : Int) := by omega
                      have D4 := Lib.hid (fun n (w' : World) (h : Below (w4.drewN n).heap.size (w4.drewN n) w') => show Below W.heap.size W w' ∧ Below w.heap.size w w' from by
                        have h1 : Below W.heap.size W w' := B4.out.1.trans (Below.mono (⟨h.os, h.tape, h.output, h.size, h.block⟩ : Below w4.heap.size w4 w') B4.out.1.size)
                        exact ⟨h1, HB0.out.trans (h1.mono HB0.out.size)⟩)
                      generalize nmLt q.pack q.id s.pack s.id = LT at *
                      generalize cN q.pack q.id s.pack s.id = CN at *
                      clear eo hqk hq hA' hkj ES
                      have hcn' : (0 : Int) ≤ CN ↔ LT = false := by
                        cases LT <;> simpa using hcn
                      clear hcn
                      cases LT with
                      | true =>
                        have g0 : ¬ (0 : Int) ≤ CN := fun h => by have := hcn'.1 h; cases this
                        have F3 := Lib.hid (F2.out (by rw [EO.out]; rfl))
                        clear hcn'
                        go_still_tail 12, (by kernel_rfl)
                        change wpList _ _ _ _ _ w4.drew
                        generalize hw5 : w4.drew = w5
                        have d5 : ∀ w', Below w5.heap.size w5 w' → Below W.heap.size W w' ∧ Below w.heap.size w w' := fun w' h => D4.out 1 w' (by subst hw5; exact h)
                        have D5 := Lib.hid d5
                        clear d5 hw5 D4
                        go_wp2_with (go_at_call 54; refine (CMP.out _).mono ?_; rintro e w6 ⟨rfl, b6⟩; have B6 := Lib.hid (D5.out _ b6); clear b6)
                        exact ⟨⟨k + 1, by omega, by simp, Lib.hid B6.out.1, F3⟩, by simp [intOf]; omega⟩
                      | false =>
                        have g0 : (0 : Int) ≤ CN := hcn'.2 rfl
                        have E10 : Hid (errP p = 10) := Lib.hid (by rw [ER.out (by rw [EO.out]; decide), EO.out]; rfl)
                        clear hcn'
                        go_still_tail 12, (by kernel_rfl)
                        change wpList _ _ _ _ _ w4.drew
                        generalize hw5 : w4.drew = w5
                        have d5 : ∀ w', Below w5.heap.size w5 w' → Below W.heap.size W w' ∧ Below w.heap.size w w' := fun w' h => D4.out 1 w' (by subst hw5; exact h)
                        have D5 := Lib.hid d5
                        clear d5 hw5 D4
                        go_wp2_with (go_at_call 54; refine (CMP.out _).mono ?_; rintro e w6 ⟨rfl, b6⟩; have B6 := Lib.hid (D5.out _ b6); clear b6)
                        go_ret
                        exact ⟨by rw [E10.out]; rfl, B6.out.2⟩
              · obtain rfl : k = p.ss.length := by omega
                have h0 := HF.out
                rw [List.take_of_length_le (by simp)] at h0
                have E0 : Hid (errP p = 0) := Lib.hid (by rw [hE3.out, h0])
                have HB1 := Lib.hid (HB0.out.trans (HB.out.mono HB0.out.size))
                clear h0
                go_wp2
                go_ret
                exact ⟨by rw [E0.out]; rfl, HB1.out⟩
end Go.Proofs.YtgboboljgcfggaaGreatDoor
namespace Go.Proofs.YtgboboljgcfggaaGreatDoor
open Go.RowKit Go.Maps Go.Shelf

/-- Blocks that differ in where they lie alone. -/
def BEq (bs cs : List Blk) : Prop := bs.map Blk.pb = cs.map Blk.pb
theorem BEq.at {bs cs : List Blk} (h : BEq bs cs) (n : Nat) : (bs[n]?).map Blk.pb = (cs[n]?).map Blk.pb := by
  have h1 := congrArg (fun l => l[n]?) h
  simpa using h1
theorem pb_eq {b c : Blk} (h : b.pb = c.pb) : b.cap = c.cap ∧ b.param = c.param ∧ b.ins = c.ins := by
  have := PB.mk.inj h
  exact this
theorem BEq.plain {bs cs : List Blk} (h : BEq bs cs) (n : Int) : plainB bs n = plainB cs n := by
  have h1 := h.at n.toNat
  unfold plainB
  cases h2 : bs[n.toNat]? with
  | none => rw [h2] at h1; cases h3 : cs[n.toNat]? with
    | none => rfl
    | some c => rw [h3] at h1; cases h1
  | some b => rw [h2] at h1; cases h3 : cs[n.toNat]? with
    | none => rw [h3] at h1; cases h1
    | some c =>
      rw [h3] at h1
      obtain ⟨e1, e2, -⟩ := pb_eq (Option.some.inj h1)
      simp only [e1, e2]
theorem BEq.clos {bs cs : List Blk} (h : BEq bs cs) (n : Int) : closB bs n = closB cs n := by
  have h1 := h.at n.toNat
  unfold closB
  cases h2 : bs[n.toNat]? with
  | none => rw [h2] at h1; cases h3 : cs[n.toNat]? with
    | none => rfl
    | some c => rw [h3] at h1; cases h1
  | some b => rw [h2] at h1; cases h3 : cs[n.toNat]? with
    | none => rw [h3] at h1; cases h1
    | some c =>
      rw [h3] at h1
      obtain ⟨e1, e2, -⟩ := pb_eq (Option.some.inj h1)
      simp only [e2]
theorem BEq.ckI {bs cs : List Blk} (h : BEq bs cs) (nb : Nat) (op a b : Int) (name : T) : ckI bs nb op a b name = Go.Proofs.YtgboboljgcfggaaGreatDoor.ckI cs nb op a b name := by
  unfold Go.Proofs.YtgboboljgcfggaaGreatDoor.ckI inR
  simp only [h.plain, h.clos]
theorem BEq.errB {bs cs : List Blk} (h : BEq bs cs) {b c : Blk} (e : b.pb = c.pb) : errB bs b = Go.Proofs.YtgboboljgcfggaaGreatDoor.errB cs c := by
  obtain ⟨e1, e2, e3⟩ := pb_eq e
  unfold Go.Proofs.YtgboboljgcfggaaGreatDoor.errB errI
  simp only [e1, e3, h.ckI]
theorem map_rel {α β γ : Type} {p : α → β} {f g : α → γ} (hfg : ∀ a b, p a = p b → f a = g b) : ∀ (l m : List α), l.map p = m.map p → l.map f = m.map g
  | [], [], _ => rfl
  | [], _ :: _, h => by cases h
  | _ :: _, [], h => by cases h
  | a :: l, b :: m, h => by
    simp only [List.map_cons, List.cons.injEq] at h ⊢
    exact ⟨hfg a b h.1, map_rel hfg l m h.2⟩
theorem BEq.cnt {bs cs : List Blk} (h : BEq bs cs) : cntW bs = cntW cs := by
  have h1 : bs.map (fun b => (b.ins.length : Int)) = cs.map (fun b => (b.ins.length : Int)) := map_rel (p := Blk.pb) (fun a b e => by rw [(pb_eq e).2.2]) bs cs h
  have h2 : ∀ l : List Blk, ∀ c : Int, l.foldl (fun c b => Go.RowKit.wrap64 (c + b.ins.length)) c = (l.map (fun b => (b.ins.length : Int))).foldl (fun c n => Go.RowKit.wrap64 (c + n)) c := by
    intro l
    induction l with
    | nil => exact fun _ => rfl
    | cons b l ih => exact fun c => ih _
  unfold cntW
  rw [h2, h2, h1]
theorem BEq.len {bs cs : List Blk} (h : BEq bs cs) : bs.length = cs.length := by
  have h1 := congrArg List.length h
  simpa using h1
def blkOf (b : PB) : Blk := ⟨b.cap, b.param, none, 0, b.ins⟩
/-- The error of a program, by its plain parts. -/
def errQ (bs : List PB) (ss : List Stt) : Int := errP ⟨none, 0, bs.map blkOf, none, 0, ss⟩
theorem errP_pl (p : Prg) : errP p = errQ (p.bs.map Blk.pb) p.ss := by
  have h : BEq p.bs ((p.bs.map Blk.pb).map blkOf) := by
    unfold BEq
    rw [List.map_map, List.map_map]
    exact List.map_congr_left fun b _ => rfl
  unfold errQ errP
  simp only
  rw [← h.len, ← h.cnt, ← map_rel (p := Blk.pb) (f := errB p.bs) (g := errB ((p.bs.map Blk.pb).map blkOf)) (fun a b e => h.errB e) _ _ h]
  have h2 : errS p.bs p.ss = errS ((p.bs.map Blk.pb).map blkOf) p.ss := by
    funext i
    unfold errS
    simp only [h.plain]
  rw [h2]
/-- A name of a root. -/
def Nam.pr (n : Nam) : T × Int := (n.pack, n.id)
def fuelL (L : List Cod) : Nat := (spots (pls L)).length + 1
/-- What Link answers. -/
def linkV (L : List Cod) (R : List Nam) : Int × List PB × List Stt :=
  if errL L ≠ 0 then (errL L, [], []) else match rootsK (pls L) [] (R.map Nam.pr) with
  | none => (8, [], [])
  | some K0 => match bfs (pls L) (fuelL L) 0 K0 with
    | some (some K) => if errQ (progB (pls L) K) (startsOf (rootN L K) (R.map Nam.pr)) ≠ 0 then (errQ (progB (pls L) K) (startsOf (rootN L K) (R.map Nam.pr)), [], []) else (0, progB (pls L) K, startsOf (rootN L K) (R.map Nam.pr))
    | _ => (21, [], [])
/-- What Link leaves. -/
def LkP (L : List Cod) (R : List Nam) (w : World) (e : Ending) (w' : World) : Prop := ∃ X : Prg, e = .returned (.tuple #[X.v, iv (linkV L R).1]) ∧ X.Rd w' ∧ X.bs.map Blk.pb = (linkV L R).2.1 ∧ X.ss = (linkV L R).2.2 ∧ Gr w w' ∧ ∀ b ∈ X.bs, b.ins.length ≤ 100000
theorem LM.same {kb m1 m2 base cp n : Nat} {Ad : Option Addr} {dl : MK Nam} {K : List Sp} {v : Value} {V V' : World} (h : LM kb m1 m2 base Ad cp n dl K v V) (h1 : V'.heap[kb]? = V.heap[kb]?) (h2 : V'.heap[m1]? = V.heap[m1]?) (h3 : V'.heap[m2]? = V.heap[m2]?) (h4 : ∀ j, v.ownBlock = some j → V'.heap[j]? = V.heap[j]?) : LM kb m1 m2 base Ad cp n dl K v V' :=
  ⟨h1.trans h.h, h.d.keep h2, h.ld, h.n.keep h3, h.ln, or_at h.o h4, h.lt, h.ne⟩
/-- The linker while it is filled. -/
structure LkS (w : World) (b7 kb m1 m2 base cp n : Nat) (Ad : Option Addr) (L : List Cod) (ds : List Deferred) (K : List Sp) (v : Value) (V : World) : Prop where
  gr : Gr w V
  r4 : V.heap[w.heap.size]? = some (.cells #[.slice none 0 0, .slice none 0 0] 26 (0, 0))
  r5 : V.heap[w.heap.size + 1]? = some (.cells #[iv 0] 27 (0, 0))
  k7 : V.heap[b7]? = some (.cells #[.pointer (some ⟨kb, 0, none⟩)] 104 (0, 0))
  lm : LM kb m1 m2 base Ad cp n (dlF 0 L) K v V
  lt : w.heap.size + 2 ≤ m1 ∧ w.heap.size + 2 ≤ m2 ∧ w.heap.size + 2 ≤ kb ∧ base ≤ b7
  ow : v.ownBlock ≠ some b7
  mks : Mks (w.heap.size + 2) V ds
section
variable {w V W W' : World} {b7 kb m1 m2 base cp n : Nat} {Ad : Option Addr} {L : List Cod} {ds : List Deferred} {K K' : List Sp} {v v' : Value}
theorem LkS.go (h : LkS w b7 kb m1 m2 base cp n Ad L ds K v V) (g : Gr V W) : LkS w b7 kb m1 m2 base cp n Ad L ds K v W :=
  ⟨h.gr.trans g, gr_h g h.r4, gr_h g h.r5, gr_h g h.k7, h.lm.gr g, h.lt, h.ow, h.mks.gr g⟩
theorem LkS.need (h : LkS w b7 kb m1 m2 base cp n Ad L ds K v W) (l' : LM kb m1 m2 base Ad cp n (dlF 0 L) K' v' W') (f : NF kb m2 base v W W') (o : ∀ j, v'.ownBlock = some j → v.ownBlock = some j ∨ W.heap.size ≤ j) : LkS w b7 kb m1 m2 base cp n Ad L ds K' v' W' := by
  obtain ⟨l1, l2, l3, l4⟩ := h.lt
  obtain ⟨l5, l6, l7⟩ := h.lm.lt
  have own : ∀ j, v.ownBlock = some j → base ≤ j := fun j hj => (h.lm.o.lt j hj).1
  have st : ∀ k, k < W.heap.size → k < w.heap.size + 2 → W'.heap[k]? = W.heap[k]? := fun k hk h2 => f.same k hk (by omega) (by omega) (fun e => by have := own k e; omega)
  refine ⟨⟨f.os.trans h.gr.os, f.tape.trans h.gr.tape, f.output.trans h.gr.output, Nat.le_trans h.gr.size f.size, fun k hk hn => (st k (Nat.lt_of_lt_of_le hk h.gr.size) (by omega)).trans (h.gr.block k hk hn)⟩, (st _ (heap_lt h.r4) (by omega)).trans h.r4, (st _ (heap_lt h.r5) (by omega)).trans h.r5, (f.same b7 (heap_lt h.k7) (by omega) (by omega) h.ow).trans h.k7, l', h.lt, ?_, ?_⟩
  · intro e
    rcases o b7 e with h1 | h1
    · exact h.ow h1
    · have := heap_lt h.k7; omega
  · refine h.mks.keep fun q hq hr => (f.same q (heap_lt hr) ?_ ?_ ?_).trans hr
    · rintro rfl; rw [h.lm.h] at hr; cases hr
    · rintro rfl; have := h.lm.n; unfold MP at this; rw [this] at hr; cases hr
    · intro e
      rcases h.lm.o.2 with ⟨e2, -⟩ | ⟨gg, cap, cur, e2, -, hh, -⟩
      · subst e2; cases e
      · subst e2
        simp only [Value.ownBlock, Option.some.injEq] at e
        subst e
        rw [hh] at hr
        cases hr
theorem LkS.same (h : LkS w b7 kb m1 m2 base cp n Ad L ds K v W) (os : W'.os = W.os) (tp : W'.tape = W.tape) (ot : W'.output = W.output) (sz : W.heap.size ≤ W'.heap.size) {B : Nat} (hb : b7 < B) (hd : ∀ r, (⟨.collected r, #[]⟩ : Deferred) ∈ ds → r < B) (hw : w.heap.size + 2 ≤ B) (hk : ∀ k, k < B → W'.heap[k]? = W.heap[k]?) (ho : ∀ j, v.ownBlock = some j → W'.heap[j]? = W.heap[j]?) : LkS w b7 kb m1 m2 base cp n Ad L ds K v W' := by
  obtain ⟨l1, l2, l3, l4⟩ := h.lt
  obtain ⟨l5, l6, l7⟩ := h.lm.lt
  have mk : ∀ es : List Deferred, (∀ r, (⟨.collected r, #[]⟩ : Deferred) ∈ es → r < B) → Mks (w.heap.size + 2) W es → Mks (w.heap.size + 2) W' es := by
    intro es
    induction es with
    | nil => exact fun _ _ => trivial
    | cons e es ih =>
      intro hr ⟨⟨r, h1, h2, h3, h4⟩, h5⟩
      exact ⟨⟨r, h1, h2, (hk r (hr r (by rw [h1]; simp))).trans h3, h4⟩, ih (fun r hm => hr r (by simp [hm])) h5⟩
  exact ⟨⟨os.trans h.gr.os, tp.trans h.gr.tape, ot.trans h.gr.output, Nat.le_trans h.gr.size sz, fun k h1 h2 => (hk k (by omega)).trans (h.gr.block k h1 h2)⟩, (hk _ (by omega)).trans h.r4, (hk _ (by omega)).trans h.r5, (hk _ hb).trans h.k7, h.lm.same (hk _ (by omega)) (hk _ (by omega)) (hk _ (by omega)) ho, h.lt, h.ow, mk ds hd h.mks⟩
theorem LkS.c (h : LkS w b7 kb m1 m2 base cp n Ad L ds K v V) : V.cell? ⟨b7, 0, none⟩ = some (.pointer (some ⟨kb, 0, none⟩)) ∧ V.cell? ⟨w.heap.size, 0, none⟩ = some (.slice none 0 0) ∧ V.cell? ⟨w.heap.size, 1, none⟩ = some (.slice none 0 0) ∧ V.cell? ⟨w.heap.size + 1, 0, none⟩ = some (iv 0) ∧ (∀ j, V.frozen? ⟨w.heap.size, j, none⟩ = false) ∧ ∀ j, V.frozen? ⟨w.heap.size + 1, j, none⟩ = false :=
  ⟨by rw [Lib.cell_of_heap h.k7]; rfl, by rw [Lib.cell_of_heap h.r4]; rfl, by rw [Lib.cell_of_heap h.r4]; rfl, by rw [Lib.cell_of_heap h.r5]; rfl, frz h.r4, frz h.r5⟩
end
end Go.Proofs.YtgboboljgcfggaaGreatDoor
namespace Go.Proofs.YtgboboljgcfggaaGreatDoor
open Go.RowKit Go.Maps

theorem tk_cell {B : Nat} {W W' : World} (h : Tk B W W') {a : Addr} {v : Value} (hc : W.cell? a = some v) : W'.cell? a = some v := by
  unfold World.cell? at hc ⊢
  cases hq : W.heap[a.block]? with
  | none => rw [hq] at hc; cases hc
  | some o =>
    cases o with
    | cells c t f => rw [h.cells _ _ _ _ hq]; rw [hq] at hc; exact hc
    | _ => rw [hq] at hc; cases hc
theorem RD.tk {α : Type} {n B : Nat} {cs : α → List Value} {W W' : World} {A : Option Addr} {L : List α} (h : RD n cs W A L) (t : Tk B W W') : RD n cs W' A L := by
  rcases h with rfl | ⟨a, e, hb, hc⟩
  · exact .inl rfl
  · exact .inr ⟨a, e, by rw [t.size]; exact hb, fun j x hx i v hv => tk_cell t (hc j x hx i v hv)⟩
section
variable {o : Oper} {a : Act} {w : World}
theorem op_faP {x : Tmp} {g f : Nat} (hd : o.dst.isSome = true) (ho : o.op = .fieldAddr 26 (.tmp x) 1) (h : a.eval (.tmp x) = .pointer (some ⟨g, f, none⟩)) : (execOp a.eval o).run Tryz.prog w = .ok (nx o (.pointer (some ⟨g, f + 1, none⟩))) w := by
  rw [nx_some hd]
  unfold Act.eval at h
  obtain ⟨d, op, t, ps, af, gu⟩ := o
  simp only at ho
  subst ho
  go_simp
theorem op_faL {x : Tmp} {i g f : Nat} (hd : o.dst.isSome = true) (hi : i = 1 ∨ i = 2) (ho : o.op = .fieldAddr 113 (.tmp x) i) (h : a.eval (.tmp x) = .pointer (some ⟨g, f, none⟩)) : (execOp a.eval o).run Tryz.prog w = .ok (nx o (.pointer (some ⟨g, f + i, none⟩))) w := by
  rw [nx_some hd]
  unfold Act.eval at h
  obtain ⟨d, op, t, ps, af, gu⟩ := o
  simp only at ho
  subst ho
  rcases hi with rfl | rfl <;> go_simp
theorem op_ldP {x : Tmp} {T : TypeId} {p : Addr} {v : Value} (hd : o.dst.isSome = true) (hT : T = 24 ∨ T = 104 ∨ T = 109 ∨ T = 110) (ho : o.op = .load T (.tmp x)) (h : a.eval (.tmp x) = .pointer (some p)) (hc : w.cell? p = some v) : (execOp a.eval o).run Tryz.prog w = .ok (nx o (v)) w := by
  rw [nx_some hd]
  unfold Act.eval at h
  obtain ⟨d, op, t, ps, af, gu⟩ := o
  simp only at ho
  subst ho
  rcases hT with rfl | rfl | rfl | rfl <;> go_simp
theorem op_ldN {x : Tmp} {g : Nat} {u v : Value} (hd : o.dst.isSome = true) (ho : o.op = .load 33 (.tmp x)) (h : a.eval (.tmp x) = .pointer (some ⟨g, 0, none⟩)) (h0 : w.cell? ⟨g, 0, none⟩ = some u) (h1 : w.cell? ⟨g, 1, none⟩ = some v) : (execOp a.eval o).run Tryz.prog w = .ok (nx o (.agg #[u, v])) w := by
  rw [nx_some hd]
  unfold Act.eval at h
  obtain ⟨d, op, t, ps, af, gu⟩ := o
  simp only at ho
  subst ho
  go_simp
theorem op_lk {x y : Tmp} {T : TypeId} {m k v : Value} (hd : o.dst.isSome = true) (ho : o.op = .lookup T (.tmp x) (.tmp y) false) (h : a.eval (.tmp x) = m) (h' : a.eval (.tmp y) = k) (hr : (Instr.lookup T m k false).run Tryz.prog w = .ok v w) : (execOp a.eval o).run Tryz.prog w = .ok (nx o (v)) w := by
  rw [nx_some hd]
  unfold Act.eval at h h'
  obtain ⟨d, op, t, ps, af, gu⟩ := o
  simp only at ho
  subst ho
  go_simp
theorem op_bd {x y : Tmp} {p u i : Value} (hd : o.dst.isSome = true) (ho : o.op = .build 79 #[(0, .tmp x), (1, .tmp y)]) (h : a.eval (.tmp x) = .agg #[p, u]) (h' : a.eval (.tmp y) = i) (hi : ∃ n, i = iv n) : (execOp a.eval o).run Tryz.prog w = .ok (nx o (.agg #[p, u, i])) w := by
  rw [nx_some hd]
  obtain ⟨n, rfl⟩ := hi
  have h2 : a.tmps[x]?.getD undef = .agg #[p, u] := by simpa [Act.eval] using h
  have h3 : a.tmps[y]?.getD undef = iv n := by simpa [Act.eval] using h'
  obtain ⟨d, op, t, ps, af, gu⟩ := o
  simp only at ho
  subst ho
  go_simp
theorem op_ns {x : Tmp} {m : Nat} {p : T} {i u : Int} (hs : w.heap.size = m) (hd : o.dst.isSome = true) (ho : o.op = .buildSlice 24 1 #[(0, .tmp x)]) (h : a.eval (.tmp x) = .agg #[tv p, iv i, iv u]) : (execOp a.eval o).run Tryz.prog w = .ok (nx o (.slice (some ⟨m, 0, none⟩) 1 1)) (w.alloc (.cells #[tv p, iv i, iv u] 79)) := by
  subst hs
  rw [nx_some hd]
  have h2 : a.tmps[x]?.getD undef = .agg #[tv p, iv i, iv u] := by simpa [Act.eval] using h
  obtain ⟨d, op, t, ps, af, gu⟩ := o
  simp only at ho
  subst ho
  go_simp
end
end Go.Proofs.YtgboboljgcfggaaGreatDoor
namespace Go.Proofs.YtgboboljgcfggaaGreatDoor
open Go.RowKit Go.Maps
attribute [local go_sem] Oper.semAt_some

theorem results_pe {fn : Func} {p q : Tmp} (h : fn.results = #[.cell p 26, .cell q 27]) (tmps : Array Value) (w : World) (a b : Addr) (x y e : Value) (hp : tmps.getD p undef = .pointer (some a)) (hq : tmps.getD q undef = .pointer (some b)) (h0 : w.cell? a = some x) (h1 : w.cell? ⟨a.block, a.off + 1, none⟩ = some y) (h2 : w.cell? b = some e) : (results fn tmps).run Tryz.prog w = .ok (.tuple #[.agg #[x, y], e]) w := by
  have ha := Tryz.isAgg26
  have hz := Tryz.sizeOf26
  have hb := Tryz.isAgg27
  have hp' : tmps[p]?.getD undef = .pointer (some a) := by simpa using hp
  have hq' : tmps[q]?.getD undef = .pointer (some b) := by simpa using hq
  clear hp hq
  simp only [results, h]
  simp [Sem.run_bind, hp', hq', asAddr, go_sem, ha, hz, hb, loadVar, h0, h1, h2]
theorem Prg.Rd.tk {B : Nat} {W W' : World} {X : Prg} (h : X.Rd W) (t : Tk B W W') : X.Rd W' := ⟨h.b.tk t, fun b hb => (h.i b hb).tk t, h.s.tk t⟩
theorem rd_put {α : Type} {n k : Nat} {cs : α → List Value} {W W' : World} {A : Option Addr} {L : List α} (P : Value → Prop) (h : RD n cs W A L) (hk : ∀ a : Addr, a.block = k → ∀ v, W.cell? a = some v → P v) (hx : ∀ x, ∃ (i : Nat) (v : Value), (cs x)[i]? = some v ∧ ¬ P v) (g : W.grownBy W' (some k)) : RD n cs W' A L := by
  cases L with
  | nil => exact .inl rfl
  | cons x L =>
    refine h.but g fun a e e2 => ?_
    rcases h with h | ⟨a', e', hb, hc⟩
    · cases h
    · rw [e] at e'
      cases e'
      obtain ⟨i, v, hi, hp⟩ := hx x
      exact hp (hk _ (by rw [add_block]; exact Option.some.inj e2) v (hc 0 x rfl i v hi))
theorem Prg.Rd.put {k : Nat} {W W' : World} {X : Prg} (h : X.Rd W) (P : Value → Prop) (hk : ∀ a : Addr, a.block = k → ∀ v, W.cell? a = some v → P v) (hp : (∀ A n c, P (.slice A n c)) ∧ (∀ n, ¬ P (iv n)) ∧ (∀ t, ¬ P (tv t)) ∨ (∀ n, P (iv n)) ∧ (∀ b, ¬ P (.bool b)) ∧ (∀ t, ¬ P (tv t))) (g : W.grownBy W' (some k)) : X.Rd W' := by
  refine ⟨rd_put P h.b hk (fun x => ?_) g, fun b hb => rd_put P (h.i b hb) hk (fun x => ?_) g, rd_put P h.s hk (fun x => ?_) g⟩
  · rcases hp with ⟨-, h2, -⟩ | ⟨-, h2, -⟩
    · exact ⟨0, _, rfl, h2 _⟩
    · exact ⟨1, _, rfl, h2 _⟩
  · rcases hp with ⟨-, h2, -⟩ | ⟨-, -, h2⟩
    · exact ⟨0, _, rfl, h2 _⟩
    · exact ⟨3, _, rfl, h2 _⟩
  · rcases hp with ⟨-, -, h2⟩ | ⟨-, -, h2⟩
    · exact ⟨0, _, rfl, h2 _⟩
    · exact ⟨0, _, rfl, h2 _⟩
def isSl (v : Value) : Prop := ∃ A n c, v = .slice A n c
def isIv (v : Value) : Prop := ∃ n, v = iv n
theorem sl_p : (∀ A n c, isSl (.slice A n c)) ∧ (∀ n, ¬ isSl (iv n)) ∧ (∀ t, ¬ isSl (tv t)) ∨ (∀ n, isSl (iv n)) ∧ (∀ b, ¬ isSl (.bool b)) ∧ (∀ t, ¬ isSl (tv t)) :=
  .inl ⟨fun A n c => ⟨A, n, c, rfl⟩, (fun n h => by obtain ⟨A, m, c, e⟩ := h; cases e), (fun n h => by obtain ⟨A, m, c, e⟩ := h; cases e)⟩
theorem iv_p : (∀ A n c, isIv (.slice A n c)) ∧ (∀ n, ¬ isIv (iv n)) ∧ (∀ t, ¬ isIv (tv t)) ∨ (∀ n, isIv (iv n)) ∧ (∀ b, ¬ isIv (.bool b)) ∧ (∀ t, ¬ isIv (tv t)) :=
  .inr ⟨fun n => ⟨n, rfl⟩, (fun n h => by obtain ⟨m, e⟩ := h; cases e), (fun n h => by obtain ⟨m, e⟩ := h; cases e)⟩
theorem cells_of {W : World} {k : Nat} {c : Array Value} {t : TypeId} {P : Value → Prop} (h : W.heap[k]? = some (.cells c t (0, 0))) (hc : ∀ (i : Nat) (v : Value), c[i]? = some v → P v) : ∀ a : Addr, a.block = k → ∀ v, W.cell? a = some v → P v := by
  intro a ha v hv
  unfold World.cell? at hv
  rw [ha, h] at hv
  simp only at hv
  split at hv
  · cases hv
  · exact hc _ _ hv
/-- A program's rows bear the stores into the results. -/
theorem Prg.Rd.res {W : World} {X : Prg} {m : Nat} {x0 x1 y0 y1 : Value} {e0 e1 : Int} (h : X.Rd W) (h4 : W.heap[m]? = some (.cells #[x0, x1] 26 (0, 0))) (h5 : W.heap[m + 1]? = some (.cells #[iv e0] 27 (0, 0))) (p0 : isSl x0) (p1 : isSl x1) (q0 : isSl y0) :
    X.Rd (((W.setCell ⟨m, 0, none⟩ y0).setCell ⟨m, 1, none⟩ y1).setCell ⟨m + 1, 0, none⟩ (iv e1)) := by
  have s1 : X.Rd (W.setCell ⟨m, 0, none⟩ y0) := h.put isSl (cells_of h4 (fun i v hv => by
    rcases i with _ | _ | i
    · simp at hv; subst hv; exact p0
    · simp at hv; subst hv; exact p1
    · simp at hv)) sl_p (grown_set _ _ _)
  have h4' : (W.setCell ⟨m, 0, none⟩ y0).heap[m]? = some (.cells #[y0, x1] 26 (0, 0)) := by simp [World.setCell, Array.getElem?_modify, h4]
  have s2 : X.Rd ((W.setCell ⟨m, 0, none⟩ y0).setCell ⟨m, 1, none⟩ y1) := s1.put isSl (cells_of h4' (fun i v hv => by
    rcases i with _ | _ | i
    · simp at hv; subst hv; exact q0
    · simp at hv; subst hv; exact p1
    · simp at hv)) sl_p (grown_set _ _ _)
  have h5' : ((W.setCell ⟨m, 0, none⟩ y0).setCell ⟨m, 1, none⟩ y1).heap[m + 1]? = some (.cells #[iv e0] 27 (0, 0)) := (Below.heap_setCell _ _ _ _ (by show m + 1 ≠ m; omega)).trans ((Below.heap_setCell _ _ _ _ (by show m + 1 ≠ m; omega)).trans h5)
  exact s2.put isIv (cells_of h5' (fun i v hv => by
    rcases i with _ | i
    · simp at hv; subst hv; exact ⟨e0, rfl⟩
    · simp at hv)) iv_p (grown_set _ _ _)
theorem lnk_end {w V : World} {ds : List Deferred} {L : List Cod} {R : List Nam} {tmps : Array Value} {x y : Value} {e : Int} {n : Nat} (X : Prg) (h4 : V.heap[w.heap.size]? = some (.cells #[x, y] 26 (0, 0))) (h5 : V.heap[w.heap.size + 1]? = some (.cells #[iv e] 27 (0, 0))) (g : Gr w V) (mk : Mks (w.heap.size + 2) V ds) (hv : X.v = .agg #[x, y]) (hX : X.Rd V) (hr : (e, X.bs.map Blk.pb, X.ss) = linkV L R) (hl : ∀ b ∈ X.bs, b.ins.length ≤ 100000) (t4 : tmps.getD 4 undef = .pointer (some ⟨w.heap.size, 0, none⟩)) (t5 : tmps.getD 5 undef = .pointer (some ⟨w.heap.size + 1, 0, none⟩)) : LeavesInM Fence.wide n Tryz.prog Tryz.f16 tmps (LkP L R w) ds .returning V := by
  refine leaves_mks ds _ mk fun W' hT => ?_
  have k4 := (hT.low _ (by omega)).trans h4
  have k5 := (hT.low _ (by omega)).trans h5
  refine ⟨_, results_pe rfl _ _ ⟨w.heap.size, 0, none⟩ ⟨w.heap.size + 1, 0, none⟩ x y (iv e) t4 t5 (by rw [Lib.cell_of_heap k4]; rfl) (by rw [Lib.cell_of_heap k4]; rfl) (by rw [Lib.cell_of_heap k5]; rfl), X, ?_, hX.tk hT, ?_, ?_, ?_, hl⟩
  · rw [hv, ← hr]
  · rw [← hr]
  · rw [← hr]
  · exact ⟨hT.os.trans g.os, hT.tape.trans g.tape, hT.output.trans g.output, by rw [hT.size]; exact g.size, fun k hk hn => (hT.low k (by omega)).trans (g.block k hk hn)⟩
def nilX : Prg := ⟨none, 0, [], none, 0, []⟩
theorem nilX_rd (w : World) : nilX.Rd w := ⟨.inl rfl, (fun _ h => by cases h), .inl rfl⟩
theorem lnk_err {w V : World} {ds : List Deferred} {L : List Cod} {R : List Nam} {tmps : Array Value} {e : Int} {n : Nat} (h4 : V.heap[w.heap.size]? = some (.cells #[.slice none 0 0, .slice none 0 0] 26 (0, 0))) (h5 : V.heap[w.heap.size + 1]? = some (.cells #[iv e] 27 (0, 0))) (g : Gr w V) (mk : Mks (w.heap.size + 2) V ds) (hr : (e, [], []) = linkV L R) (t4 : tmps.getD 4 undef = .pointer (some ⟨w.heap.size, 0, none⟩)) (t5 : tmps.getD 5 undef = .pointer (some ⟨w.heap.size + 1, 0, none⟩)) : LeavesInM Fence.wide n Tryz.prog Tryz.f16 tmps (LkP L R w) ds .returning V :=
  lnk_end nilX h4 h5 g mk rfl (nilX_rd V) hr (fun _ h => by cases h) t4 t5
section
variable {o : Oper} {a : Act} {w : World}
theorem op_lk2 {x y : Tmp} {T : TypeId} {m k v : Value} (hd : o.dst.isSome = true) (ho : o.op = .lookup T (.tmp x) (.tmp y) true) (h : a.eval (.tmp x) = m) (h' : a.eval (.tmp y) = k) (hr : (Instr.lookup T m k true).run Tryz.prog w = .ok v w) : (execOp a.eval o).run Tryz.prog w = .ok (nx o v) w := by
  rw [nx_some hd]
  unfold Act.eval at h h'
  obtain ⟨d, op, t, ps, af, gu⟩ := o
  simp only at ho
  subst ho
  go_simp
theorem op_ext {x : Tmp} {i : Nat} {u v r : Value} (hd : o.dst.isSome = true) (hi : (i = 0 ∧ r = u) ∨ (i = 1 ∧ r = v)) (ho : o.op = .extract (.tmp x) i) (h : a.eval (.tmp x) = .tuple #[u, v]) : (execOp a.eval o).run Tryz.prog w = .ok (nx o r) w := by
  rw [nx_some hd]
  unfold Act.eval at h
  obtain ⟨d, op, t, ps, af, gu⟩ := o
  simp only at ho
  subst ho
  rcases hi with ⟨rfl, rfl⟩ | ⟨rfl, rfl⟩ <;> go_simp
theorem op_al {m : Nat} (hs : w.heap.size = m) (hd : o.dst.isSome = true) (ho : o.op = .alloc 107) : (execOp a.eval o).run Tryz.prog w = .ok (nx o (.pointer (some ⟨m, 0, none⟩))) (w.alloc (.cells #[iv 0, iv 0] 107)) := by
  subst hs
  rw [nx_some hd]
  obtain ⟨d, op, t, ps, af, gu⟩ := o
  simp only at ho
  subst ho
  go_simp
theorem op_st {x y : Tmp} {g : Nat} {c b p q : Int} (hd : o.dst.isSome = false) (ho : o.op = .store 107 (.tmp x) (.tmp y)) (h : a.eval (.tmp x) = .pointer (some ⟨g, 0, none⟩)) (h' : a.eval (.tmp y) = .agg #[iv c, iv b]) (hg : w.heap[g]? = some (.cells #[iv p, iv q] 107 (0, 0))) : (execOp a.eval o).run Tryz.prog w = .ok (nx o undef) ((w.setCell ⟨g, 0, none⟩ (iv c)).setCell ⟨g, 1, none⟩ (iv b)) := by
  have c0 : w.cell? ⟨g, 0, none⟩ = some (iv p) := by rw [Lib.cell_of_heap hg]; rfl
  have c1 : w.cell? ⟨g, 1, none⟩ = some (iv q) := by rw [Lib.cell_of_heap hg]; rfl
  have f0 := frz hg 0
  have f1 := frz hg 1
  have h2 : a.tmps[x]?.getD undef = .pointer (some ⟨g, 0, none⟩) := by simpa [Act.eval] using h
  have h3 : a.tmps[y]?.getD undef = .agg #[iv c, iv b] := by simpa [Act.eval] using h'
  rw [nx_none hd]
  clear hg
  obtain ⟨d, op, t, ps, af, gu⟩ := o
  simp only at ho
  subst ho
  go_simp
end
end Go.Proofs.YtgboboljgcfggaaGreatDoor

/- The walks and the words of the family machine, part 6: RunAn, RunAo, RunAp, RunPl. -/
import Derived.Test.YtdfllhmkgphcmaaDoorM5
namespace Go.Proofs.YtdfllhmkgphcmaaDoor
open Go.RowKit

set_option maxRecDepth 100000 in
set_option maxHeartbeats 2000000 in
theorem ahead_none (b : Bl) (x : AV) (w : World) (q : Addr) (n c sz st N : Nat) (cs : List Value) (es : Array MapEntry) (clk : Nat) (P : Ending → World → Prop) (hn : 0 < n) (hnc : n ≤ 400000000) (hsz : sz = 2 * n + 4) (hN : N = n + 4) (hst : N = st + 1)
    (hcs : cs.length = n * 8) (h1 : ∀ v ∈ cs, v.oneCell' = true) (hA : (some q) = none → n = 0 ∧ c = 0)
    (c9 : ∀ o k, ((w.alloc o).drewN k).cell? ⟨b.rb, 9, none⟩ = some (.map (some b.mb)))
    (LK : ∀ k, (Instr.lookup 85 (.map (some b.mb)) (.pointer (some q)) false).run Tryd.prog ((w.alloc (c8 x)).drewN k) = .ok (.pointer none) ((w.alloc (c8 x)).drewN k))
    (DL : ∀ k ty, (Builtin.delete_ #[85, 129] ty #[.map (some b.mb), .pointer (some q)]).run Tryd.prog ((w.alloc (c8 x)).drewN k) = .ok (.tuple #[]) (mapw ((w.alloc (c8 x)).drewN k) b.mb es clk))
    (S4 : ∀ k, AhV b (mapw ((w.alloc (c8 x)).drewN k) b.mb es clk) x w.heap.size (some q) cs es clk)
    (FIN : ∀ V w', V.heap = (mapw (w.alloc (c8 x)) b.mb es clk).heap → V.os = w.os → V.tape = w.tape → V.output = w.output → w'.heap = (mapw (st8 (((newR V sz N).setRow V.heap.size (newA sz N cs)).setCell ⟨V.heap.size + 1, 1, none⟩ (iv st)) V.heap.size (st * 8) x) b.mb (es.push { key := .pointer (some ⟨V.heap.size, st * 8, none⟩), val := .pointer (some ⟨V.heap.size + 1, 0, none⟩), born := clk }) (clk + 1)).heap → w'.os = V.os → w'.tape = V.tape → w'.output = V.output →
      P (.returned (.slice (some ⟨V.heap.size, st * 8, none⟩) (sz - st) (sz - st))) w') :
    Calls Tryd.prog 93 #[.pointer (some ⟨b.rb, 0, none⟩), x.v, .slice (some q) n c] w P := by
  have z1 : (0 : Int) < (n : Int) := by omega
  have z3 : IntKind.i64.wrap ((N : Int) - 1) = (st : Int) := by rw [IntWalk.i64_in _ (by omega)]; omega
  have z5 : IntKind.i64.wrap (2 * (n : Int)) = 2 * (n : Int) := IntWalk.i64_in _ (by omega)
  have z6 : IntKind.i64.wrap (2 * (n : Int) + 4) = (sz : Int) := by rw [IntWalk.i64_in _ (by omega)]; omega
  have z7 : IntKind.i64.wrap ((sz : Int) - (n : Int)) = (N : Int) := by rw [IntWalk.i64_in _ (by omega)]; omega
  have MK := mk_run sz (by omega)
  have k1 := Lib.hid hsz
  have k2 := Lib.hid hN
  have k3 := Lib.hid hst
  clear hsz hN hst
  have hsN : N + n = sz := by have := k1.out; have := k2.out; omega
  have k4 := Lib.hid hsN
  clear hsN
  have LK := Lib.hid LK
  have DL := Lib.hid DL
  have S4 := Lib.hid S4
  have FIN := Lib.hid FIN
  have xe : x.v = .agg #[iv x.kind, iv x.int, .slice x.A x.list.length x.c, iv x.block, eS, eS, nilS, nilS] := rfl
  rw [xe]
  clear xe
  have we : w.alloc (.cells #[iv x.kind, iv x.int, .slice x.A x.list.length x.c, iv x.block, eS, eS, nilS, nilS] 54) = w.alloc (c8 x) := rfl
  have WE := Lib.hid we
  clear we
  have kA := Lib.hid hA
  have kC := Lib.hid hcs
  have kO := Lib.hid h1
  clear hA hcs h1
  go_enter Tryd.func93, Tryd.ntmps93
  go_wp2
  rw [WE.out]
  refine wp_phaseT [false, false, false, false, false, false, false, false] [[]] [Value.pointer (some ⟨b.rb, 0, none⟩), Value.pointer (some ⟨b.rb, 0, none⟩), Value.pointer (some ⟨b.rb, 9, none⟩), .map (some b.mb), Value.slice (some q) n c, .pointer (some q), .pointer none, .pointer none] [_] 0 8 (by decide) (by kernel_rfl) (by kernel_rfl) (by kernel_rfl) (by kernel_rfl) rfl (by kernel_rfl) (fun h => absurd h (by decide)) (fun h => absurd h (by decide)) rfl rfl ⟨?_, ?_, ?_, ?_, ?_, ?_, ?_, ?_, trivial⟩ rfl (by kernel_rfl) ?_
  · intro kk aa hk E
    have h0 : aa.eval (.tmp 0) = Value.pointer (some ⟨b.rb, 0, none⟩) := (E 0 (by kernel_rfl)).trans (by kernel_rfl)
    exact obl_pure (by kernel_rfl) rfl hk fun w => op_move rfl rfl h0
  · intro kk aa hk E
    have h12 : aa.eval (.tmp 12) = Value.pointer (some ⟨b.rb, 0, none⟩) := (E 12 (by kernel_rfl)).trans (by kernel_rfl)
    exact obl_pure (by kernel_rfl) rfl hk fun w => op_nil rfl rfl h12
  · intro kk aa hk E
    have h13 : aa.eval (.tmp 13) = Value.pointer (some ⟨b.rb, 0, none⟩) := (E 13 (by kernel_rfl)).trans (by kernel_rfl)
    exact obl_pure (by kernel_rfl) rfl hk fun w => op_fa (k := 9) rfl rfl rfl h13
  · intro kk aa hk E
    have h14 : aa.eval (.tmp 14) = Value.pointer (some ⟨b.rb, 9, none⟩) := (E 14 (by kernel_rfl)).trans (by kernel_rfl)
    refine obl_read (ks := [0]) (by kernel_rfl) (by kernel_rfl) rfl hk ⟨?_, trivial⟩
    · intro w' hw; cases hw; exact op_load1 rfl (by decide) rfl h14 (c9 _ 1)
  · intro kk aa hk E
    have h2 : aa.eval (.tmp 2) = Value.slice (some q) n c := (E 2 (by kernel_rfl)).trans (by kernel_rfl)
    exact obl_pure (by kernel_rfl) rfl hk fun w => op_move rfl rfl h2
  · intro kk aa hk E
    have h16 : aa.eval (.tmp 16) = Value.slice (some q) n c := (E 16 (by kernel_rfl)).trans (by kernel_rfl)
    exact obl_pure (by kernel_rfl) rfl hk fun w => op_index0' rfl rfl h16 (by omega)
  · intro kk aa hk E
    have h15 : aa.eval (.tmp 15) = .map (some b.mb) := (E 15 (by kernel_rfl)).trans (by kernel_rfl)
    have h17 : aa.eval (.tmp 17) = .pointer (some q) := (E 17 (by kernel_rfl)).trans (by kernel_rfl)
    refine obl_read (ks := [0]) (by kernel_rfl) (by kernel_rfl) rfl hk ⟨?_, trivial⟩
    · intro w' hw; cases hw; exact op_lookup rfl rfl h15 h17 (LK.out 1)
  · intro kk aa hk E
    have h18 : aa.eval (.tmp 18) = .pointer none := (E 18 (by kernel_rfl)).trans (by kernel_rfl)
    exact obl_pure (by kernel_rfl) rfl hk fun w => op_assign rfl rfl h18
  intro af haf
  simp only [List.take_succ_cons, List.take_zero, finA, Act.put, List.setIfInBounds_toArray, List.set_cons_succ, List.set_cons_zero] at haf
  subst haf
  simp only [List.drop_succ_cons, List.drop_zero]
  go_wp2
  refine wp_phaseT [false, false, false, false, false, false] [[]] [Value.pointer (some ⟨b.rb, 0, none⟩), Value.pointer (some ⟨b.rb, 0, none⟩), Value.pointer (some ⟨b.rb, 9, none⟩), .map (some b.mb), Value.slice (some q) n c, .pointer (some q)] [_] 0 6 (by decide) (by kernel_rfl) (by kernel_rfl) (by kernel_rfl) (by kernel_rfl) rfl (by kernel_rfl) (fun _ => by kernel_rfl) (fun _ => by kernel_rfl) rfl rfl ⟨?_, ?_, ?_, ?_, ?_, ?_, trivial⟩ rfl (by kernel_rfl) ?_
  · intro kk aa hk E
    have h0 : aa.eval (.tmp 0) = Value.pointer (some ⟨b.rb, 0, none⟩) := (E 0 (by kernel_rfl)).trans (by kernel_rfl)
    exact obl_pure (by kernel_rfl) rfl hk fun w => op_move rfl rfl h0
  · intro kk aa hk E
    have h19 : aa.eval (.tmp 19) = Value.pointer (some ⟨b.rb, 0, none⟩) := (E 19 (by kernel_rfl)).trans (by kernel_rfl)
    exact obl_pure (by kernel_rfl) rfl hk fun w => op_nil rfl rfl h19
  · intro kk aa hk E
    have h20 : aa.eval (.tmp 20) = Value.pointer (some ⟨b.rb, 0, none⟩) := (E 20 (by kernel_rfl)).trans (by kernel_rfl)
    exact obl_pure (by kernel_rfl) rfl hk fun w => op_fa (k := 9) rfl rfl rfl h20
  · intro kk aa hk E
    have h21 : aa.eval (.tmp 21) = Value.pointer (some ⟨b.rb, 9, none⟩) := (E 21 (by kernel_rfl)).trans (by kernel_rfl)
    refine obl_read (ks := [0]) (by kernel_rfl) (by kernel_rfl) rfl hk ⟨?_, trivial⟩
    · intro w' hw; cases hw; exact op_load1 rfl (by decide) rfl h21 (c9 _ 2)
  · intro kk aa hk E
    have h2 : aa.eval (.tmp 2) = Value.slice (some q) n c := (E 2 (by kernel_rfl)).trans (by kernel_rfl)
    exact obl_pure (by kernel_rfl) rfl hk fun w => op_move rfl rfl h2
  · intro kk aa hk E
    have h23 : aa.eval (.tmp 23) = Value.slice (some q) n c := (E 23 (by kernel_rfl)).trans (by kernel_rfl)
    exact obl_pure (by kernel_rfl) rfl hk fun w => op_index0' rfl rfl h23 (by omega)
  intro af haf
  simp only [List.take_succ_cons, List.take_zero, finA, Act.put, List.setIfInBounds_toArray, List.set_cons_succ, List.set_cons_zero] at haf
  subst haf
  simp only [List.drop_succ_cons, List.drop_zero]
  refine wl_value (w' := mapw ((w.alloc (c8 x)).drewN 2) b.mb es clk) rfl (op_delete (x := 22) (y := 24) rfl rfl rfl (DL.out 2)) ?_
  have s3 := S4.out 2
  have FIN := Lib.hid (FIN.out (mapw ((w.alloc (c8 x)).drewN 2) b.mb es clk))
  generalize hW3 : mapw ((w.alloc (c8 x)).drewN 2) b.mb es clk = W3 at s3 FIN ⊢
  have H3 := Lib.hid hW3
  clear hW3
  obtain ⟨p1, p2, p3⟩ := s3.pack kC.out kA.out k4.out kO.out
  have P1 := Lib.hid p1
  have P2 := Lib.hid p2
  have P3 := Lib.hid p3
  clear p1 p2 p3 s3
  go_wp2
  have NR : (W3.alloc (.cells (zc sz) 54)).alloc (.cells #[.slice (some ⟨W3.heap.size, 0, none⟩) sz sz, iv N] 131) = newR W3 sz N := rfl
  rw [NR]
  clear NR
  generalize hW2 : newR W3 sz N = W2 at P1 P2 P3 FIN ⊢
  have H2 := Lib.hid hW2
  clear hW2
  have r1 := P1.out
  have r10 : W2.cell? ⟨W3.heap.size + 1, 0, none⟩ = some (.slice (some ⟨W3.heap.size, 0, none⟩) sz sz) := by simp [World.cell?, r1]
  have r11 : W2.cell? ⟨W3.heap.size + 1, 1, none⟩ = some (iv N) := by simp [World.cell?, r1]
  refine wp_phaseT [false, false, false, false, false, false, false, false, false, false, true] [[], [10]] [Value.pointer (some ⟨W3.heap.size + 1, 0, none⟩), Value.pointer (some ⟨W3.heap.size + 1, 0, none⟩), Value.pointer (some ⟨W3.heap.size + 1, 0, none⟩), .slice (some ⟨W3.heap.size, 0, none⟩) sz sz, Value.pointer (some ⟨W3.heap.size + 1, 0, none⟩), Value.pointer (some ⟨W3.heap.size + 1, 0, none⟩), Value.pointer (some ⟨W3.heap.size + 1, 1, none⟩), iv N, .slice (some ⟨W3.heap.size, N * 8, none⟩) n n, Value.slice (some q) n c, goInt n] [_, (W2.drew.setRow W3.heap.size (newA sz N cs))] 1 11 (by decide) (by kernel_rfl) (by kernel_rfl) (by kernel_rfl) (by kernel_rfl) rfl (by kernel_rfl) (fun h => absurd h (by decide)) (fun h => absurd h (by decide)) rfl rfl ⟨?_, ?_, ?_, ?_, ?_, ?_, ?_, ?_, ?_, ?_, ?_, trivial⟩ rfl (by kernel_rfl) ?_
  · intro kk aa hk E
    have h7 : aa.eval (.tmp 7) = Value.pointer (some ⟨W3.heap.size + 1, 0, none⟩) := (E 7 (by kernel_rfl)).trans (by kernel_rfl)
    exact obl_pure (by kernel_rfl) rfl hk fun w => op_move rfl rfl h7
  · intro kk aa hk E
    have h46 : aa.eval (.tmp 46) = Value.pointer (some ⟨W3.heap.size + 1, 0, none⟩) := (E 46 (by kernel_rfl)).trans (by kernel_rfl)
    exact obl_pure (by kernel_rfl) rfl hk fun w => op_nil rfl rfl h46
  · intro kk aa hk E
    have h47 : aa.eval (.tmp 47) = Value.pointer (some ⟨W3.heap.size + 1, 0, none⟩) := (E 47 (by kernel_rfl)).trans (by kernel_rfl)
    exact obl_pure (by kernel_rfl) rfl hk fun w => op_fa (k := 0) rfl rfl rfl h47
  · intro kk aa hk E
    have h48 : aa.eval (.tmp 48) = Value.pointer (some ⟨W3.heap.size + 1, 0, none⟩) := (E 48 (by kernel_rfl)).trans (by kernel_rfl)
    refine obl_read (ks := [0, 1]) (by kernel_rfl) (by kernel_rfl) rfl hk ⟨?_, ?_, trivial⟩
    · intro w' hw; cases hw; exact op_load1 rfl (by decide) rfl h48 r10
    · intro w' hw; cases hw; exact op_load1 rfl (by decide) rfl h48 P2.out.r0
  · intro kk aa hk E
    have h7 : aa.eval (.tmp 7) = Value.pointer (some ⟨W3.heap.size + 1, 0, none⟩) := (E 7 (by kernel_rfl)).trans (by kernel_rfl)
    exact obl_pure (by kernel_rfl) rfl hk fun w => op_move rfl rfl h7
  · intro kk aa hk E
    have h50 : aa.eval (.tmp 50) = Value.pointer (some ⟨W3.heap.size + 1, 0, none⟩) := (E 50 (by kernel_rfl)).trans (by kernel_rfl)
    exact obl_pure (by kernel_rfl) rfl hk fun w => op_nil rfl rfl h50
  · intro kk aa hk E
    have h51 : aa.eval (.tmp 51) = Value.pointer (some ⟨W3.heap.size + 1, 0, none⟩) := (E 51 (by kernel_rfl)).trans (by kernel_rfl)
    exact obl_pure (by kernel_rfl) rfl hk fun w => op_fa (k := 1) rfl rfl rfl h51
  · intro kk aa hk E
    have h52 : aa.eval (.tmp 52) = Value.pointer (some ⟨W3.heap.size + 1, 1, none⟩) := (E 52 (by kernel_rfl)).trans (by kernel_rfl)
    refine obl_read (ks := [0, 1]) (by kernel_rfl) (by kernel_rfl) rfl hk ⟨?_, ?_, trivial⟩
    · intro w' hw; cases hw; exact op_load1 rfl (by decide) rfl h52 r11
    · intro w' hw; cases hw; exact op_load1 rfl (by decide) rfl h52 P2.out.r1
  · intro kk aa hk E
    have h49 : aa.eval (.tmp 49) = .slice (some ⟨W3.heap.size, 0, none⟩) sz sz := (E 49 (by kernel_rfl)).trans (by kernel_rfl)
    have h53 : aa.eval (.tmp 53) = iv N := (E 53 (by kernel_rfl)).trans (by kernel_rfl)
    exact obl_pure (by kernel_rfl) rfl hk fun w => op_tail rfl (by have := k4.out; omega) (by have := k4.out; omega) rfl rfl h49 h53 rfl (by have := k1.out; have := k2.out; omega) (Nat.le_refl _)
  · intro kk aa hk E
    have h2 : aa.eval (.tmp 2) = Value.slice (some q) n c := (E 2 (by kernel_rfl)).trans (by kernel_rfl)
    exact obl_pure (by kernel_rfl) rfl hk fun w => op_move rfl rfl h2
  · intro kk aa hk E
    have h54 : aa.eval (.tmp 54) = .slice (some ⟨W3.heap.size, N * 8, none⟩) n n := (E 54 (by kernel_rfl)).trans (by kernel_rfl)
    have h55 : aa.eval (.tmp 55) = Value.slice (some q) n c := (E 55 (by kernel_rfl)).trans (by kernel_rfl)
    exact obl_write (ks := [0]) (by kernel_rfl) (by kernel_rfl) hk ⟨⟨1, _, _, by kernel_rfl, rfl, rfl, op_copyd rfl rfl h54 h55 P3.out⟩, trivial⟩
  intro af haf
  simp only [List.take_succ_cons, List.take_zero, finA, Act.put, List.setIfInBounds_toArray, List.set_cons_succ, List.set_cons_zero] at haf
  subst haf
  simp only [List.drop_succ_cons, List.drop_zero]
  have s4 := P2.out
  generalize hW4 : W2.drew.setRow W3.heap.size (newA sz N cs) = W4 at s4 ⊢
  have H4 := Lib.hid hW4
  clear hW4 r10 r11 r1
  have f0 := s4.r0
  have f1 := s4.r1
  have ff := s4.rf
  have S4' := Lib.hid s4
  clear s4
  go_wp2
  have hs : st < sz := by have := k1.out; have := k2.out; have := k3.out; omega
  have s5 := S4'.out.set st
  generalize hW5 : W4.setCell ⟨(W3.heap.size + 1), 1, none⟩ (Value.int IntKind.i64 ↑st) = W5 at s5 ⊢
  have H5 := Lib.hid hW5
  clear hW5 f0 f1 ff
  refine wp_phaseT [false, false, false, false, false, false, false, false, false, false, true] [[], [10]] [Value.pointer (some ⟨W3.heap.size + 1, 0, none⟩), Value.pointer (some ⟨W3.heap.size + 1, 0, none⟩), Value.pointer (some ⟨W3.heap.size + 1, 0, none⟩), .slice (some ⟨W3.heap.size, 0, none⟩) sz sz, Value.pointer (some ⟨W3.heap.size + 1, 0, none⟩), Value.pointer (some ⟨W3.heap.size + 1, 0, none⟩), Value.pointer (some ⟨W3.heap.size + 1, 1, none⟩), iv st, x.v, Value.pointer (some ⟨W3.heap.size, st * 8, none⟩), undef] [_, (st8 W5.drew W3.heap.size (st * 8) x)] 1 11 (by decide) (by kernel_rfl) (by kernel_rfl) (by kernel_rfl) (by kernel_rfl) rfl (by kernel_rfl) (fun h => absurd h (by decide)) (fun h => absurd h (by decide)) rfl rfl ⟨?_, ?_, ?_, ?_, ?_, ?_, ?_, ?_, ?_, ?_, ?_, trivial⟩ rfl (by kernel_rfl) ?_
  · intro kk aa hk E
    have h7 : aa.eval (.tmp 7) = Value.pointer (some ⟨W3.heap.size + 1, 0, none⟩) := (E 7 (by kernel_rfl)).trans (by kernel_rfl)
    exact obl_pure (by kernel_rfl) rfl hk fun w => op_move rfl rfl h7
  · intro kk aa hk E
    have h64 : aa.eval (.tmp 64) = Value.pointer (some ⟨W3.heap.size + 1, 0, none⟩) := (E 64 (by kernel_rfl)).trans (by kernel_rfl)
    exact obl_pure (by kernel_rfl) rfl hk fun w => op_nil rfl rfl h64
  · intro kk aa hk E
    have h65 : aa.eval (.tmp 65) = Value.pointer (some ⟨W3.heap.size + 1, 0, none⟩) := (E 65 (by kernel_rfl)).trans (by kernel_rfl)
    exact obl_pure (by kernel_rfl) rfl hk fun w => op_fa (k := 0) rfl rfl rfl h65
  · intro kk aa hk E
    have h66 : aa.eval (.tmp 66) = Value.pointer (some ⟨W3.heap.size + 1, 0, none⟩) := (E 66 (by kernel_rfl)).trans (by kernel_rfl)
    refine obl_read (ks := [0]) (by kernel_rfl) (by kernel_rfl) rfl hk ⟨?_, trivial⟩
    · intro w' hw; cases hw; exact op_load1 rfl (by decide) rfl h66 s5.r0
  · intro kk aa hk E
    have h7 : aa.eval (.tmp 7) = Value.pointer (some ⟨W3.heap.size + 1, 0, none⟩) := (E 7 (by kernel_rfl)).trans (by kernel_rfl)
    exact obl_pure (by kernel_rfl) rfl hk fun w => op_move rfl rfl h7
  · intro kk aa hk E
    have h68 : aa.eval (.tmp 68) = Value.pointer (some ⟨W3.heap.size + 1, 0, none⟩) := (E 68 (by kernel_rfl)).trans (by kernel_rfl)
    exact obl_pure (by kernel_rfl) rfl hk fun w => op_nil rfl rfl h68
  · intro kk aa hk E
    have h69 : aa.eval (.tmp 69) = Value.pointer (some ⟨W3.heap.size + 1, 0, none⟩) := (E 69 (by kernel_rfl)).trans (by kernel_rfl)
    exact obl_pure (by kernel_rfl) rfl hk fun w => op_fa (k := 1) rfl rfl rfl h69
  · intro kk aa hk E
    have h70 : aa.eval (.tmp 70) = Value.pointer (some ⟨W3.heap.size + 1, 1, none⟩) := (E 70 (by kernel_rfl)).trans (by kernel_rfl)
    refine obl_read (ks := [0]) (by kernel_rfl) (by kernel_rfl) rfl hk ⟨?_, trivial⟩
    · intro w' hw; cases hw; exact op_load1 rfl (by decide) rfl h70 s5.r1
  · intro kk aa hk E
    have h4 : aa.eval (.tmp 4) = Value.pointer (some ⟨w.heap.size, 0, none⟩) := (E 4 (by kernel_rfl)).trans (by kernel_rfl)
    refine obl_read (ks := [0]) (by kernel_rfl) (by kernel_rfl) rfl hk ⟨?_, trivial⟩
    · intro w' hw; cases hw; exact op_load54 (vs := x.cs) rfl rfl rfl h4 s5.xc
  · intro kk aa hk E
    have h67 : aa.eval (.tmp 67) = .slice (some ⟨W3.heap.size, 0, none⟩) sz sz := (E 67 (by kernel_rfl)).trans (by kernel_rfl)
    have h71 : aa.eval (.tmp 71) = iv st := (E 71 (by kernel_rfl)).trans (by kernel_rfl)
    exact obl_pure (by kernel_rfl) rfl hk fun w => op_index (sz := 8) (k := st) (Nat.zero_add _) rfl (.inl ⟨rfl, rfl⟩) rfl h67 h71 rfl (by omega)
  · intro kk aa hk E
    have h73 : aa.eval (.tmp 73) = Value.pointer (some ⟨W3.heap.size, st * 8, none⟩) := (E 73 (by kernel_rfl)).trans (by kernel_rfl)
    have h72 : aa.eval (.tmp 72) = x.v := (E 72 (by kernel_rfl)).trans (by kernel_rfl)
    exact obl_write (ks := [0]) (by kernel_rfl) (by kernel_rfl) hk ⟨⟨1, _, _, by kernel_rfl, rfl, rfl, op_st8 rfl rfl h73 h72 (fun i hi => s5.ac (by omega) i hi) s5.af⟩, trivial⟩
  intro af haf
  simp only [List.take_succ_cons, List.take_zero, finA, Act.put, List.setIfInBounds_toArray, List.set_cons_succ, List.set_cons_zero] at haf
  subst haf
  simp only [List.drop_succ_cons, List.drop_zero]
  have s5d : AhS b W5.drew x w.heap.size (W3.heap.size + 1) W3.heap.size sz st es clk := AhS.heap s5 rfl
  have s6 := s5d.st8 x (st * 8)
  generalize hW6 : st8 W5.drew W3.heap.size (st * 8) x = W6 at s6 ⊢
  have s6 : AhS b W6.drew x w.heap.size (W3.heap.size + 1) W3.heap.size sz st es clk := AhS.heap s6 rfl
  have H6 := Lib.hid hW6
  clear hW6
  have u6 := s6.upd (by omega) (.pointer (some ⟨(W3.heap.size + 1), 0, none⟩))
  have U6 := Lib.hid u6
  clear u6
  have S6 := Lib.hid s6
  clear s6 s5 s5d
  go_wp2
  have s6 := S6.out
  refine wp_phaseT [false, false, false, false, false, false, false, false, false, false, false, false, false, false, true] [[], [14]] [Value.pointer (some ⟨b.rb, 0, none⟩), Value.pointer (some ⟨b.rb, 0, none⟩), Value.pointer (some ⟨b.rb, 9, none⟩), .map (some b.mb), Value.pointer (some ⟨W3.heap.size + 1, 0, none⟩), Value.pointer (some ⟨W3.heap.size + 1, 0, none⟩), Value.pointer (some ⟨W3.heap.size + 1, 0, none⟩), .slice (some ⟨W3.heap.size, 0, none⟩) sz sz, Value.pointer (some ⟨W3.heap.size + 1, 0, none⟩), Value.pointer (some ⟨W3.heap.size + 1, 0, none⟩), Value.pointer (some ⟨W3.heap.size + 1, 1, none⟩), iv st, Value.pointer (some ⟨W3.heap.size, st * 8, none⟩), Value.pointer (some ⟨W3.heap.size + 1, 0, none⟩), undef] [_, (mapw W6.drew b.mb (es.push { key := .pointer (some ⟨W3.heap.size, st * 8, none⟩), val := .pointer (some ⟨(W3.heap.size + 1), 0, none⟩), born := clk }) (clk + 1))] 1 15 (by decide) (by kernel_rfl) (by kernel_rfl) (by kernel_rfl) (by kernel_rfl) rfl (by kernel_rfl) (fun h => absurd h (by decide)) (fun h => absurd h (by decide)) rfl rfl ⟨?_, ?_, ?_, ?_, ?_, ?_, ?_, ?_, ?_, ?_, ?_, ?_, ?_, ?_, ?_, trivial⟩ rfl (by kernel_rfl) ?_
  · intro kk aa hk E
    have h0 : aa.eval (.tmp 0) = Value.pointer (some ⟨b.rb, 0, none⟩) := (E 0 (by kernel_rfl)).trans (by kernel_rfl)
    exact obl_pure (by kernel_rfl) rfl hk fun w => op_move rfl rfl h0
  · intro kk aa hk E
    have h74 : aa.eval (.tmp 74) = Value.pointer (some ⟨b.rb, 0, none⟩) := (E 74 (by kernel_rfl)).trans (by kernel_rfl)
    exact obl_pure (by kernel_rfl) rfl hk fun w => op_nil rfl rfl h74
  · intro kk aa hk E
    have h75 : aa.eval (.tmp 75) = Value.pointer (some ⟨b.rb, 0, none⟩) := (E 75 (by kernel_rfl)).trans (by kernel_rfl)
    exact obl_pure (by kernel_rfl) rfl hk fun w => op_fa (k := 9) rfl rfl rfl h75
  · intro kk aa hk E
    have h76 : aa.eval (.tmp 76) = Value.pointer (some ⟨b.rb, 9, none⟩) := (E 76 (by kernel_rfl)).trans (by kernel_rfl)
    refine obl_read (ks := [0]) (by kernel_rfl) (by kernel_rfl) rfl hk ⟨?_, trivial⟩
    · intro w' hw; cases hw; exact op_load1 rfl (by decide) rfl h76 s6.c9
  · intro kk aa hk E
    have h7 : aa.eval (.tmp 7) = Value.pointer (some ⟨W3.heap.size + 1, 0, none⟩) := (E 7 (by kernel_rfl)).trans (by kernel_rfl)
    exact obl_pure (by kernel_rfl) rfl hk fun w => op_move rfl rfl h7
  · intro kk aa hk E
    have h78 : aa.eval (.tmp 78) = Value.pointer (some ⟨W3.heap.size + 1, 0, none⟩) := (E 78 (by kernel_rfl)).trans (by kernel_rfl)
    exact obl_pure (by kernel_rfl) rfl hk fun w => op_nil rfl rfl h78
  · intro kk aa hk E
    have h79 : aa.eval (.tmp 79) = Value.pointer (some ⟨W3.heap.size + 1, 0, none⟩) := (E 79 (by kernel_rfl)).trans (by kernel_rfl)
    exact obl_pure (by kernel_rfl) rfl hk fun w => op_fa (k := 0) rfl rfl rfl h79
  · intro kk aa hk E
    have h80 : aa.eval (.tmp 80) = Value.pointer (some ⟨W3.heap.size + 1, 0, none⟩) := (E 80 (by kernel_rfl)).trans (by kernel_rfl)
    refine obl_read (ks := [0]) (by kernel_rfl) (by kernel_rfl) rfl hk ⟨?_, trivial⟩
    · intro w' hw; cases hw; exact op_load1 rfl (by decide) rfl h80 s6.r0
  · intro kk aa hk E
    have h7 : aa.eval (.tmp 7) = Value.pointer (some ⟨W3.heap.size + 1, 0, none⟩) := (E 7 (by kernel_rfl)).trans (by kernel_rfl)
    exact obl_pure (by kernel_rfl) rfl hk fun w => op_move rfl rfl h7
  · intro kk aa hk E
    have h82 : aa.eval (.tmp 82) = Value.pointer (some ⟨W3.heap.size + 1, 0, none⟩) := (E 82 (by kernel_rfl)).trans (by kernel_rfl)
    exact obl_pure (by kernel_rfl) rfl hk fun w => op_nil rfl rfl h82
  · intro kk aa hk E
    have h83 : aa.eval (.tmp 83) = Value.pointer (some ⟨W3.heap.size + 1, 0, none⟩) := (E 83 (by kernel_rfl)).trans (by kernel_rfl)
    exact obl_pure (by kernel_rfl) rfl hk fun w => op_fa (k := 1) rfl rfl rfl h83
  · intro kk aa hk E
    have h84 : aa.eval (.tmp 84) = Value.pointer (some ⟨W3.heap.size + 1, 1, none⟩) := (E 84 (by kernel_rfl)).trans (by kernel_rfl)
    refine obl_read (ks := [0]) (by kernel_rfl) (by kernel_rfl) rfl hk ⟨?_, trivial⟩
    · intro w' hw; cases hw; exact op_load1 rfl (by decide) rfl h84 s6.r1
  · intro kk aa hk E
    have h81 : aa.eval (.tmp 81) = .slice (some ⟨W3.heap.size, 0, none⟩) sz sz := (E 81 (by kernel_rfl)).trans (by kernel_rfl)
    have h85 : aa.eval (.tmp 85) = iv st := (E 85 (by kernel_rfl)).trans (by kernel_rfl)
    exact obl_pure (by kernel_rfl) rfl hk fun w => op_index (sz := 8) (k := st) (Nat.zero_add _) rfl (.inl ⟨rfl, rfl⟩) rfl h81 h85 rfl (by omega)
  · intro kk aa hk E
    have h7 : aa.eval (.tmp 7) = Value.pointer (some ⟨W3.heap.size + 1, 0, none⟩) := (E 7 (by kernel_rfl)).trans (by kernel_rfl)
    exact obl_pure (by kernel_rfl) rfl hk fun w => op_move rfl rfl h7
  · intro kk aa hk E
    have h77 : aa.eval (.tmp 77) = .map (some b.mb) := (E 77 (by kernel_rfl)).trans (by kernel_rfl)
    have h86 : aa.eval (.tmp 86) = Value.pointer (some ⟨W3.heap.size, st * 8, none⟩) := (E 86 (by kernel_rfl)).trans (by kernel_rfl)
    have h87 : aa.eval (.tmp 87) = Value.pointer (some ⟨W3.heap.size + 1, 0, none⟩) := (E 87 (by kernel_rfl)).trans (by kernel_rfl)
    exact obl_write (ks := [0]) (by kernel_rfl) (by kernel_rfl) hk ⟨⟨1, _, _, by kernel_rfl, rfl, rfl, op_mapUpdate rfl rfl h77 h86 h87 U6.out⟩, trivial⟩
  intro af haf
  simp only [List.take_succ_cons, List.take_zero, finA, Act.put, List.setIfInBounds_toArray, List.set_cons_succ, List.set_cons_zero] at haf
  subst haf
  simp only [List.drop_succ_cons, List.drop_zero]
  have q0 := s6.q0 (es.push { key := .pointer (some ⟨W3.heap.size, st * 8, none⟩), val := .pointer (some ⟨(W3.heap.size + 1), 0, none⟩), born := clk }) (clk + 1)
  have q1 := s6.q1 (es.push { key := .pointer (some ⟨W3.heap.size, st * 8, none⟩), val := .pointer (some ⟨(W3.heap.size + 1), 0, none⟩), born := clk }) (clk + 1)
  generalize hW7 : mapw W6.drew b.mb (es.push { key := .pointer (some ⟨W3.heap.size, st * 8, none⟩), val := .pointer (some ⟨(W3.heap.size + 1), 0, none⟩), born := clk }) (clk + 1) = W7 at q0 q1 ⊢
  have H7 := Lib.hid hW7
  have Q0 := Lib.hid q0
  have Q1 := Lib.hid q1
  clear hW7 s6 q0 q1
  go_wp2
  refine wp_phaseT [false, false, false, false, false, false, false, false, false, false] [[]] [Value.pointer (some ⟨W3.heap.size + 1, 0, none⟩), Value.pointer (some ⟨W3.heap.size + 1, 0, none⟩), Value.pointer (some ⟨W3.heap.size + 1, 0, none⟩), .slice (some ⟨W3.heap.size, 0, none⟩) sz sz, Value.pointer (some ⟨W3.heap.size + 1, 0, none⟩), Value.pointer (some ⟨W3.heap.size + 1, 0, none⟩), Value.pointer (some ⟨W3.heap.size + 1, 1, none⟩), iv st, .slice (some ⟨W3.heap.size, st * 8, none⟩) (sz - st) (sz - st), .slice (some ⟨W3.heap.size, st * 8, none⟩) (sz - st) (sz - st)] [_] 0 10 (by decide) (by kernel_rfl) (by kernel_rfl) (by kernel_rfl) (by kernel_rfl) rfl (by kernel_rfl) (fun h => absurd h (by decide)) (fun h => absurd h (by decide)) rfl rfl ⟨?_, ?_, ?_, ?_, ?_, ?_, ?_, ?_, ?_, ?_, trivial⟩ rfl (by kernel_rfl) ?_
  · intro kk aa hk E
    have h7 : aa.eval (.tmp 7) = Value.pointer (some ⟨W3.heap.size + 1, 0, none⟩) := (E 7 (by kernel_rfl)).trans (by kernel_rfl)
    exact obl_pure (by kernel_rfl) rfl hk fun w => op_move rfl rfl h7
  · intro kk aa hk E
    have h88 : aa.eval (.tmp 88) = Value.pointer (some ⟨W3.heap.size + 1, 0, none⟩) := (E 88 (by kernel_rfl)).trans (by kernel_rfl)
    exact obl_pure (by kernel_rfl) rfl hk fun w => op_nil rfl rfl h88
  · intro kk aa hk E
    have h89 : aa.eval (.tmp 89) = Value.pointer (some ⟨W3.heap.size + 1, 0, none⟩) := (E 89 (by kernel_rfl)).trans (by kernel_rfl)
    exact obl_pure (by kernel_rfl) rfl hk fun w => op_fa (k := 0) rfl rfl rfl h89
  · intro kk aa hk E
    have h90 : aa.eval (.tmp 90) = Value.pointer (some ⟨W3.heap.size + 1, 0, none⟩) := (E 90 (by kernel_rfl)).trans (by kernel_rfl)
    refine obl_read (ks := [0]) (by kernel_rfl) (by kernel_rfl) rfl hk ⟨?_, trivial⟩
    · intro w' hw; cases hw; exact op_load1 rfl (by decide) rfl h90 Q0.out
  · intro kk aa hk E
    have h7 : aa.eval (.tmp 7) = Value.pointer (some ⟨W3.heap.size + 1, 0, none⟩) := (E 7 (by kernel_rfl)).trans (by kernel_rfl)
    exact obl_pure (by kernel_rfl) rfl hk fun w => op_move rfl rfl h7
  · intro kk aa hk E
    have h92 : aa.eval (.tmp 92) = Value.pointer (some ⟨W3.heap.size + 1, 0, none⟩) := (E 92 (by kernel_rfl)).trans (by kernel_rfl)
    exact obl_pure (by kernel_rfl) rfl hk fun w => op_nil rfl rfl h92
  · intro kk aa hk E
    have h93 : aa.eval (.tmp 93) = Value.pointer (some ⟨W3.heap.size + 1, 0, none⟩) := (E 93 (by kernel_rfl)).trans (by kernel_rfl)
    exact obl_pure (by kernel_rfl) rfl hk fun w => op_fa (k := 1) rfl rfl rfl h93
  · intro kk aa hk E
    have h94 : aa.eval (.tmp 94) = Value.pointer (some ⟨W3.heap.size + 1, 1, none⟩) := (E 94 (by kernel_rfl)).trans (by kernel_rfl)
    refine obl_read (ks := [0]) (by kernel_rfl) (by kernel_rfl) rfl hk ⟨?_, trivial⟩
    · intro w' hw; cases hw; exact op_load1 rfl (by decide) rfl h94 Q1.out
  · intro kk aa hk E
    have h91 : aa.eval (.tmp 91) = .slice (some ⟨W3.heap.size, 0, none⟩) sz sz := (E 91 (by kernel_rfl)).trans (by kernel_rfl)
    have h95 : aa.eval (.tmp 95) = iv st := (E 95 (by kernel_rfl)).trans (by kernel_rfl)
    exact obl_pure (by kernel_rfl) rfl hk fun w => op_tail rfl rfl rfl rfl rfl h91 h95 rfl (by omega) (Nat.le_refl _)
  · intro kk aa hk E
    have h96 : aa.eval (.tmp 96) = .slice (some ⟨W3.heap.size, st * 8, none⟩) (sz - st) (sz - st) := (E 96 (by kernel_rfl)).trans (by kernel_rfl)
    exact obl_pure (by kernel_rfl) rfl hk fun w => op_assign rfl rfl h96
  intro af haf
  simp only [List.take_succ_cons, List.take_zero, finA, Act.put, List.setIfInBounds_toArray, List.set_cons_succ, List.set_cons_zero] at haf
  subst haf
  simp only [List.drop_succ_cons, List.drop_zero]
  go_wp2
  show P (.returned (.slice (some ⟨W3.heap.size, st * 8, none⟩) (sz - st) (sz - st))) W7.drew
  obtain ⟨o1, o2, o3⟩ := ahead_fin_os H5.out H6.out H7.out
  have w2 : W2.os = W3.os ∧ W2.tape = W3.tape ∧ W2.output = W3.output := by rw [← H2.out]; exact ⟨rfl, rfl, rfl⟩
  have w4 : W4.os = W2.os ∧ W4.tape = W2.tape ∧ W4.output = W2.output := by rw [← H4.out]; exact ⟨rfl, rfl, rfl⟩
  have w0 : W4.heap = (W2.setRow W3.heap.size (newA sz N cs)).heap := by rw [← H4.out]; exact setRow_congr rfl _ _
  have w3 : W3.heap = (mapw (w.alloc (c8 x)) b.mb es clk).heap ∧ W3.os = w.os ∧ W3.tape = w.tape ∧ W3.output = w.output := by rw [← H3.out]; exact ⟨rfl, rfl, rfl, rfl⟩
  exact FIN.out _ w3.1 w3.2.1 w3.2.2.1 w3.2.2.2 (ahead_fin H5.out H6.out H7.out w0) (o1.trans (w4.1.trans w2.1)) (o2.trans (w4.2.1.trans w2.2.1)) (o3.trans (w4.2.2.trans w2.2.2))

set_option maxRecDepth 100000 in
set_option maxHeartbeats 2000000 in
theorem ahead_zero (b : Bl) (x : AV) (w : World) (q : Addr) (n c sz st N r0 : Nat) (cs : List Value) (es : Array MapEntry) (clk : Nat) (P : Ending → World → Prop) (hn : 0 < n) (hnc : n ≤ 400000000) (hsz : sz = 2 * n + 4) (hN : N = n + 4) (hst : N = st + 1)
    (hcs : cs.length = n * 8) (h1 : ∀ v ∈ cs, v.oneCell' = true) (hA : (some q) = none → n = 0 ∧ c = 0)
    (c9 : ∀ o k, ((w.alloc o).drewN k).cell? ⟨b.rb, 9, none⟩ = some (.map (some b.mb)))
    (LK : ∀ k, (Instr.lookup 85 (.map (some b.mb)) (.pointer (some q)) false).run Tryd.prog ((w.alloc (c8 x)).drewN k) = .ok (.pointer (some ⟨r0, 0, none⟩)) ((w.alloc (c8 x)).drewN k))
    (DL : ∀ k ty, (Builtin.delete_ #[85, 129] ty #[.map (some b.mb), .pointer (some q)]).run Tryd.prog ((w.alloc (c8 x)).drewN k) = .ok (.tuple #[]) (mapw ((w.alloc (c8 x)).drewN k) b.mb es clk))
    (S4 : ∀ k, AhV b (mapw ((w.alloc (c8 x)).drewN k) b.mb es clk) x w.heap.size (some q) cs es clk)
    (Z0 : ∀ k, (mapw ((w.alloc (c8 x)).drewN k) b.mb es clk).cell? ⟨r0, 1, none⟩ = some (iv 0))
    (FIN : ∀ V w', V.heap = (mapw (w.alloc (c8 x)) b.mb es clk).heap → V.os = w.os → V.tape = w.tape → V.output = w.output → w'.heap = (mapw (st8 (((newR V sz N).setRow V.heap.size (newA sz N cs)).setCell ⟨V.heap.size + 1, 1, none⟩ (iv st)) V.heap.size (st * 8) x) b.mb (es.push { key := .pointer (some ⟨V.heap.size, st * 8, none⟩), val := .pointer (some ⟨V.heap.size + 1, 0, none⟩), born := clk }) (clk + 1)).heap → w'.os = V.os → w'.tape = V.tape → w'.output = V.output →
      P (.returned (.slice (some ⟨V.heap.size, st * 8, none⟩) (sz - st) (sz - st))) w') :
    Calls Tryd.prog 93 #[.pointer (some ⟨b.rb, 0, none⟩), x.v, .slice (some q) n c] w P := by
  have z1 : (0 : Int) < (n : Int) := by omega
  have z3 : IntKind.i64.wrap ((N : Int) - 1) = (st : Int) := by rw [IntWalk.i64_in _ (by omega)]; omega
  have z5 : IntKind.i64.wrap (2 * (n : Int)) = 2 * (n : Int) := IntWalk.i64_in _ (by omega)
  have z6 : IntKind.i64.wrap (2 * (n : Int) + 4) = (sz : Int) := by rw [IntWalk.i64_in _ (by omega)]; omega
  have z7 : IntKind.i64.wrap ((sz : Int) - (n : Int)) = (N : Int) := by rw [IntWalk.i64_in _ (by omega)]; omega
  have MK := mk_run sz (by omega)
  have k1 := Lib.hid hsz
  have k2 := Lib.hid hN
  have k3 := Lib.hid hst
  clear hsz hN hst
  have hsN : N + n = sz := by have := k1.out; have := k2.out; omega
  have k4 := Lib.hid hsN
  clear hsN
  have LK := Lib.hid LK
  have DL := Lib.hid DL
  have Z0 := Lib.hid Z0
  have S4 := Lib.hid S4
  have FIN := Lib.hid FIN
  have xe : x.v = .agg #[iv x.kind, iv x.int, .slice x.A x.list.length x.c, iv x.block, eS, eS, nilS, nilS] := rfl
  rw [xe]
  clear xe
  have we : w.alloc (.cells #[iv x.kind, iv x.int, .slice x.A x.list.length x.c, iv x.block, eS, eS, nilS, nilS] 54) = w.alloc (c8 x) := rfl
  have WE := Lib.hid we
  clear we
  have kA := Lib.hid hA
  have kC := Lib.hid hcs
  have kO := Lib.hid h1
  clear hA hcs h1
  go_enter Tryd.func93, Tryd.ntmps93
  go_wp2
  rw [WE.out]
  refine wp_phaseT [false, false, false, false, false, false, false, false] [[]] [Value.pointer (some ⟨b.rb, 0, none⟩), Value.pointer (some ⟨b.rb, 0, none⟩), Value.pointer (some ⟨b.rb, 9, none⟩), .map (some b.mb), Value.slice (some q) n c, .pointer (some q), Value.pointer (some ⟨r0, 0, none⟩), Value.pointer (some ⟨r0, 0, none⟩)] [_] 0 8 (by decide) (by kernel_rfl) (by kernel_rfl) (by kernel_rfl) (by kernel_rfl) rfl (by kernel_rfl) (fun h => absurd h (by decide)) (fun h => absurd h (by decide)) rfl rfl ⟨?_, ?_, ?_, ?_, ?_, ?_, ?_, ?_, trivial⟩ rfl (by kernel_rfl) ?_
  · intro kk aa hk E
    have h0 : aa.eval (.tmp 0) = Value.pointer (some ⟨b.rb, 0, none⟩) := (E 0 (by kernel_rfl)).trans (by kernel_rfl)
    exact obl_pure (by kernel_rfl) rfl hk fun w => op_move rfl rfl h0
  · intro kk aa hk E
    have h12 : aa.eval (.tmp 12) = Value.pointer (some ⟨b.rb, 0, none⟩) := (E 12 (by kernel_rfl)).trans (by kernel_rfl)
    exact obl_pure (by kernel_rfl) rfl hk fun w => op_nil rfl rfl h12
  · intro kk aa hk E
    have h13 : aa.eval (.tmp 13) = Value.pointer (some ⟨b.rb, 0, none⟩) := (E 13 (by kernel_rfl)).trans (by kernel_rfl)
    exact obl_pure (by kernel_rfl) rfl hk fun w => op_fa (k := 9) rfl rfl rfl h13
  · intro kk aa hk E
    have h14 : aa.eval (.tmp 14) = Value.pointer (some ⟨b.rb, 9, none⟩) := (E 14 (by kernel_rfl)).trans (by kernel_rfl)
    refine obl_read (ks := [0]) (by kernel_rfl) (by kernel_rfl) rfl hk ⟨?_, trivial⟩
    · intro w' hw; cases hw; exact op_load1 rfl (by decide) rfl h14 (c9 _ 1)
  · intro kk aa hk E
    have h2 : aa.eval (.tmp 2) = Value.slice (some q) n c := (E 2 (by kernel_rfl)).trans (by kernel_rfl)
    exact obl_pure (by kernel_rfl) rfl hk fun w => op_move rfl rfl h2
  · intro kk aa hk E
    have h16 : aa.eval (.tmp 16) = Value.slice (some q) n c := (E 16 (by kernel_rfl)).trans (by kernel_rfl)
    exact obl_pure (by kernel_rfl) rfl hk fun w => op_index0' rfl rfl h16 (by omega)
  · intro kk aa hk E
    have h15 : aa.eval (.tmp 15) = .map (some b.mb) := (E 15 (by kernel_rfl)).trans (by kernel_rfl)
    have h17 : aa.eval (.tmp 17) = .pointer (some q) := (E 17 (by kernel_rfl)).trans (by kernel_rfl)
    refine obl_read (ks := [0]) (by kernel_rfl) (by kernel_rfl) rfl hk ⟨?_, trivial⟩
    · intro w' hw; cases hw; exact op_lookup rfl rfl h15 h17 (LK.out 1)
  · intro kk aa hk E
    have h18 : aa.eval (.tmp 18) = Value.pointer (some ⟨r0, 0, none⟩) := (E 18 (by kernel_rfl)).trans (by kernel_rfl)
    exact obl_pure (by kernel_rfl) rfl hk fun w => op_assign rfl rfl h18
  intro af haf
  simp only [List.take_succ_cons, List.take_zero, finA, Act.put, List.setIfInBounds_toArray, List.set_cons_succ, List.set_cons_zero] at haf
  subst haf
  simp only [List.drop_succ_cons, List.drop_zero]
  go_wp2
  refine wp_phaseT [false, false, false, false, false, false] [[]] [Value.pointer (some ⟨b.rb, 0, none⟩), Value.pointer (some ⟨b.rb, 0, none⟩), Value.pointer (some ⟨b.rb, 9, none⟩), .map (some b.mb), Value.slice (some q) n c, .pointer (some q)] [_] 0 6 (by decide) (by kernel_rfl) (by kernel_rfl) (by kernel_rfl) (by kernel_rfl) rfl (by kernel_rfl) (fun _ => by kernel_rfl) (fun _ => by kernel_rfl) rfl rfl ⟨?_, ?_, ?_, ?_, ?_, ?_, trivial⟩ rfl (by kernel_rfl) ?_
  · intro kk aa hk E
    have h0 : aa.eval (.tmp 0) = Value.pointer (some ⟨b.rb, 0, none⟩) := (E 0 (by kernel_rfl)).trans (by kernel_rfl)
    exact obl_pure (by kernel_rfl) rfl hk fun w => op_move rfl rfl h0
  · intro kk aa hk E
    have h19 : aa.eval (.tmp 19) = Value.pointer (some ⟨b.rb, 0, none⟩) := (E 19 (by kernel_rfl)).trans (by kernel_rfl)
    exact obl_pure (by kernel_rfl) rfl hk fun w => op_nil rfl rfl h19
  · intro kk aa hk E
    have h20 : aa.eval (.tmp 20) = Value.pointer (some ⟨b.rb, 0, none⟩) := (E 20 (by kernel_rfl)).trans (by kernel_rfl)
    exact obl_pure (by kernel_rfl) rfl hk fun w => op_fa (k := 9) rfl rfl rfl h20
  · intro kk aa hk E
    have h21 : aa.eval (.tmp 21) = Value.pointer (some ⟨b.rb, 9, none⟩) := (E 21 (by kernel_rfl)).trans (by kernel_rfl)
    refine obl_read (ks := [0]) (by kernel_rfl) (by kernel_rfl) rfl hk ⟨?_, trivial⟩
    · intro w' hw; cases hw; exact op_load1 rfl (by decide) rfl h21 (c9 _ 2)
  · intro kk aa hk E
    have h2 : aa.eval (.tmp 2) = Value.slice (some q) n c := (E 2 (by kernel_rfl)).trans (by kernel_rfl)
    exact obl_pure (by kernel_rfl) rfl hk fun w => op_move rfl rfl h2
  · intro kk aa hk E
    have h23 : aa.eval (.tmp 23) = Value.slice (some q) n c := (E 23 (by kernel_rfl)).trans (by kernel_rfl)
    exact obl_pure (by kernel_rfl) rfl hk fun w => op_index0' rfl rfl h23 (by omega)
  intro af haf
  simp only [List.take_succ_cons, List.take_zero, finA, Act.put, List.setIfInBounds_toArray, List.set_cons_succ, List.set_cons_zero] at haf
  subst haf
  simp only [List.drop_succ_cons, List.drop_zero]
  refine wl_value (w' := mapw ((w.alloc (c8 x)).drewN 2) b.mb es clk) rfl (op_delete (x := 22) (y := 24) rfl rfl rfl (DL.out 2)) ?_
  have s3 := S4.out 2
  have FIN := Lib.hid (FIN.out (mapw ((w.alloc (c8 x)).drewN 2) b.mb es clk))
  have zz := Z0.out 2
  generalize hW3 : mapw ((w.alloc (c8 x)).drewN 2) b.mb es clk = W3 at s3 FIN zz ⊢
  have H3 := Lib.hid hW3
  clear hW3
  obtain ⟨p1, p2, p3⟩ := s3.pack kC.out kA.out k4.out kO.out
  have P1 := Lib.hid p1
  have P2 := Lib.hid p2
  have P3 := Lib.hid p3
  clear p1 p2 p3 s3
  go_wp2
  have NR : (W3.alloc (.cells (zc sz) 54)).alloc (.cells #[.slice (some ⟨W3.heap.size, 0, none⟩) sz sz, iv N] 131) = newR W3 sz N := rfl
  rw [NR]
  clear NR
  generalize hW2 : newR W3 sz N = W2 at P1 P2 P3 FIN ⊢
  have H2 := Lib.hid hW2
  clear hW2
  have r1 := P1.out
  have r10 : W2.cell? ⟨W3.heap.size + 1, 0, none⟩ = some (.slice (some ⟨W3.heap.size, 0, none⟩) sz sz) := by simp [World.cell?, r1]
  have r11 : W2.cell? ⟨W3.heap.size + 1, 1, none⟩ = some (iv N) := by simp [World.cell?, r1]
  refine wp_phaseT [false, false, false, false, false, false, false, false, false, false, true] [[], [10]] [Value.pointer (some ⟨W3.heap.size + 1, 0, none⟩), Value.pointer (some ⟨W3.heap.size + 1, 0, none⟩), Value.pointer (some ⟨W3.heap.size + 1, 0, none⟩), .slice (some ⟨W3.heap.size, 0, none⟩) sz sz, Value.pointer (some ⟨W3.heap.size + 1, 0, none⟩), Value.pointer (some ⟨W3.heap.size + 1, 0, none⟩), Value.pointer (some ⟨W3.heap.size + 1, 1, none⟩), iv N, .slice (some ⟨W3.heap.size, N * 8, none⟩) n n, Value.slice (some q) n c, goInt n] [_, (W2.drew.setRow W3.heap.size (newA sz N cs))] 1 11 (by decide) (by kernel_rfl) (by kernel_rfl) (by kernel_rfl) (by kernel_rfl) rfl (by kernel_rfl) (fun h => absurd h (by decide)) (fun h => absurd h (by decide)) rfl rfl ⟨?_, ?_, ?_, ?_, ?_, ?_, ?_, ?_, ?_, ?_, ?_, trivial⟩ rfl (by kernel_rfl) ?_
  · intro kk aa hk E
    have h7 : aa.eval (.tmp 7) = Value.pointer (some ⟨W3.heap.size + 1, 0, none⟩) := (E 7 (by kernel_rfl)).trans (by kernel_rfl)
    exact obl_pure (by kernel_rfl) rfl hk fun w => op_move rfl rfl h7
  · intro kk aa hk E
    have h46 : aa.eval (.tmp 46) = Value.pointer (some ⟨W3.heap.size + 1, 0, none⟩) := (E 46 (by kernel_rfl)).trans (by kernel_rfl)
    exact obl_pure (by kernel_rfl) rfl hk fun w => op_nil rfl rfl h46
  · intro kk aa hk E
    have h47 : aa.eval (.tmp 47) = Value.pointer (some ⟨W3.heap.size + 1, 0, none⟩) := (E 47 (by kernel_rfl)).trans (by kernel_rfl)
    exact obl_pure (by kernel_rfl) rfl hk fun w => op_fa (k := 0) rfl rfl rfl h47
  · intro kk aa hk E
    have h48 : aa.eval (.tmp 48) = Value.pointer (some ⟨W3.heap.size + 1, 0, none⟩) := (E 48 (by kernel_rfl)).trans (by kernel_rfl)
    refine obl_read (ks := [0, 1]) (by kernel_rfl) (by kernel_rfl) rfl hk ⟨?_, ?_, trivial⟩
    · intro w' hw; cases hw; exact op_load1 rfl (by decide) rfl h48 r10
    · intro w' hw; cases hw; exact op_load1 rfl (by decide) rfl h48 P2.out.r0
  · intro kk aa hk E
    have h7 : aa.eval (.tmp 7) = Value.pointer (some ⟨W3.heap.size + 1, 0, none⟩) := (E 7 (by kernel_rfl)).trans (by kernel_rfl)
    exact obl_pure (by kernel_rfl) rfl hk fun w => op_move rfl rfl h7
  · intro kk aa hk E
    have h50 : aa.eval (.tmp 50) = Value.pointer (some ⟨W3.heap.size + 1, 0, none⟩) := (E 50 (by kernel_rfl)).trans (by kernel_rfl)
    exact obl_pure (by kernel_rfl) rfl hk fun w => op_nil rfl rfl h50
  · intro kk aa hk E
    have h51 : aa.eval (.tmp 51) = Value.pointer (some ⟨W3.heap.size + 1, 0, none⟩) := (E 51 (by kernel_rfl)).trans (by kernel_rfl)
    exact obl_pure (by kernel_rfl) rfl hk fun w => op_fa (k := 1) rfl rfl rfl h51
  · intro kk aa hk E
    have h52 : aa.eval (.tmp 52) = Value.pointer (some ⟨W3.heap.size + 1, 1, none⟩) := (E 52 (by kernel_rfl)).trans (by kernel_rfl)
    refine obl_read (ks := [0, 1]) (by kernel_rfl) (by kernel_rfl) rfl hk ⟨?_, ?_, trivial⟩
    · intro w' hw; cases hw; exact op_load1 rfl (by decide) rfl h52 r11
    · intro w' hw; cases hw; exact op_load1 rfl (by decide) rfl h52 P2.out.r1
  · intro kk aa hk E
    have h49 : aa.eval (.tmp 49) = .slice (some ⟨W3.heap.size, 0, none⟩) sz sz := (E 49 (by kernel_rfl)).trans (by kernel_rfl)
    have h53 : aa.eval (.tmp 53) = iv N := (E 53 (by kernel_rfl)).trans (by kernel_rfl)
    exact obl_pure (by kernel_rfl) rfl hk fun w => op_tail rfl (by have := k4.out; omega) (by have := k4.out; omega) rfl rfl h49 h53 rfl (by have := k1.out; have := k2.out; omega) (Nat.le_refl _)
  · intro kk aa hk E
    have h2 : aa.eval (.tmp 2) = Value.slice (some q) n c := (E 2 (by kernel_rfl)).trans (by kernel_rfl)
    exact obl_pure (by kernel_rfl) rfl hk fun w => op_move rfl rfl h2
  · intro kk aa hk E
    have h54 : aa.eval (.tmp 54) = .slice (some ⟨W3.heap.size, N * 8, none⟩) n n := (E 54 (by kernel_rfl)).trans (by kernel_rfl)
    have h55 : aa.eval (.tmp 55) = Value.slice (some q) n c := (E 55 (by kernel_rfl)).trans (by kernel_rfl)
    exact obl_write (ks := [0]) (by kernel_rfl) (by kernel_rfl) hk ⟨⟨1, _, _, by kernel_rfl, rfl, rfl, op_copyd rfl rfl h54 h55 P3.out⟩, trivial⟩
  intro af haf
  simp only [List.take_succ_cons, List.take_zero, finA, Act.put, List.setIfInBounds_toArray, List.set_cons_succ, List.set_cons_zero] at haf
  subst haf
  simp only [List.drop_succ_cons, List.drop_zero]
  have s4 := P2.out
  generalize hW4 : W2.drew.setRow W3.heap.size (newA sz N cs) = W4 at s4 ⊢
  have H4 := Lib.hid hW4
  clear hW4 r10 r11 r1
  have f0 := s4.r0
  have f1 := s4.r1
  have ff := s4.rf
  have S4' := Lib.hid s4
  clear s4
  go_wp2
  have hs : st < sz := by have := k1.out; have := k2.out; have := k3.out; omega
  have s5 := S4'.out.set st
  generalize hW5 : W4.setCell ⟨(W3.heap.size + 1), 1, none⟩ (Value.int IntKind.i64 ↑st) = W5 at s5 ⊢
  have H5 := Lib.hid hW5
  clear hW5 f0 f1 ff
  refine wp_phaseT [false, false, false, false, false, false, false, false, false, false, true] [[], [10]] [Value.pointer (some ⟨W3.heap.size + 1, 0, none⟩), Value.pointer (some ⟨W3.heap.size + 1, 0, none⟩), Value.pointer (some ⟨W3.heap.size + 1, 0, none⟩), .slice (some ⟨W3.heap.size, 0, none⟩) sz sz, Value.pointer (some ⟨W3.heap.size + 1, 0, none⟩), Value.pointer (some ⟨W3.heap.size + 1, 0, none⟩), Value.pointer (some ⟨W3.heap.size + 1, 1, none⟩), iv st, x.v, Value.pointer (some ⟨W3.heap.size, st * 8, none⟩), undef] [_, (st8 W5.drew W3.heap.size (st * 8) x)] 1 11 (by decide) (by kernel_rfl) (by kernel_rfl) (by kernel_rfl) (by kernel_rfl) rfl (by kernel_rfl) (fun h => absurd h (by decide)) (fun h => absurd h (by decide)) rfl rfl ⟨?_, ?_, ?_, ?_, ?_, ?_, ?_, ?_, ?_, ?_, ?_, trivial⟩ rfl (by kernel_rfl) ?_
  · intro kk aa hk E
    have h7 : aa.eval (.tmp 7) = Value.pointer (some ⟨W3.heap.size + 1, 0, none⟩) := (E 7 (by kernel_rfl)).trans (by kernel_rfl)
    exact obl_pure (by kernel_rfl) rfl hk fun w => op_move rfl rfl h7
  · intro kk aa hk E
    have h64 : aa.eval (.tmp 64) = Value.pointer (some ⟨W3.heap.size + 1, 0, none⟩) := (E 64 (by kernel_rfl)).trans (by kernel_rfl)
    exact obl_pure (by kernel_rfl) rfl hk fun w => op_nil rfl rfl h64
  · intro kk aa hk E
    have h65 : aa.eval (.tmp 65) = Value.pointer (some ⟨W3.heap.size + 1, 0, none⟩) := (E 65 (by kernel_rfl)).trans (by kernel_rfl)
    exact obl_pure (by kernel_rfl) rfl hk fun w => op_fa (k := 0) rfl rfl rfl h65
  · intro kk aa hk E
    have h66 : aa.eval (.tmp 66) = Value.pointer (some ⟨W3.heap.size + 1, 0, none⟩) := (E 66 (by kernel_rfl)).trans (by kernel_rfl)
    refine obl_read (ks := [0]) (by kernel_rfl) (by kernel_rfl) rfl hk ⟨?_, trivial⟩
    · intro w' hw; cases hw; exact op_load1 rfl (by decide) rfl h66 s5.r0
  · intro kk aa hk E
    have h7 : aa.eval (.tmp 7) = Value.pointer (some ⟨W3.heap.size + 1, 0, none⟩) := (E 7 (by kernel_rfl)).trans (by kernel_rfl)
    exact obl_pure (by kernel_rfl) rfl hk fun w => op_move rfl rfl h7
  · intro kk aa hk E
    have h68 : aa.eval (.tmp 68) = Value.pointer (some ⟨W3.heap.size + 1, 0, none⟩) := (E 68 (by kernel_rfl)).trans (by kernel_rfl)
    exact obl_pure (by kernel_rfl) rfl hk fun w => op_nil rfl rfl h68
  · intro kk aa hk E
    have h69 : aa.eval (.tmp 69) = Value.pointer (some ⟨W3.heap.size + 1, 0, none⟩) := (E 69 (by kernel_rfl)).trans (by kernel_rfl)
    exact obl_pure (by kernel_rfl) rfl hk fun w => op_fa (k := 1) rfl rfl rfl h69
  · intro kk aa hk E
    have h70 : aa.eval (.tmp 70) = Value.pointer (some ⟨W3.heap.size + 1, 1, none⟩) := (E 70 (by kernel_rfl)).trans (by kernel_rfl)
    refine obl_read (ks := [0]) (by kernel_rfl) (by kernel_rfl) rfl hk ⟨?_, trivial⟩
    · intro w' hw; cases hw; exact op_load1 rfl (by decide) rfl h70 s5.r1
  · intro kk aa hk E
    have h4 : aa.eval (.tmp 4) = Value.pointer (some ⟨w.heap.size, 0, none⟩) := (E 4 (by kernel_rfl)).trans (by kernel_rfl)
    refine obl_read (ks := [0]) (by kernel_rfl) (by kernel_rfl) rfl hk ⟨?_, trivial⟩
    · intro w' hw; cases hw; exact op_load54 (vs := x.cs) rfl rfl rfl h4 s5.xc
  · intro kk aa hk E
    have h67 : aa.eval (.tmp 67) = .slice (some ⟨W3.heap.size, 0, none⟩) sz sz := (E 67 (by kernel_rfl)).trans (by kernel_rfl)
    have h71 : aa.eval (.tmp 71) = iv st := (E 71 (by kernel_rfl)).trans (by kernel_rfl)
    exact obl_pure (by kernel_rfl) rfl hk fun w => op_index (sz := 8) (k := st) (Nat.zero_add _) rfl (.inl ⟨rfl, rfl⟩) rfl h67 h71 rfl (by omega)
  · intro kk aa hk E
    have h73 : aa.eval (.tmp 73) = Value.pointer (some ⟨W3.heap.size, st * 8, none⟩) := (E 73 (by kernel_rfl)).trans (by kernel_rfl)
    have h72 : aa.eval (.tmp 72) = x.v := (E 72 (by kernel_rfl)).trans (by kernel_rfl)
    exact obl_write (ks := [0]) (by kernel_rfl) (by kernel_rfl) hk ⟨⟨1, _, _, by kernel_rfl, rfl, rfl, op_st8 rfl rfl h73 h72 (fun i hi => s5.ac (by omega) i hi) s5.af⟩, trivial⟩
  intro af haf
  simp only [List.take_succ_cons, List.take_zero, finA, Act.put, List.setIfInBounds_toArray, List.set_cons_succ, List.set_cons_zero] at haf
  subst haf
  simp only [List.drop_succ_cons, List.drop_zero]
  have s5d : AhS b W5.drew x w.heap.size (W3.heap.size + 1) W3.heap.size sz st es clk := AhS.heap s5 rfl
  have s6 := s5d.st8 x (st * 8)
  generalize hW6 : st8 W5.drew W3.heap.size (st * 8) x = W6 at s6 ⊢
  have s6 : AhS b W6.drew x w.heap.size (W3.heap.size + 1) W3.heap.size sz st es clk := AhS.heap s6 rfl
  have H6 := Lib.hid hW6
  clear hW6
  have u6 := s6.upd (by omega) (.pointer (some ⟨(W3.heap.size + 1), 0, none⟩))
  have U6 := Lib.hid u6
  clear u6
  have S6 := Lib.hid s6
  clear s6 s5 s5d
  go_wp2
  have s6 := S6.out
  refine wp_phaseT [false, false, false, false, false, false, false, false, false, false, false, false, false, false, true] [[], [14]] [Value.pointer (some ⟨b.rb, 0, none⟩), Value.pointer (some ⟨b.rb, 0, none⟩), Value.pointer (some ⟨b.rb, 9, none⟩), .map (some b.mb), Value.pointer (some ⟨W3.heap.size + 1, 0, none⟩), Value.pointer (some ⟨W3.heap.size + 1, 0, none⟩), Value.pointer (some ⟨W3.heap.size + 1, 0, none⟩), .slice (some ⟨W3.heap.size, 0, none⟩) sz sz, Value.pointer (some ⟨W3.heap.size + 1, 0, none⟩), Value.pointer (some ⟨W3.heap.size + 1, 0, none⟩), Value.pointer (some ⟨W3.heap.size + 1, 1, none⟩), iv st, Value.pointer (some ⟨W3.heap.size, st * 8, none⟩), Value.pointer (some ⟨W3.heap.size + 1, 0, none⟩), undef] [_, (mapw W6.drew b.mb (es.push { key := .pointer (some ⟨W3.heap.size, st * 8, none⟩), val := .pointer (some ⟨(W3.heap.size + 1), 0, none⟩), born := clk }) (clk + 1))] 1 15 (by decide) (by kernel_rfl) (by kernel_rfl) (by kernel_rfl) (by kernel_rfl) rfl (by kernel_rfl) (fun h => absurd h (by decide)) (fun h => absurd h (by decide)) rfl rfl ⟨?_, ?_, ?_, ?_, ?_, ?_, ?_, ?_, ?_, ?_, ?_, ?_, ?_, ?_, ?_, trivial⟩ rfl (by kernel_rfl) ?_
  · intro kk aa hk E
    have h0 : aa.eval (.tmp 0) = Value.pointer (some ⟨b.rb, 0, none⟩) := (E 0 (by kernel_rfl)).trans (by kernel_rfl)
    exact obl_pure (by kernel_rfl) rfl hk fun w => op_move rfl rfl h0
  · intro kk aa hk E
    have h74 : aa.eval (.tmp 74) = Value.pointer (some ⟨b.rb, 0, none⟩) := (E 74 (by kernel_rfl)).trans (by kernel_rfl)
    exact obl_pure (by kernel_rfl) rfl hk fun w => op_nil rfl rfl h74
  · intro kk aa hk E
    have h75 : aa.eval (.tmp 75) = Value.pointer (some ⟨b.rb, 0, none⟩) := (E 75 (by kernel_rfl)).trans (by kernel_rfl)
    exact obl_pure (by kernel_rfl) rfl hk fun w => op_fa (k := 9) rfl rfl rfl h75
  · intro kk aa hk E
    have h76 : aa.eval (.tmp 76) = Value.pointer (some ⟨b.rb, 9, none⟩) := (E 76 (by kernel_rfl)).trans (by kernel_rfl)
    refine obl_read (ks := [0]) (by kernel_rfl) (by kernel_rfl) rfl hk ⟨?_, trivial⟩
    · intro w' hw; cases hw; exact op_load1 rfl (by decide) rfl h76 s6.c9
  · intro kk aa hk E
    have h7 : aa.eval (.tmp 7) = Value.pointer (some ⟨W3.heap.size + 1, 0, none⟩) := (E 7 (by kernel_rfl)).trans (by kernel_rfl)
    exact obl_pure (by kernel_rfl) rfl hk fun w => op_move rfl rfl h7
  · intro kk aa hk E
    have h78 : aa.eval (.tmp 78) = Value.pointer (some ⟨W3.heap.size + 1, 0, none⟩) := (E 78 (by kernel_rfl)).trans (by kernel_rfl)
    exact obl_pure (by kernel_rfl) rfl hk fun w => op_nil rfl rfl h78
  · intro kk aa hk E
    have h79 : aa.eval (.tmp 79) = Value.pointer (some ⟨W3.heap.size + 1, 0, none⟩) := (E 79 (by kernel_rfl)).trans (by kernel_rfl)
    exact obl_pure (by kernel_rfl) rfl hk fun w => op_fa (k := 0) rfl rfl rfl h79
  · intro kk aa hk E
    have h80 : aa.eval (.tmp 80) = Value.pointer (some ⟨W3.heap.size + 1, 0, none⟩) := (E 80 (by kernel_rfl)).trans (by kernel_rfl)
    refine obl_read (ks := [0]) (by kernel_rfl) (by kernel_rfl) rfl hk ⟨?_, trivial⟩
    · intro w' hw; cases hw; exact op_load1 rfl (by decide) rfl h80 s6.r0
  · intro kk aa hk E
    have h7 : aa.eval (.tmp 7) = Value.pointer (some ⟨W3.heap.size + 1, 0, none⟩) := (E 7 (by kernel_rfl)).trans (by kernel_rfl)
    exact obl_pure (by kernel_rfl) rfl hk fun w => op_move rfl rfl h7
  · intro kk aa hk E
    have h82 : aa.eval (.tmp 82) = Value.pointer (some ⟨W3.heap.size + 1, 0, none⟩) := (E 82 (by kernel_rfl)).trans (by kernel_rfl)
    exact obl_pure (by kernel_rfl) rfl hk fun w => op_nil rfl rfl h82
  · intro kk aa hk E
    have h83 : aa.eval (.tmp 83) = Value.pointer (some ⟨W3.heap.size + 1, 0, none⟩) := (E 83 (by kernel_rfl)).trans (by kernel_rfl)
    exact obl_pure (by kernel_rfl) rfl hk fun w => op_fa (k := 1) rfl rfl rfl h83
  · intro kk aa hk E
    have h84 : aa.eval (.tmp 84) = Value.pointer (some ⟨W3.heap.size + 1, 1, none⟩) := (E 84 (by kernel_rfl)).trans (by kernel_rfl)
    refine obl_read (ks := [0]) (by kernel_rfl) (by kernel_rfl) rfl hk ⟨?_, trivial⟩
    · intro w' hw; cases hw; exact op_load1 rfl (by decide) rfl h84 s6.r1
  · intro kk aa hk E
    have h81 : aa.eval (.tmp 81) = .slice (some ⟨W3.heap.size, 0, none⟩) sz sz := (E 81 (by kernel_rfl)).trans (by kernel_rfl)
    have h85 : aa.eval (.tmp 85) = iv st := (E 85 (by kernel_rfl)).trans (by kernel_rfl)
    exact obl_pure (by kernel_rfl) rfl hk fun w => op_index (sz := 8) (k := st) (Nat.zero_add _) rfl (.inl ⟨rfl, rfl⟩) rfl h81 h85 rfl (by omega)
  · intro kk aa hk E
    have h7 : aa.eval (.tmp 7) = Value.pointer (some ⟨W3.heap.size + 1, 0, none⟩) := (E 7 (by kernel_rfl)).trans (by kernel_rfl)
    exact obl_pure (by kernel_rfl) rfl hk fun w => op_move rfl rfl h7
  · intro kk aa hk E
    have h77 : aa.eval (.tmp 77) = .map (some b.mb) := (E 77 (by kernel_rfl)).trans (by kernel_rfl)
    have h86 : aa.eval (.tmp 86) = Value.pointer (some ⟨W3.heap.size, st * 8, none⟩) := (E 86 (by kernel_rfl)).trans (by kernel_rfl)
    have h87 : aa.eval (.tmp 87) = Value.pointer (some ⟨W3.heap.size + 1, 0, none⟩) := (E 87 (by kernel_rfl)).trans (by kernel_rfl)
    exact obl_write (ks := [0]) (by kernel_rfl) (by kernel_rfl) hk ⟨⟨1, _, _, by kernel_rfl, rfl, rfl, op_mapUpdate rfl rfl h77 h86 h87 U6.out⟩, trivial⟩
  intro af haf
  simp only [List.take_succ_cons, List.take_zero, finA, Act.put, List.setIfInBounds_toArray, List.set_cons_succ, List.set_cons_zero] at haf
  subst haf
  simp only [List.drop_succ_cons, List.drop_zero]
  have q0 := s6.q0 (es.push { key := .pointer (some ⟨W3.heap.size, st * 8, none⟩), val := .pointer (some ⟨(W3.heap.size + 1), 0, none⟩), born := clk }) (clk + 1)
  have q1 := s6.q1 (es.push { key := .pointer (some ⟨W3.heap.size, st * 8, none⟩), val := .pointer (some ⟨(W3.heap.size + 1), 0, none⟩), born := clk }) (clk + 1)
  generalize hW7 : mapw W6.drew b.mb (es.push { key := .pointer (some ⟨W3.heap.size, st * 8, none⟩), val := .pointer (some ⟨(W3.heap.size + 1), 0, none⟩), born := clk }) (clk + 1) = W7 at q0 q1 ⊢
  have H7 := Lib.hid hW7
  have Q0 := Lib.hid q0
  have Q1 := Lib.hid q1
  clear hW7 s6 q0 q1
  go_wp2
  refine wp_phaseT [false, false, false, false, false, false, false, false, false, false] [[]] [Value.pointer (some ⟨W3.heap.size + 1, 0, none⟩), Value.pointer (some ⟨W3.heap.size + 1, 0, none⟩), Value.pointer (some ⟨W3.heap.size + 1, 0, none⟩), .slice (some ⟨W3.heap.size, 0, none⟩) sz sz, Value.pointer (some ⟨W3.heap.size + 1, 0, none⟩), Value.pointer (some ⟨W3.heap.size + 1, 0, none⟩), Value.pointer (some ⟨W3.heap.size + 1, 1, none⟩), iv st, .slice (some ⟨W3.heap.size, st * 8, none⟩) (sz - st) (sz - st), .slice (some ⟨W3.heap.size, st * 8, none⟩) (sz - st) (sz - st)] [_] 0 10 (by decide) (by kernel_rfl) (by kernel_rfl) (by kernel_rfl) (by kernel_rfl) rfl (by kernel_rfl) (fun h => absurd h (by decide)) (fun h => absurd h (by decide)) rfl rfl ⟨?_, ?_, ?_, ?_, ?_, ?_, ?_, ?_, ?_, ?_, trivial⟩ rfl (by kernel_rfl) ?_
  · intro kk aa hk E
    have h7 : aa.eval (.tmp 7) = Value.pointer (some ⟨W3.heap.size + 1, 0, none⟩) := (E 7 (by kernel_rfl)).trans (by kernel_rfl)
    exact obl_pure (by kernel_rfl) rfl hk fun w => op_move rfl rfl h7
  · intro kk aa hk E
    have h88 : aa.eval (.tmp 88) = Value.pointer (some ⟨W3.heap.size + 1, 0, none⟩) := (E 88 (by kernel_rfl)).trans (by kernel_rfl)
    exact obl_pure (by kernel_rfl) rfl hk fun w => op_nil rfl rfl h88
  · intro kk aa hk E
    have h89 : aa.eval (.tmp 89) = Value.pointer (some ⟨W3.heap.size + 1, 0, none⟩) := (E 89 (by kernel_rfl)).trans (by kernel_rfl)
    exact obl_pure (by kernel_rfl) rfl hk fun w => op_fa (k := 0) rfl rfl rfl h89
  · intro kk aa hk E
    have h90 : aa.eval (.tmp 90) = Value.pointer (some ⟨W3.heap.size + 1, 0, none⟩) := (E 90 (by kernel_rfl)).trans (by kernel_rfl)
    refine obl_read (ks := [0]) (by kernel_rfl) (by kernel_rfl) rfl hk ⟨?_, trivial⟩
    · intro w' hw; cases hw; exact op_load1 rfl (by decide) rfl h90 Q0.out
  · intro kk aa hk E
    have h7 : aa.eval (.tmp 7) = Value.pointer (some ⟨W3.heap.size + 1, 0, none⟩) := (E 7 (by kernel_rfl)).trans (by kernel_rfl)
    exact obl_pure (by kernel_rfl) rfl hk fun w => op_move rfl rfl h7
  · intro kk aa hk E
    have h92 : aa.eval (.tmp 92) = Value.pointer (some ⟨W3.heap.size + 1, 0, none⟩) := (E 92 (by kernel_rfl)).trans (by kernel_rfl)
    exact obl_pure (by kernel_rfl) rfl hk fun w => op_nil rfl rfl h92
  · intro kk aa hk E
    have h93 : aa.eval (.tmp 93) = Value.pointer (some ⟨W3.heap.size + 1, 0, none⟩) := (E 93 (by kernel_rfl)).trans (by kernel_rfl)
    exact obl_pure (by kernel_rfl) rfl hk fun w => op_fa (k := 1) rfl rfl rfl h93
  · intro kk aa hk E
    have h94 : aa.eval (.tmp 94) = Value.pointer (some ⟨W3.heap.size + 1, 1, none⟩) := (E 94 (by kernel_rfl)).trans (by kernel_rfl)
    refine obl_read (ks := [0]) (by kernel_rfl) (by kernel_rfl) rfl hk ⟨?_, trivial⟩
    · intro w' hw; cases hw; exact op_load1 rfl (by decide) rfl h94 Q1.out
  · intro kk aa hk E
    have h91 : aa.eval (.tmp 91) = .slice (some ⟨W3.heap.size, 0, none⟩) sz sz := (E 91 (by kernel_rfl)).trans (by kernel_rfl)
    have h95 : aa.eval (.tmp 95) = iv st := (E 95 (by kernel_rfl)).trans (by kernel_rfl)
    exact obl_pure (by kernel_rfl) rfl hk fun w => op_tail rfl rfl rfl rfl rfl h91 h95 rfl (by omega) (Nat.le_refl _)
  · intro kk aa hk E
    have h96 : aa.eval (.tmp 96) = .slice (some ⟨W3.heap.size, st * 8, none⟩) (sz - st) (sz - st) := (E 96 (by kernel_rfl)).trans (by kernel_rfl)
    exact obl_pure (by kernel_rfl) rfl hk fun w => op_assign rfl rfl h96
  intro af haf
  simp only [List.take_succ_cons, List.take_zero, finA, Act.put, List.setIfInBounds_toArray, List.set_cons_succ, List.set_cons_zero] at haf
  subst haf
  simp only [List.drop_succ_cons, List.drop_zero]
  go_wp2
  show P (.returned (.slice (some ⟨W3.heap.size, st * 8, none⟩) (sz - st) (sz - st))) W7.drew
  obtain ⟨o1, o2, o3⟩ := ahead_fin_os H5.out H6.out H7.out
  have w2 : W2.os = W3.os ∧ W2.tape = W3.tape ∧ W2.output = W3.output := by rw [← H2.out]; exact ⟨rfl, rfl, rfl⟩
  have w4 : W4.os = W2.os ∧ W4.tape = W2.tape ∧ W4.output = W2.output := by rw [← H4.out]; exact ⟨rfl, rfl, rfl⟩
  have w0 : W4.heap = (W2.setRow W3.heap.size (newA sz N cs)).heap := by rw [← H4.out]; exact setRow_congr rfl _ _
  have w3 : W3.heap = (mapw (w.alloc (c8 x)) b.mb es clk).heap ∧ W3.os = w.os ∧ W3.tape = w.tape ∧ W3.output = w.output := by rw [← H3.out]; exact ⟨rfl, rfl, rfl, rfl⟩
  exact FIN.out _ w3.1 w3.2.1 w3.2.2.1 w3.2.2.2 (ahead_fin H5.out H6.out H7.out w0) (o1.trans (w4.1.trans w2.1)) (o2.trans (w4.2.1.trans w2.2.1)) (o3.trans (w4.2.2.trans w2.2.2))

set_option maxRecDepth 100000 in
set_option maxHeartbeats 2000000 in
theorem ahead_nil (b : Bl) (x : AV) (w : World) (A : Option Addr) (n c sz st N : Nat) (cs : List Value) (es : Array MapEntry) (clk : Nat) (P : Ending → World → Prop) (hn : n = 0) (hnc : n ≤ 400000000) (hsz : sz = 2 * n + 4) (hN : N = n + 4) (hst : N = st + 1)
    (hcs : cs.length = n * 8) (h1 : ∀ v ∈ cs, v.oneCell' = true) (hA : A = none → n = 0 ∧ c = 0)
    (S4 : AhV b (w.alloc (c8 x)) x w.heap.size A cs es clk)
    (FIN : ∀ V w', V.heap = (w.alloc (c8 x)).heap → V.os = w.os → V.tape = w.tape → V.output = w.output → w'.heap = (mapw (st8 (((newR V sz N).setRow V.heap.size (newA sz N cs)).setCell ⟨V.heap.size + 1, 1, none⟩ (iv st)) V.heap.size (st * 8) x) b.mb (es.push { key := .pointer (some ⟨V.heap.size, st * 8, none⟩), val := .pointer (some ⟨V.heap.size + 1, 0, none⟩), born := clk }) (clk + 1)).heap → w'.os = V.os → w'.tape = V.tape → w'.output = V.output →
      P (.returned (.slice (some ⟨V.heap.size, st * 8, none⟩) (sz - st) (sz - st))) w') :
    Calls Tryd.prog 93 #[.pointer (some ⟨b.rb, 0, none⟩), x.v, .slice A n c] w P := by
  have z1 : ((0 : Int) < (n : Int)) = False := by simp; omega
  have z1n : (0 < n) = False := by simp; omega
  have k0 := Lib.hid hn
  clear hn
  have z3 : IntKind.i64.wrap ((N : Int) - 1) = (st : Int) := by rw [IntWalk.i64_in _ (by omega)]; omega
  have z5 : IntKind.i64.wrap (2 * (n : Int)) = 2 * (n : Int) := IntWalk.i64_in _ (by omega)
  have z6 : IntKind.i64.wrap (2 * (n : Int) + 4) = (sz : Int) := by rw [IntWalk.i64_in _ (by omega)]; omega
  have z7 : IntKind.i64.wrap ((sz : Int) - (n : Int)) = (N : Int) := by rw [IntWalk.i64_in _ (by omega)]; omega
  have MK := mk_run sz (by omega)
  have k1 := Lib.hid hsz
  have k2 := Lib.hid hN
  have k3 := Lib.hid hst
  clear hsz hN hst
  have hsN : N + n = sz := by have := k1.out; have := k2.out; omega
  have k4 := Lib.hid hsN
  clear hsN
  have S4 := Lib.hid S4
  have FIN := Lib.hid FIN
  have xe : x.v = .agg #[iv x.kind, iv x.int, .slice x.A x.list.length x.c, iv x.block, eS, eS, nilS, nilS] := rfl
  rw [xe]
  clear xe
  have we : w.alloc (.cells #[iv x.kind, iv x.int, .slice x.A x.list.length x.c, iv x.block, eS, eS, nilS, nilS] 54) = w.alloc (c8 x) := rfl
  have WE := Lib.hid we
  clear we
  have kA := Lib.hid hA
  have kC := Lib.hid hcs
  have kO := Lib.hid h1
  clear hA hcs h1
  go_enter Tryd.func93, Tryd.ntmps93
  go_wp2
  obtain ⟨p1, p2, -⟩ := S4.out.pack kC.out kA.out k4.out kO.out
  have p3 := S4.out.packE (sz := sz) (N := N) kC.out kA.out k0.out
  have FIN := fun w' => FIN.out (w.alloc (c8 x)) w' rfl rfl rfl rfl
  have al : (w.alloc (c8 x)).heap.size = w.heap.size + 1 := by simp
  simp only [al] at p1 p2 p3 FIN
  clear al
  rw [WE.out]
  have NR : (((w.alloc (c8 x)).alloc (.cells (zc sz) 54)).alloc (.cells #[.slice (some ⟨w.heap.size + 1, 0, none⟩) sz sz, iv N] 131)) = newR (w.alloc (c8 x)) sz N := by unfold newR; simp
  rw [NR]
  clear NR
  generalize hW2 : newR (w.alloc (c8 x)) sz N = W2 at p1 p2 p3 FIN ⊢
  have H2 := Lib.hid hW2
  clear hW2
  have P1 := Lib.hid p1
  have P2 := Lib.hid p2
  have P3 := Lib.hid p3
  have FIN := Lib.hid FIN
  clear p1 p2 p3
  have r1 := P1.out
  have r10 : W2.cell? ⟨w.heap.size + 1 + 1, 0, none⟩ = some (.slice (some ⟨w.heap.size + 1, 0, none⟩) sz sz) := by simp [World.cell?, r1]
  have r11 : W2.cell? ⟨w.heap.size + 1 + 1, 1, none⟩ = some (iv N) := by simp [World.cell?, r1]
  refine wp_phaseT [false, false, false, false, false, false, false, false, false, false, true] [[], [10]] [Value.pointer (some ⟨w.heap.size + 1 + 1, 0, none⟩), Value.pointer (some ⟨w.heap.size + 1 + 1, 0, none⟩), Value.pointer (some ⟨w.heap.size + 1 + 1, 0, none⟩), .slice (some ⟨(w.heap.size + 1), 0, none⟩) sz sz, Value.pointer (some ⟨w.heap.size + 1 + 1, 0, none⟩), Value.pointer (some ⟨w.heap.size + 1 + 1, 0, none⟩), Value.pointer (some ⟨w.heap.size + 1 + 1, 1, none⟩), iv N, .slice (some ⟨(w.heap.size + 1), 0, none⟩) 0 0, Value.slice A n c, goInt n] [_, (W2.drew.setRow (w.heap.size + 1) (newA sz N cs))] 1 11 (by decide) (by kernel_rfl) (by kernel_rfl) (by kernel_rfl) (by kernel_rfl) rfl (by kernel_rfl) (fun h => absurd h (by decide)) (fun h => absurd h (by decide)) rfl rfl ⟨?_, ?_, ?_, ?_, ?_, ?_, ?_, ?_, ?_, ?_, ?_, trivial⟩ rfl (by kernel_rfl) ?_
  · intro kk aa hk E
    have h7 : aa.eval (.tmp 7) = Value.pointer (some ⟨w.heap.size + 1 + 1, 0, none⟩) := (E 7 (by kernel_rfl)).trans (by kernel_rfl)
    exact obl_pure (by kernel_rfl) rfl hk fun w => op_move rfl rfl h7
  · intro kk aa hk E
    have h46 : aa.eval (.tmp 46) = Value.pointer (some ⟨w.heap.size + 1 + 1, 0, none⟩) := (E 46 (by kernel_rfl)).trans (by kernel_rfl)
    exact obl_pure (by kernel_rfl) rfl hk fun w => op_nil rfl rfl h46
  · intro kk aa hk E
    have h47 : aa.eval (.tmp 47) = Value.pointer (some ⟨w.heap.size + 1 + 1, 0, none⟩) := (E 47 (by kernel_rfl)).trans (by kernel_rfl)
    exact obl_pure (by kernel_rfl) rfl hk fun w => op_fa (k := 0) rfl rfl rfl h47
  · intro kk aa hk E
    have h48 : aa.eval (.tmp 48) = Value.pointer (some ⟨w.heap.size + 1 + 1, 0, none⟩) := (E 48 (by kernel_rfl)).trans (by kernel_rfl)
    refine obl_read (ks := [0, 1]) (by kernel_rfl) (by kernel_rfl) rfl hk ⟨?_, ?_, trivial⟩
    · intro w' hw; cases hw; exact op_load1 rfl (by decide) rfl h48 r10
    · intro w' hw; cases hw; exact op_load1 rfl (by decide) rfl h48 P2.out.r0
  · intro kk aa hk E
    have h7 : aa.eval (.tmp 7) = Value.pointer (some ⟨w.heap.size + 1 + 1, 0, none⟩) := (E 7 (by kernel_rfl)).trans (by kernel_rfl)
    exact obl_pure (by kernel_rfl) rfl hk fun w => op_move rfl rfl h7
  · intro kk aa hk E
    have h50 : aa.eval (.tmp 50) = Value.pointer (some ⟨w.heap.size + 1 + 1, 0, none⟩) := (E 50 (by kernel_rfl)).trans (by kernel_rfl)
    exact obl_pure (by kernel_rfl) rfl hk fun w => op_nil rfl rfl h50
  · intro kk aa hk E
    have h51 : aa.eval (.tmp 51) = Value.pointer (some ⟨w.heap.size + 1 + 1, 0, none⟩) := (E 51 (by kernel_rfl)).trans (by kernel_rfl)
    exact obl_pure (by kernel_rfl) rfl hk fun w => op_fa (k := 1) rfl rfl rfl h51
  · intro kk aa hk E
    have h52 : aa.eval (.tmp 52) = Value.pointer (some ⟨w.heap.size + 1 + 1, 1, none⟩) := (E 52 (by kernel_rfl)).trans (by kernel_rfl)
    refine obl_read (ks := [0, 1]) (by kernel_rfl) (by kernel_rfl) rfl hk ⟨?_, ?_, trivial⟩
    · intro w' hw; cases hw; exact op_load1 rfl (by decide) rfl h52 r11
    · intro w' hw; cases hw; exact op_load1 rfl (by decide) rfl h52 P2.out.r1
  · intro kk aa hk E
    have h49 : aa.eval (.tmp 49) = .slice (some ⟨(w.heap.size + 1), 0, none⟩) sz sz := (E 49 (by kernel_rfl)).trans (by kernel_rfl)
    have h53 : aa.eval (.tmp 53) = iv N := (E 53 (by kernel_rfl)).trans (by kernel_rfl)
    exact obl_pure (by kernel_rfl) rfl hk fun w => op_tailE rfl rfl h49 h53 rfl (by have := k4.out; have := k0.out; omega) rfl
  · intro kk aa hk E
    have h2 : aa.eval (.tmp 2) = Value.slice A n c := (E 2 (by kernel_rfl)).trans (by kernel_rfl)
    exact obl_pure (by kernel_rfl) rfl hk fun w => op_move rfl rfl h2
  · intro kk aa hk E
    have h54 : aa.eval (.tmp 54) = .slice (some ⟨(w.heap.size + 1), 0, none⟩) 0 0 := (E 54 (by kernel_rfl)).trans (by kernel_rfl)
    have h55 : aa.eval (.tmp 55) = Value.slice A n c := (E 55 (by kernel_rfl)).trans (by kernel_rfl)
    exact obl_write (ks := [0]) (by kernel_rfl) (by kernel_rfl) hk ⟨⟨1, _, _, by kernel_rfl, rfl, rfl, op_copyd rfl rfl h54 h55 P3.out⟩, trivial⟩
  intro af haf
  simp only [List.take_succ_cons, List.take_zero, finA, Act.put, List.setIfInBounds_toArray, List.set_cons_succ, List.set_cons_zero] at haf
  subst haf
  simp only [List.drop_succ_cons, List.drop_zero]
  have s4 := P2.out
  generalize hW4 : W2.drew.setRow (w.heap.size + 1) (newA sz N cs) = W4 at s4 ⊢
  have H4 := Lib.hid hW4
  clear hW4 r10 r11 r1
  have f0 := s4.r0
  have f1 := s4.r1
  have ff := s4.rf
  have S4' := Lib.hid s4
  clear s4
  go_wp2
  have hs : st < sz := by have := k1.out; have := k2.out; have := k3.out; omega
  have s5 := S4'.out.set st
  generalize hW5 : W4.setCell ⟨(w.heap.size + 1 + 1), 1, none⟩ (Value.int IntKind.i64 ↑st) = W5 at s5 ⊢
  have H5 := Lib.hid hW5
  clear hW5 f0 f1 ff
  refine wp_phaseT [false, false, false, false, false, false, false, false, false, false, true] [[], [10]] [Value.pointer (some ⟨w.heap.size + 1 + 1, 0, none⟩), Value.pointer (some ⟨w.heap.size + 1 + 1, 0, none⟩), Value.pointer (some ⟨w.heap.size + 1 + 1, 0, none⟩), .slice (some ⟨(w.heap.size + 1), 0, none⟩) sz sz, Value.pointer (some ⟨w.heap.size + 1 + 1, 0, none⟩), Value.pointer (some ⟨w.heap.size + 1 + 1, 0, none⟩), Value.pointer (some ⟨w.heap.size + 1 + 1, 1, none⟩), iv st, x.v, Value.pointer (some ⟨(w.heap.size + 1), st * 8, none⟩), undef] [_, (st8 W5.drew (w.heap.size + 1) (st * 8) x)] 1 11 (by decide) (by kernel_rfl) (by kernel_rfl) (by kernel_rfl) (by kernel_rfl) rfl (by kernel_rfl) (fun h => absurd h (by decide)) (fun h => absurd h (by decide)) rfl rfl ⟨?_, ?_, ?_, ?_, ?_, ?_, ?_, ?_, ?_, ?_, ?_, trivial⟩ rfl (by kernel_rfl) ?_
  · intro kk aa hk E
    have h7 : aa.eval (.tmp 7) = Value.pointer (some ⟨w.heap.size + 1 + 1, 0, none⟩) := (E 7 (by kernel_rfl)).trans (by kernel_rfl)
    exact obl_pure (by kernel_rfl) rfl hk fun w => op_move rfl rfl h7
  · intro kk aa hk E
    have h64 : aa.eval (.tmp 64) = Value.pointer (some ⟨w.heap.size + 1 + 1, 0, none⟩) := (E 64 (by kernel_rfl)).trans (by kernel_rfl)
    exact obl_pure (by kernel_rfl) rfl hk fun w => op_nil rfl rfl h64
  · intro kk aa hk E
    have h65 : aa.eval (.tmp 65) = Value.pointer (some ⟨w.heap.size + 1 + 1, 0, none⟩) := (E 65 (by kernel_rfl)).trans (by kernel_rfl)
    exact obl_pure (by kernel_rfl) rfl hk fun w => op_fa (k := 0) rfl rfl rfl h65
  · intro kk aa hk E
    have h66 : aa.eval (.tmp 66) = Value.pointer (some ⟨w.heap.size + 1 + 1, 0, none⟩) := (E 66 (by kernel_rfl)).trans (by kernel_rfl)
    refine obl_read (ks := [0]) (by kernel_rfl) (by kernel_rfl) rfl hk ⟨?_, trivial⟩
    · intro w' hw; cases hw; exact op_load1 rfl (by decide) rfl h66 s5.r0
  · intro kk aa hk E
    have h7 : aa.eval (.tmp 7) = Value.pointer (some ⟨w.heap.size + 1 + 1, 0, none⟩) := (E 7 (by kernel_rfl)).trans (by kernel_rfl)
    exact obl_pure (by kernel_rfl) rfl hk fun w => op_move rfl rfl h7
  · intro kk aa hk E
    have h68 : aa.eval (.tmp 68) = Value.pointer (some ⟨w.heap.size + 1 + 1, 0, none⟩) := (E 68 (by kernel_rfl)).trans (by kernel_rfl)
    exact obl_pure (by kernel_rfl) rfl hk fun w => op_nil rfl rfl h68
  · intro kk aa hk E
    have h69 : aa.eval (.tmp 69) = Value.pointer (some ⟨w.heap.size + 1 + 1, 0, none⟩) := (E 69 (by kernel_rfl)).trans (by kernel_rfl)
    exact obl_pure (by kernel_rfl) rfl hk fun w => op_fa (k := 1) rfl rfl rfl h69
  · intro kk aa hk E
    have h70 : aa.eval (.tmp 70) = Value.pointer (some ⟨w.heap.size + 1 + 1, 1, none⟩) := (E 70 (by kernel_rfl)).trans (by kernel_rfl)
    refine obl_read (ks := [0]) (by kernel_rfl) (by kernel_rfl) rfl hk ⟨?_, trivial⟩
    · intro w' hw; cases hw; exact op_load1 rfl (by decide) rfl h70 s5.r1
  · intro kk aa hk E
    have h4 : aa.eval (.tmp 4) = Value.pointer (some ⟨w.heap.size, 0, none⟩) := (E 4 (by kernel_rfl)).trans (by kernel_rfl)
    refine obl_read (ks := [0]) (by kernel_rfl) (by kernel_rfl) rfl hk ⟨?_, trivial⟩
    · intro w' hw; cases hw; exact op_load54 (vs := x.cs) rfl rfl rfl h4 s5.xc
  · intro kk aa hk E
    have h67 : aa.eval (.tmp 67) = .slice (some ⟨(w.heap.size + 1), 0, none⟩) sz sz := (E 67 (by kernel_rfl)).trans (by kernel_rfl)
    have h71 : aa.eval (.tmp 71) = iv st := (E 71 (by kernel_rfl)).trans (by kernel_rfl)
    exact obl_pure (by kernel_rfl) rfl hk fun w => op_index (sz := 8) (k := st) (Nat.zero_add _) rfl (.inl ⟨rfl, rfl⟩) rfl h67 h71 rfl (by omega)
  · intro kk aa hk E
    have h73 : aa.eval (.tmp 73) = Value.pointer (some ⟨(w.heap.size + 1), st * 8, none⟩) := (E 73 (by kernel_rfl)).trans (by kernel_rfl)
    have h72 : aa.eval (.tmp 72) = x.v := (E 72 (by kernel_rfl)).trans (by kernel_rfl)
    exact obl_write (ks := [0]) (by kernel_rfl) (by kernel_rfl) hk ⟨⟨1, _, _, by kernel_rfl, rfl, rfl, op_st8 rfl rfl h73 h72 (fun i hi => s5.ac (by omega) i hi) s5.af⟩, trivial⟩
  intro af haf
  simp only [List.take_succ_cons, List.take_zero, finA, Act.put, List.setIfInBounds_toArray, List.set_cons_succ, List.set_cons_zero] at haf
  subst haf
  simp only [List.drop_succ_cons, List.drop_zero]
  have s5d : AhS b W5.drew x w.heap.size (w.heap.size + 1 + 1) (w.heap.size + 1) sz st es clk := AhS.heap s5 rfl
  have s6 := s5d.st8 x (st * 8)
  generalize hW6 : st8 W5.drew (w.heap.size + 1) (st * 8) x = W6 at s6 ⊢
  have s6 : AhS b W6.drew x w.heap.size (w.heap.size + 1 + 1) (w.heap.size + 1) sz st es clk := AhS.heap s6 rfl
  have H6 := Lib.hid hW6
  clear hW6
  have u6 := s6.upd (by omega) (.pointer (some ⟨(w.heap.size + 1 + 1), 0, none⟩))
  have U6 := Lib.hid u6
  clear u6
  have S6 := Lib.hid s6
  clear s6 s5 s5d
  go_wp2
  have s6 := S6.out
  refine wp_phaseT [false, false, false, false, false, false, false, false, false, false, false, false, false, false, true] [[], [14]] [Value.pointer (some ⟨b.rb, 0, none⟩), Value.pointer (some ⟨b.rb, 0, none⟩), Value.pointer (some ⟨b.rb, 9, none⟩), .map (some b.mb), Value.pointer (some ⟨w.heap.size + 1 + 1, 0, none⟩), Value.pointer (some ⟨w.heap.size + 1 + 1, 0, none⟩), Value.pointer (some ⟨w.heap.size + 1 + 1, 0, none⟩), .slice (some ⟨(w.heap.size + 1), 0, none⟩) sz sz, Value.pointer (some ⟨w.heap.size + 1 + 1, 0, none⟩), Value.pointer (some ⟨w.heap.size + 1 + 1, 0, none⟩), Value.pointer (some ⟨w.heap.size + 1 + 1, 1, none⟩), iv st, Value.pointer (some ⟨(w.heap.size + 1), st * 8, none⟩), Value.pointer (some ⟨w.heap.size + 1 + 1, 0, none⟩), undef] [_, (mapw W6.drew b.mb (es.push { key := .pointer (some ⟨(w.heap.size + 1), st * 8, none⟩), val := .pointer (some ⟨(w.heap.size + 1 + 1), 0, none⟩), born := clk }) (clk + 1))] 1 15 (by decide) (by kernel_rfl) (by kernel_rfl) (by kernel_rfl) (by kernel_rfl) rfl (by kernel_rfl) (fun h => absurd h (by decide)) (fun h => absurd h (by decide)) rfl rfl ⟨?_, ?_, ?_, ?_, ?_, ?_, ?_, ?_, ?_, ?_, ?_, ?_, ?_, ?_, ?_, trivial⟩ rfl (by kernel_rfl) ?_
  · intro kk aa hk E
    have h0 : aa.eval (.tmp 0) = Value.pointer (some ⟨b.rb, 0, none⟩) := (E 0 (by kernel_rfl)).trans (by kernel_rfl)
    exact obl_pure (by kernel_rfl) rfl hk fun w => op_move rfl rfl h0
  · intro kk aa hk E
    have h74 : aa.eval (.tmp 74) = Value.pointer (some ⟨b.rb, 0, none⟩) := (E 74 (by kernel_rfl)).trans (by kernel_rfl)
    exact obl_pure (by kernel_rfl) rfl hk fun w => op_nil rfl rfl h74
  · intro kk aa hk E
    have h75 : aa.eval (.tmp 75) = Value.pointer (some ⟨b.rb, 0, none⟩) := (E 75 (by kernel_rfl)).trans (by kernel_rfl)
    exact obl_pure (by kernel_rfl) rfl hk fun w => op_fa (k := 9) rfl rfl rfl h75
  · intro kk aa hk E
    have h76 : aa.eval (.tmp 76) = Value.pointer (some ⟨b.rb, 9, none⟩) := (E 76 (by kernel_rfl)).trans (by kernel_rfl)
    refine obl_read (ks := [0]) (by kernel_rfl) (by kernel_rfl) rfl hk ⟨?_, trivial⟩
    · intro w' hw; cases hw; exact op_load1 rfl (by decide) rfl h76 s6.c9
  · intro kk aa hk E
    have h7 : aa.eval (.tmp 7) = Value.pointer (some ⟨w.heap.size + 1 + 1, 0, none⟩) := (E 7 (by kernel_rfl)).trans (by kernel_rfl)
    exact obl_pure (by kernel_rfl) rfl hk fun w => op_move rfl rfl h7
  · intro kk aa hk E
    have h78 : aa.eval (.tmp 78) = Value.pointer (some ⟨w.heap.size + 1 + 1, 0, none⟩) := (E 78 (by kernel_rfl)).trans (by kernel_rfl)
    exact obl_pure (by kernel_rfl) rfl hk fun w => op_nil rfl rfl h78
  · intro kk aa hk E
    have h79 : aa.eval (.tmp 79) = Value.pointer (some ⟨w.heap.size + 1 + 1, 0, none⟩) := (E 79 (by kernel_rfl)).trans (by kernel_rfl)
    exact obl_pure (by kernel_rfl) rfl hk fun w => op_fa (k := 0) rfl rfl rfl h79
  · intro kk aa hk E
    have h80 : aa.eval (.tmp 80) = Value.pointer (some ⟨w.heap.size + 1 + 1, 0, none⟩) := (E 80 (by kernel_rfl)).trans (by kernel_rfl)
    refine obl_read (ks := [0]) (by kernel_rfl) (by kernel_rfl) rfl hk ⟨?_, trivial⟩
    · intro w' hw; cases hw; exact op_load1 rfl (by decide) rfl h80 s6.r0
  · intro kk aa hk E
    have h7 : aa.eval (.tmp 7) = Value.pointer (some ⟨w.heap.size + 1 + 1, 0, none⟩) := (E 7 (by kernel_rfl)).trans (by kernel_rfl)
    exact obl_pure (by kernel_rfl) rfl hk fun w => op_move rfl rfl h7
  · intro kk aa hk E
    have h82 : aa.eval (.tmp 82) = Value.pointer (some ⟨w.heap.size + 1 + 1, 0, none⟩) := (E 82 (by kernel_rfl)).trans (by kernel_rfl)
    exact obl_pure (by kernel_rfl) rfl hk fun w => op_nil rfl rfl h82
  · intro kk aa hk E
    have h83 : aa.eval (.tmp 83) = Value.pointer (some ⟨w.heap.size + 1 + 1, 0, none⟩) := (E 83 (by kernel_rfl)).trans (by kernel_rfl)
    exact obl_pure (by kernel_rfl) rfl hk fun w => op_fa (k := 1) rfl rfl rfl h83
  · intro kk aa hk E
    have h84 : aa.eval (.tmp 84) = Value.pointer (some ⟨w.heap.size + 1 + 1, 1, none⟩) := (E 84 (by kernel_rfl)).trans (by kernel_rfl)
    refine obl_read (ks := [0]) (by kernel_rfl) (by kernel_rfl) rfl hk ⟨?_, trivial⟩
    · intro w' hw; cases hw; exact op_load1 rfl (by decide) rfl h84 s6.r1
  · intro kk aa hk E
    have h81 : aa.eval (.tmp 81) = .slice (some ⟨(w.heap.size + 1), 0, none⟩) sz sz := (E 81 (by kernel_rfl)).trans (by kernel_rfl)
    have h85 : aa.eval (.tmp 85) = iv st := (E 85 (by kernel_rfl)).trans (by kernel_rfl)
    exact obl_pure (by kernel_rfl) rfl hk fun w => op_index (sz := 8) (k := st) (Nat.zero_add _) rfl (.inl ⟨rfl, rfl⟩) rfl h81 h85 rfl (by omega)
  · intro kk aa hk E
    have h7 : aa.eval (.tmp 7) = Value.pointer (some ⟨w.heap.size + 1 + 1, 0, none⟩) := (E 7 (by kernel_rfl)).trans (by kernel_rfl)
    exact obl_pure (by kernel_rfl) rfl hk fun w => op_move rfl rfl h7
  · intro kk aa hk E
    have h77 : aa.eval (.tmp 77) = .map (some b.mb) := (E 77 (by kernel_rfl)).trans (by kernel_rfl)
    have h86 : aa.eval (.tmp 86) = Value.pointer (some ⟨(w.heap.size + 1), st * 8, none⟩) := (E 86 (by kernel_rfl)).trans (by kernel_rfl)
    have h87 : aa.eval (.tmp 87) = Value.pointer (some ⟨w.heap.size + 1 + 1, 0, none⟩) := (E 87 (by kernel_rfl)).trans (by kernel_rfl)
    exact obl_write (ks := [0]) (by kernel_rfl) (by kernel_rfl) hk ⟨⟨1, _, _, by kernel_rfl, rfl, rfl, op_mapUpdate rfl rfl h77 h86 h87 U6.out⟩, trivial⟩
  intro af haf
  simp only [List.take_succ_cons, List.take_zero, finA, Act.put, List.setIfInBounds_toArray, List.set_cons_succ, List.set_cons_zero] at haf
  subst haf
  simp only [List.drop_succ_cons, List.drop_zero]
  have q0 := s6.q0 (es.push { key := .pointer (some ⟨(w.heap.size + 1), st * 8, none⟩), val := .pointer (some ⟨(w.heap.size + 1 + 1), 0, none⟩), born := clk }) (clk + 1)
  have q1 := s6.q1 (es.push { key := .pointer (some ⟨(w.heap.size + 1), st * 8, none⟩), val := .pointer (some ⟨(w.heap.size + 1 + 1), 0, none⟩), born := clk }) (clk + 1)
  generalize hW7 : mapw W6.drew b.mb (es.push { key := .pointer (some ⟨(w.heap.size + 1), st * 8, none⟩), val := .pointer (some ⟨(w.heap.size + 1 + 1), 0, none⟩), born := clk }) (clk + 1) = W7 at q0 q1 ⊢
  have H7 := Lib.hid hW7
  have Q0 := Lib.hid q0
  have Q1 := Lib.hid q1
  clear hW7 s6 q0 q1
  go_wp2
  refine wp_phaseT [false, false, false, false, false, false, false, false, false, false] [[]] [Value.pointer (some ⟨w.heap.size + 1 + 1, 0, none⟩), Value.pointer (some ⟨w.heap.size + 1 + 1, 0, none⟩), Value.pointer (some ⟨w.heap.size + 1 + 1, 0, none⟩), .slice (some ⟨(w.heap.size + 1), 0, none⟩) sz sz, Value.pointer (some ⟨w.heap.size + 1 + 1, 0, none⟩), Value.pointer (some ⟨w.heap.size + 1 + 1, 0, none⟩), Value.pointer (some ⟨w.heap.size + 1 + 1, 1, none⟩), iv st, .slice (some ⟨(w.heap.size + 1), st * 8, none⟩) (sz - st) (sz - st), .slice (some ⟨(w.heap.size + 1), st * 8, none⟩) (sz - st) (sz - st)] [_] 0 10 (by decide) (by kernel_rfl) (by kernel_rfl) (by kernel_rfl) (by kernel_rfl) rfl (by kernel_rfl) (fun h => absurd h (by decide)) (fun h => absurd h (by decide)) rfl rfl ⟨?_, ?_, ?_, ?_, ?_, ?_, ?_, ?_, ?_, ?_, trivial⟩ rfl (by kernel_rfl) ?_
  · intro kk aa hk E
    have h7 : aa.eval (.tmp 7) = Value.pointer (some ⟨w.heap.size + 1 + 1, 0, none⟩) := (E 7 (by kernel_rfl)).trans (by kernel_rfl)
    exact obl_pure (by kernel_rfl) rfl hk fun w => op_move rfl rfl h7
  · intro kk aa hk E
    have h88 : aa.eval (.tmp 88) = Value.pointer (some ⟨w.heap.size + 1 + 1, 0, none⟩) := (E 88 (by kernel_rfl)).trans (by kernel_rfl)
    exact obl_pure (by kernel_rfl) rfl hk fun w => op_nil rfl rfl h88
  · intro kk aa hk E
    have h89 : aa.eval (.tmp 89) = Value.pointer (some ⟨w.heap.size + 1 + 1, 0, none⟩) := (E 89 (by kernel_rfl)).trans (by kernel_rfl)
    exact obl_pure (by kernel_rfl) rfl hk fun w => op_fa (k := 0) rfl rfl rfl h89
  · intro kk aa hk E
    have h90 : aa.eval (.tmp 90) = Value.pointer (some ⟨w.heap.size + 1 + 1, 0, none⟩) := (E 90 (by kernel_rfl)).trans (by kernel_rfl)
    refine obl_read (ks := [0]) (by kernel_rfl) (by kernel_rfl) rfl hk ⟨?_, trivial⟩
    · intro w' hw; cases hw; exact op_load1 rfl (by decide) rfl h90 Q0.out
  · intro kk aa hk E
    have h7 : aa.eval (.tmp 7) = Value.pointer (some ⟨w.heap.size + 1 + 1, 0, none⟩) := (E 7 (by kernel_rfl)).trans (by kernel_rfl)
    exact obl_pure (by kernel_rfl) rfl hk fun w => op_move rfl rfl h7
  · intro kk aa hk E
    have h92 : aa.eval (.tmp 92) = Value.pointer (some ⟨w.heap.size + 1 + 1, 0, none⟩) := (E 92 (by kernel_rfl)).trans (by kernel_rfl)
    exact obl_pure (by kernel_rfl) rfl hk fun w => op_nil rfl rfl h92
  · intro kk aa hk E
    have h93 : aa.eval (.tmp 93) = Value.pointer (some ⟨w.heap.size + 1 + 1, 0, none⟩) := (E 93 (by kernel_rfl)).trans (by kernel_rfl)
    exact obl_pure (by kernel_rfl) rfl hk fun w => op_fa (k := 1) rfl rfl rfl h93
  · intro kk aa hk E
    have h94 : aa.eval (.tmp 94) = Value.pointer (some ⟨w.heap.size + 1 + 1, 1, none⟩) := (E 94 (by kernel_rfl)).trans (by kernel_rfl)
    refine obl_read (ks := [0]) (by kernel_rfl) (by kernel_rfl) rfl hk ⟨?_, trivial⟩
    · intro w' hw; cases hw; exact op_load1 rfl (by decide) rfl h94 Q1.out
  · intro kk aa hk E
    have h91 : aa.eval (.tmp 91) = .slice (some ⟨(w.heap.size + 1), 0, none⟩) sz sz := (E 91 (by kernel_rfl)).trans (by kernel_rfl)
    have h95 : aa.eval (.tmp 95) = iv st := (E 95 (by kernel_rfl)).trans (by kernel_rfl)
    exact obl_pure (by kernel_rfl) rfl hk fun w => op_tail rfl rfl rfl rfl rfl h91 h95 rfl (by omega) (Nat.le_refl _)
  · intro kk aa hk E
    have h96 : aa.eval (.tmp 96) = .slice (some ⟨(w.heap.size + 1), st * 8, none⟩) (sz - st) (sz - st) := (E 96 (by kernel_rfl)).trans (by kernel_rfl)
    exact obl_pure (by kernel_rfl) rfl hk fun w => op_assign rfl rfl h96
  intro af haf
  simp only [List.take_succ_cons, List.take_zero, finA, Act.put, List.setIfInBounds_toArray, List.set_cons_succ, List.set_cons_zero] at haf
  subst haf
  simp only [List.drop_succ_cons, List.drop_zero]
  go_wp2
  show P (.returned (.slice (some ⟨(w.heap.size + 1), st * 8, none⟩) (sz - st) (sz - st))) W7.drew
  obtain ⟨o1, o2, o3⟩ := ahead_fin_os H5.out H6.out H7.out
  have w2 : W2.os = w.os ∧ W2.tape = w.tape ∧ W2.output = w.output := by rw [← H2.out]; exact ⟨rfl, rfl, rfl⟩
  have w4 : W4.os = W2.os ∧ W4.tape = W2.tape ∧ W4.output = W2.output := by rw [← H4.out]; exact ⟨rfl, rfl, rfl⟩
  have w0 : W4.heap = (W2.setRow (w.heap.size + 1) (newA sz N cs)).heap := by rw [← H4.out]; exact setRow_congr rfl _ _
  exact FIN.out _ (ahead_fin H5.out H6.out H7.out w0) (o1.trans (w4.1.trans w2.1)) (o2.trans (w4.2.1.trans w2.2.1)) (o3.trans (w4.2.2.trans w2.2.2))
end Go.Proofs.YtdfllhmkgphcmaaDoor
namespace Go.Proofs.YtdfllhmkgphcmaaDoor
open Go.RowKit

def delE (q : Addr) (R : List Rm) (es : Array MapEntry) : Array MapEntry := match rIdx q R with | some j => es.eraseIdxIfInBounds j | none => es
theorem delE_kv {q : Addr} {R : List Rm} {es : Array MapEntry} (hkv : es.toList.map (fun e => (e.key, e.val)) = R.map Rm.kv) : (delE q R es).toList.map (fun e => (e.key, e.val)) = (delR q R).map Rm.kv := by
  unfold delE delR
  cases rIdx q R with
  | none => exact hkv
  | some j => exact kv_erase hkv j
theorem delE_run {b : Bl} {w : World} {g : Gh} (h : Mem b w g) {q : Addr} {v : Value} (hq : w.cell? q = some v) {es : Array MapEntry} {clk : Nat} (hmo : w.heap[b.mb]? = some (.map es clk)) (hkv : es.toList.map (fun e => (e.key, e.val)) = g.R.map Rm.kv) (ty : TypeId) :
    (Builtin.delete_ #[85, 129] ty #[.map (some b.mb), .pointer (some q)]).run Tryd.prog w = .ok (.tuple #[]) (mapw w b.mb (delE q g.R es) clk) := by
  have ks := rooms_keys h (es := es.toList) hkv hq
  have ha := atK_rooms q g.R es.toList hkv
  unfold delE
  cases hj : rIdx q g.R with
  | none => exact delete_no ty (fun k => q == k) hmo ks (ha.trans hj)
  | some j =>
    obtain ⟨r, hr, _⟩ := rIdx_some hj
    have hlen : es.size = g.R.length := by simpa using congrArg List.length hkv
    have hlt : j < g.R.length := by
      rcases Nat.lt_or_ge j g.R.length with h' | h'
      · exact h'
      · rw [List.getElem?_eq_none h'] at hr; cases hr
    exact delete_ptr ty (fun k => q == k) hmo ks (ha.trans hj) (by omega)
/-- Memory without a room. -/
theorem del_mem {b : Bl} {w : World} {g : Gh} (h : Mem b w g) (q : Addr) {es : Array MapEntry} {clk : Nat} (hmo : w.heap[b.mb]? = some (.map es clk)) (hkv : es.toList.map (fun e => (e.key, e.val)) = g.R.map Rm.kv) :
    Mem b (mapw w b.mb (delE q g.R es) clk) { g with R := delR q g.R } ∧ Ch w g (mapw w b.mb (delE q g.R es) clk) { g with R := delR q g.R } :=
  h.unroom (w' := mapw w b.mb (delE q g.R es) clk) rfl rfl rfl (mapw_size _ _ _ _) (fun _ hk => mapw_ne _ _ _ _ hk) _ (delR_sub q g.R) ⟨_, _, mapw_at (heap_lt hmo), delE_kv hkv⟩
theorem kv_rooms {R : List Rm} {es : List MapEntry} (hkv : es.map (fun e => (e.key, e.val)) = R.map Rm.kv) {e : MapEntry} (he : e ∈ es) : ∃ r ∈ R, e.key = .pointer (some ⟨r.ab, r.st * 8, none⟩) := by
  have h1 : (e.key, e.val) ∈ R.map Rm.kv := by rw [← hkv]; exact List.mem_map.2 ⟨e, he, rfl⟩
  obtain ⟨r, hr, h2⟩ := List.mem_map.1 h1
  exact ⟨r, hr, (Prod.mk.inj h2).1.symm⟩
theorem LRd.src {B : Nat} {tag : Nat → Tag} {w : World} {A : Option Addr} {c : Nat} {L : List AV} (h : LRd B tag w A c L) : ∀ a, A = some a → a.block < w.heap.size ∧ ∀ (j : Nat) v, (L.flatMap AV.cs)[j]? = some v → w.cell? (a.add j) = some v := fun a ha => by
  refine ⟨h.hb a ha, fun j v hj => ?_⟩
  have hlt : j < L.length * 8 := by
    rcases Nat.lt_or_ge j (L.length * 8) with h' | h'
    · exact h'
    · rw [List.getElem?_eq_none (by rw [flat8]; exact h')] at hj; cases hj
  have e : j = j / 8 * 8 + j % 8 := by omega
  have hq : j / 8 < L.length := by omega
  have hg : L[j / 8]? = some L[j / 8] := by simp [hq]
  rw [e, flat_at AV.cs 8 AV.cs_len (Nat.mod_lt _ (by omega)) L _ hg] at hj
  rw [e]
  exact (h.hx a ha _ _ hg _ _ hj).1
theorem ahv_any {b : Bl} {W : World} {g : Gh} (h : Mem b W g) {x : AV} {M0 : Nat} (hm : W.heap[M0]? = some (c8 x)) (hrc : ∃ cs fz, W.heap[b.rb]? = some (.cells cs 87 fz) ∧ cs[9]? = some (.map (some b.mb))) {es : Array MapEntry} {clk : Nat} (hmo : W.heap[b.mb]? = some (.map es clk)) (hkv : es.toList.map (fun e => (e.key, e.val)) = g.R.map Rm.kv)
    {A : Option Addr} {c : Nat} {L : List AV} (hL : LRd b.B g.tag W A c L) : AhV b W x M0 A (L.flatMap AV.cs) es clk := by
  refine ⟨hm, hrc, hmo, fun e he => ?_, hL.src⟩
  obtain ⟨r, hr, e1⟩ := kv_rooms hkv he
  obtain ⟨cur, c1, _⟩ := (h.rm r hr).a
  exact ⟨r.ab, r.st * 8, e1, cur, c1⟩
theorem newA_at {sz N n : Nat} {cs : List Value} (hn : cs.length = n * 8) (hs : N + n = sz) {j : Nat} (hj : j < n * 8) : (newA sz N cs)[N * 8 + j]? = cs[j]? := by
  unfold newA
  have hz : (zc sz).toList.length = sz * 8 := by simp [zc_size]
  have h1 : ((zc sz).toList.take (N * 8)).length = N * 8 := by rw [List.length_take, hz]; omega
  rw [List.getElem?_toArray, List.append_assoc, List.getElem?_append_right (by omega), h1, Nat.add_sub_cancel_left, List.getElem?_append_left (by omega)]

/-- What a value ahead leaves. -/
theorem new_fin {b : Bl} {w1 V w' : World} {g : Gh} (hm : Mem b w1 g) (hV : V.heap = w1.heap) (v1 : V.os = w1.os) (v2 : V.tape = w1.tape) (v3 : V.output = w1.output) {n sz st N : Nat} (k1 : sz = 2 * n + 4) (k2 : N = n + 4) (k3 : N = st + 1) {x : AV} {L : List AV} (hLn : L.length = n) (hn : n ≤ 400000000)
    (hx : LRd b.B g.tag w1 x.A x.c x.list) (hL : ∀ y ∈ L, LRd b.B g.tag w1 y.A y.c y.list) {es : Array MapEntry} {clk : Nat} (hmo : w1.heap[b.mb]? = some (.map es clk)) (hkv : es.toList.map (fun e => (e.key, e.val)) = g.R.map Rm.kv)
    (heap : w'.heap = (mapw (st8 (((newR V sz N).setRow V.heap.size (newA sz N (L.flatMap AV.cs))).setCell ⟨V.heap.size + 1, 1, none⟩ (iv st)) V.heap.size (st * 8) x) b.mb (es.push { key := .pointer (some ⟨V.heap.size, st * 8, none⟩), val := .pointer (some ⟨V.heap.size + 1, 0, none⟩), born := clk }) (clk + 1)).heap) (os : w'.os = V.os) (tape : w'.tape = V.tape) (output : w'.output = V.output) :
    ∃ g', Mem b w' g' ∧ Ch w1 g w' g' ∧ g'.S = g.S ∧ g'.sv = g.sv ∧ g'.F = g.F ∧ g'.fv = g.fv ∧ LRd b.B g'.tag w' (some ⟨V.heap.size, st * 8, none⟩) (sz - st) (x :: L) ∧ ∀ c fz, w1.heap[b.rb]? = some (.cells c 87 fz) → w'.heap[b.rb]? = some (.cells c 87 fz) := by
  have hs : V.heap.size = w1.heap.size := by rw [hV]
  have hB := hm.hs
  have hnl : (L.flatMap AV.cs).length = n * 8 := by rw [flat8, hLn]
  have hNs : N + n = sz := by omega
  have k0 : ∀ i, i ≠ V.heap.size → ((newR V sz N).setRow V.heap.size (newA sz N (L.flatMap AV.cs))).heap[i]? = (newR V sz N).heap[i]? := fun i hi => setRow_other _ _ _ _ hi
  have hgr : w1.grownBy ((newR V sz N).setRow V.heap.size (newA sz N (L.flatMap AV.cs))) none := by
    refine ⟨v1, v2, v3, ?_, fun i hi _ => ?_⟩
    · show _ ≤ ((newR V sz N).setRow V.heap.size (newA sz N (L.flatMap AV.cs))).heap.size
      have : ((newR V sz N).setRow V.heap.size (newA sz N (L.flatMap AV.cs))).heap.size = (newR V sz N).heap.size := by simp [World.setRow]
      rw [this, newR_size]
      omega
    · rw [k0 i (by omega), newR_old V sz N (by omega), hV]
  have hab := setRow_heap (newR V sz N) V.heap.size (zc sz) (newA sz N (L.flatMap AV.cs)) 54 (0, 0) (newR_ab V sz N)
  have hro : ((newR V sz N).setRow V.heap.size (newA sz N (L.flatMap AV.cs))).heap[V.heap.size + 1]? = some (.cells #[.slice (some ⟨V.heap.size, 0, none⟩) sz sz, iv ((st + 1 : Nat) : Int)] 131 (0, 0)) := by
    rw [k0 _ (by omega), newR_ro, k3]
  refine ahead_mem hm hgr hro hab (new_size hnl hNs) (by omega) (by omega) (fun h => by omega) (fun h => by omega) (fun r hr => ?_) hx hL (by omega) (by omega) (fun j y hj i v hi => ?_) hmo hkv heap (os.trans v1) (tape.trans v2) (output.trans v3)
  · have q := hm.rm r hr
    obtain ⟨cur, q1, _⟩ := q.a
    have a1 := heap_lt q1
    have a2 := heap_lt q.o
    exact ⟨by omega, by omega⟩
  · have hi8 : i < 8 := by
      rcases Nat.lt_or_ge i 8 with h' | h'
      · exact h'
      · rw [List.getElem?_eq_none (by rw [AV.cs_len]; exact h')] at hi; cases hi
    have hj' : j < n := by
      rw [← hLn]
      rcases Nat.lt_or_ge j L.length with h' | h'
      · exact h'
      · rw [List.getElem?_eq_none h'] at hj; cases hj
    rw [Lib.cell_of_heap hab, show (st + 1 + j) * 8 + i = N * 8 + (j * 8 + i) by omega, newA_at hnl hNs (by omega), flat_at AV.cs 8 AV.cs_len hi8 _ j hj]
    exact hi

def AheadP (b : Bl) (p : Prg) (w : World) (g : Gh) (x : AV) (L : List AV) (steps seed err : Int) (e : Ending) (w' : World) : Prop :=
  ∃ A c g', e = .returned (.slice A (L.length + 1) c) ∧ Mem b w' g' ∧ Ch w g w' g' ∧ RB b p w' g'.sv g'.fv steps seed false err ∧ g'.S = g.S ∧ g'.F = g.F ∧ LRd b.B g'.tag w' A c (x :: L)
theorem AheadP.mk {b : Bl} {p : Prg} {w w1 w' : World} {g g1 g' : Gh} {x : AV} {L : List AV} {steps seed err : Int} {A : Option Addr} {c m : Nat} (hR : RB b p w1 g.sv g.fv steps seed false err) (hc : Ch w g w1 g1) (e1 : g1.S = g.S) (e2 : g1.sv = g.sv) (e3 : g1.F = g.F) (e4 : g1.fv = g.fv) (hm : m = L.length + 1)
    (h : Mem b w' g' ∧ Ch w1 g1 w' g' ∧ g'.S = g1.S ∧ g'.sv = g1.sv ∧ g'.F = g1.F ∧ g'.fv = g1.fv ∧ LRd b.B g'.tag w' A c (x :: L) ∧ ∀ c fz, w1.heap[b.rb]? = some (.cells c 87 fz) → w'.heap[b.rb]? = some (.cells c 87 fz)) :
    AheadP b p w g x L steps seed err (.returned (.slice A m c)) w' := by
  obtain ⟨h1, h2, h3, h4, h5, h6, h7, h8⟩ := h
  subst hm
  refine ⟨A, c, g', rfl, h1, hc.trans h2, ?_, h3.trans e1, h5.trans e3, h7⟩
  rw [h4, h6, e2, e4]
  exact h8 _ _ hR

theorem ahead_any (b : Bl) (p : Prg) (x : AV) (A : Option Addr) (c : Nat) (L : List AV) (w : World) (g : Gh) (steps seed err : Int) (hm : Mem b w g) (hR : RB b p w g.sv g.fv steps seed false err) (hx : LRd b.B g.tag w x.A x.c x.list) (hL : LRd b.B g.tag w A c L) (hl : L.length ≤ 400000000) :
    Calls Tryd.prog 93 #[.pointer (some ⟨b.rb, 0, none⟩), x.v, .slice A L.length c] w (AheadP b p w g x L steps seed err) := by
  obtain ⟨es, clk, hmo, hkv⟩ := hm.mo
  have ma := hm.alloc (c8 x)
  have ga := grown_alloc w (c8 x) none
  have xa := hx.only hm (grown_weak ga (some b.rb))
  have La := hL.only hm (grown_weak ga (some b.rb))
  have Ra := hR.alloc (c8 x)
  have hma : (w.alloc (c8 x)).heap[b.mb]? = some (.map es clk) := (Below.heap_alloc _ _ _ (heap_lt hmo)).trans hmo
  have hnew : (w.alloc (c8 x)).heap[w.heap.size]? = some (c8 x) := al_new w (c8 x)
  have hrc : ∃ cs fz, (w.alloc (c8 x)).heap[b.rb]? = some (.cells cs 87 fz) ∧ cs[9]? = some (.map (some b.mb)) := ⟨_, _, Ra, by simp [rcs]⟩
  have c9 : ∀ o k, ((w.alloc o).drewN k).cell? ⟨b.rb, 9, none⟩ = some (.map (some b.mb)) := fun o k => ((hR.alloc o).c 9).trans (by simp [rcs])
  by_cases hn : L.length = 0
  · refine ahead_nil b x w A L.length c (2 * L.length + 4) (L.length + 3) (L.length + 4) (L.flatMap AV.cs) es clk _ hn (by omega) rfl rfl rfl (flat8 L) (flat_one L) (fun e => ⟨hn, hL.h0 e⟩) (ahv_any ma hnew hrc hma hkv La) fun V w' hV o1 o2 o3 heap p1 p2 p3 => ?_
    obtain ⟨g', h⟩ := new_fin ma hV o1 o2 o3 (n := L.length) (st := L.length + 3) rfl rfl rfl rfl (by omega) xa La.hr hma hkv heap p1 p2 p3
    exact AheadP.mk Ra (Ch.grown ga) rfl rfl rfl rfl (by omega) h
  · obtain ⟨y, hy⟩ : ∃ y, L[0]? = some y := ⟨L[0]'(by omega), by simp⟩
    obtain ⟨q, q1, rfl, hq1, hqb, hq0, -⟩ := La.at8 hy
    have hqq : q1 = q := by rw [← hq1]; simp [Addr.add]
    subst hqq
    have mk : ∀ k, Mem b ((w.alloc (c8 x)).drewN k) g := fun k => ma.drewN k
    have LK := fun k => look_rooms (mk k) (q := q1) (es := es) (clk := clk) hq0 hma hkv
    have DL := fun k ty => delE_run (mk k) (q := q1) (es := es) (clk := clk) hq0 hma hkv ty
    have md := fun k => del_mem (mk k) q1 (es := es) (clk := clk) hma hkv
    have ckv : (delE q1 g.R es).toList.map (fun e => (e.key, e.val)) = (delR q1 g.R).map Rm.kv := delE_kv hkv
    have nmb : ∀ {i : Nat} {o : Obj}, (w.alloc (c8 x)).heap[i]? = some o → (∀ e c, o ≠ .map e c) → i ≠ b.mb := fun {i o} h1 h2 e => by subst e; rw [hma] at h1; exact h2 _ _ (Option.some.inj h1).symm
    have Rd : RB b p (mapw (w.alloc (c8 x)) b.mb (delE q1 g.R es) clk) g.sv g.fv steps seed false err := Ra.keep (mapw_ne _ _ _ _ (nmb Ra (by simp)))
    have cells : ∀ p : Addr, p.block < (w.alloc (c8 x)).heap.size → sta b.B g.tag p → (mapw (w.alloc (c8 x)) b.mb (delE q1 g.R es) clk).cell? p = (w.alloc (c8 x)).cell? p := fun p hp hs => by
      refine World.cell?_of_block (w := w.alloc (c8 x)) (mapw_ne _ _ _ _ fun e => ?_)
      have hmt := hm.mt
      have hmB := hm.mbb
      rcases hs with h1 | h1 | ⟨lo, sz, h1, _⟩ | ⟨d, hi, h1, _⟩
      · omega
      all_goals
        rw [e, hmt] at h1; cases h1
    have hsz : (w.alloc (c8 x)).heap.size ≤ (mapw (w.alloc (c8 x)) b.mb (delE q1 g.R es) clk).heap.size := by rw [mapw_size]; exact Nat.le_refl _
    have xd := xa.mono hsz (fun k _ => Tag.le_refl _) cells
    have Ld := La.mono hsz (fun k _ => Tag.le_refl _) cells
    have hmd : (mapw (w.alloc (c8 x)) b.mb (delE q1 g.R es) clk).heap[b.mb]? = some (.map (delE q1 g.R es) clk) := mapw_at (heap_lt hma)
    have hnd : (mapw (w.alloc (c8 x)) b.mb (delE q1 g.R es) clk).heap[w.heap.size]? = some (c8 x) := (mapw_ne _ _ _ _ (nmb hnew (by unfold c8; simp))).trans hnew
    have hrd : ∃ cs fz, (mapw (w.alloc (c8 x)) b.mb (delE q1 g.R es) clk).heap[b.rb]? = some (.cells cs 87 fz) ∧ cs[9]? = some (.map (some b.mb)) := ⟨_, _, Rd, by simp [rcs]⟩
    have hcd : Ch w g (mapw (w.alloc (c8 x)) b.mb (delE q1 g.R es) clk) { g with R := delR q1 g.R } := (Ch.grown ga).trans (md 0).2
    have m1 : Mem b (mapw (w.alloc (c8 x)) b.mb (delE q1 g.R es) clk) { g with R := delR q1 g.R } := (md 0).1
    have ahv : ∀ k, AhV b (mapw ((w.alloc (c8 x)).drewN k) b.mb (delE q1 g.R es) clk) x w.heap.size (some q1) (L.flatMap AV.cs) (delE q1 g.R es) clk := fun k => ahv_any (md k).1 hnd hrd hmd ckv (LRd.mono (w := mapw (w.alloc (c8 x)) b.mb (delE q1 g.R es) clk) (tag := g.tag) (w' := mapw ((w.alloc (c8 x)).drewN k) b.mb (delE q1 g.R es) clk) (Nat.le_refl _) (fun _ _ => Tag.le_refl _) (fun _ _ _ => rfl) Ld)
    have fin : ∀ V w', V.heap = (mapw (w.alloc (c8 x)) b.mb (delE q1 g.R es) clk).heap → V.os = w.os → V.tape = w.tape → V.output = w.output → w'.heap = (mapw (st8 (((newR V (2 * L.length + 4) (L.length + 4)).setRow V.heap.size (newA (2 * L.length + 4) (L.length + 4) (L.flatMap AV.cs))).setCell ⟨V.heap.size + 1, 1, none⟩ (iv (L.length + 3 : Nat))) V.heap.size ((L.length + 3) * 8) x) b.mb ((delE q1 g.R es).push { key := .pointer (some ⟨V.heap.size, (L.length + 3) * 8, none⟩), val := .pointer (some ⟨V.heap.size + 1, 0, none⟩), born := clk }) (clk + 1)).heap → w'.os = V.os → w'.tape = V.tape → w'.output = V.output →
        AheadP b p w g x L steps seed err (.returned (.slice (some ⟨V.heap.size, (L.length + 3) * 8, none⟩) (2 * L.length + 4 - (L.length + 3)) (2 * L.length + 4 - (L.length + 3)))) w' := fun V w' hV o1 o2 o3 heap p1 p2 p3 => by
      obtain ⟨g', h⟩ := new_fin m1 hV o1 o2 o3 (n := L.length) (st := L.length + 3) rfl rfl rfl rfl (by omega) xd Ld.hr hmd ckv heap p1 p2 p3
      exact AheadP.mk Rd hcd rfl rfl rfl rfl (by omega) h
    cases hj : rIdx q1 g.R with
    | none =>
      have hv : roomV q1 g.R = .pointer none := by unfold roomV; rw [hj]
      rw [hv] at LK
      exact ahead_none b x w q1 L.length c (2 * L.length + 4) (L.length + 3) (L.length + 4) (L.flatMap AV.cs) (delE q1 g.R es) clk _ (by omega) (by omega) rfl rfl rfl (flat8 L) (flat_one L) (fun e => by cases e) c9 LK DL ahv fin
    | some j =>
      obtain ⟨r, hr, hq⟩ := rIdx_some hj
      have hv : roomV q1 g.R = .pointer (some ⟨r.ro, 0, none⟩) := by unfold roomV; rw [hj]; simp only [hr]
      rw [hv] at LK
      have hrR : r ∈ g.R := List.mem_of_getElem? hr
      have rok := ma.rm r hrR
      have hrod : (mapw (w.alloc (c8 x)) b.mb (delE q1 g.R es) clk).heap[r.ro]? = some (.cells #[.slice (some ⟨r.ab, 0, none⟩) r.sz r.sz, iv r.st] 131 (0, 0)) := (mapw_ne _ _ _ _ (nmb rok.o (by simp))).trans rok.o
      obtain ⟨cur, ra1, ra2⟩ := rok.a
      have habd : (mapw (w.alloc (c8 x)) b.mb (delE q1 g.R es) clk).heap[r.ab]? = some (.cells cur 54 (0, 0)) := (mapw_ne _ _ _ _ (nmb ra1 (by simp))).trans ra1
      by_cases hz : r.st = 0
      · refine ahead_zero b x w q1 L.length c (2 * L.length + 4) (L.length + 3) (L.length + 4) r.ro (L.flatMap AV.cs) (delE q1 g.R es) clk _ (by omega) (by omega) rfl rfl rfl (flat8 L) (flat_one L) (fun e => by cases e) c9 LK DL ahv (fun k => ?_) fin
        show (mapw (w.alloc (c8 x)) b.mb (delE q1 g.R es) clk).cell? ⟨r.ro, 1, none⟩ = _
        rw [Lib.cell_of_heap hrod, hz]
        rfl
      · obtain ⟨st, hst⟩ : ∃ st, r.st = st + 1 := ⟨r.st - 1, by omega⟩
        have hlen : r.st + L.length = r.sz := by
          have := hL.he q1 (r.st * 8) (r.sz * 8) rfl (by rw [hq]; exact rok.at_)
          rw [hq] at this
          simp at this
          omega
        have rab : r.ab < w.heap.size := by
          obtain ⟨c0, r1, _⟩ := (hm.rm r hrR).a
          exact heap_lt r1
        have dis := delR_ne hm.ra hj hr
        refine ahead_room b x w q1 L.length c r.ro r.ab r.sz st (delE q1 g.R es) clk _ r.st hst (by omega) (by omega) (by omega) rok.sz c9 LK DL (fun k => ?_) fun w' heap o1 o2 o3 => ?_
        · refine AhS.heap (W := mapw (w.alloc (c8 x)) b.mb (delE q1 g.R es) clk) ⟨hnd, hrd, hmd, hrod, ⟨cur, habd, ra2⟩, by omega, fun e he => ?_⟩ rfl
          obtain ⟨r', hr', e1⟩ := kv_rooms ckv he
          obtain ⟨cur', c1, _⟩ := (m1.rm r' hr').a
          exact ⟨r'.ab, r'.st * 8, e1, (dis r' hr').1, cur', c1⟩
        · have h := ahead_mem m1 (W := mapw (w.alloc (c8 x)) b.mb (delE q1 g.R es) clk) (World.grownBy.refl _ none) (by rw [← hst]; exact hrod) habd ra2 rok.ab rok.ob (fun _ => by rw [← hst]; exact rok.at_) (fun _ => rok.ot) dis xd Ld.hr (by omega) rok.sz (fun j' y' hj' i v hi => ?_) hmd ckv heap o1 o2 o3
          · obtain ⟨g', h⟩ := h
            exact AheadP.mk Rd hcd rfl rfl rfl rfl (by omega) h
          · have h1 := (Ld.hx q1 rfl j' y' hj' i v hi).1
            have h2 : q1.add (j' * 8 + i) = ⟨r.ab, (st + 1 + j') * 8 + i, none⟩ := by
              rw [hq]
              by_cases e0 : j' * 8 + i = 0
              · have : j' = 0 ∧ i = 0 := by omega
                obtain ⟨rfl, rfl⟩ := this
                simp [Addr.add, hst]
              · rw [fld_add _ _ e0, hst]
                simp only [Addr.mk.injEq, and_true, true_and]
                omega
            rwa [h2] at h1
end Go.Proofs.YtdfllhmkgphcmaaDoor
namespace Go.Proofs.YtdfllhmkgphcmaaDoor
open Go.RowKit

set_option maxRecDepth 100000 in
set_option maxHeartbeats 1000000 in
theorem cons_flt (b : Bl) (p : Prg) (op xa xb : Int) (name : T) (w : World) (g : Gh) (steps seed err : Int) (hm : Mem b w g) (hR : RB b p w g.sv g.fv steps seed false err) (hn : g.S.length ≤ 1000000) (h : popK 3 (ers g.S) = none) :
    Calls Tryd.prog 82 #[.pointer (some ⟨b.rb, 0, none⟩), .agg #[iv op, iv xa, iv xb, tv name]] w (EffP b p w g (.error 26) steps err) := by
  have H1 := Lib.hid (flt_any b p w g 3 steps seed err hm hR hn h)
  clear hm hR hn h
  go_enter Tryd.func82, Tryd.ntmps82
  go_wp2_with (go_at_call 79; refine (H1.out _).mono ?_; intro e w1 k1; obtain ⟨rfl, k2⟩ := id k1; have K1 := Lib.hid k1; clear k1 k2)
  exact ⟨rfl, K1.out⟩
set_option maxRecDepth 100000 in
set_option maxHeartbeats 1000000 in
theorem cons_flt1 (b : Bl) (p : Prg) (op xa xb : Int) (name : T) (w : World) (g : Gh) (l : AV) (steps seed err : Int) (hm : Mem b w g) (hR : RB b p w g.sv g.fv steps seed false err) (hn : g.S.length ≤ 1000000) (h : g.S = [l]) (hk : l.kind = 3) :
    Calls Tryd.prog 82 #[.pointer (some ⟨b.rb, 0, none⟩), .agg #[iv op, iv xa, iv xb, tv name]] w (EffP b p w g (.error 26) steps err) := by
  have H1 := Lib.hid (one_any b p w g [] l 3 steps seed err hm hR hn h hk)
  have C2 : ∀ o w1, One b p w g o [] steps seed err w1 → Calls Tryd.prog 86 #[.pointer (some ⟨b.rb, 0, none⟩)] w1 (EffP b p w g (.error 26) steps err) := fun o w1 ⟨_, h1, g2, e1, e2, e3, e4, h2, h3, h4⟩ =>
    (pop_flt b p w1 g2 steps seed false err h2 h4 e1).mono fun _ _ hp => EffP.flt h1 hp
  have H2 := Lib.hid C2
  clear C2 hm hR hn h hk
  have e2 := AV.v.eq_1 l
  rw [e2] at H1
  clear e2
  have hf := fld2
  go_enter Tryd.func82, Tryd.ntmps82
  go_wp2_with (first | (go_at_call 79; refine (H1.out _).mono ?_; rintro e w1 ⟨rfl, k1⟩; have K1 := Lib.hid k1; clear k1) | (go_at_call 86; refine (H2.out _ _ K1.out).mono ?_; intro e w2 k2; obtain ⟨rfl, k3⟩ := id k2; have K2 := Lib.hid k2; clear k2 k3))
  exact ⟨rfl, K2.out⟩

/-- What the two pops of a cons have left. -/
def Con (b : Bl) (p : Prg) (w : World) (g : Gh) (S : List AV) (steps seed err : Int) (w2 : World) : Prop :=
  w.grownBy w2 (some b.rb) ∧ ∃ g3, g3.S = S ∧ g3.F = g.F ∧ g3.tag = g.tag ∧ Mem b w2 g3 ∧ Ch w g w2 g3 ∧ RB b p w2 g3.sv g3.fv steps seed false err
/-- What ahead has left there. -/
def ConA (b : Bl) (p : Prg) (w : World) (g : Gh) (S L : List AV) (x : AV) (steps seed err : Int) (A : Option Addr) (c : Nat) (w' : World) : Prop :=
  ∃ g', Mem b w' g' ∧ Ch w g w' g' ∧ RB b p w' g'.sv g'.fv steps seed false err ∧ g'.S = S ∧ g'.F = g.F ∧ LRd b.B g'.tag w' A c (x :: L)
set_option maxRecDepth 100000 in
set_option maxHeartbeats 1000000 in
theorem cons_ok (b : Bl) (p : Prg) (op xa xb : Int) (name : T) (w : World) (g : Gh) (S : List AV) (x l : AV) (steps seed err : Int) (hm : Mem b w g) (hR : RB b p w g.sv g.fv steps seed false err) (hn : g.S.length ≤ 1000000) (h : g.S = S ++ [x] ++ [l]) (hk : l.kind = 3) (hl : l.list.length ≤ 1000000) :
    Calls Tryd.prog 82 #[.pointer (some ⟨b.rb, 0, none⟩), .agg #[iv op, iv xa, iv xb, tv name]] w (EffP b p w g (.ok ⟨ers S ++ [vList (x.er :: ers l.list)], g.F.map Fr.er, seed, false⟩) steps err) := by
  have hlen : g.S.length = S.length + 2 := by rw [h]; simp
  have H1 := Lib.hid (one_any b p w g (S ++ [x]) l 3 steps seed err hm hR hn h hk)
  have hh := hm.sr l (by rw [h]; simp)
  have hx := hm.sr x (by rw [h]; simp)
  have C2 : ∀ o w1, One b p w g o (S ++ [x]) steps seed err w1 → Calls Tryd.prog 86 #[.pointer (some ⟨b.rb, 0, none⟩)] w1 fun e w' => e = .returned x.v ∧ Con b p w g S steps seed err w' := fun o w1 ⟨_, h1, g2, e1, e2, e3, e4, h2, h3, h4⟩ => by
    refine (pop_mem b p w1 g2 S x steps seed false err h2 h4 e1 (by rw [e1]; simp; omega)).mono ?_
    rintro e w2 ⟨rfl, k1, sv1, k2, k3⟩
    exact ⟨rfl, h1.trans k1, { g2 with S := S, sv := sv1 }, rfl, e2, e4, k3, h3.trans (Ch.retag (Ch.only h2 k1) rfl), k2⟩
  have H2 := Lib.hid C2
  have C3 : ∀ w2 o, Con b p w g S steps seed err w2 → Calls Tryd.prog 93 #[.pointer (some ⟨b.rb, 0, none⟩), x.v, .slice l.A l.list.length l.c] (w2.alloc o) fun e w' => ∃ A c, e = .returned (.slice A (l.list.length + 1) c) ∧ ConA b p w g S l.list x steps seed err A c w' := fun w2 o ⟨h1, g3, e1, e2, e3, m3, c3, r3⟩ => by
    have gA := grown_alloc w2 o (some b.rb)
    have hx2 := hx.only hm (h1.trans gA)
    have hl2 := hh.only hm (h1.trans gA)
    rw [← e3] at hx2 hl2
    refine (ahead_any b p x l.A l.c l.list (w2.alloc o) g3 steps seed err (m3.alloc o) (r3.alloc o) hx2 hl2 (by omega)).mono ?_
    rintro e w' ⟨A, c, g', rfl, k1, k2, k3, k4, k5, k6⟩
    exact ⟨A, c, rfl, g', k1, (c3.trans (Ch.grown (grown_alloc w2 o none))).trans k2, k3, k4.trans e1, k5.trans e2, k6⟩
  have H3 := Lib.hid C3
  have C4 : ∀ A c w', ConA b p w g S l.list x steps seed err A c w' → Calls Tryd.prog 69 #[.pointer (some ⟨b.rb, 0, none⟩), .agg #[.int .i64 3, .int .i64 0, .slice A (l.list.length + 1) c, .int .i64 0, .string ⟨#[]⟩, .string ⟨#[]⟩, .slice none 0 0, .slice none 0 0]] w' (EffP b p w g (.ok ⟨ers S ++ [vList (x.er :: ers l.list)], g.F.map Fr.er, seed, false⟩) steps err) := fun A c w' ⟨g', k1, k2, k3, k4, k5, k6⟩ => by
    refine (push_any b p (AV.mk 3 0 A c 0 (x :: l.list)) w' g' steps seed false err k1 k3 k6 (by rw [k4]; omega)).mono fun e w2 hp => EffP.push hp k2 ?_
    rw [k4, k5]
    simp [AV.er, vList]
  have H4 := Lib.hid C4
  clear C2 C3 C4 hm hR hn h hk hl hlen hh hx
  have e1 := AV.v.eq_1 l
  have e2 := AV.v.eq_1 x
  rw [e1] at H1
  rw [e2] at H2 H3
  clear e1 e2
  have hf := fld2
  go_enter Tryd.func82, Tryd.ntmps82
  go_wp2_with (first | (go_at_call 79; refine (H1.out _).mono ?_; rintro e w1 ⟨rfl, k1⟩; have K1 := Lib.hid k1; clear k1) | (go_at_call 86; refine (H2.out _ _ K1.out).mono ?_; rintro e w2 ⟨rfl, k2⟩; have K2 := Lib.hid k2; clear k2) | (go_at_call 93; refine (H3.out _ _ K2.out).mono ?_; rintro e w3 ⟨A, c, rfl, k3⟩; have K3 := Lib.hid k3; clear k3) | (go_at_call 69; refine (H4.out _ _ _ K3.out).mono ?_; intro e w4 k4; obtain ⟨rfl, k5⟩ := id k4; have K4 := Lib.hid k4; clear k4 k5))
  exact bodyPost_ret (v := .tuple #[]) (results_none rfl _ _ _) rfl K4.out
/-- The instruction, all ways. -/
theorem cons_any (b : Bl) (p : Prg) (op xa xb : Int) (name : T) (w : World) (g : Gh) (steps seed err : Int) (hm : Mem b w g) (hR : RB b p w g.sv g.fv steps seed false err) (hn : g.S.length ≤ 1000000) (hx : ∀ x ∈ g.S, x.list.length ≤ 1000000) :
    Calls Tryd.prog 82 #[.pointer (some ⟨b.rb, 0, none⟩), .agg #[iv op, iv xa, iv xb, tv name]] w (EffP b p w g (match popK 3 (ers g.S) with
      | none => .error 26
      | some (S1, l) => match unsn S1 with
        | none => .error 26
        | some (S2, v) => .ok ⟨S2 ++ [vList (v :: l.list)], g.F.map Fr.er, seed, false⟩) steps err) := by
  rcases snoc_cases g.S with h | ⟨S', l, h⟩
  · have e : popK 3 (ers g.S) = none := by rw [h]; simp
    rw [e]
    exact cons_flt b p op xa xb name w g steps seed err hm hR hn e
  · by_cases hk : l.kind = 3
    · have e : popK 3 (ers g.S) = some (ers S', l.er) := by rw [h]; simp only [ers_append, ers_cons, ers_nil, popK_snoc]; rw [if_pos (by rw [er_kind]; exact hk)]
      rw [e]
      simp only
      rcases snoc_cases S' with h2 | ⟨S2, x, h2⟩
      · subst h2
        exact cons_flt1 b p op xa xb name w g l steps seed err hm hR hn (by simpa using h) hk
      · subst h2
        have e3 : unsn (ers (S2 ++ [x])) = some (ers S2, x.er) := by simp
        rw [e3]
        simp only
        rw [AV.er_list]
        exact cons_ok b p op xa xb name w g S2 x l steps seed err hm hR hn h hk (hx l (by rw [h]; simp))
    · have e : popK 3 (ers g.S) = none := by rw [h]; simp only [ers_append, ers_cons, ers_nil, popK_snoc]; rw [if_neg (by rw [er_kind]; exact hk)]
      rw [e]
      exact cons_flt b p op xa xb name w g steps seed err hm hR hn e
end Go.Proofs.YtdfllhmkgphcmaaDoor
namespace Go.Proofs.YtdfllhmkgphcmaaDoor

def vIns (bs : List Blk) (nb : Nat) (x : Ins) : Prop := fK x.op = true ∧ inR bs nb x.op x.a x.b = true
def vBs (bs : List Blk) : Prop := ∀ b ∈ bs, ∀ x ∈ b.ins, vIns bs b.ins.length x

/-- A call in its block. -/
def FrOk (bs : List Blk) (n : Nat) (f : MF) : Prop := 0 ≤ f.block ∧ (∃ b, bs[f.block.toNat]? = some b ∧ 0 ≤ f.at_ ∧ f.at_ ≤ b.ins.length) ∧ f.L.length ≤ n ∧ ∀ v ∈ f.L, MV.Ok bs.length n v
def MOk (bs : List Blk) (n : Nat) (S : List MV) (F : List MF) : Prop := S.length ≤ n ∧ F.length ≤ n ∧ (∀ v ∈ S, MV.Ok bs.length n v) ∧ ∀ f ∈ F, FrOk bs n f

theorem MV.Ok.mono {nb n m : Nat} (h : n ≤ m) {v : MV} (hv : MV.Ok nb n v) : MV.Ok nb m v := by
  induction hv with
  | mk h0 h1 hl h2 ih => exact .mk h0 h1 (Nat.le_trans hl h) ih
theorem FrOk.mono {bs : List Blk} {n m : Nat} (h : n ≤ m) {f : MF} (hf : FrOk bs n f) : FrOk bs m f :=
  ⟨hf.1, hf.2.1, Nat.le_trans hf.2.2.1 h, fun v hv => (hf.2.2.2 v hv).mono h⟩
theorem MV.Ok.num {nb n : Nat} (hb : 0 < nb) (k i : Int) : MV.Ok nb n (.mk k i 0 []) := .mk (by omega) (by omega) (by simp) (by simp)
theorem MV.Ok.b0 {nb n : Nat} {v : MV} (h : MV.Ok nb n v) : 0 ≤ v.block := by cases h; assumption
theorem MV.Ok.b1 {nb n : Nat} {v : MV} (h : MV.Ok nb n v) : v.block < nb := by cases h; assumption
theorem MV.Ok.l {nb n : Nat} {v : MV} (h : MV.Ok nb n v) : v.list.length ≤ n := by cases h; assumption
theorem MV.Ok.m {nb n : Nat} {v : MV} (h : MV.Ok nb n v) : ∀ x ∈ v.list, MV.Ok nb n x := by cases h; assumption
theorem unsn_some {α : Type} {l l' : List α} {x : α} (h : unsn l = some (l', x)) : l = l' ++ [x] := by
  rcases snoc_cases l with rfl | ⟨l2, y, rfl⟩
  · simp at h
  · simp at h; obtain ⟨rfl, rfl⟩ := h; rfl
theorem unsn_none {α : Type} {l : List α} (h : unsn l = none) : l = [] := by
  rcases snoc_cases l with rfl | ⟨l2, y, rfl⟩
  · rfl
  · simp at h
theorem popK_some {k : Int} {S S' : List MV} {x : MV} (h : popK k S = some (S', x)) : S = S' ++ [x] ∧ x.kind = k := by
  rcases snoc_cases S with rfl | ⟨l2, y, rfl⟩
  · simp at h
  · rw [popK_snoc] at h
    split at h
    · cases h; exact ⟨rfl, by assumption⟩
    · cases h

section
variable {bs : List Blk} {n : Nat} {S : List MV} {G : List MF} {f : MF}
theorem MOk.push (h : MOk bs n S (G ++ [f])) {S' : List MV} {v : MV} {f' : MF} (hS : ∀ x ∈ S', x ∈ S) (hl : S'.length ≤ S.length) (hv : MV.Ok bs.length (n + 2) v) (hf : FrOk bs (n + 2) f') : MOk bs (n + 2) (S' ++ [v]) (G ++ [f']) := by
  obtain ⟨h1, h2, h3, h4⟩ := h
  refine ⟨by simp; omega, by simp at h2 ⊢; omega, fun x hx => ?_, fun x hx => ?_⟩
  · rcases List.mem_append.1 hx with hx | hx
    · exact (h3 x (hS x hx)).mono (by omega)
    · rw [List.mem_singleton] at hx; subst hx; exact hv
  · rcases List.mem_append.1 hx with hx | hx
    · exact (h4 x (by simp [hx])).mono (by omega)
    · rw [List.mem_singleton] at hx; subst hx; exact hf
theorem MOk.less (h : MOk bs n S (G ++ [f])) {S' : List MV} {f' : MF} (hS : ∀ x ∈ S', x ∈ S) (hl : S'.length ≤ S.length) (hf : FrOk bs (n + 2) f') : MOk bs (n + 2) S' (G ++ [f']) := by
  obtain ⟨h1, h2, h3, h4⟩ := h
  refine ⟨by omega, by simp at h2 ⊢; omega, fun x hx => (h3 x (hS x hx)).mono (by omega), fun x hx => ?_⟩
  rcases List.mem_append.1 hx with hx | hx
  · exact (h4 x (by simp [hx])).mono (by omega)
  · rw [List.mem_singleton] at hx; subst hx; exact hf
theorem MOk.callF (h : MOk bs n S (G ++ [f])) {S' : List MV} {f' f2 : MF} (hS : ∀ x ∈ S', x ∈ S) (hl : S'.length ≤ S.length) (hf : FrOk bs (n + 2) f') (hf2 : FrOk bs (n + 2) f2) : MOk bs (n + 2) S' (G ++ [f'] ++ [f2]) := by
  obtain ⟨h1, h2, h3, h4⟩ := h
  refine ⟨by omega, by simp at h2 ⊢; omega, fun x hx => (h3 x (hS x hx)).mono (by omega), fun x hx => ?_⟩
  rcases List.mem_append.1 hx with hx | hx
  · rcases List.mem_append.1 hx with hx | hx
    · exact (h4 x (by simp [hx])).mono (by omega)
    · rw [List.mem_singleton] at hx; subst hx; exact hf
  · rw [List.mem_singleton] at hx; subst hx; exact hf2
end

theorem exec_ok {bs : List Blk} {n : Nat} {S : List MV} {G : List MF} {f : MF} {x : Ins} {b : Blk} {seed : Int} {s : MS} (h : MOk bs n S (G ++ [f])) (hb : bs[f.block.toNat]? = some b) (hx : b.ins[f.at_.toNat]? = some x) (hv : vIns bs b.ins.length x)
    (he : exec bs x S G { f with at_ := f.at_ + 1 } seed = .ok s) : MOk bs (n + 2) s.S s.F ∧ (s.done = s.F.isEmpty) ∧ (s.F = [] → s.S ≠ []) := by
  obtain ⟨f1, ⟨b', hb', f2, f3⟩, f4, f5⟩ := h.2.2.2 f (by simp)
  rw [hb] at hb'
  cases hb'
  have hlt : f.at_.toNat < b.ins.length := by
    rcases Nat.lt_or_ge f.at_.toNat b.ins.length with h' | h'
    · exact h'
    · rw [List.getElem?_eq_none h'] at hx; cases hx
  have hnb : 0 < bs.length := by
    rcases Nat.lt_or_ge f.block.toNat bs.length with h' | h'
    · omega
    · rw [List.getElem?_eq_none h'] at hb; cases hb
  have fo : FrOk bs (n + 2) { f with at_ := f.at_ + 1 } := ⟨f1, ⟨b, hb, by show 0 ≤ f.at_ + 1; omega, by show f.at_ + 1 ≤ _; omega⟩, by show f.L.length ≤ _; omega, fun v hv => (f5 v hv).mono (by omega)⟩
  have fj : ∀ a, 0 ≤ a → a ≤ (b.ins.length : Int) → FrOk bs (n + 2) { f with at_ := a } := fun a a0 a1 => ⟨f1, ⟨b, hb, a0, a1⟩, by show f.L.length ≤ _; omega, fun v hv => (f5 v hv).mono (by omega)⟩
  have fl : ∀ L, L.length ≤ n + 2 → (∀ v ∈ L, MV.Ok bs.length (n + 2) v) → FrOk bs (n + 2) { f with at_ := f.at_ + 1, L := L } := fun L h1 h2 => ⟨f1, ⟨b, hb, by show 0 ≤ f.at_ + 1; omega, by show f.at_ + 1 ≤ _; omega⟩, h1, h2⟩
  have new : ∀ k L, plainB bs k = true ∨ (0 ≤ k ∧ k < bs.length) → L.length ≤ n + 2 → (∀ v ∈ L, MV.Ok bs.length (n + 2) v) → FrOk bs (n + 2) ⟨k, 0, L⟩ := fun k L hk h1 h2 => by
    have h3 : 0 ≤ k ∧ ∃ b, bs[k.toNat]? = some b := by
      rcases hk with hk | hk
      · unfold plainB at hk
        simp only [Bool.and_eq_true, decide_eq_true_eq] at hk
        refine ⟨hk.1, ?_⟩
        cases hq : bs[k.toNat]? with
        | none => rw [hq] at hk; simp at hk
        | some b => exact ⟨b, rfl⟩
      · exact ⟨hk.1, bs[k.toNat]'(by omega), by simp⟩
    obtain ⟨h3, b2, h4⟩ := h3
    exact ⟨h3, ⟨b2, h4, Int.le_refl _, by show (0 : Int) ≤ _; omega⟩, h1, h2⟩
  obtain ⟨v1, v2⟩ := hv
  obtain ⟨op, a, bb, name⟩ := x
  simp only at v1 v2
  rcases op_split op with rfl | rfl | rfl | rfl | rfl | rfl | rfl | rfl | rfl | rfl | rfl | rfl | rfl | rfl | rfl | rfl | ⟨h1, h2, h3, h4, h5, h6, h7, h8, h9, h10, h11, h12, h13, h14, h15, h16⟩
  · simp [exec] at he
    subst he
    exact ⟨h.push (fun _ h => h) (Nat.le_refl _) (.num hnb _ _) fo, by simp, by simp⟩
  · simp [exec] at he
    subst he
    exact ⟨h.push (fun _ h => h) (Nat.le_refl _) (.num hnb _ _) fo, by simp, by simp⟩
  · simp [exec] at he
    cases hq : f.L[a.toNat]? with
    | none => rw [hq] at he; cases he
    | some v =>
      rw [hq] at he
      simp at he
      subst he
      exact ⟨h.push (fun _ h => h) (Nat.le_refl _) ((f5 v (List.mem_of_getElem? hq)).mono (by omega)) fo, by simp, by simp⟩
  · simp [exec] at he
    subst he
    have := h.callF (S' := S) (f2 := ⟨a, 0, []⟩) (fun _ h => h) (Nat.le_refl _) fo (new a [] (.inl (by simpa [inR] using v2)) (by simp) (by simp))
    simp only [List.append_assoc, List.cons_append, List.nil_append] at this
    exact ⟨this, by simp, by simp⟩
  · simp [exec] at he
    split at he
    · cases he
      simp [inR, closB] at v2
      have v3 : a < (bs.length : Int) := by
        rcases Nat.lt_or_ge a.toNat bs.length with h' | h'
        · omega
        · rw [List.getElem?_eq_none h'] at v2; simp at v2
      refine ⟨h.push (fun _ h => h) (Nat.le_refl _) (.mk v2.1 v3 (by omega) fun v hv => (f5 v hv).mono (by omega)) fo, by simp, by simp⟩
    · cases he
  · simp [exec] at he
    cases hq : unsn S with
    | none => rw [hq] at he; cases he
    | some q =>
      obtain ⟨S1, v⟩ := q
      rw [hq] at he
      simp only at he
      cases hq2 : popK 4 S1 with
      | none => rw [hq2] at he; cases he
      | some q2 =>
        obtain ⟨S2, g⟩ := q2
        rw [hq2] at he
        simp at he
        subst he
        have e1 := unsn_some hq
        obtain ⟨e2, _⟩ := popK_some hq2
        subst e2
        subst e1
        have og := h.2.2.1 g (by simp)
        have ov := h.2.2.1 v (by simp)
        have := h.callF (S' := S2) (f2 := ⟨g.block, 0, g.list ++ [v]⟩) (fun _ h => by simp [h]) (by simp) fo (new _ _ (.inr ⟨og.b0, og.b1⟩) (by have := og.l; simp; omega) (fun y hy => by
          rcases List.mem_append.1 hy with hy | hy
          · exact (og.m y hy).mono (by omega)
          · rw [List.mem_singleton] at hy; subst hy; exact ov.mono (by omega)))
        simp only [List.append_assoc, List.cons_append, List.nil_append] at this
        exact ⟨this, by simp, by simp⟩
  · simp [exec] at he
    split at he
    · cases he
    · rename_i hS
      cases he
      refine ⟨⟨by show S.length ≤ _; have := h.1; omega, by show G.length ≤ _; have := h.2.1; simp at this; omega, fun y hy => (h.2.2.1 y hy).mono (by omega), fun y hy => (h.2.2.2 y (by simp [show y ∈ G from hy])).mono (by omega)⟩, rfl, fun _ => hS⟩
  · simp [exec] at he
    subst he
    simp [inR] at v2
    exact ⟨h.less (fun _ h => h) (Nat.le_refl _) (fj a v2.1 v2.2), by simp, by simp⟩
  · simp [exec] at he
    cases hq : popK 2 S with
    | none => rw [hq] at he; cases he
    | some q =>
      obtain ⟨S1, v⟩ := q
      rw [hq] at he
      simp at he
      subst he
      obtain ⟨e1, _⟩ := popK_some hq
      subst e1
      simp [inR] at v2
      refine ⟨h.less (fun _ h => by simp [h]) (by simp) ?_, by simp, by simp⟩
      split
      · exact fj a v2.1 v2.2
      · exact fo
  · simp [exec] at he
    cases hq : popK 1 S with
    | none => rw [hq] at he; cases he
    | some q =>
      obtain ⟨S1, v⟩ := q
      rw [hq] at he
      simp only at he
      cases hq2 : popK 1 S1 with
      | none => rw [hq2] at he; cases he
      | some q2 =>
        obtain ⟨S2, u⟩ := q2
        rw [hq2] at he
        simp only at he
        obtain ⟨e1, _⟩ := popK_some hq
        obtain ⟨e2, _⟩ := popK_some hq2
        subst e2
        subst e1
        have P := fun (v : MV) (hv : MV.Ok bs.length (n + 2) v) => h.push (S' := S2) (v := v) (fun _ h => by simp [h]) (by simp) hv fo
        split at he
        · cases he; exact ⟨P _ (.num hnb _ _), by simp, by simp⟩
        · split at he
          · cases he; exact ⟨P _ (.num hnb _ _), by simp, by simp⟩
          · split at he
            · cases he
            · cases he; exact ⟨P _ (.num hnb _ _), by simp, by simp⟩
  · simp [exec] at he
    subst he
    exact ⟨h.push (fun _ h => h) (Nat.le_refl _) (.num hnb _ _) fo, by simp, by simp⟩
  · simp [exec] at he
    cases hq : popK 3 S with
    | none => rw [hq] at he; cases he
    | some q =>
      obtain ⟨S1, l⟩ := q
      rw [hq] at he
      simp only at he
      cases hq2 : unsn S1 with
      | none => rw [hq2] at he; cases he
      | some q2 =>
        obtain ⟨S2, v⟩ := q2
        rw [hq2] at he
        simp at he
        subst he
        obtain ⟨e1, _⟩ := popK_some hq
        have e2 := unsn_some hq2
        subst e2
        subst e1
        have ol := h.2.2.1 l (by simp)
        have ov := h.2.2.1 v (by simp)
        refine ⟨h.push (S' := S2) (fun _ h => by simp [h]) (by simp) (.mk (by omega) (by omega) (by have := ol.l; simp; omega) fun y hy => ?_) fo, by simp, by simp⟩
        rcases List.mem_cons.1 hy with rfl | hy
        · exact ov.mono (by omega)
        · exact (ol.m y hy).mono (by omega)
  · simp [exec] at he
    cases hq : popK 3 S with
    | none => rw [hq] at he; cases he
    | some q =>
      obtain ⟨S1, l⟩ := q
      rw [hq] at he
      simp only at he
      obtain ⟨e1, _⟩ := popK_some hq
      subst e1
      have ol := h.2.2.1 l (by simp)
      simp [inR] at v2
      cases hl : l.list with
      | nil =>
        rw [hl] at he
        simp at he
        subst he
        exact ⟨h.less (fun _ h => by simp [h]) (by simp) (fj a v2.1 v2.2), by simp, by simp⟩
      | cons y t =>
        rw [hl] at he
        simp at he
        subst he
        have hll := ol.l
        rw [hl] at hll
        simp at hll
        have hmm := ol.m
        rw [hl] at hmm
        refine ⟨h.less (fun _ h => by simp [h]) (by simp) (fl _ (by simp; omega) fun z hz => ?_), by simp, by simp⟩
        rcases List.mem_append.1 hz with hz | hz
        · exact (f5 z hz).mono (by omega)
        · simp at hz
          rcases hz with rfl | rfl
          · exact (hmm _ (by simp)).mono (by omega)
          · exact .mk (by omega) (by omega) (by omega) fun u hu => (hmm u (by simp [hu])).mono (by omega)
  · simp [exec] at he
    cases hq : unsn S with
    | none => rw [hq] at he; cases he
    | some q =>
      obtain ⟨S1, v⟩ := q
      rw [hq] at he
      simp at he
      subst he
      have e1 := unsn_some hq
      subst e1
      have ov := h.2.2.1 v (by simp)
      refine ⟨h.less (fun _ h => by simp [h]) (by simp) (fl _ (by simp; omega) fun z hz => ?_), by simp, by simp⟩
      rcases List.mem_append.1 hz with hz | hz
      · exact (f5 z hz).mono (by omega)
      · rw [List.mem_singleton] at hz; subst hz; exact ov.mono (by omega)
  · simp [exec] at he
    split at he
    · cases he
    · cases he
      exact ⟨h.less (fun _ h => h) (Nat.le_refl _) (fl _ (by simp; omega) fun z hz => (f5 z (List.mem_of_mem_take hz)).mono (by omega)), by simp, by simp⟩
  · simp [exec] at he
    subst he
    exact ⟨h.push (fun _ h => h) (Nat.le_refl _) (by unfold vBool; exact .num hnb _ _) fo, by simp, by simp⟩
  · simp [fK, fA, *] at v1
end Go.Proofs.YtdfllhmkgphcmaaDoor

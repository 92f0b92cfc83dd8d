/- Walks and words: AwG, AwI, AwJ, AwK, AwL. -/
import Derived.Test.YtiaenhlflgobfaaGreatDoorM10
import Derived.Test.YtiaenhlflgobfaaGreatDoorM18
import Derived.LaidEqlPtr
import Derived.Deep.RegionHeld3
namespace Go.Proofs.YtiaenhlflgobfaaGreatDoor
open Go.RowKit Go.Maps
def aD (kN : Nat) : Dec := ⟨1, 1, true, some ⟨kN, 0, none⟩, 1, [[102]], false, aB⟩
def aM (kN kD : Nat) : Mod := ⟨[109], none, 0, [], some ⟨kD, 0, none⟩, 1, [aD kN]⟩
theorem aM_rd {kN kD : Nat} {w : World} (hN : w.heap[kN]? = some (.cells #[.string ⟨#[102]⟩] 9 (0, 0))) (hD : w.heap[kD]? = some (.cells #[iv 1, iv 1, .bool true, .slice (some ⟨kN, 0, none⟩) 1 1, .bool false, iv 1, .string ⟨#[]⟩, .string ⟨#[]⟩, iv 7, iv 0, .slice none 0 0] 45 (0, 0))) : (aM kN kD).Rd w := by
  refine ⟨by simp [aM, sOk], SRd.nil w, ⟨⟨by simp [aM], by simp [aM], fun h => (by cases h), rd_cells (t := 45) Dec.cs_len hD⟩, fun x hx => ?_⟩⟩
  have hx2 : x = aD kN := by simpa [aM] using hx
  subst hx2
  refine ⟨⟨⟨by simp [aD], by simp [aD], fun h => (by cases h), rd_cells (t := 9) scs_len hN⟩, fun s hs => ?_⟩, ⟨XRd.nil w, by simp [aD, aB, sOk, Ex.name], by simp [aD, aB, sOk, Ex.more]⟩⟩
  have h1 : s = [102] := by simpa [aD] using hs
  rw [h1]
  simp [sOk]
theorem aM_ok (kN kD : Nat) : ckM (aM kN kD).er = 0 := by
  have : (aM kN kD).er = ⟨[109], [], [⟨1, 1, true, [[102]], false, .mk 1 [] [] 7 0 []⟩]⟩ := by simp [aM, Mod.er, Dec.er, aD, aB, Ex.er]
  rw [this]
  decide +kernel
set_option maxRecDepth 100000 in
set_option maxHeartbeats 4000000 in
attribute [local irreducible] Calls in
theorem groups_a (kN kD : Nat) (w : World) (hN : w.heap[kN]? = some (.cells #[.string ⟨#[102]⟩] 9 (0, 0))) (hD : w.heap[kD]? = some (.cells #[iv 1, iv 1, .bool true, .slice (some ⟨kN, 0, none⟩) 1 1, .bool false, iv 1, .string ⟨#[]⟩, .string ⟨#[]⟩, iv 7, iv 0, .slice none 0 0] 45 (0, 0))) : Calls Tryz.prog 77 #[.agg #[.string ⟨#[109]⟩, .slice none 0 0, .slice (some ⟨kD, 0, none⟩) 1 1]] w fun e w' => ∃ gL cL uL gC cC uC, e = .returned (.tuple #[.slice (some ⟨gL, 0, none⟩) 1 cL, iv 0]) ∧ HS w w' [(gL, .cells uL 110 (0, 0)), (gC, .cells uC 3 (0, 0))] ∧ uL[0]? = some (.slice (some ⟨gC, 0, none⟩) 1 cC) ∧ uC[0]? = some (iv 1) ∧ (1 ≤ cL ∧ cL ≤ 9223372036854775807) ∧ (1 ≤ cC ∧ cC ≤ 9223372036854775807) := by
  have FN := Lib.hid (fun V (g : Gr w V) => show V.cell? ⟨kN, 0, none⟩ = some (.string ⟨#[102]⟩) from Lib.cell_of_heap (gr_h g hN) 0)
  have FD := Lib.hid (fun V (g : Gr w V) => boxD (gr_h g hD))
  have HD := Lib.hid hD
  have CU := Lib.hid (fun V => uses_a kN V)
  have CK := Lib.hid (fun V (g : Gr w V) => show Calls Tryz.prog 39 #[.agg #[.string ⟨#[109]⟩, .slice none 0 0, .slice (some ⟨kD, 0, none⟩) 1 1]] V (fun e w' => e = .returned (iv 0) ∧ Gr V w') from by
    have h := checkM_any (aM kN kD) V ((aM_rd hN hD).gr g)
    rw [aM_ok] at h
    exact h)
  unfold aDv at CU
  clear hN hD
  have S0 := Lib.hid (HS.nil (w0 := w))
  have hmm := @run_makeMap Tryz.prog
  go_enter Tryz.func77, Tryz.ntmps77
  obtain ⟨b1, hb1⟩ : ∃ b, w.heap.size = b := ⟨_, rfl⟩
  go_upto_region 1 with fail
  generalize hW : World.alloc w _ = W1
  have S1 := Lib.hid (show HS w W1 [(b1, Obj.cells #[.string ⟨#[109]⟩, .slice none 0 0, .slice (some ⟨kD, 0, none⟩) 1 1] 39 (0, 0))] from by rw [← hW]; exact S0.out.alloc hb1 _)
  clear hW
  have Hb1 := Lib.hid hb1
  clear hb1
  have x1 : W1.cell? ⟨b1, 0, none⟩ = some (.string ⟨#[109]⟩) := S1.out.cell (b := b1) (C := #[.string ⟨#[109]⟩, .slice none 0 0, .slice (some ⟨kD, 0, none⟩) 1 1]) (t := 39) (by simp) 0
  have x2 : W1.cell? ⟨b1, 1, none⟩ = some (.slice none 0 0) := S1.out.cell (b := b1) (C := #[.string ⟨#[109]⟩, .slice none 0 0, .slice (some ⟨kD, 0, none⟩) 1 1]) (t := 39) (by simp) 1
  have x3 : W1.cell? ⟨b1, 2, none⟩ = some (.slice (some ⟨kD, 0, none⟩) 1 1) := S1.out.cell (b := b1) (C := #[.string ⟨#[109]⟩, .slice none 0 0, .slice (some ⟨kD, 0, none⟩) 1 1]) (t := 39) (by simp) 2
  go_upto_region 4 with (go_at_call 39; (with_reducible refine (CK.out _ S1.out.g).mono ?_); rintro e W2 ⟨rfl, g⟩; have S2 := Lib.hid (show HS w W2 [(b1, Obj.cells #[.string ⟨#[109]⟩, .slice none 0 0, .slice (some ⟨kD, 0, none⟩) 1 1] 39 (0, 0))] from S1.out.gr g); clear g x1 x2 x3)
  obtain ⟨b5, hb5⟩ : ∃ b, W2.heap.size = b := ⟨_, rfl⟩
  go_upto_region 5 with fail
  generalize hW : World.alloc W2 _ = W3
  have S3 := Lib.hid (show HS w W3 [(b5, mapO iv ([] : MK Int)), (b1, Obj.cells #[.string ⟨#[109]⟩, .slice none 0 0, .slice (some ⟨kD, 0, none⟩) 1 1] 39 (0, 0))] from by rw [← hW]; exact S2.out.alloc hb5 _)
  clear hW
  have Hb5 := Lib.hid hb5
  clear hb5
  have x4 : W3.cell? ⟨b1, 2, none⟩ = some (.slice (some ⟨kD, 0, none⟩) 1 1) := S3.out.cell (b := b1) (C := #[.string ⟨#[109]⟩, .slice none 0 0, .slice (some ⟨kD, 0, none⟩) 1 1]) (t := 39) (by simp) 2
  go_wp2
  refine wp_loop_rounds 2 ?_
  rw [rounds_succ]
  obtain ⟨d0, d1, d2, d3, d4, d5, d6, d7, d8, d9, d10⟩ := FD.out _ S3.out.g
  obtain ⟨b7, hb7⟩ : ∃ b, W3.heap.size = b := ⟨_, rfl⟩
  go_upto_region 8 with fail
  generalize hW : World.alloc W3 _ = W4
  have S4 := Lib.hid (show HS w W4 [(b7, Obj.cells #[iv 1, iv 1, .bool true, .slice (some ⟨kN, 0, none⟩) 1 1, .bool false, iv 1, .string ⟨#[]⟩, .string ⟨#[]⟩, iv 7, iv 0, .slice none 0 0] 45 (0, 0)), (b5, mapO iv ([] : MK Int)), (b1, Obj.cells #[.string ⟨#[109]⟩, .slice none 0 0, .slice (some ⟨kD, 0, none⟩) 1 1] 39 (0, 0))] from by rw [← hW]; exact S3.out.alloc hb7 _)
  clear hW
  have Hb7 := Lib.hid hb7
  clear hb7
  clear x4 d0 d1 d2 d3 d4 d5 d6 d7 d8 d9 d10
  have x5 : W4.cell? ⟨b7, 0, none⟩ = some (iv 1) := S4.out.cell (b := b7) (C := #[iv 1, iv 1, .bool true, .slice (some ⟨kN, 0, none⟩) 1 1, .bool false, iv 1, .string ⟨#[]⟩, .string ⟨#[]⟩, iv 7, iv 0, .slice none 0 0]) (t := 45) (by simp) 0
  have x6 : W4.cell? ⟨b7, 1, none⟩ = some (iv 1) := S4.out.cell (b := b7) (C := #[iv 1, iv 1, .bool true, .slice (some ⟨kN, 0, none⟩) 1 1, .bool false, iv 1, .string ⟨#[]⟩, .string ⟨#[]⟩, iv 7, iv 0, .slice none 0 0]) (t := 45) (by simp) 1
  have x7 : W4.cell? ⟨b7, 2, none⟩ = some (.bool true) := S4.out.cell (b := b7) (C := #[iv 1, iv 1, .bool true, .slice (some ⟨kN, 0, none⟩) 1 1, .bool false, iv 1, .string ⟨#[]⟩, .string ⟨#[]⟩, iv 7, iv 0, .slice none 0 0]) (t := 45) (by simp) 2
  have x8 : W4.cell? ⟨b7, 3, none⟩ = some (.slice (some ⟨kN, 0, none⟩) 1 1) := S4.out.cell (b := b7) (C := #[iv 1, iv 1, .bool true, .slice (some ⟨kN, 0, none⟩) 1 1, .bool false, iv 1, .string ⟨#[]⟩, .string ⟨#[]⟩, iv 7, iv 0, .slice none 0 0]) (t := 45) (by simp) 3
  have x9 : W4.cell? ⟨b7, 4, none⟩ = some (.bool false) := S4.out.cell (b := b7) (C := #[iv 1, iv 1, .bool true, .slice (some ⟨kN, 0, none⟩) 1 1, .bool false, iv 1, .string ⟨#[]⟩, .string ⟨#[]⟩, iv 7, iv 0, .slice none 0 0]) (t := 45) (by simp) 4
  have x10 : W4.cell? ⟨b7, 5, none⟩ = some (iv 1) := S4.out.cell (b := b7) (C := #[iv 1, iv 1, .bool true, .slice (some ⟨kN, 0, none⟩) 1 1, .bool false, iv 1, .string ⟨#[]⟩, .string ⟨#[]⟩, iv 7, iv 0, .slice none 0 0]) (t := 45) (by simp) 5
  have x11 : W4.cell? ⟨b7, 6, none⟩ = some (.string ⟨#[]⟩) := S4.out.cell (b := b7) (C := #[iv 1, iv 1, .bool true, .slice (some ⟨kN, 0, none⟩) 1 1, .bool false, iv 1, .string ⟨#[]⟩, .string ⟨#[]⟩, iv 7, iv 0, .slice none 0 0]) (t := 45) (by simp) 6
  have x12 : W4.cell? ⟨b7, 7, none⟩ = some (.string ⟨#[]⟩) := S4.out.cell (b := b7) (C := #[iv 1, iv 1, .bool true, .slice (some ⟨kN, 0, none⟩) 1 1, .bool false, iv 1, .string ⟨#[]⟩, .string ⟨#[]⟩, iv 7, iv 0, .slice none 0 0]) (t := 45) (by simp) 7
  have x13 : W4.cell? ⟨b7, 8, none⟩ = some (iv 7) := S4.out.cell (b := b7) (C := #[iv 1, iv 1, .bool true, .slice (some ⟨kN, 0, none⟩) 1 1, .bool false, iv 1, .string ⟨#[]⟩, .string ⟨#[]⟩, iv 7, iv 0, .slice none 0 0]) (t := 45) (by simp) 8
  have x14 : W4.cell? ⟨b7, 9, none⟩ = some (iv 0) := S4.out.cell (b := b7) (C := #[iv 1, iv 1, .bool true, .slice (some ⟨kN, 0, none⟩) 1 1, .bool false, iv 1, .string ⟨#[]⟩, .string ⟨#[]⟩, iv 7, iv 0, .slice none 0 0]) (t := 45) (by simp) 9
  have x15 : W4.cell? ⟨b7, 10, none⟩ = some (.slice none 0 0) := S4.out.cell (b := b7) (C := #[iv 1, iv 1, .bool true, .slice (some ⟨kN, 0, none⟩) 1 1, .bool false, iv 1, .string ⟨#[]⟩, .string ⟨#[]⟩, iv 7, iv 0, .slice none 0 0]) (t := 45) (by simp) 10
  have BX := Lib.hid (fun V (h : V.heap[b7]? = some (.cells #[iv 1, iv 1, .bool true, .slice (some ⟨kN, 0, none⟩) 1 1, .bool false, iv 1, .string ⟨#[]⟩, .string ⟨#[]⟩, iv 7, iv 0, .slice none 0 0] 45 (0, 0))) => boxD (V := V) h)
  go_region_held3 (fun V => V.cell? ⟨b7, 0, none⟩ = some (iv 1) ∧ V.cell? ⟨b7, 1, none⟩ = some (iv 1) ∧ V.cell? ⟨b7, 2, none⟩ = some (.bool true) ∧ V.cell? ⟨b7, 3, none⟩ = some (.slice (some ⟨kN, 0, none⟩) 1 1) ∧ V.cell? ⟨b7, 4, none⟩ = some (.bool false) ∧ V.cell? ⟨b7, 5, none⟩ = some (iv 1) ∧ V.cell? ⟨b7, 6, none⟩ = some (.string ⟨#[]⟩) ∧ V.cell? ⟨b7, 7, none⟩ = some (.string ⟨#[]⟩) ∧ V.cell? ⟨b7, 8, none⟩ = some (iv 7) ∧ V.cell? ⟨b7, 9, none⟩ = some (iv 0) ∧ V.cell? ⟨b7, 10, none⟩ = some (.slice none 0 0)) (first | exact BX.out _ (S4.out.f (b7, Obj.cells #[iv 1, iv 1, .bool true, .slice (some ⟨kN, 0, none⟩) 1 1, .bool false, iv 1, .string ⟨#[]⟩, .string ⟨#[]⟩, iv 7, iv 0, .slice none 0 0] 45 (0, 0)) (by simp)) | exact BX.out _ (S5.out.f (b7, Obj.cells #[iv 1, iv 1, .bool true, .slice (some ⟨kN, 0, none⟩) 1 1, .bool false, iv 1, .string ⟨#[]⟩, .string ⟨#[]⟩, iv 7, iv 0, .slice none 0 0] 45 (0, 0)) (by simp)) | exact BX.out _ ((HS.setm (pre := [(b7, Obj.cells #[iv 1, iv 1, .bool true, .slice (some ⟨kN, 0, none⟩) 1 1, .bool false, iv 1, .string ⟨#[]⟩, .string ⟨#[]⟩, iv 7, iv 0, .slice none 0 0] 45 (0, 0))]) (post := [(b1, Obj.cells #[.string ⟨#[109]⟩, .slice none 0 0, .slice (some ⟨kD, 0, none⟩) 1 1] 39 (0, 0))]) (l := ([] : MK Int)) S5.out ([(1, .slice none 0 0)] : MK Int)).f (b7, Obj.cells #[iv 1, iv 1, .bool true, .slice (some ⟨kN, 0, none⟩) 1 1, .bool false, iv 1, .string ⟨#[]⟩, .string ⟨#[]⟩, iv 7, iv 0, .slice none 0 0] 45 (0, 0)) (by simp)) | go_keep) (first | (go_at_call 119; (with_reducible refine (CU.out _).mono ?_); rintro e W5 ⟨rfl, g⟩; have S5 := Lib.hid (show HS w W5 [(b7, Obj.cells #[iv 1, iv 1, .bool true, .slice (some ⟨kN, 0, none⟩) 1 1, .bool false, iv 1, .string ⟨#[]⟩, .string ⟨#[]⟩, iv 7, iv 0, .slice none 0 0] 45 (0, 0)), (b5, mapO iv ([] : MK Int)), (b1, Obj.cells #[.string ⟨#[109]⟩, .slice none 0 0, .slice (some ⟨kD, 0, none⟩) 1 1] 39 (0, 0))] from S4.out.gr ((gr_drew _).trans g)); clear g; have x16 : (Instr.mapUpdate 195 (.map (some b5)) (iv 1) (.slice none 0 0)).run Tryz.prog W5 = .ok () (setM iv W5 b5 ([(1, .slice none 0 0)] : MK Int)) := update_k ktI (S5.out.mp (b := b5) (kv := iv) (l := ([] : MK Int)) (by simp)) LK.nil Tryz.underlying195 (k := 1) (by decide) (by rfl) (.slice none 0 0)))
  generalize hW : setM iv W5 b5 _ = W6
  have S6 := Lib.hid (show HS w W6 [(b7, Obj.cells #[iv 1, iv 1, .bool true, .slice (some ⟨kN, 0, none⟩) 1 1, .bool false, iv 1, .string ⟨#[]⟩, .string ⟨#[]⟩, iv 7, iv 0, .slice none 0 0] 45 (0, 0)), (b5, mapO iv ([(1, .slice none 0 0)] : MK Int)), (b1, Obj.cells #[.string ⟨#[109]⟩, .slice none 0 0, .slice (some ⟨kD, 0, none⟩) 1 1] 39 (0, 0))] from by rw [← hW]; exact HS.setm (pre := [(b7, Obj.cells #[iv 1, iv 1, .bool true, .slice (some ⟨kN, 0, none⟩) 1 1, .bool false, iv 1, .string ⟨#[]⟩, .string ⟨#[]⟩, iv 7, iv 0, .slice none 0 0] 45 (0, 0))]) (post := [(b1, Obj.cells #[.string ⟨#[109]⟩, .slice none 0 0, .slice (some ⟨kD, 0, none⟩) 1 1] 39 (0, 0))]) (l := ([] : MK Int)) S5.out ([(1, .slice none 0 0)] : MK Int))
  clear hW
  clear x5 x6 x7 x8 x9 x10 x11 x12 x13 x14 x15 x16
  go_wp2
  rw [rounds_succ]
  obtain ⟨b8, hb8⟩ : ∃ b, W6.heap.size = b := ⟨_, rfl⟩
  go_upto_region 11 with fail
  generalize hW : World.alloc W6 _ = W7
  have S7 := Lib.hid (show HS w W7 [(b8, mapO iv ([] : MK Int)), (b7, Obj.cells #[iv 1, iv 1, .bool true, .slice (some ⟨kN, 0, none⟩) 1 1, .bool false, iv 1, .string ⟨#[]⟩, .string ⟨#[]⟩, iv 7, iv 0, .slice none 0 0] 45 (0, 0)), (b5, mapO iv ([(1, .slice none 0 0)] : MK Int)), (b1, Obj.cells #[.string ⟨#[109]⟩, .slice none 0 0, .slice (some ⟨kD, 0, none⟩) 1 1] 39 (0, 0))] from by rw [← hW]; exact S6.out.alloc hb8 _)
  clear hW
  have Hb8 := Lib.hid hb8
  clear hb8
  have x17 : W7.cell? ⟨b1, 2, none⟩ = some (.slice (some ⟨kD, 0, none⟩) 1 1) := S7.out.cell (b := b1) (C := #[.string ⟨#[109]⟩, .slice none 0 0, .slice (some ⟨kD, 0, none⟩) 1 1]) (t := 39) (by simp) 2
  go_wp2
  refine wp_loop_rounds 2 ?_
  rw [rounds_succ]
  obtain ⟨d0, d1, d2, d3, d4, d5, d6, d7, d8, d9, d10⟩ := FD.out _ S7.out.g
  obtain ⟨b10, hb10⟩ : ∃ b, W7.heap.size = b := ⟨_, rfl⟩
  go_upto_region 14 with fail
  generalize hW : World.alloc W7 _ = W8
  have S8 := Lib.hid (show HS w W8 [(b10, Obj.cells #[iv 1, iv 1, .bool true, .slice (some ⟨kN, 0, none⟩) 1 1, .bool false, iv 1, .string ⟨#[]⟩, .string ⟨#[]⟩, iv 7, iv 0, .slice none 0 0] 45 (0, 0)), (b8, mapO iv ([] : MK Int)), (b7, Obj.cells #[iv 1, iv 1, .bool true, .slice (some ⟨kN, 0, none⟩) 1 1, .bool false, iv 1, .string ⟨#[]⟩, .string ⟨#[]⟩, iv 7, iv 0, .slice none 0 0] 45 (0, 0)), (b5, mapO iv ([(1, .slice none 0 0)] : MK Int)), (b1, Obj.cells #[.string ⟨#[109]⟩, .slice none 0 0, .slice (some ⟨kD, 0, none⟩) 1 1] 39 (0, 0))] from by rw [← hW]; exact S7.out.alloc hb10 _)
  clear hW
  have Hb10 := Lib.hid hb10
  clear hb10
  clear x17 d0 d1 d2 d3 d4 d5 d6 d7 d8 d9 d10
  have x18 : W8.cell? ⟨b10, 0, none⟩ = some (iv 1) := S8.out.cell (b := b10) (C := #[iv 1, iv 1, .bool true, .slice (some ⟨kN, 0, none⟩) 1 1, .bool false, iv 1, .string ⟨#[]⟩, .string ⟨#[]⟩, iv 7, iv 0, .slice none 0 0]) (t := 45) (by simp) 0
  have x19 : (Instr.mapUpdate 187 (.map (some b8)) (iv 1) (.bool true)).run Tryz.prog W8 = .ok () (setM iv W8 b8 ([(1, .bool true)] : MK Int)) := update_k ktI (S8.out.mp (b := b8) (kv := iv) (l := ([] : MK Int)) (by simp)) LK.nil Tryz.underlying187 (k := 1) (by decide) (by rfl) (.bool true)
  go_upto_region 15 with fail
  generalize hW : setM iv W8 b8 _ = W9
  have S9 := Lib.hid (show HS w W9 [(b10, Obj.cells #[iv 1, iv 1, .bool true, .slice (some ⟨kN, 0, none⟩) 1 1, .bool false, iv 1, .string ⟨#[]⟩, .string ⟨#[]⟩, iv 7, iv 0, .slice none 0 0] 45 (0, 0)), (b8, mapO iv ([(1, .bool true)] : MK Int)), (b7, Obj.cells #[iv 1, iv 1, .bool true, .slice (some ⟨kN, 0, none⟩) 1 1, .bool false, iv 1, .string ⟨#[]⟩, .string ⟨#[]⟩, iv 7, iv 0, .slice none 0 0] 45 (0, 0)), (b5, mapO iv ([(1, .slice none 0 0)] : MK Int)), (b1, Obj.cells #[.string ⟨#[109]⟩, .slice none 0 0, .slice (some ⟨kD, 0, none⟩) 1 1] 39 (0, 0))] from by rw [← hW]; exact HS.setm (pre := [(b10, Obj.cells #[iv 1, iv 1, .bool true, .slice (some ⟨kN, 0, none⟩) 1 1, .bool false, iv 1, .string ⟨#[]⟩, .string ⟨#[]⟩, iv 7, iv 0, .slice none 0 0] 45 (0, 0))]) (post := [(b7, Obj.cells #[iv 1, iv 1, .bool true, .slice (some ⟨kN, 0, none⟩) 1 1, .bool false, iv 1, .string ⟨#[]⟩, .string ⟨#[]⟩, iv 7, iv 0, .slice none 0 0] 45 (0, 0)), (b5, mapO iv ([(1, .slice none 0 0)] : MK Int)), (b1, Obj.cells #[.string ⟨#[109]⟩, .slice none 0 0, .slice (some ⟨kD, 0, none⟩) 1 1] 39 (0, 0))]) (l := ([] : MK Int)) S8.out ([(1, .bool true)] : MK Int))
  clear hW
  clear x18 x19
  have x20 : W9.cell? ⟨b1, 2, none⟩ = some (.slice (some ⟨kD, 0, none⟩) 1 1) := S9.out.cell (b := b1) (C := #[.string ⟨#[109]⟩, .slice none 0 0, .slice (some ⟨kD, 0, none⟩) 1 1]) (t := 39) (by simp) 2
  go_wp2
  rw [rounds_succ]
  go_wp2
  refine wp_loop_rounds 2 ?_
  rw [rounds_succ]
  obtain ⟨d0, d1, d2, d3, d4, d5, d6, d7, d8, d9, d10⟩ := FD.out _ S9.out.g
  obtain ⟨b12, hb12⟩ : ∃ b, W9.heap.size = b := ⟨_, rfl⟩
  go_upto_region 19 with fail
  generalize hW : World.alloc W9 _ = W10
  have S10 := Lib.hid (show HS w W10 [(b12, Obj.cells #[iv 1, iv 1, .bool true, .slice (some ⟨kN, 0, none⟩) 1 1, .bool false, iv 1, .string ⟨#[]⟩, .string ⟨#[]⟩, iv 7, iv 0, .slice none 0 0] 45 (0, 0)), (b10, Obj.cells #[iv 1, iv 1, .bool true, .slice (some ⟨kN, 0, none⟩) 1 1, .bool false, iv 1, .string ⟨#[]⟩, .string ⟨#[]⟩, iv 7, iv 0, .slice none 0 0] 45 (0, 0)), (b8, mapO iv ([(1, .bool true)] : MK Int)), (b7, Obj.cells #[iv 1, iv 1, .bool true, .slice (some ⟨kN, 0, none⟩) 1 1, .bool false, iv 1, .string ⟨#[]⟩, .string ⟨#[]⟩, iv 7, iv 0, .slice none 0 0] 45 (0, 0)), (b5, mapO iv ([(1, .slice none 0 0)] : MK Int)), (b1, Obj.cells #[.string ⟨#[109]⟩, .slice none 0 0, .slice (some ⟨kD, 0, none⟩) 1 1] 39 (0, 0))] from by rw [← hW]; exact S9.out.alloc hb12 _)
  clear hW
  have Hb12 := Lib.hid hb12
  clear hb12
  clear x20 d0 d1 d2 d3 d4 d5 d6 d7 d8 d9 d10
  have x21 : W10.cell? ⟨b12, 0, none⟩ = some (iv 1) := S10.out.cell (b := b12) (C := #[iv 1, iv 1, .bool true, .slice (some ⟨kN, 0, none⟩) 1 1, .bool false, iv 1, .string ⟨#[]⟩, .string ⟨#[]⟩, iv 7, iv 0, .slice none 0 0]) (t := 45) (by simp) 0
  have x22 : (Instr.lookup 195 (.map (some b5)) (iv 1) false).run Tryz.prog W10 = .ok (.slice none 0 0) W10 := (lookup_k ktI (S10.out.mp (b := b5) (kv := iv) (l := ([(1, .slice none 0 0)] : MK Int)) (by simp)) (LKone (v := .slice none 0 0)) Tryz.underlying195 (z := .slice none 0 0) (by kernel_rfl) (k := 1) (by decide)).1
  go_wp2
  refine wp_loop_rounds 1 ?_
  rw [rounds_succ]
  go_wp2
  rw [rounds_succ]
  clear x21 x22
  have x23 : W10.cell? ⟨b1, 0, none⟩ = some (.string ⟨#[109]⟩) := S10.out.cell (b := b1) (C := #[.string ⟨#[109]⟩, .slice none 0 0, .slice (some ⟨kD, 0, none⟩) 1 1]) (t := 39) (by simp) 0
  have x24 : W10.cell? ⟨b1, 1, none⟩ = some (.slice none 0 0) := S10.out.cell (b := b1) (C := #[.string ⟨#[109]⟩, .slice none 0 0, .slice (some ⟨kD, 0, none⟩) 1 1]) (t := 39) (by simp) 1
  have x25 : W10.cell? ⟨b1, 2, none⟩ = some (.slice (some ⟨kD, 0, none⟩) 1 1) := S10.out.cell (b := b1) (C := #[.string ⟨#[109]⟩, .slice none 0 0, .slice (some ⟨kD, 0, none⟩) 1 1]) (t := 39) (by simp) 2
  have MU := Lib.hid (S10.out.mp (show (b5, mapO iv ([(1, .slice none 0 0)] : MK Int)) ∈ [(b12, Obj.cells #[iv 1, iv 1, .bool true, .slice (some ⟨kN, 0, none⟩) 1 1, .bool false, iv 1, .string ⟨#[]⟩, .string ⟨#[]⟩, iv 7, iv 0, .slice none 0 0] 45 (0, 0)), (b10, Obj.cells #[iv 1, iv 1, .bool true, .slice (some ⟨kN, 0, none⟩) 1 1, .bool false, iv 1, .string ⟨#[]⟩, .string ⟨#[]⟩, iv 7, iv 0, .slice none 0 0] 45 (0, 0)), (b8, mapO iv ([(1, .bool true)] : MK Int)), (b7, Obj.cells #[iv 1, iv 1, .bool true, .slice (some ⟨kN, 0, none⟩) 1 1, .bool false, iv 1, .string ⟨#[]⟩, .string ⟨#[]⟩, iv 7, iv 0, .slice none 0 0] 45 (0, 0)), (b5, mapO iv ([(1, .slice none 0 0)] : MK Int)), (b1, Obj.cells #[.string ⟨#[109]⟩, .slice none 0 0, .slice (some ⟨kD, 0, none⟩) 1 1] 39 (0, 0))] from by simp))
  have CC := Lib.hid (components_a kN kD b5 W10 (gr_h S10.out.g HD.out) MU.out)
  have GX := Lib.hid S10.out.g
  go_wp2_with (first | (go_at_call 121; (with_reducible refine (CC.out).mono ?_); rintro e WA ⟨gG, cG, uG, gC, cC, uC, rfl, sA, h1, h2, h3, h4⟩; have SA := Lib.hid sA; have HC := Lib.hid (And.intro h2 h4); have CO := Lib.hid (ordered_a gG cG gC cC b5 uG uC W10 WA sA h1 h2 h3 h4 (fun V' g => MU.out.keep (g.block _ (MP.lt MU.out) (by simp)))); clear sA h1 h2 h3 h4) | (go_at_call 120; (with_reducible refine (CO.out).mono ?_); rintro e WB ⟨gL, cL, uL, rfl, sB, h1, h2⟩; have SB := Lib.hid sB; have HL := Lib.hid (And.intro h1 h2); clear sB h1 h2))
  go_ret2
  exact ⟨gL, cL, uL, gC, cC, uC, rfl, ⟨GX.out.trans SB.out.g, SB.out.n, fun p hp => Nat.le_trans GX.out.size (SB.out.b p hp), SB.out.f⟩, HL.out.1, HC.out.1, HL.out.2, HC.out.2⟩
end Go.Proofs.YtiaenhlflgobfaaGreatDoor
namespace Go.Proofs.YtiaenhlflgobfaaGreatDoor
open Go.RowKit Go.Maps
theorem HS.sl {w0 V : World} {L L' : List (Nat × Obj)} (h : HS w0 V L) (hs : L'.Sublist L) : HS w0 V L' := h.sub (fun _ hp => hs.subset hp) (h.n.sublist (hs.map _))
theorem HS.more {w V V' : World} {L L' : List (Nat × Obj)} (h : HS w V L) (h' : HS V V' L') : HS w V' (L' ++ L) := by
  refine ⟨h.g.trans h'.g, ?_, fun p hp => ?_, fun p hp => ?_⟩
  · rw [List.map_append, List.nodup_append]
    refine ⟨h'.n, h.n, fun x hx y hy => ?_⟩
    obtain ⟨p, hp, rfl⟩ := List.mem_map.1 hx
    obtain ⟨q, hq, rfl⟩ := List.mem_map.1 hy
    have := h'.b p hp
    have := h.lt q hq
    omega
  · rcases List.mem_append.1 hp with hp | hp
    · exact Nat.le_trans h.g.size (h'.b p hp)
    · exact h.b p hp
  · rcases List.mem_append.1 hp with hp | hp
    · exact h'.f p hp
    · exact gr_h h'.g (h.f p hp)
def pcs (p : Nat) : List Value := [.pointer (some ⟨p, 0, none⟩)]
theorem pcs_len (p : Nat) : (pcs p).length = 1 := rfl
theorem pcs1 (p : Nat) : ∀ u ∈ pcs p, u.oneCell' = true := by
  intro u hu
  rw [List.mem_singleton.1 hu]
  rfl
theorem elNd : EL 146 199 1 pcs := ⟨pcs_len, pcs1, Tryz.underlying146, ⟨.pointer none, 8, by kernel_rfl, rfl, by decide⟩, by decide⟩
set_option maxRecDepth 100000 in
set_option maxHeartbeats 4000000 in
attribute [local irreducible] Calls in
theorem newTyper_a (kD : Nat) (w : World) : Calls Tryz.prog 78 #[.agg #[.string ⟨#[109]⟩, .slice none 0 0, .slice (some ⟨kD, 0, none⟩) 1 1], .slice none 0 0] w fun e w' => ∃ t mS mF, e = .returned (.pointer (some ⟨t, 0, none⟩)) ∧ HS w w' [(t, .cells #[.string ⟨#[109]⟩, .slice none 0 0, .slice (some ⟨kD, 0, none⟩) 1 1, .slice none 0 0, .map (some mS), .map none, .slice none 0 0, .map (some mF), .bool false] 149 (0, 0)), (mF, mapO iv ([] : MK Int)), (mS, mapO iv ([] : MK Int))] := by
  have S0 := Lib.hid (HS.nil (w0 := w))
  have hmm := @run_makeMap Tryz.prog
  obtain ⟨b, hb⟩ : ∃ b, w.heap.size = b := ⟨_, rfl⟩
  go_enter Tryz.func78, Tryz.ntmps78
  obtain ⟨c0, c1, c2⟩ : (w.alloc (.cells #[.string ⟨#[109]⟩, .slice none 0 0, .slice (some ⟨kD, 0, none⟩) 1 1] 39)).cell? ⟨b, 0, none⟩ = some (.string ⟨#[109]⟩) ∧ (w.alloc (.cells #[.string ⟨#[109]⟩, .slice none 0 0, .slice (some ⟨kD, 0, none⟩) 1 1] 39)).cell? ⟨b, 1, none⟩ = some (.slice none 0 0) ∧ (w.alloc (.cells #[.string ⟨#[109]⟩, .slice none 0 0, .slice (some ⟨kD, 0, none⟩) 1 1] 39)).cell? ⟨b, 2, none⟩ = some (.slice (some ⟨kD, 0, none⟩) 1 1) := by
    have h : (w.alloc (.cells #[.string ⟨#[109]⟩, .slice none 0 0, .slice (some ⟨kD, 0, none⟩) 1 1] 39)).heap[b]? = some (.cells #[.string ⟨#[109]⟩, .slice none 0 0, .slice (some ⟨kD, 0, none⟩) 1 1] 39 (0, 0)) := al_at _ _ hb.symm
    refine ⟨?_, ?_, ?_⟩ <;> (rw [Lib.cell_of_heap h]; rfl)
  go_wp2
  have SZ : HS w ((((w.alloc (.cells #[.string ⟨#[109]⟩, .slice none 0 0, .slice (some ⟨kD, 0, none⟩) 1 1] 39)).alloc (.map #[] 0)).alloc (.map #[] 0)).alloc (.cells #[.string ⟨#[109]⟩, .slice none 0 0, .slice (some ⟨kD, 0, none⟩) 1 1, .slice none 0 0, .map (some (b + 1)), .map none, .slice none 0 0, .map (some (b + 1 + 1)), .bool false] 149)) [(b + 1 + 1 + 1, Obj.cells #[.string ⟨#[109]⟩, .slice none 0 0, .slice (some ⟨kD, 0, none⟩) 1 1, .slice none 0 0, .map (some (b + 1)), .map none, .slice none 0 0, .map (some (b + 1 + 1)), .bool false] 149 (0, 0)), (b + 1 + 1, mapO iv ([] : MK Int)), (b + 1, mapO iv ([] : MK Int)), (b, Obj.cells #[.string ⟨#[109]⟩, .slice none 0 0, .slice (some ⟨kD, 0, none⟩) 1 1] 39 (0, 0))] := by repeat' (first | exact HS.nil | refine HS.alloc ?_ (by simp [hb]) _)
  go_ret
  exact ⟨b + 1 + 1 + 1, b + 1, b + 1 + 1, rfl, SZ.sub (by simp) (by have := SZ.n; simp only [List.map_cons, List.map_nil, List.nodup_cons, List.mem_cons, List.not_mem_nil, or_false, not_or] at this ⊢; simp_all)⟩
set_option maxRecDepth 100000 in
set_option maxHeartbeats 4000000 in
attribute [local irreducible] Calls in
theorem kind_a (w0 V : World) (R : List (Nat × Obj)) (t : Value) (hS : HS w0 V R) : Calls Tryz.prog 175 #[t, aBv, .slice none 0 0] V fun e V' => ∃ p, e = .returned (.pointer (some ⟨p, 0, none⟩)) ∧ HS w0 V' ((p, .cells #[.pointer none, iv 1, .slice none 0 0, iv 0] 206 (0, 0)) :: R) := by
  unfold aBv
  have S0 := Lib.hid hS
  clear hS
  go_enter Tryz.func175, Tryz.ntmps175
  obtain ⟨b4, hb4⟩ : ∃ b, V.heap.size = b := ⟨_, rfl⟩
  go_upto_region 1 with fail
  generalize hW : World.alloc V _ = W1
  have S1 := Lib.hid (show HS w0 W1 ((b4, Obj.cells #[iv 1, .string ⟨#[]⟩, .string ⟨#[]⟩, iv 7, iv 0, .slice none 0 0] 43 (0, 0)) :: R) from by rw [← hW]; exact S0.out.alloc hb4 _)
  clear hW
  have Hb4 := Lib.hid hb4
  clear hb4
  have x1 : W1.cell? ⟨b4, 0, none⟩ = some (iv 1) := S1.out.cell (b := b4) (C := #[iv 1, .string ⟨#[]⟩, .string ⟨#[]⟩, iv 7, iv 0, .slice none 0 0]) (t := 43) (by simp) 0
  obtain ⟨p, hp⟩ : ∃ p, W1.heap.size = p := ⟨_, rfl⟩
  have CM := Lib.hid (made_any 1 W1)
  rw [hp] at CM
  have SP := Lib.hid (show HS w0 (W1.alloc (.cells #[.pointer none, iv 1, .slice none 0 0, iv 0] 206)) ((p, Obj.cells #[.pointer none, iv 1, .slice none 0 0, iv 0] 206 (0, 0)) :: (b4, Obj.cells #[iv 1, .string ⟨#[]⟩, .string ⟨#[]⟩, iv 7, iv 0, .slice none 0 0] 43 (0, 0)) :: R) from S1.out.alloc hp _)
  clear hp
  go_wp2_with (go_at_call 125; (with_reducible refine (CM.out).mono ?_); rintro e W2 ⟨rfl, rfl⟩)
  go_ret
  exact ⟨p, rfl, SP.out.sl (.cons_cons _ (.cons _ (List.Sublist.refl _)))⟩
set_option maxRecDepth 100000 in
set_option maxHeartbeats 4000000 in
attribute [local irreducible] Calls in
theorem expr_a (w0 V : World) (R : List (Nat × Obj)) (t kD mS mF : Nat) (vg : Value) (hS : HS w0 V ((t, .cells #[.string ⟨#[109]⟩, .slice none 0 0, .slice (some ⟨kD, 0, none⟩) 1 1, .slice none 0 0, .map (some mS), vg, .slice none 0 0, .map (some mF), .bool false] 149 (0, 0)) :: R)) : Calls Tryz.prog 124 #[.pointer (some ⟨t, 0, none⟩), aBv, .slice none 0 0] V fun e V' => ∃ p gN cN uN, e = .returned (.pointer (some ⟨p, 0, none⟩)) ∧ HS w0 V' ((gN, .cells uN 199 (0, 0)) :: (p, .cells #[.pointer none, iv 1, .slice none 0 0, iv 0] 206 (0, 0)) :: (t, .cells #[.string ⟨#[109]⟩, .slice none 0 0, .slice (some ⟨kD, 0, none⟩) 1 1, .slice none 0 0, .map (some mS), vg, .slice (some ⟨gN, 0, none⟩) 1 cN, .map (some mF), .bool false] 149 (0, 0)) :: R) ∧ uN[0]? = some (.pointer (some ⟨p, 0, none⟩)) ∧ (1 ≤ cN ∧ cN ≤ 9223372036854775807) := by
  unfold aBv
  have S0 := Lib.hid hS
  clear hS
  go_enter Tryz.func124, Tryz.ntmps124
  obtain ⟨b4, hb4⟩ : ∃ b, V.heap.size = b := ⟨_, rfl⟩
  go_upto_region 1 with fail
  generalize hW : World.alloc V _ = W1
  have S1 := Lib.hid (show HS w0 W1 ((b4, Obj.cells #[iv 1, .string ⟨#[]⟩, .string ⟨#[]⟩, iv 7, iv 0, .slice none 0 0] 43 (0, 0)) :: (t, Obj.cells #[.string ⟨#[109]⟩, .slice none 0 0, .slice (some ⟨kD, 0, none⟩) 1 1, .slice none 0 0, .map (some mS), vg, .slice none 0 0, .map (some mF), .bool false] 149 (0, 0)) :: R) from by rw [← hW]; exact S0.out.alloc hb4 _)
  clear hW
  have Hb4 := Lib.hid hb4
  clear hb4
  have x1 : W1.cell? ⟨b4, 0, none⟩ = some (iv 1) := S1.out.cell (b := b4) (C := #[iv 1, .string ⟨#[]⟩, .string ⟨#[]⟩, iv 7, iv 0, .slice none 0 0]) (t := 43) (by simp) 0
  have x2 : W1.cell? ⟨b4, 1, none⟩ = some (.string ⟨#[]⟩) := S1.out.cell (b := b4) (C := #[iv 1, .string ⟨#[]⟩, .string ⟨#[]⟩, iv 7, iv 0, .slice none 0 0]) (t := 43) (by simp) 1
  have x3 : W1.cell? ⟨b4, 2, none⟩ = some (.string ⟨#[]⟩) := S1.out.cell (b := b4) (C := #[iv 1, .string ⟨#[]⟩, .string ⟨#[]⟩, iv 7, iv 0, .slice none 0 0]) (t := 43) (by simp) 2
  have x4 : W1.cell? ⟨b4, 3, none⟩ = some (iv 7) := S1.out.cell (b := b4) (C := #[iv 1, .string ⟨#[]⟩, .string ⟨#[]⟩, iv 7, iv 0, .slice none 0 0]) (t := 43) (by simp) 3
  have x5 : W1.cell? ⟨b4, 4, none⟩ = some (iv 0) := S1.out.cell (b := b4) (C := #[iv 1, .string ⟨#[]⟩, .string ⟨#[]⟩, iv 7, iv 0, .slice none 0 0]) (t := 43) (by simp) 4
  have x6 : W1.cell? ⟨b4, 5, none⟩ = some (.slice none 0 0) := S1.out.cell (b := b4) (C := #[iv 1, .string ⟨#[]⟩, .string ⟨#[]⟩, iv 7, iv 0, .slice none 0 0]) (t := 43) (by simp) 5
  have CK := Lib.hid (kind_a w0 W1 _ (.pointer (some ⟨t, 0, none⟩)) S1.out)
  unfold aBv at CK
  go_upto_region 2 with (go_at_call 175; (with_reducible refine (CK.out).mono ?_); rintro e W2 ⟨p, rfl, h⟩; have S2 := Lib.hid (show HS w0 W2 ((p, Obj.cells #[.pointer none, iv 1, .slice none 0 0, iv 0] 206 (0, 0)) :: (b4, Obj.cells #[iv 1, .string ⟨#[]⟩, .string ⟨#[]⟩, iv 7, iv 0, .slice none 0 0] 43 (0, 0)) :: (t, Obj.cells #[.string ⟨#[109]⟩, .slice none 0 0, .slice (some ⟨kD, 0, none⟩) 1 1, .slice none 0 0, .map (some mS), vg, .slice none 0 0, .map (some mF), .bool false] 149 (0, 0)) :: R) from h); clear h x1 x2 x3 x4 x5 x6)
  have x7 : W2.cell? ⟨t, 6, none⟩ = some (.slice none 0 0) := S2.out.cell (b := t) (C := #[.string ⟨#[109]⟩, .slice none 0 0, .slice (some ⟨kD, 0, none⟩) 1 1, .slice none 0 0, .map (some mS), vg, .slice none 0 0, .map (some mF), .bool false]) (t := 149) (by simp) 6
  go_upto_region 3 with (at_builtin; refine wpList_app elNd rfl (.tmp 16) (.tmp 18) rfl W2.heap.size (v := .slice none 0 0) rfl OR.nil (A := some ⟨_, 0, none⟩) (M := ([p] : List Nat)) (m := 1) (c := 1) rfl rfl (rd_cells (t := 199) pcs_len (al_new _ _)) (by simp) (by simp) ?_; intro vq W3 oq gq bq; obtain ⟨gN, cN, uN, rfl, hb, hf, hcN, hcNm, huN, hzuN⟩ := row1 oq rfl; have S3 := Lib.hid (show HS w0 W3 ((gN, Obj.cells uN 199 (0, 0)) :: (p, Obj.cells #[.pointer none, iv 1, .slice none 0 0, iv 0] 206 (0, 0)) :: (b4, Obj.cells #[iv 1, .string ⟨#[]⟩, .string ⟨#[]⟩, iv 7, iv 0, .slice none 0 0] 43 (0, 0)) :: (t, Obj.cells #[.string ⟨#[109]⟩, .slice none 0 0, .slice (some ⟨kD, 0, none⟩) 1 1, .slice none 0 0, .map (some mS), vg, .slice none 0 0, .map (some mF), .bool false] 149 (0, 0)) :: R) from S2.out.row ((gr_al _ _).trans gq) hb hf); have HuN := Lib.hid huN; have HZuN := Lib.hid hzuN; have HcN := Lib.hid (And.intro hcN hcNm); clear oq gq bq hb hf huN hcN hcNm hzuN; clear x7; have x8 : W3.cell? ⟨t, 6, none⟩ = some (.slice none 0 0) := S3.out.cell (b := t) (C := #[.string ⟨#[109]⟩, .slice none 0 0, .slice (some ⟨kD, 0, none⟩) 1 1, .slice none 0 0, .map (some mS), vg, .slice none 0 0, .map (some mF), .bool false]) (t := 149) (by simp) 6; have x9 : ∀ j, W3.frozen? ⟨t, j, none⟩ = false := S3.out.frz (b := t) (C := #[.string ⟨#[109]⟩, .slice none 0 0, .slice (some ⟨kD, 0, none⟩) 1 1, .slice none 0 0, .map (some mS), vg, .slice none 0 0, .map (some mF), .bool false]) (t := 149) (by simp))
  generalize hW : World.setCell W3 _ _ = W4
  have S4 := Lib.hid (show HS w0 W4 ((gN, Obj.cells uN 199 (0, 0)) :: (p, Obj.cells #[.pointer none, iv 1, .slice none 0 0, iv 0] 206 (0, 0)) :: (b4, Obj.cells #[iv 1, .string ⟨#[]⟩, .string ⟨#[]⟩, iv 7, iv 0, .slice none 0 0] 43 (0, 0)) :: (t, Obj.cells #[.string ⟨#[109]⟩, .slice none 0 0, .slice (some ⟨kD, 0, none⟩) 1 1, .slice none 0 0, .map (some mS), vg, .slice (some ⟨gN, 0, none⟩) 1 cN, .map (some mF), .bool false] 149 (0, 0)) :: R) from by rw [← hW]; exact HS.setc (pre := [(gN, Obj.cells uN 199 (0, 0)), (p, Obj.cells #[.pointer none, iv 1, .slice none 0 0, iv 0] 206 (0, 0)), (b4, Obj.cells #[iv 1, .string ⟨#[]⟩, .string ⟨#[]⟩, iv 7, iv 0, .slice none 0 0] 43 (0, 0))]) (post := (R)) S3.out 6 _)
  clear hW
  clear x8 x9
  go_wp2
  go_ret
  exact ⟨p, gN, cN, uN, rfl, S4.out.sl (.cons_cons _ (.cons_cons _ (.cons _ (.cons_cons _ (List.Sublist.refl _))))), HuN.out 0 _ rfl, HcN.out⟩
set_option maxRecDepth 100000 in
set_option maxHeartbeats 4000000 in
attribute [local irreducible] Calls in
theorem unify_a (w0 V : World) (R : List (Nat × Obj)) (gN p b9 a : Nat) (oN o9 : Obj) (hS : HS w0 V ((gN, oN) :: (p, Obj.cells #[.pointer none, iv 1, .slice none 0 0, iv 0] 206 (0, 0)) :: (b9, o9) :: (a, Obj.cells #[.pointer none, iv 5, .slice none 0 0, iv 0] 206 (0, 0)) :: R)) : Calls Tryz.prog 174 #[.pointer (some ⟨a, 0, none⟩), .pointer (some ⟨p, 0, none⟩)] V fun e V' => e = .returned (.bool true) ∧ HS w0 V' ((gN, oN) :: (p, Obj.cells #[.pointer none, iv 1, .slice none 0 0, iv 0] 206 (0, 0)) :: (b9, o9) :: (a, Obj.cells #[.pointer (some ⟨p, 0, none⟩), iv 5, .slice none 0 0, iv 0] 206 (0, 0)) :: R) := by
  have S0 := Lib.hid hS
  have hne : a ≠ p := by
    have := hS.n
    simp only [List.map_cons, List.nodup_cons, List.mem_cons, not_or] at this
    exact fun h => this.2.1.2.1 h.symm
  obtain ⟨j, hj, -, hsz, -⟩ := info_parts (show (Tryz.prog.info? 206).map (fun i => (i.zero, i.size, i.bytes)) = some (some (.agg #[.pointer none, .int .i64 0, .slice none 0 0, .int .i64 0]), 4, 48) by kernel_rfl)
  have heq : (binOp .eql 199 (.pointer (some ⟨a, 0, none⟩)) (.pointer (some ⟨p, 0, none⟩))).run Tryz.prog V = .ok (.bool false) V := run_eql_ptr_other V Tryz.underlying199 hj (by rw [hsz]; decide) (fun h => hne (congrArg Addr.block h)) (hS.f (a, Obj.cells #[.pointer none, iv 5, .slice none 0 0, iv 0] 206 (0, 0)) (by simp)) (hS.f (p, Obj.cells #[.pointer none, iv 1, .slice none 0 0, iv 0] 206 (0, 0)) (by simp))
  clear hj hsz
  clear hS
  have x1 : V.cell? ⟨a, 0, none⟩ = some (.pointer none) := S0.out.cell (b := a) (C := #[.pointer none, iv 5, .slice none 0 0, iv 0]) (t := 206) (by simp) 0
  have x2 : V.cell? ⟨p, 0, none⟩ = some (.pointer none) := S0.out.cell (b := p) (C := #[.pointer none, iv 1, .slice none 0 0, iv 0]) (t := 206) (by simp) 0
  have x3 : V.cell? ⟨a, 1, none⟩ = some (iv 5) := S0.out.cell (b := a) (C := #[.pointer none, iv 5, .slice none 0 0, iv 0]) (t := 206) (by simp) 1
  have x4 : ∀ j, V.frozen? ⟨a, j, none⟩ = false := S0.out.frz (b := a) (C := #[.pointer none, iv 5, .slice none 0 0, iv 0]) (t := 206) (by simp)
  have C1 := Lib.hid (find_self a V x1)
  have C2 := Lib.hid (find_self p V x2)
  go_enter Tryz.func174, Tryz.ntmps174
  go_wp2_with (first | (go_at_call 127; (with_reducible refine (C1.out).mono ?_); rintro e Wq ⟨rfl, hq⟩; obtain rfl := hq.symm) | (go_at_call 127; (with_reducible refine (C2.out).mono ?_); rintro e Wq ⟨rfl, hq⟩; obtain rfl := hq.symm))
  generalize hW : World.setCell V _ _ = WZ
  have SZ := Lib.hid (show HS w0 WZ ((gN, oN) :: (p, Obj.cells #[.pointer none, iv 1, .slice none 0 0, iv 0] 206 (0, 0)) :: (b9, o9) :: (a, Obj.cells #[.pointer (some ⟨p, 0, none⟩), iv 5, .slice none 0 0, iv 0] 206 (0, 0)) :: R) from by rw [← hW]; exact HS.setc (pre := [(gN, oN), (p, Obj.cells #[.pointer none, iv 1, .slice none 0 0, iv 0] 206 (0, 0)), (b9, o9)]) (post := (R)) S0.out 0 _)
  clear hW
  go_ret
  exact ⟨rfl, SZ.out⟩
set_option maxRecDepth 100000 in
set_option maxHeartbeats 4000000 in
attribute [local irreducible] Calls in
theorem same_a (w0 V : World) (R : List (Nat × Obj)) (gN p b9 a mg t kD mS mF : Nat) (vg vn : Value) (oN o9 oM : Obj) (hS : HS w0 V ((gN, oN) :: (p, Obj.cells #[.pointer none, iv 1, .slice none 0 0, iv 0] 206 (0, 0)) :: (b9, o9) :: (a, Obj.cells #[.pointer none, iv 5, .slice none 0 0, iv 0] 206 (0, 0)) :: (mg, oM) :: (t, Obj.cells #[.string ⟨#[109]⟩, .slice none 0 0, .slice (some ⟨kD, 0, none⟩) 1 1, .slice none 0 0, .map (some mS), vg, vn, .map (some mF), .bool false] 149 (0, 0)) :: R)) : Calls Tryz.prog 123 #[.pointer (some ⟨t, 0, none⟩), .pointer (some ⟨a, 0, none⟩), .pointer (some ⟨p, 0, none⟩)] V fun e V' => (∃ r, e = .returned r) ∧ HS w0 V' ((gN, oN) :: (p, Obj.cells #[.pointer none, iv 1, .slice none 0 0, iv 0] 206 (0, 0)) :: (b9, o9) :: (a, Obj.cells #[.pointer (some ⟨p, 0, none⟩), iv 5, .slice none 0 0, iv 0] 206 (0, 0)) :: (mg, oM) :: (t, Obj.cells #[.string ⟨#[109]⟩, .slice none 0 0, .slice (some ⟨kD, 0, none⟩) 1 1, .slice none 0 0, .map (some mS), vg, vn, .map (some mF), .bool false] 149 (0, 0)) :: R) := by
  have S0 := Lib.hid hS
  clear hS
  have x1 : V.cell? ⟨t, 8, none⟩ = some (.bool false) := S0.out.cell (b := t) (C := #[.string ⟨#[109]⟩, .slice none 0 0, .slice (some ⟨kD, 0, none⟩) 1 1, .slice none 0 0, .map (some mS), vg, vn, .map (some mF), .bool false]) (t := 149) (by simp) 8
  have CU := Lib.hid (unify_a w0 V _ gN p b9 a oN o9 S0.out)
  go_enter Tryz.func123, Tryz.ntmps123
  go_wp2_with (go_at_call 174; (with_reducible refine (CU.out).mono ?_); rintro e WA ⟨rfl, h⟩; have SA := Lib.hid h; clear h; (try dsimp only))
  first | go_end0 | refine bodyPost_ret (results_none rfl _ _ _) rfl ?_
  exact ⟨⟨_, rfl⟩, SA.out⟩
set_option maxRecDepth 100000 in
set_option maxHeartbeats 4000000 in
attribute [local irreducible] Calls in
theorem measure_a (w0 V : World) (R : List (Nat × Obj)) (gN p : Nat) (oN : Obj) (hS : HS w0 V ((gN, oN) :: (p, Obj.cells #[.pointer none, iv 1, .slice none 0 0, iv 0] 206 (0, 0)) :: R)) : Calls Tryz.prog 126 #[.pointer (some ⟨p, 0, none⟩)] V fun e V' => e = .returned (.bool true) ∧ HS w0 V' ((gN, oN) :: (p, Obj.cells #[.pointer none, iv 1, .slice none 0 0, iv 1] 206 (0, 0)) :: R) := by
  have S0 := Lib.hid hS
  clear hS
  have x1 : V.cell? ⟨p, 0, none⟩ = some (.pointer none) := S0.out.cell (b := p) (C := #[.pointer none, iv 1, .slice none 0 0, iv 0]) (t := 206) (by simp) 0
  have x2 : V.cell? ⟨p, 3, none⟩ = some (iv 0) := S0.out.cell (b := p) (C := #[.pointer none, iv 1, .slice none 0 0, iv 0]) (t := 206) (by simp) 3
  have C1 := Lib.hid (find_self p V x1)
  have x3 : ∀ j, V.frozen? ⟨p, j, none⟩ = false := S0.out.frz (b := p) (C := #[.pointer none, iv 1, .slice none 0 0, iv 0]) (t := 206) (by simp)
  go_enter Tryz.func126, Tryz.ntmps126
  go_upto_region 5 with (go_at_call 127; (with_reducible refine (C1.out).mono ?_); rintro e Wq ⟨rfl, hq⟩; obtain rfl := hq.symm)
  generalize hW : World.setCell V _ _ = W1
  have S1 := Lib.hid (show HS w0 W1 ((gN, oN) :: (p, Obj.cells #[.pointer none, iv 1, .slice none 0 0, iv (-1)] 206 (0, 0)) :: R) from by rw [← hW]; exact HS.setc (pre := [(gN, oN)]) (post := (R)) S0.out 3 _)
  clear hW
  clear x1 x2 x3
  have x4 : W1.cell? ⟨p, 2, none⟩ = some (.slice none 0 0) := S1.out.cell (b := p) (C := #[.pointer none, iv 1, .slice none 0 0, iv (-1)]) (t := 206) (by simp) 2
  have x5 : W1.cell? ⟨p, 3, none⟩ = some (iv (-1)) := S1.out.cell (b := p) (C := #[.pointer none, iv 1, .slice none 0 0, iv (-1)]) (t := 206) (by simp) 3
  have x6 : ∀ j, W1.frozen? ⟨p, j, none⟩ = false := S1.out.frz (b := p) (C := #[.pointer none, iv 1, .slice none 0 0, iv (-1)]) (t := 206) (by simp)
  go_wp2
  refine wp_loop_rounds 1 ?_
  rw [rounds_succ]
  go_wp2
  generalize hW : World.setCell W1 _ _ = WZ
  have SZ := Lib.hid (show HS w0 WZ ((gN, oN) :: (p, Obj.cells #[.pointer none, iv 1, .slice none 0 0, iv 1] 206 (0, 0)) :: R) from by rw [← hW]; exact HS.setc (pre := [(gN, oN)]) (post := (R)) S1.out 3 _)
  clear hW
  go_ret
  exact ⟨rfl, SZ.out⟩
set_option maxRecDepth 100000 in
set_option maxHeartbeats 4000000 in
attribute [local irreducible] Calls in
theorem build_a (V : World) (a p : Nat) (mn : Value) (h0 : V.cell? ⟨a, 0, none⟩ = some (.pointer (some ⟨p, 0, none⟩))) (h1 : V.cell? ⟨p, 0, none⟩ = some (.pointer none)) (h2 : V.cell? ⟨p, 1, none⟩ = some (iv 1)) (h3 : V.cell? ⟨p, 2, none⟩ = some (.slice none 0 0)) : Calls Tryz.prog 128 #[.pointer (some ⟨a, 0, none⟩), mn] V fun e V' => e = .returned (.agg #[iv 1, iv 0, .slice none 0 0]) ∧ Gr V V' := by
  have S0 := Lib.hid (HS.nil (w0 := V))
  have C1 := Lib.hid (fun V' (g : Gr V V') => find_up a p V' (gr_c g h0) (gr_c g h1))
  have P1 := Lib.hid (fun V' (g : Gr V V') => gr_c g h2)
  have P2 := Lib.hid (fun V' (g : Gr V V') => gr_c g h3)
  clear h0 h1 h2 h3
  go_enter Tryz.func128, Tryz.ntmps128
  obtain ⟨b4, hb4⟩ : ∃ b, V.heap.size = b := ⟨_, rfl⟩
  go_upto_region 1 with fail
  generalize hW : World.alloc V _ = W1
  have S1 := Lib.hid (show HS V W1 [(b4, Obj.cells #[iv 0, iv 0, .slice none 0 0] 64 (0, 0))] from by rw [← hW]; exact S0.out.alloc hb4 _)
  clear hW
  have Hb4 := Lib.hid hb4
  clear hb4
  have p1 := P1.out _ S1.out.g
  have p2 := P2.out _ S1.out.g
  go_upto_region 7 with (go_at_call 127; (with_reducible refine (C1.out _ S1.out.g).mono ?_); rintro e Wq ⟨rfl, hq⟩; obtain rfl := hq.symm)
  obtain ⟨b7, hb7⟩ : ∃ b, W1.heap.size = b := ⟨_, rfl⟩
  go_upto_region 8 with fail
  generalize hW : World.alloc W1 _ = W2
  have S2 := Lib.hid (show HS V W2 [(b7, Obj.cells #[iv 1, iv 0, .slice none 0 0] 64 (0, 0)), (b4, Obj.cells #[iv 0, iv 0, .slice none 0 0] 64 (0, 0))] from by rw [← hW]; exact S1.out.alloc hb7 _)
  clear hW
  have Hb7 := Lib.hid hb7
  clear hb7
  clear p1 p2
  have p2 := P2.out _ S2.out.g
  have x1 : W2.cell? ⟨b7, 0, none⟩ = some (iv 1) := S2.out.cell (b := b7) (C := #[iv 1, iv 0, .slice none 0 0]) (t := 64) (by simp) 0
  have x2 : W2.cell? ⟨b7, 1, none⟩ = some (iv 0) := S2.out.cell (b := b7) (C := #[iv 1, iv 0, .slice none 0 0]) (t := 64) (by simp) 1
  have x3 : W2.cell? ⟨b7, 2, none⟩ = some (.slice none 0 0) := S2.out.cell (b := b7) (C := #[iv 1, iv 0, .slice none 0 0]) (t := 64) (by simp) 2
  have x4 : W2.cell? ⟨b4, 0, none⟩ = some (iv 0) := S2.out.cell (b := b4) (C := #[iv 0, iv 0, .slice none 0 0]) (t := 64) (by simp) 0
  have x5 : W2.cell? ⟨b4, 1, none⟩ = some (iv 0) := S2.out.cell (b := b4) (C := #[iv 0, iv 0, .slice none 0 0]) (t := 64) (by simp) 1
  have x6 : W2.cell? ⟨b4, 2, none⟩ = some (.slice none 0 0) := S2.out.cell (b := b4) (C := #[iv 0, iv 0, .slice none 0 0]) (t := 64) (by simp) 2
  have x7 : ∀ j, W2.frozen? ⟨b4, j, none⟩ = false := S2.out.frz (b := b4) (C := #[iv 0, iv 0, .slice none 0 0]) (t := 64) (by simp)
  go_wp2
  refine wp_loop_rounds 1 ?_
  rw [rounds_succ]
  go_wp2
  have SZ := Lib.hid (show HS V (((W2.setCell ⟨b4, 0, none⟩ (.int .i64 1)).setCell ⟨b4, 1, none⟩ (.int .i64 0)).setCell ⟨b4, 2, none⟩ (.slice none 0 0)) [(b7, Obj.cells #[iv 1, iv 0, .slice none 0 0] 64 (0, 0)), (b4, Obj.cells #[iv 1, iv 0, .slice none 0 0] 64 (0, 0))] from (HS.setc (pre := [(b7, Obj.cells #[iv 1, iv 0, .slice none 0 0] 64 (0, 0))]) (post := []) (HS.setc (pre := [(b7, Obj.cells #[iv 1, iv 0, .slice none 0 0] 64 (0, 0))]) (post := []) (HS.setc (pre := [(b7, Obj.cells #[iv 1, iv 0, .slice none 0 0] 64 (0, 0))]) (post := []) S2.out 0 (.int .i64 1)) 1 (.int .i64 0)) 2 (.slice none 0 0)))
  exact bodyPost_ret (results_cell_row (P := Tryz.prog) rfl _ _ b4 _ _ _ _ rfl (SZ.out.f (b4, Obj.cells #[iv 1, iv 0, .slice none 0 0] 64 (0, 0)) (by simp)) rfl rfl rfl) rfl ⟨rfl, SZ.out.g⟩
end Go.Proofs.YtiaenhlflgobfaaGreatDoor
namespace Go.Proofs.YtiaenhlflgobfaaGreatDoor
open Go.RowKit Go.Maps
theorem HS.pm {w0 V : World} {L L' : List (Nat × Obj)} (h : HS w0 V L) (hp : List.Perm L' L) : HS w0 V L' := h.sub (fun _ hx => hp.subset hx) ((hp.map _).nodup_iff.2 h.n)
set_option maxRecDepth 100000 in
set_option maxHeartbeats 4000000 in
attribute [local irreducible] Calls in
theorem findG_a (w0 V : World) (R : List (Nat × Obj)) (kN kD t mS mF gC cC : Nat) (uC : Array Value) (hD : w0.heap[kD]? = some (.cells #[iv 1, iv 1, .bool true, .slice (some ⟨kN, 0, none⟩) 1 1, .bool false, iv 1, .string ⟨#[]⟩, .string ⟨#[]⟩, iv 7, iv 0, .slice none 0 0] 45 (0, 0))) (hS : HS w0 V ((t, .cells #[.string ⟨#[109]⟩, .slice none 0 0, .slice (some ⟨kD, 0, none⟩) 1 1, .slice none 0 0, .map (some mS), .map none, .slice none 0 0, .map (some mF), .bool false] 149 (0, 0)) :: (gC, .cells uC 3 (0, 0)) :: R)) (hC : uC[0]? = some (iv 1)) (hcC : 1 ≤ cC ∧ cC ≤ 9223372036854775807) :
    Calls Tryz.prog 79 #[.pointer (some ⟨t, 0, none⟩), .slice (some ⟨gC, 0, none⟩) 1 cC] V fun e V' => ∃ mf vg vn, e = .returned (.tuple #[.map (some mf), iv 0]) ∧ HS w0 V' ((mf, mapO iv ([(1, .agg #[iv 0, iv 1, iv 0, .slice none 0 0])] : MK Int)) :: (t, .cells #[.string ⟨#[109]⟩, .slice none 0 0, .slice (some ⟨kD, 0, none⟩) 1 1, .slice none 0 0, .map (some mS), vg, vn, .map (some mF), .bool false] 149 (0, 0)) :: (gC, .cells uC 3 (0, 0)) :: R) := by
  have FD := Lib.hid (fun V (g : Gr w0 V) => boxD (gr_h g hD))
  have HC := Lib.hid hC
  have HcC := Lib.hid hcC
  clear hD hC hcC
  have S0 := Lib.hid hS
  clear hS
  have hmm := @run_makeMap Tryz.prog
  go_enter Tryz.func79, Tryz.ntmps79
  obtain ⟨mg, hmg⟩ : ∃ b, V.heap.size = b := ⟨_, rfl⟩
  have SA := Lib.hid (show HS w0 (V.alloc (.map #[] 0)) ((mg, mapO iv ([] : MK Int)) :: (t, Obj.cells #[.string ⟨#[109]⟩, .slice none 0 0, .slice (some ⟨kD, 0, none⟩) 1 1, .slice none 0 0, .map (some mS), .map none, .slice none 0 0, .map (some mF), .bool false] 149 (0, 0)) :: (gC, Obj.cells uC 3 (0, 0)) :: R) from S0.out.alloc hmg _)
  have y1 : (V.alloc (.map #[] 0)).cell? ⟨t, 5, none⟩ = some (.map none) := SA.out.cell (show (t, Obj.cells #[.string ⟨#[109]⟩, .slice none 0 0, .slice (some ⟨kD, 0, none⟩) 1 1, .slice none 0 0, .map (some mS), .map none, .slice none 0 0, .map (some mF), .bool false] 149 (0, 0)) ∈ ((mg, mapO iv ([] : MK Int)) :: (t, Obj.cells #[.string ⟨#[109]⟩, .slice none 0 0, .slice (some ⟨kD, 0, none⟩) 1 1, .slice none 0 0, .map (some mS), .map none, .slice none 0 0, .map (some mF), .bool false] 149 (0, 0)) :: (gC, Obj.cells uC 3 (0, 0)) :: R) from by simp) 5
  have y2 : ∀ j, (V.alloc (.map #[] 0)).frozen? ⟨t, j, none⟩ = false := SA.out.frz (show (t, Obj.cells #[.string ⟨#[109]⟩, .slice none 0 0, .slice (some ⟨kD, 0, none⟩) 1 1, .slice none 0 0, .map (some mS), .map none, .slice none 0 0, .map (some mF), .bool false] 149 (0, 0)) ∈ ((mg, mapO iv ([] : MK Int)) :: (t, Obj.cells #[.string ⟨#[109]⟩, .slice none 0 0, .slice (some ⟨kD, 0, none⟩) 1 1, .slice none 0 0, .map (some mS), .map none, .slice none 0 0, .map (some mF), .bool false] 149 (0, 0)) :: (gC, Obj.cells uC 3 (0, 0)) :: R) from by simp)
  go_upto_region 2 with fail
  generalize hV : World.alloc V _ = VA
  rw [hV] at SA
  clear hV y1 y2
  have Hmg := Lib.hid hmg
  clear hmg
  have S1 := SA
  generalize hW : World.setCell VA _ _ = W2
  have S2 := Lib.hid (show HS w0 W2 ((mg, mapO iv ([] : MK Int)) :: (t, Obj.cells #[.string ⟨#[109]⟩, .slice none 0 0, .slice (some ⟨kD, 0, none⟩) 1 1, .slice none 0 0, .map (some mS), .map (some mg), .slice none 0 0, .map (some mF), .bool false] 149 (0, 0)) :: (gC, Obj.cells uC 3 (0, 0)) :: R) from by rw [← hW]; exact HS.setc (pre := [(mg, mapO iv ([] : MK Int))]) (post := ((gC, Obj.cells uC 3 (0, 0)) :: R)) S1.out 5 _)
  clear hW
  have x1 : W2.cell? ⟨t, 6, none⟩ = some (.slice none 0 0) := S2.out.cell (b := t) (C := #[.string ⟨#[109]⟩, .slice none 0 0, .slice (some ⟨kD, 0, none⟩) 1 1, .slice none 0 0, .map (some mS), .map (some mg), .slice none 0 0, .map (some mF), .bool false]) (t := 149) (by simp) 6
  have x2 : ∀ j, W2.frozen? ⟨t, j, none⟩ = false := S2.out.frz (b := t) (C := #[.string ⟨#[109]⟩, .slice none 0 0, .slice (some ⟨kD, 0, none⟩) 1 1, .slice none 0 0, .map (some mS), .map (some mg), .slice none 0 0, .map (some mF), .bool false]) (t := 149) (by simp)
  go_upto_region 3 with fail
  generalize hW : World.setCell W2 _ _ = W3
  have S3 := Lib.hid (show HS w0 W3 ((mg, mapO iv ([] : MK Int)) :: (t, Obj.cells #[.string ⟨#[109]⟩, .slice none 0 0, .slice (some ⟨kD, 0, none⟩) 1 1, .slice none 0 0, .map (some mS), .map (some mg), .slice none 0 0, .map (some mF), .bool false] 149 (0, 0)) :: (gC, Obj.cells uC 3 (0, 0)) :: R) from by rw [← hW]; exact HS.setc (pre := [(mg, mapO iv ([] : MK Int))]) (post := ((gC, Obj.cells uC 3 (0, 0)) :: R)) S2.out 6 _)
  clear hW
  clear x1 x2
  have x3 : W3.cell? ⟨t, 8, none⟩ = some (.bool false) := S3.out.cell (b := t) (C := #[.string ⟨#[109]⟩, .slice none 0 0, .slice (some ⟨kD, 0, none⟩) 1 1, .slice none 0 0, .map (some mS), .map (some mg), .slice none 0 0, .map (some mF), .bool false]) (t := 149) (by simp) 8
  have x4 : ∀ j, W3.frozen? ⟨t, j, none⟩ = false := S3.out.frz (b := t) (C := #[.string ⟨#[109]⟩, .slice none 0 0, .slice (some ⟨kD, 0, none⟩) 1 1, .slice none 0 0, .map (some mS), .map (some mg), .slice none 0 0, .map (some mF), .bool false]) (t := 149) (by simp)
  go_upto_region 4 with fail
  generalize hW : World.setCell W3 _ _ = W4
  have S4 := Lib.hid (show HS w0 W4 ((mg, mapO iv ([] : MK Int)) :: (t, Obj.cells #[.string ⟨#[109]⟩, .slice none 0 0, .slice (some ⟨kD, 0, none⟩) 1 1, .slice none 0 0, .map (some mS), .map (some mg), .slice none 0 0, .map (some mF), .bool false] 149 (0, 0)) :: (gC, Obj.cells uC 3 (0, 0)) :: R) from by rw [← hW]; exact HS.setc (pre := [(mg, mapO iv ([] : MK Int))]) (post := ((gC, Obj.cells uC 3 (0, 0)) :: R)) S3.out 8 _)
  clear hW
  clear x3 x4
  have k1 : 1 ≤ cC := HcC.out.1
  have k2 : cC ≤ 9223372036854775807 := HcC.out.2
  go_wp2
  refine wp_loop_rounds 2 ?_
  rw [rounds_succ]
  have y0 : W4.cell? ⟨gC, 0, none⟩ = some (iv 1) := (S4.out.cell (b := gC) (C := uC) (t := 3) (by simp) 0).trans HC.out
  go_upto_region 7 with fail
  have x5 : W4.cell? ⟨t, 5, none⟩ = some (.map (some mg)) := S4.out.cell (b := t) (C := #[.string ⟨#[109]⟩, .slice none 0 0, .slice (some ⟨kD, 0, none⟩) 1 1, .slice none 0 0, .map (some mS), .map (some mg), .slice none 0 0, .map (some mF), .bool false]) (t := 149) (by simp) 5
  obtain ⟨a, ha⟩ : ∃ b, W4.heap.size = b := ⟨_, rfl⟩
  have CUN := Lib.hid (show Calls Tryz.prog 122 #[] W4.drew (fun e w' => e = .returned (.pointer (some ⟨a, 0, none⟩)) ∧ w' = W4.drew.alloc (.cells #[.pointer none, iv 5, .slice none 0 0, iv 0] 206)) from by
    have h := unknown_any W4.drew
    rw [show W4.drew.heap.size = a from ha] at h
    exact h)
  have SN := Lib.hid (show HS w0 (W4.drew.alloc (.cells #[.pointer none, iv 5, .slice none 0 0, iv 0] 206)) ((a, Obj.cells #[.pointer none, iv 5, .slice none 0 0, iv 0] 206 (0, 0)) :: (mg, mapO iv ([] : MK Int)) :: (t, Obj.cells #[.string ⟨#[109]⟩, .slice none 0 0, .slice (some ⟨kD, 0, none⟩) 1 1, .slice none 0 0, .map (some mS), .map (some mg), .slice none 0 0, .map (some mF), .bool false] 149 (0, 0)) :: (gC, Obj.cells uC 3 (0, 0)) :: R) from (S4.out.gr (gr_drew _)).alloc ha _)
  have CT := Lib.hid (fun (V : World) (h : V.heap[t]? = some (Obj.cells #[.string ⟨#[109]⟩, .slice none 0 0, .slice (some ⟨kD, 0, none⟩) 1 1, .slice none 0 0, .map (some mS), .map (some mg), .slice none 0 0, .map (some mF), .bool false] 149 (0, 0))) => show V.cell? ⟨t, 5, none⟩ = some (.map (some mg)) from Lib.cell_of_heap h 5)
  clear ha
  go_region_held3 (fun V => V.cell? ⟨t, 5, none⟩ = some (.map (some mg))) (first | exact CT.out _ ((S4.out.gr (gr_drew _)).f (t, Obj.cells #[.string ⟨#[109]⟩, .slice none 0 0, .slice (some ⟨kD, 0, none⟩) 1 1, .slice none 0 0, .map (some mS), .map (some mg), .slice none 0 0, .map (some mF), .bool false] 149 (0, 0)) (by simp)) | exact CT.out _ (S5.out.f (t, Obj.cells #[.string ⟨#[109]⟩, .slice none 0 0, .slice (some ⟨kD, 0, none⟩) 1 1, .slice none 0 0, .map (some mS), .map (some mg), .slice none 0 0, .map (some mF), .bool false] 149 (0, 0)) (by simp)) | exact CT.out _ ((HS.setm (pre := [(a, Obj.cells #[.pointer none, iv 5, .slice none 0 0, iv 0] 206 (0, 0))]) (post := ((t, Obj.cells #[.string ⟨#[109]⟩, .slice none 0 0, .slice (some ⟨kD, 0, none⟩) 1 1, .slice none 0 0, .map (some mS), .map (some mg), .slice none 0 0, .map (some mF), .bool false] 149 (0, 0)) :: (gC, Obj.cells uC 3 (0, 0)) :: R)) (l := ([] : MK Int)) S5.out ([(1, .pointer (some ⟨a, 0, none⟩))] : MK Int)).f (t, Obj.cells #[.string ⟨#[109]⟩, .slice none 0 0, .slice (some ⟨kD, 0, none⟩) 1 1, .slice none 0 0, .map (some mS), .map (some mg), .slice none 0 0, .map (some mF), .bool false] 149 (0, 0)) (by simp)) | go_keep) (first | (go_at_call 122; (with_reducible refine (CUN.out).mono ?_); rintro e W5 ⟨rfl, hq⟩; have S5 := Lib.hid (show HS w0 W5 ((a, Obj.cells #[.pointer none, iv 5, .slice none 0 0, iv 0] 206 (0, 0)) :: (mg, mapO iv ([] : MK Int)) :: (t, Obj.cells #[.string ⟨#[109]⟩, .slice none 0 0, .slice (some ⟨kD, 0, none⟩) 1 1, .slice none 0 0, .map (some mS), .map (some mg), .slice none 0 0, .map (some mF), .bool false] 149 (0, 0)) :: (gC, Obj.cells uC 3 (0, 0)) :: R) from by rw [hq]; exact SN.out); clear hq; have x6 : (Instr.mapUpdate 145 (.map (some mg)) (iv 1) (.pointer (some ⟨a, 0, none⟩))).run Tryz.prog W5 = .ok () (setM iv W5 mg ([(1, .pointer (some ⟨a, 0, none⟩))] : MK Int)) := update_k ktI (S5.out.mp (b := mg) (kv := iv) (l := ([] : MK Int)) (by simp)) LK.nil Tryz.underlying145 (k := 1) (by decide) (by rfl) (.pointer (some ⟨a, 0, none⟩))))
  generalize hW : setM iv W5 mg _ = W6
  have S6 := Lib.hid (show HS w0 W6 ((a, Obj.cells #[.pointer none, iv 5, .slice none 0 0, iv 0] 206 (0, 0)) :: (mg, mapO iv ([(1, .pointer (some ⟨a, 0, none⟩))] : MK Int)) :: (t, Obj.cells #[.string ⟨#[109]⟩, .slice none 0 0, .slice (some ⟨kD, 0, none⟩) 1 1, .slice none 0 0, .map (some mS), .map (some mg), .slice none 0 0, .map (some mF), .bool false] 149 (0, 0)) :: (gC, Obj.cells uC 3 (0, 0)) :: R) from by rw [← hW]; exact HS.setm (pre := [(a, Obj.cells #[.pointer none, iv 5, .slice none 0 0, iv 0] 206 (0, 0))]) (post := ((t, Obj.cells #[.string ⟨#[109]⟩, .slice none 0 0, .slice (some ⟨kD, 0, none⟩) 1 1, .slice none 0 0, .map (some mS), .map (some mg), .slice none 0 0, .map (some mF), .bool false] 149 (0, 0)) :: (gC, Obj.cells uC 3 (0, 0)) :: R)) (l := ([] : MK Int)) S5.out ([(1, .pointer (some ⟨a, 0, none⟩))] : MK Int))
  clear hW
  clear y0 x5 x6
  have x7 : W6.cell? ⟨t, 2, none⟩ = some (.slice (some ⟨kD, 0, none⟩) 1 1) := S6.out.cell (b := t) (C := #[.string ⟨#[109]⟩, .slice none 0 0, .slice (some ⟨kD, 0, none⟩) 1 1, .slice none 0 0, .map (some mS), .map (some mg), .slice none 0 0, .map (some mF), .bool false]) (t := 149) (by simp) 2
  go_wp2
  rw [rounds_succ]
  go_wp2
  refine wp_loop_rounds 2 ?_
  rw [rounds_succ]
  obtain ⟨d0, d1, d2, d3, d4, d5, d6, d7, d8, d9, d10⟩ := FD.out _ S6.out.g
  obtain ⟨b9, hb9⟩ : ∃ b, W6.heap.size = b := ⟨_, rfl⟩
  go_upto_region 12 with fail
  generalize hW : World.alloc W6 _ = W7
  have S7 := Lib.hid (show HS w0 W7 ((b9, Obj.cells #[iv 1, iv 1, .bool true, .slice (some ⟨kN, 0, none⟩) 1 1, .bool false, iv 1, .string ⟨#[]⟩, .string ⟨#[]⟩, iv 7, iv 0, .slice none 0 0] 45 (0, 0)) :: (a, Obj.cells #[.pointer none, iv 5, .slice none 0 0, iv 0] 206 (0, 0)) :: (mg, mapO iv ([(1, .pointer (some ⟨a, 0, none⟩))] : MK Int)) :: (t, Obj.cells #[.string ⟨#[109]⟩, .slice none 0 0, .slice (some ⟨kD, 0, none⟩) 1 1, .slice none 0 0, .map (some mS), .map (some mg), .slice none 0 0, .map (some mF), .bool false] 149 (0, 0)) :: (gC, Obj.cells uC 3 (0, 0)) :: R) from by rw [← hW]; exact S6.out.alloc hb9 _)
  clear hW
  have Hb9 := Lib.hid hb9
  clear hb9
  clear x7 d0 d1 d2 d3 d4 d5 d6 d7 d8 d9 d10
  have x8 : W7.cell? ⟨t, 5, none⟩ = some (.map (some mg)) := S7.out.cell (b := t) (C := #[.string ⟨#[109]⟩, .slice none 0 0, .slice (some ⟨kD, 0, none⟩) 1 1, .slice none 0 0, .map (some mS), .map (some mg), .slice none 0 0, .map (some mF), .bool false]) (t := 149) (by simp) 5
  have x9 : W7.cell? ⟨b9, 0, none⟩ = some (iv 1) := S7.out.cell (b := b9) (C := #[iv 1, iv 1, .bool true, .slice (some ⟨kN, 0, none⟩) 1 1, .bool false, iv 1, .string ⟨#[]⟩, .string ⟨#[]⟩, iv 7, iv 0, .slice none 0 0]) (t := 45) (by simp) 0
  have LKH := Lib.hid (fun V (g : Gr W7 V) => show (Instr.lookup 145 (.map (some mg)) (iv 1) false).run Tryz.prog V = .ok (.pointer (some ⟨a, 0, none⟩)) V from (lookup_k ktI ((S7.out.gr g).mp (show (mg, mapO iv ([(1, .pointer (some ⟨a, 0, none⟩))] : MK Int)) ∈ ((b9, Obj.cells #[iv 1, iv 1, .bool true, .slice (some ⟨kN, 0, none⟩) 1 1, .bool false, iv 1, .string ⟨#[]⟩, .string ⟨#[]⟩, iv 7, iv 0, .slice none 0 0] 45 (0, 0)) :: (a, Obj.cells #[.pointer none, iv 5, .slice none 0 0, iv 0] 206 (0, 0)) :: (mg, mapO iv ([(1, .pointer (some ⟨a, 0, none⟩))] : MK Int)) :: (t, Obj.cells #[.string ⟨#[109]⟩, .slice none 0 0, .slice (some ⟨kD, 0, none⟩) 1 1, .slice none 0 0, .map (some mS), .map (some mg), .slice none 0 0, .map (some mF), .bool false] 149 (0, 0)) :: (gC, Obj.cells uC 3 (0, 0)) :: R) from by simp)) (LKone (v := .pointer (some ⟨a, 0, none⟩))) Tryz.underlying145 (z := .pointer none) (by kernel_rfl) (k := 1) (by decide)).1)
  have lk0 := LKH.out _ (gr_refl _)
  have lk1 := LKH.out _ (gr_drew _)
  have lk2 := fun n => LKH.out _ (gr_drewN _ n)
  go_big_quiet (fail)
  generalize hV : World.drewN W7 _ = VB
  have S8 := Lib.hid (show HS w0 VB ((b9, Obj.cells #[iv 1, iv 1, .bool true, .slice (some ⟨kN, 0, none⟩) 1 1, .bool false, iv 1, .string ⟨#[]⟩, .string ⟨#[]⟩, iv 7, iv 0, .slice none 0 0] 45 (0, 0)) :: (a, Obj.cells #[.pointer none, iv 5, .slice none 0 0, iv 0] 206 (0, 0)) :: (mg, mapO iv ([(1, .pointer (some ⟨a, 0, none⟩))] : MK Int)) :: (t, Obj.cells #[.string ⟨#[109]⟩, .slice none 0 0, .slice (some ⟨kD, 0, none⟩) 1 1, .slice none 0 0, .map (some mS), .map (some mg), .slice none 0 0, .map (some mF), .bool false] 149 (0, 0)) :: (gC, Obj.cells uC 3 (0, 0)) :: R) from S7.out.gr (by rw [← hV]; exact gr_drewN _ _))
  clear hV lk0 lk1 lk2 LKH
  clear x8 x9
  go_upto_region 14 with fail
  have x10 : VB.cell? ⟨b9, 5, none⟩ = some (iv 1) := S8.out.cell (b := b9) (C := #[iv 1, iv 1, .bool true, .slice (some ⟨kN, 0, none⟩) 1 1, .bool false, iv 1, .string ⟨#[]⟩, .string ⟨#[]⟩, iv 7, iv 0, .slice none 0 0]) (t := 45) (by simp) 5
  have x11 : VB.cell? ⟨b9, 6, none⟩ = some (.string ⟨#[]⟩) := S8.out.cell (b := b9) (C := #[iv 1, iv 1, .bool true, .slice (some ⟨kN, 0, none⟩) 1 1, .bool false, iv 1, .string ⟨#[]⟩, .string ⟨#[]⟩, iv 7, iv 0, .slice none 0 0]) (t := 45) (by simp) 6
  have x12 : VB.cell? ⟨b9, 7, none⟩ = some (.string ⟨#[]⟩) := S8.out.cell (b := b9) (C := #[iv 1, iv 1, .bool true, .slice (some ⟨kN, 0, none⟩) 1 1, .bool false, iv 1, .string ⟨#[]⟩, .string ⟨#[]⟩, iv 7, iv 0, .slice none 0 0]) (t := 45) (by simp) 7
  have x13 : VB.cell? ⟨b9, 8, none⟩ = some (iv 7) := S8.out.cell (b := b9) (C := #[iv 1, iv 1, .bool true, .slice (some ⟨kN, 0, none⟩) 1 1, .bool false, iv 1, .string ⟨#[]⟩, .string ⟨#[]⟩, iv 7, iv 0, .slice none 0 0]) (t := 45) (by simp) 8
  have x14 : VB.cell? ⟨b9, 9, none⟩ = some (iv 0) := S8.out.cell (b := b9) (C := #[iv 1, iv 1, .bool true, .slice (some ⟨kN, 0, none⟩) 1 1, .bool false, iv 1, .string ⟨#[]⟩, .string ⟨#[]⟩, iv 7, iv 0, .slice none 0 0]) (t := 45) (by simp) 9
  have x15 : VB.cell? ⟨b9, 10, none⟩ = some (.slice none 0 0) := S8.out.cell (b := b9) (C := #[iv 1, iv 1, .bool true, .slice (some ⟨kN, 0, none⟩) 1 1, .bool false, iv 1, .string ⟨#[]⟩, .string ⟨#[]⟩, iv 7, iv 0, .slice none 0 0]) (t := 45) (by simp) 10
  have SP := Lib.hid (show HS w0 VB ((t, Obj.cells #[.string ⟨#[109]⟩, .slice none 0 0, .slice (some ⟨kD, 0, none⟩) 1 1, .slice none 0 0, .map (some mS), .map (some mg), .slice none 0 0, .map (some mF), .bool false] 149 (0, 0)) :: (b9, Obj.cells #[iv 1, iv 1, .bool true, .slice (some ⟨kN, 0, none⟩) 1 1, .bool false, iv 1, .string ⟨#[]⟩, .string ⟨#[]⟩, iv 7, iv 0, .slice none 0 0] 45 (0, 0)) :: (a, Obj.cells #[.pointer none, iv 5, .slice none 0 0, iv 0] 206 (0, 0)) :: (mg, mapO iv ([(1, .pointer (some ⟨a, 0, none⟩))] : MK Int)) :: (gC, Obj.cells uC 3 (0, 0)) :: R) from S8.out.pm (List.perm_middle (l₁ := [(b9, Obj.cells #[iv 1, iv 1, .bool true, .slice (some ⟨kN, 0, none⟩) 1 1, .bool false, iv 1, .string ⟨#[]⟩, .string ⟨#[]⟩, iv 7, iv 0, .slice none 0 0] 45 (0, 0)), (a, Obj.cells #[.pointer none, iv 5, .slice none 0 0, iv 0] 206 (0, 0)), (mg, mapO iv ([(1, .pointer (some ⟨a, 0, none⟩))] : MK Int))]) (l₂ := ((gC, Obj.cells uC 3 (0, 0)) :: R))).symm)
  have CE := Lib.hid (expr_a w0 VB ((b9, Obj.cells #[iv 1, iv 1, .bool true, .slice (some ⟨kN, 0, none⟩) 1 1, .bool false, iv 1, .string ⟨#[]⟩, .string ⟨#[]⟩, iv 7, iv 0, .slice none 0 0] 45 (0, 0)) :: (a, Obj.cells #[.pointer none, iv 5, .slice none 0 0, iv 0] 206 (0, 0)) :: (mg, mapO iv ([(1, .pointer (some ⟨a, 0, none⟩))] : MK Int)) :: (gC, Obj.cells uC 3 (0, 0)) :: R) t kD mS mF (.map (some mg)) SP.out)
  unfold aBv at CE
  go_upto_region 15 with (first | (go_at_call 124; (with_reducible refine (CE.out).mono ?_); rintro e WE ⟨p, gN, cN, uN, rfl, h, h1, h2⟩; have SE := Lib.hid (show HS w0 WE ((gN, Obj.cells uN 199 (0, 0)) :: (p, Obj.cells #[.pointer none, iv 1, .slice none 0 0, iv 0] 206 (0, 0)) :: (b9, Obj.cells #[iv 1, iv 1, .bool true, .slice (some ⟨kN, 0, none⟩) 1 1, .bool false, iv 1, .string ⟨#[]⟩, .string ⟨#[]⟩, iv 7, iv 0, .slice none 0 0] 45 (0, 0)) :: (a, Obj.cells #[.pointer none, iv 5, .slice none 0 0, iv 0] 206 (0, 0)) :: (mg, mapO iv ([(1, .pointer (some ⟨a, 0, none⟩))] : MK Int)) :: (t, Obj.cells #[.string ⟨#[109]⟩, .slice none 0 0, .slice (some ⟨kD, 0, none⟩) 1 1, .slice none 0 0, .map (some mS), .map (some mg), .slice (some ⟨gN, 0, none⟩) 1 cN, .map (some mF), .bool false] 149 (0, 0)) :: (gC, Obj.cells uC 3 (0, 0)) :: R) from HS.pm (show HS w0 WE ((gN, Obj.cells uN 199 (0, 0)) :: (p, Obj.cells #[.pointer none, iv 1, .slice none 0 0, iv 0] 206 (0, 0)) :: (t, Obj.cells #[.string ⟨#[109]⟩, .slice none 0 0, .slice (some ⟨kD, 0, none⟩) 1 1, .slice none 0 0, .map (some mS), .map (some mg), .slice (some ⟨gN, 0, none⟩) 1 cN, .map (some mF), .bool false] 149 (0, 0)) :: (b9, Obj.cells #[iv 1, iv 1, .bool true, .slice (some ⟨kN, 0, none⟩) 1 1, .bool false, iv 1, .string ⟨#[]⟩, .string ⟨#[]⟩, iv 7, iv 0, .slice none 0 0] 45 (0, 0)) :: (a, Obj.cells #[.pointer none, iv 5, .slice none 0 0, iv 0] 206 (0, 0)) :: (mg, mapO iv ([(1, .pointer (some ⟨a, 0, none⟩))] : MK Int)) :: (gC, Obj.cells uC 3 (0, 0)) :: R) from h) (.cons _ (.cons _ (List.perm_middle (l₁ := [(b9, Obj.cells #[iv 1, iv 1, .bool true, .slice (some ⟨kN, 0, none⟩) 1 1, .bool false, iv 1, .string ⟨#[]⟩, .string ⟨#[]⟩, iv 7, iv 0, .slice none 0 0] 45 (0, 0)), (a, Obj.cells #[.pointer none, iv 5, .slice none 0 0, iv 0] 206 (0, 0)), (mg, mapO iv ([(1, .pointer (some ⟨a, 0, none⟩))] : MK Int))]) (l₂ := ((gC, Obj.cells uC 3 (0, 0)) :: R)))))); have HuN := Lib.hid h1; have HcN := Lib.hid h2; have CS := Lib.hid (same_a w0 WE _ gN p b9 a mg t kD mS mF _ _ _ _ _ SE.out); clear h h1 h2) | (go_at_call 123; (with_reducible refine (CS.out).mono ?_); rintro e WS ⟨⟨r, rfl⟩, h⟩; have S9 := Lib.hid (show HS w0 WS ((gN, Obj.cells uN 199 (0, 0)) :: (p, Obj.cells #[.pointer none, iv 1, .slice none 0 0, iv 0] 206 (0, 0)) :: (b9, Obj.cells #[iv 1, iv 1, .bool true, .slice (some ⟨kN, 0, none⟩) 1 1, .bool false, iv 1, .string ⟨#[]⟩, .string ⟨#[]⟩, iv 7, iv 0, .slice none 0 0] 45 (0, 0)) :: (a, Obj.cells #[.pointer (some ⟨p, 0, none⟩), iv 5, .slice none 0 0, iv 0] 206 (0, 0)) :: (mg, mapO iv ([(1, .pointer (some ⟨a, 0, none⟩))] : MK Int)) :: (t, Obj.cells #[.string ⟨#[109]⟩, .slice none 0 0, .slice (some ⟨kD, 0, none⟩) 1 1, .slice none 0 0, .map (some mS), .map (some mg), .slice (some ⟨gN, 0, none⟩) 1 cN, .map (some mF), .bool false] 149 (0, 0)) :: (gC, Obj.cells uC 3 (0, 0)) :: R) from h); clear h x10 x11 x12 x13 x14 x15))
  have x16 : WS.cell? ⟨b9, 1, none⟩ = some (iv 1) := S9.out.cell (b := b9) (C := #[iv 1, iv 1, .bool true, .slice (some ⟨kN, 0, none⟩) 1 1, .bool false, iv 1, .string ⟨#[]⟩, .string ⟨#[]⟩, iv 7, iv 0, .slice none 0 0]) (t := 45) (by simp) 1
  have x17 : WS.cell? ⟨t, 8, none⟩ = some (.bool false) := S9.out.cell (b := t) (C := #[.string ⟨#[109]⟩, .slice none 0 0, .slice (some ⟨kD, 0, none⟩) 1 1, .slice none 0 0, .map (some mS), .map (some mg), .slice (some ⟨gN, 0, none⟩) 1 cN, .map (some mF), .bool false]) (t := 149) (by simp) 8
  have x18 : WS.cell? ⟨t, 6, none⟩ = some (.slice (some ⟨gN, 0, none⟩) 1 cN) := S9.out.cell (b := t) (C := #[.string ⟨#[109]⟩, .slice none 0 0, .slice (some ⟨kD, 0, none⟩) 1 1, .slice none 0 0, .map (some mS), .map (some mg), .slice (some ⟨gN, 0, none⟩) 1 cN, .map (some mF), .bool false]) (t := 149) (by simp) 6
  have k3 : 1 ≤ cN := HcN.out.1
  have k4 : cN ≤ 9223372036854775807 := HcN.out.2
  go_wp2
  rw [rounds_succ]
  go_wp2
  refine wp_loop_rounds 2 ?_
  rw [rounds_succ]
  have y0 : WS.cell? ⟨gN, 0, none⟩ = some (.pointer (some ⟨p, 0, none⟩)) := (S9.out.cell (b := gN) (C := uN) (t := 199) (by simp) 0).trans HuN.out
  have CM := Lib.hid (measure_a w0 WS ((b9, Obj.cells #[iv 1, iv 1, .bool true, .slice (some ⟨kN, 0, none⟩) 1 1, .bool false, iv 1, .string ⟨#[]⟩, .string ⟨#[]⟩, iv 7, iv 0, .slice none 0 0] 45 (0, 0)) :: (a, Obj.cells #[.pointer (some ⟨p, 0, none⟩), iv 5, .slice none 0 0, iv 0] 206 (0, 0)) :: (mg, mapO iv ([(1, .pointer (some ⟨a, 0, none⟩))] : MK Int)) :: (t, Obj.cells #[.string ⟨#[109]⟩, .slice none 0 0, .slice (some ⟨kD, 0, none⟩) 1 1, .slice none 0 0, .map (some mS), .map (some mg), .slice (some ⟨gN, 0, none⟩) 1 cN, .map (some mF), .bool false] 149 (0, 0)) :: (gC, Obj.cells uC 3 (0, 0)) :: R) gN p _ S9.out)
  go_wp2_with (go_at_call 126; (with_reducible refine (CM.out).mono ?_); rintro e WM ⟨rfl, h⟩; have S10 := Lib.hid (show HS w0 WM ((gN, Obj.cells uN 199 (0, 0)) :: (p, Obj.cells #[.pointer none, iv 1, .slice none 0 0, iv 1] 206 (0, 0)) :: (b9, Obj.cells #[iv 1, iv 1, .bool true, .slice (some ⟨kN, 0, none⟩) 1 1, .bool false, iv 1, .string ⟨#[]⟩, .string ⟨#[]⟩, iv 7, iv 0, .slice none 0 0] 45 (0, 0)) :: (a, Obj.cells #[.pointer (some ⟨p, 0, none⟩), iv 5, .slice none 0 0, iv 0] 206 (0, 0)) :: (mg, mapO iv ([(1, .pointer (some ⟨a, 0, none⟩))] : MK Int)) :: (t, Obj.cells #[.string ⟨#[109]⟩, .slice none 0 0, .slice (some ⟨kD, 0, none⟩) 1 1, .slice none 0 0, .map (some mS), .map (some mg), .slice (some ⟨gN, 0, none⟩) 1 cN, .map (some mF), .bool false] 149 (0, 0)) :: (gC, Obj.cells uC 3 (0, 0)) :: R) from h); clear h x16 x17 x18 y0)
  have x19 : WM.cell? ⟨t, 6, none⟩ = some (.slice (some ⟨gN, 0, none⟩) 1 cN) := S10.out.cell (b := t) (C := #[.string ⟨#[109]⟩, .slice none 0 0, .slice (some ⟨kD, 0, none⟩) 1 1, .slice none 0 0, .map (some mS), .map (some mg), .slice (some ⟨gN, 0, none⟩) 1 cN, .map (some mF), .bool false]) (t := 149) (by simp) 6
  rw [rounds_succ]
  go_wp2
  refine wp_loop_rounds 2 ?_
  rw [rounds_succ]
  have y0 : WM.cell? ⟨gN, 0, none⟩ = some (.pointer (some ⟨p, 0, none⟩)) := (S10.out.cell (b := gN) (C := uN) (t := 199) (by simp) 0).trans HuN.out
  have x20 : WM.cell? ⟨p, 0, none⟩ = some (.pointer none) := S10.out.cell (b := p) (C := #[.pointer none, iv 1, .slice none 0 0, iv 1]) (t := 206) (by simp) 0
  have x21 : WM.cell? ⟨p, 3, none⟩ = some (iv 1) := S10.out.cell (b := p) (C := #[.pointer none, iv 1, .slice none 0 0, iv 1]) (t := 206) (by simp) 3
  have CF := Lib.hid (find_self p WM x20)
  go_wp2_with (go_at_call 127; (with_reducible refine (CF.out).mono ?_); rintro e Wq ⟨rfl, hq⟩; obtain rfl := hq.symm)
  rw [rounds_succ]
  obtain ⟨mf, hmf⟩ : ∃ b, WM.heap.size = b := ⟨_, rfl⟩
  go_upto_region 33 with fail
  generalize hW : World.alloc WM _ = W11
  have S11 := Lib.hid (show HS w0 W11 ((mf, mapO iv ([] : MK Int)) :: (gN, Obj.cells uN 199 (0, 0)) :: (p, Obj.cells #[.pointer none, iv 1, .slice none 0 0, iv 1] 206 (0, 0)) :: (b9, Obj.cells #[iv 1, iv 1, .bool true, .slice (some ⟨kN, 0, none⟩) 1 1, .bool false, iv 1, .string ⟨#[]⟩, .string ⟨#[]⟩, iv 7, iv 0, .slice none 0 0] 45 (0, 0)) :: (a, Obj.cells #[.pointer (some ⟨p, 0, none⟩), iv 5, .slice none 0 0, iv 0] 206 (0, 0)) :: (mg, mapO iv ([(1, .pointer (some ⟨a, 0, none⟩))] : MK Int)) :: (t, Obj.cells #[.string ⟨#[109]⟩, .slice none 0 0, .slice (some ⟨kD, 0, none⟩) 1 1, .slice none 0 0, .map (some mS), .map (some mg), .slice (some ⟨gN, 0, none⟩) 1 cN, .map (some mF), .bool false] 149 (0, 0)) :: (gC, Obj.cells uC 3 (0, 0)) :: R) from by rw [← hW]; exact S10.out.alloc hmf _)
  clear hW
  have Hmf := Lib.hid hmf
  clear hmf
  clear x19 y0 x20 x21
  go_wp2
  refine wp_loop_rounds 2 ?_
  rw [rounds_succ]
  have y0 : W11.cell? ⟨gC, 0, none⟩ = some (iv 1) := (S11.out.cell (b := gC) (C := uC) (t := 3) (by simp) 0).trans HC.out
  obtain ⟨mn, hmn⟩ : ∃ b, W11.heap.size = b := ⟨_, rfl⟩
  go_upto_region 37 with fail
  generalize hW : World.alloc W11 _ = W12
  have S12 := Lib.hid (show HS w0 W12 ((mn, mapO iv ([] : MK Int)) :: (mf, mapO iv ([] : MK Int)) :: (gN, Obj.cells uN 199 (0, 0)) :: (p, Obj.cells #[.pointer none, iv 1, .slice none 0 0, iv 1] 206 (0, 0)) :: (b9, Obj.cells #[iv 1, iv 1, .bool true, .slice (some ⟨kN, 0, none⟩) 1 1, .bool false, iv 1, .string ⟨#[]⟩, .string ⟨#[]⟩, iv 7, iv 0, .slice none 0 0] 45 (0, 0)) :: (a, Obj.cells #[.pointer (some ⟨p, 0, none⟩), iv 5, .slice none 0 0, iv 0] 206 (0, 0)) :: (mg, mapO iv ([(1, .pointer (some ⟨a, 0, none⟩))] : MK Int)) :: (t, Obj.cells #[.string ⟨#[109]⟩, .slice none 0 0, .slice (some ⟨kD, 0, none⟩) 1 1, .slice none 0 0, .map (some mS), .map (some mg), .slice (some ⟨gN, 0, none⟩) 1 cN, .map (some mF), .bool false] 149 (0, 0)) :: (gC, Obj.cells uC 3 (0, 0)) :: R) from by rw [← hW]; exact S11.out.alloc hmn _)
  clear hW
  have Hmn := Lib.hid hmn
  clear hmn
  clear y0
  have x22 : W12.cell? ⟨t, 5, none⟩ = some (.map (some mg)) := S12.out.cell (b := t) (C := #[.string ⟨#[109]⟩, .slice none 0 0, .slice (some ⟨kD, 0, none⟩) 1 1, .slice none 0 0, .map (some mS), .map (some mg), .slice (some ⟨gN, 0, none⟩) 1 cN, .map (some mF), .bool false]) (t := 149) (by simp) 5
  have x23 : (Instr.lookup 145 (.map (some mg)) (iv 1) false).run Tryz.prog W12 = .ok (.pointer (some ⟨a, 0, none⟩)) W12 := (lookup_k ktI (S12.out.mp (b := mg) (kv := iv) (l := ([(1, .pointer (some ⟨a, 0, none⟩))] : MK Int)) (by simp)) (LKone (v := .pointer (some ⟨a, 0, none⟩))) Tryz.underlying145 (z := .pointer none) (by kernel_rfl) (k := 1) (by decide)).1
  have x24 : W12.cell? ⟨a, 0, none⟩ = some (.pointer (some ⟨p, 0, none⟩)) := S12.out.cell (b := a) (C := #[.pointer (some ⟨p, 0, none⟩), iv 5, .slice none 0 0, iv 0]) (t := 206) (by simp) 0
  have x25 : W12.cell? ⟨p, 0, none⟩ = some (.pointer none) := S12.out.cell (b := p) (C := #[.pointer none, iv 1, .slice none 0 0, iv 1]) (t := 206) (by simp) 0
  have x26 : W12.cell? ⟨p, 1, none⟩ = some (iv 1) := S12.out.cell (b := p) (C := #[.pointer none, iv 1, .slice none 0 0, iv 1]) (t := 206) (by simp) 1
  have x27 : W12.cell? ⟨p, 2, none⟩ = some (.slice none 0 0) := S12.out.cell (b := p) (C := #[.pointer none, iv 1, .slice none 0 0, iv 1]) (t := 206) (by simp) 2
  have CB := Lib.hid (build_a W12 a p (.map (some mn)) x24 x25 x26 x27)
  go_upto_region 38 with (go_at_call 128; (with_reducible refine (CB.out).mono ?_); rintro e W13 ⟨rfl, g⟩; have S13 := Lib.hid (show HS w0 W13 ((mn, mapO iv ([] : MK Int)) :: (mf, mapO iv ([] : MK Int)) :: (gN, Obj.cells uN 199 (0, 0)) :: (p, Obj.cells #[.pointer none, iv 1, .slice none 0 0, iv 1] 206 (0, 0)) :: (b9, Obj.cells #[iv 1, iv 1, .bool true, .slice (some ⟨kN, 0, none⟩) 1 1, .bool false, iv 1, .string ⟨#[]⟩, .string ⟨#[]⟩, iv 7, iv 0, .slice none 0 0] 45 (0, 0)) :: (a, Obj.cells #[.pointer (some ⟨p, 0, none⟩), iv 5, .slice none 0 0, iv 0] 206 (0, 0)) :: (mg, mapO iv ([(1, .pointer (some ⟨a, 0, none⟩))] : MK Int)) :: (t, Obj.cells #[.string ⟨#[109]⟩, .slice none 0 0, .slice (some ⟨kD, 0, none⟩) 1 1, .slice none 0 0, .map (some mS), .map (some mg), .slice (some ⟨gN, 0, none⟩) 1 cN, .map (some mF), .bool false] 149 (0, 0)) :: (gC, Obj.cells uC 3 (0, 0)) :: R) from S12.out.gr g); clear g x22 x23 x24 x25 x26 x27; obtain ⟨b19, hb19⟩ : ∃ b, W13.heap.size = b := ⟨_, rfl⟩)
  generalize hW : World.alloc W13 _ = W14
  have S14 := Lib.hid (show HS w0 W14 ((b19, Obj.cells #[iv 1, iv 0, .slice none 0 0] 64 (0, 0)) :: (mn, mapO iv ([] : MK Int)) :: (mf, mapO iv ([] : MK Int)) :: (gN, Obj.cells uN 199 (0, 0)) :: (p, Obj.cells #[.pointer none, iv 1, .slice none 0 0, iv 1] 206 (0, 0)) :: (b9, Obj.cells #[iv 1, iv 1, .bool true, .slice (some ⟨kN, 0, none⟩) 1 1, .bool false, iv 1, .string ⟨#[]⟩, .string ⟨#[]⟩, iv 7, iv 0, .slice none 0 0] 45 (0, 0)) :: (a, Obj.cells #[.pointer (some ⟨p, 0, none⟩), iv 5, .slice none 0 0, iv 0] 206 (0, 0)) :: (mg, mapO iv ([(1, .pointer (some ⟨a, 0, none⟩))] : MK Int)) :: (t, Obj.cells #[.string ⟨#[109]⟩, .slice none 0 0, .slice (some ⟨kD, 0, none⟩) 1 1, .slice none 0 0, .map (some mS), .map (some mg), .slice (some ⟨gN, 0, none⟩) 1 cN, .map (some mF), .bool false] 149 (0, 0)) :: (gC, Obj.cells uC 3 (0, 0)) :: R) from by rw [← hW]; exact S13.out.alloc hb19 _)
  clear hW
  have Hb19 := Lib.hid hb19
  clear hb19
  have x28 : W14.cell? ⟨b19, 0, none⟩ = some (iv 1) := S14.out.cell (b := b19) (C := #[iv 1, iv 0, .slice none 0 0]) (t := 64) (by simp) 0
  have x29 : W14.cell? ⟨b19, 1, none⟩ = some (iv 0) := S14.out.cell (b := b19) (C := #[iv 1, iv 0, .slice none 0 0]) (t := 64) (by simp) 1
  have x30 : W14.cell? ⟨b19, 2, none⟩ = some (.slice none 0 0) := S14.out.cell (b := b19) (C := #[iv 1, iv 0, .slice none 0 0]) (t := 64) (by simp) 2
  have x31 : (Builtin.len_ #[208] 3 #[.map (some mn)]).run Tryz.prog W14 = .ok (iv 0) W14 := by have h := run_len_map (P := Tryz.prog) (w := W14) 208 3 mn #[] 0 (by kernel_rfl) (S14.out.f (mn, mapO iv ([] : MK Int)) (by simp)); rw [h]; rfl
  have x32 : (Instr.mapUpdate 142 (.map (some mf)) (iv 1) (.agg #[iv 0, iv 1, iv 0, .slice none 0 0])).run Tryz.prog W14 = .ok () (setM iv W14 mf ([(1, .agg #[iv 0, iv 1, iv 0, .slice none 0 0])] : MK Int)) := update_k ktI (S14.out.mp (b := mf) (kv := iv) (l := ([] : MK Int)) (by simp)) LK.nil Tryz.underlying142 (k := 1) (by decide) (by rfl) (.agg #[iv 0, iv 1, iv 0, .slice none 0 0])
  go_upto_region 39 with fail
  generalize hW : setM iv W14 mf _ = W15
  have S15 := Lib.hid (show HS w0 W15 ((b19, Obj.cells #[iv 1, iv 0, .slice none 0 0] 64 (0, 0)) :: (mn, mapO iv ([] : MK Int)) :: (mf, mapO iv ([(1, .agg #[iv 0, iv 1, iv 0, .slice none 0 0])] : MK Int)) :: (gN, Obj.cells uN 199 (0, 0)) :: (p, Obj.cells #[.pointer none, iv 1, .slice none 0 0, iv 1] 206 (0, 0)) :: (b9, Obj.cells #[iv 1, iv 1, .bool true, .slice (some ⟨kN, 0, none⟩) 1 1, .bool false, iv 1, .string ⟨#[]⟩, .string ⟨#[]⟩, iv 7, iv 0, .slice none 0 0] 45 (0, 0)) :: (a, Obj.cells #[.pointer (some ⟨p, 0, none⟩), iv 5, .slice none 0 0, iv 0] 206 (0, 0)) :: (mg, mapO iv ([(1, .pointer (some ⟨a, 0, none⟩))] : MK Int)) :: (t, Obj.cells #[.string ⟨#[109]⟩, .slice none 0 0, .slice (some ⟨kD, 0, none⟩) 1 1, .slice none 0 0, .map (some mS), .map (some mg), .slice (some ⟨gN, 0, none⟩) 1 cN, .map (some mF), .bool false] 149 (0, 0)) :: (gC, Obj.cells uC 3 (0, 0)) :: R) from by rw [← hW]; exact HS.setm (pre := [(b19, Obj.cells #[iv 1, iv 0, .slice none 0 0] 64 (0, 0)), (mn, mapO iv ([] : MK Int))]) (post := ((gN, Obj.cells uN 199 (0, 0)) :: (p, Obj.cells #[.pointer none, iv 1, .slice none 0 0, iv 1] 206 (0, 0)) :: (b9, Obj.cells #[iv 1, iv 1, .bool true, .slice (some ⟨kN, 0, none⟩) 1 1, .bool false, iv 1, .string ⟨#[]⟩, .string ⟨#[]⟩, iv 7, iv 0, .slice none 0 0] 45 (0, 0)) :: (a, Obj.cells #[.pointer (some ⟨p, 0, none⟩), iv 5, .slice none 0 0, iv 0] 206 (0, 0)) :: (mg, mapO iv ([(1, .pointer (some ⟨a, 0, none⟩))] : MK Int)) :: (t, Obj.cells #[.string ⟨#[109]⟩, .slice none 0 0, .slice (some ⟨kD, 0, none⟩) 1 1, .slice none 0 0, .map (some mS), .map (some mg), .slice (some ⟨gN, 0, none⟩) 1 cN, .map (some mF), .bool false] 149 (0, 0)) :: (gC, Obj.cells uC 3 (0, 0)) :: R)) (l := ([] : MK Int)) S14.out ([(1, .agg #[iv 0, iv 1, iv 0, .slice none 0 0])] : MK Int))
  clear hW
  clear x28 x29 x30 x31 x32
  go_wp2
  rw [rounds_succ]
  go_wp2
  go_ret2
  exact ⟨mf, _, _, rfl, S15.out.sl (.cons _ (.cons _ (.cons_cons _ (.cons _ (.cons _ (.cons _ (.cons _ (.cons _ (.cons_cons _ (.cons_cons _ (List.Sublist.refl _)))))))))))⟩
end Go.Proofs.YtiaenhlflgobfaaGreatDoor
namespace Go.Proofs.YtiaenhlflgobfaaGreatDoor
open Go.RowKit Go.Maps
theorem gr_tj {a b c : World} (h : Gr a b) (k : Gr b c) : Gr a c := h.trans k
def sigL : List Value := [iv 1, .string ⟨#[102]⟩, iv 0, iv 1, iv 0, .slice none 0 0]
theorem sig_row (uz : Array Value) : ∀ (i : Nat) v, sigL[i]? = some v → (#[iv 1, .string ⟨#[102]⟩, iv 0, iv 1, iv 0, .slice none 0 0] ++ uz)[i]? = some v := by
  intro i v h
  have hi : i < 6 := by
    rcases Nat.lt_or_ge i 6 with h1 | h1
    · exact h1
    · rw [List.getElem?_eq_none h1] at h; cases h
  rw [Array.getElem?_append_left (by simpa using hi)]
  simpa [sigL] using h
set_option maxRecDepth 100000 in
set_option maxHeartbeats 4000000 in
attribute [local irreducible] Calls in
theorem module_a (kN kD : Nat) (w : World) (hN : w.heap[kN]? = some (.cells #[.string ⟨#[102]⟩] 9 (0, 0))) (hD : w.heap[kD]? = some (.cells #[iv 1, iv 1, .bool true, .slice (some ⟨kN, 0, none⟩) 1 1, .bool false, iv 1, .string ⟨#[]⟩, .string ⟨#[]⟩, iv 7, iv 0, .slice none 0 0] 45 (0, 0))) : Calls Tryz.prog 37 #[.agg #[.string ⟨#[109]⟩, .slice none 0 0, .slice (some ⟨kD, 0, none⟩) 1 1], .slice none 0 0] w fun e w' => ∃ gS cS uS, e = .returned (.tuple #[.slice (some ⟨gS, 0, none⟩) 1 cS, iv 0, iv 0]) ∧ HS w w' [(gS, .cells uS 68 (0, 0))] ∧ ∀ (i : Nat) v, sigL[i]? = some v → uS[i]? = some v := by
  have FN := Lib.hid (fun V (g : Gr w V) => show V.cell? ⟨kN, 0, none⟩ = some (.string ⟨#[102]⟩) from Lib.cell_of_heap (gr_h g hN) 0)
  have FD := Lib.hid (fun V (g : Gr w V) => boxD (gr_h g hD))
  have HD := Lib.hid hD
  have C76 := Lib.hid (fun V (g : Gr w V) => checkDecls_a kN kD V (gr_h g hN) (gr_h g hD))
  have C77 := Lib.hid (fun V (g : Gr w V) => groups_a kN kD V (gr_h g hN) (gr_h g hD))
  have CK := Lib.hid (fun V (g : Gr w V) => show Calls Tryz.prog 39 #[.agg #[.string ⟨#[109]⟩, .slice none 0 0, .slice (some ⟨kD, 0, none⟩) 1 1]] V (fun e w' => e = .returned (iv 0) ∧ Gr V w') from by
    have h := checkM_any (aM kN kD) V ((aM_rd hN hD).gr g)
    rw [aM_ok] at h
    exact h)
  clear hN hD
  have S0 := Lib.hid (HS.nil (w0 := w))
  go_enter Tryz.func37, Tryz.ntmps37
  obtain ⟨b2, hb2⟩ : ∃ b, w.heap.size = b := ⟨_, rfl⟩
  go_upto_region 1 with fail
  generalize hW : World.alloc w _ = W1
  have S1 := Lib.hid (show HS w W1 [(b2, Obj.cells #[.string ⟨#[109]⟩, .slice none 0 0, .slice (some ⟨kD, 0, none⟩) 1 1] 39 (0, 0))] from by rw [← hW]; exact S0.out.alloc hb2 _)
  clear hW
  have Hb2 := Lib.hid hb2
  clear hb2
  have x1 : W1.cell? ⟨b2, 0, none⟩ = some (.string ⟨#[109]⟩) := S1.out.cell (b := b2) (C := #[.string ⟨#[109]⟩, .slice none 0 0, .slice (some ⟨kD, 0, none⟩) 1 1]) (t := 39) (by simp) 0
  have x2 : W1.cell? ⟨b2, 1, none⟩ = some (.slice none 0 0) := S1.out.cell (b := b2) (C := #[.string ⟨#[109]⟩, .slice none 0 0, .slice (some ⟨kD, 0, none⟩) 1 1]) (t := 39) (by simp) 1
  have x3 : W1.cell? ⟨b2, 2, none⟩ = some (.slice (some ⟨kD, 0, none⟩) 1 1) := S1.out.cell (b := b2) (C := #[.string ⟨#[109]⟩, .slice none 0 0, .slice (some ⟨kD, 0, none⟩) 1 1]) (t := 39) (by simp) 2
  go_upto_region 4 with (go_at_call 39; (with_reducible refine (CK.out _ S1.out.g).mono ?_); rintro e W2 ⟨rfl, g⟩; have S2 := Lib.hid (show HS w W2 [(b2, Obj.cells #[.string ⟨#[109]⟩, .slice none 0 0, .slice (some ⟨kD, 0, none⟩) 1 1] 39 (0, 0))] from S1.out.gr g); clear g; clear x1 x2 x3)
  have x4 : W2.cell? ⟨b2, 0, none⟩ = some (.string ⟨#[109]⟩) := S2.out.cell (b := b2) (C := #[.string ⟨#[109]⟩, .slice none 0 0, .slice (some ⟨kD, 0, none⟩) 1 1]) (t := 39) (by simp) 0
  have x5 : W2.cell? ⟨b2, 1, none⟩ = some (.slice none 0 0) := S2.out.cell (b := b2) (C := #[.string ⟨#[109]⟩, .slice none 0 0, .slice (some ⟨kD, 0, none⟩) 1 1]) (t := 39) (by simp) 1
  have x6 : W2.cell? ⟨b2, 2, none⟩ = some (.slice (some ⟨kD, 0, none⟩) 1 1) := S2.out.cell (b := b2) (C := #[.string ⟨#[109]⟩, .slice none 0 0, .slice (some ⟨kD, 0, none⟩) 1 1]) (t := 39) (by simp) 2
  go_upto_region 7 with (go_at_call 76; (with_reducible refine (C76.out _ S2.out.g).mono ?_); rintro e W3 ⟨rfl, g⟩; have S3 := Lib.hid (show HS w W3 [(b2, Obj.cells #[.string ⟨#[109]⟩, .slice none 0 0, .slice (some ⟨kD, 0, none⟩) 1 1] 39 (0, 0))] from S2.out.gr g); clear g; clear x4 x5 x6)
  have x7 : W3.cell? ⟨b2, 0, none⟩ = some (.string ⟨#[109]⟩) := S3.out.cell (b := b2) (C := #[.string ⟨#[109]⟩, .slice none 0 0, .slice (some ⟨kD, 0, none⟩) 1 1]) (t := 39) (by simp) 0
  have x8 : W3.cell? ⟨b2, 1, none⟩ = some (.slice none 0 0) := S3.out.cell (b := b2) (C := #[.string ⟨#[109]⟩, .slice none 0 0, .slice (some ⟨kD, 0, none⟩) 1 1]) (t := 39) (by simp) 1
  have x9 : W3.cell? ⟨b2, 2, none⟩ = some (.slice (some ⟨kD, 0, none⟩) 1 1) := S3.out.cell (b := b2) (C := #[.string ⟨#[109]⟩, .slice none 0 0, .slice (some ⟨kD, 0, none⟩) 1 1]) (t := 39) (by simp) 2
  go_upto_region 10 with (go_at_call 77; (with_reducible refine (C77.out _ S3.out.g).mono ?_); rintro e W4 ⟨gL, cL, uL, gC, cC, uC, rfl, h, h1, h2, h3, h4⟩; have S4 := Lib.hid (show HS w W4 [(gL, Obj.cells uL 110 (0, 0)), (gC, Obj.cells uC 3 (0, 0)), (b2, Obj.cells #[.string ⟨#[109]⟩, .slice none 0 0, .slice (some ⟨kD, 0, none⟩) 1 1] 39 (0, 0))] from S3.out.more h); have H1 := Lib.hid h1; have H2 := Lib.hid h2; have H3 := Lib.hid h3; have H4 := Lib.hid h4; clear h h1 h2 h3 h4; clear x7 x8 x9)
  have x10 : W4.cell? ⟨b2, 0, none⟩ = some (.string ⟨#[109]⟩) := S4.out.cell (b := b2) (C := #[.string ⟨#[109]⟩, .slice none 0 0, .slice (some ⟨kD, 0, none⟩) 1 1]) (t := 39) (by simp) 0
  have x11 : W4.cell? ⟨b2, 1, none⟩ = some (.slice none 0 0) := S4.out.cell (b := b2) (C := #[.string ⟨#[109]⟩, .slice none 0 0, .slice (some ⟨kD, 0, none⟩) 1 1]) (t := 39) (by simp) 1
  have x12 : W4.cell? ⟨b2, 2, none⟩ = some (.slice (some ⟨kD, 0, none⟩) 1 1) := S4.out.cell (b := b2) (C := #[.string ⟨#[109]⟩, .slice none 0 0, .slice (some ⟨kD, 0, none⟩) 1 1]) (t := 39) (by simp) 2
  go_upto_region 11 with (go_at_call 78; (with_reducible refine (newTyper_a kD _).mono ?_); rintro e W5 ⟨t, mS, mF, rfl, h⟩; have S5 := Lib.hid (show HS w W5 [(t, Obj.cells #[.string ⟨#[109]⟩, .slice none 0 0, .slice (some ⟨kD, 0, none⟩) 1 1, .slice none 0 0, .map (some mS), .map none, .slice none 0 0, .map (some mF), .bool false] 149 (0, 0)), (mF, mapO iv ([] : MK Int)), (mS, mapO iv ([] : MK Int)), (gL, Obj.cells uL 110 (0, 0)), (gC, Obj.cells uC 3 (0, 0)), (b2, Obj.cells #[.string ⟨#[109]⟩, .slice none 0 0, .slice (some ⟨kD, 0, none⟩) 1 1] 39 (0, 0))] from S4.out.more h); clear h; clear x10 x11 x12)
  have k1 : 1 ≤ cL := H3.out.1
  have k2 : cL ≤ 9223372036854775807 := H3.out.2
  have k3 : 1 ≤ cC := H4.out.1
  have k4 : cC ≤ 9223372036854775807 := H4.out.2
  go_wp2
  refine wp_loop_rounds 2 ?_
  rw [rounds_succ]
  have y0 : W5.cell? ⟨gL, 0, none⟩ = some (.slice (some ⟨gC, 0, none⟩) 1 cC) := (S5.out.cell (b := gL) (C := uL) (t := 110) (by simp) 0).trans H1.out
  have SP := Lib.hid (HS.pm (show HS w W5 [(t, Obj.cells #[.string ⟨#[109]⟩, .slice none 0 0, .slice (some ⟨kD, 0, none⟩) 1 1, .slice none 0 0, .map (some mS), .map none, .slice none 0 0, .map (some mF), .bool false] 149 (0, 0)), (mF, mapO iv ([] : MK Int)), (mS, mapO iv ([] : MK Int)), (gL, Obj.cells uL 110 (0, 0)), (gC, Obj.cells uC 3 (0, 0)), (b2, Obj.cells #[.string ⟨#[109]⟩, .slice none 0 0, .slice (some ⟨kD, 0, none⟩) 1 1] 39 (0, 0))] from S5.out) (show List.Perm [(t, Obj.cells #[.string ⟨#[109]⟩, .slice none 0 0, .slice (some ⟨kD, 0, none⟩) 1 1, .slice none 0 0, .map (some mS), .map none, .slice none 0 0, .map (some mF), .bool false] 149 (0, 0)), (gC, Obj.cells uC 3 (0, 0)), (mF, mapO iv ([] : MK Int)), (mS, mapO iv ([] : MK Int)), (gL, Obj.cells uL 110 (0, 0)), (b2, Obj.cells #[.string ⟨#[109]⟩, .slice none 0 0, .slice (some ⟨kD, 0, none⟩) 1 1] 39 (0, 0))] [(t, Obj.cells #[.string ⟨#[109]⟩, .slice none 0 0, .slice (some ⟨kD, 0, none⟩) 1 1, .slice none 0 0, .map (some mS), .map none, .slice none 0 0, .map (some mF), .bool false] 149 (0, 0)), (mF, mapO iv ([] : MK Int)), (mS, mapO iv ([] : MK Int)), (gL, Obj.cells uL 110 (0, 0)), (gC, Obj.cells uC 3 (0, 0)), (b2, Obj.cells #[.string ⟨#[109]⟩, .slice none 0 0, .slice (some ⟨kD, 0, none⟩) 1 1] 39 (0, 0))] from .cons _ (List.perm_middle (l₁ := [(mF, mapO iv ([] : MK Int)), (mS, mapO iv ([] : MK Int)), (gL, Obj.cells uL 110 (0, 0))]) (l₂ := [(b2, Obj.cells #[.string ⟨#[109]⟩, .slice none 0 0, .slice (some ⟨kD, 0, none⟩) 1 1] 39 (0, 0))])).symm))
  have CF := Lib.hid (findG_a w W5 [(mF, mapO iv ([] : MK Int)), (mS, mapO iv ([] : MK Int)), (gL, Obj.cells uL 110 (0, 0)), (b2, Obj.cells #[.string ⟨#[109]⟩, .slice none 0 0, .slice (some ⟨kD, 0, none⟩) 1 1] 39 (0, 0))] kN kD t mS mF gC cC uC HD.out SP.out H2.out H4.out)
  go_upto_region 17 with (go_at_call 79; (with_reducible refine (CF.out).mono ?_); rintro e W6 ⟨mf, vg, vn, rfl, h⟩; have S6 := Lib.hid (show HS w W6 [(mf, mapO iv ([(1, .agg #[iv 0, iv 1, iv 0, .slice none 0 0])] : MK Int)), (t, Obj.cells #[.string ⟨#[109]⟩, .slice none 0 0, .slice (some ⟨kD, 0, none⟩) 1 1, .slice none 0 0, .map (some mS), vg, vn, .map (some mF), .bool false] 149 (0, 0)), (gC, Obj.cells uC 3 (0, 0)), (mF, mapO iv ([] : MK Int)), (mS, mapO iv ([] : MK Int)), (gL, Obj.cells uL 110 (0, 0)), (b2, Obj.cells #[.string ⟨#[109]⟩, .slice none 0 0, .slice (some ⟨kD, 0, none⟩) 1 1] 39 (0, 0))] from h); clear h; clear y0)
  go_wp2
  refine wp_loop_rounds 2 ?_
  rw [rounds_succ]
  have y0 : W6.cell? ⟨gC, 0, none⟩ = some (iv 1) := (S6.out.cell (b := gC) (C := uC) (t := 3) (by simp) 0).trans H2.out
  go_upto_region 20 with fail
  clear y0
  have CT := Lib.hid (fun (V : World) (h : V.heap[t]? = some (Obj.cells #[.string ⟨#[109]⟩, .slice none 0 0, .slice (some ⟨kD, 0, none⟩) 1 1, .slice none 0 0, .map (some mS), vg, vn, .map (some mF), .bool false] 149 (0, 0))) => show V.cell? ⟨t, 4, none⟩ = some (.map (some mS)) from Lib.cell_of_heap h 4)
  have x13 : W6.cell? ⟨t, 4, none⟩ = some (.map (some mS)) := S6.out.cell (b := t) (C := #[.string ⟨#[109]⟩, .slice none 0 0, .slice (some ⟨kD, 0, none⟩) 1 1, .slice none 0 0, .map (some mS), vg, vn, .map (some mF), .bool false]) (t := 149) (by simp) 4
  have LKH := Lib.hid (fun V (g : Gr W6 V) => show (Instr.lookup 142 (.map (some mf)) (iv 1) false).run Tryz.prog V = .ok (.agg #[iv 0, iv 1, iv 0, .slice none 0 0]) V from (lookup_k ktI ((S6.out.gr g).mp (show (mf, mapO iv ([(1, .agg #[iv 0, iv 1, iv 0, .slice none 0 0])] : MK Int)) ∈ [(mf, mapO iv ([(1, .agg #[iv 0, iv 1, iv 0, .slice none 0 0])] : MK Int)), (t, Obj.cells #[.string ⟨#[109]⟩, .slice none 0 0, .slice (some ⟨kD, 0, none⟩) 1 1, .slice none 0 0, .map (some mS), vg, vn, .map (some mF), .bool false] 149 (0, 0)), (gC, Obj.cells uC 3 (0, 0)), (mF, mapO iv ([] : MK Int)), (mS, mapO iv ([] : MK Int)), (gL, Obj.cells uL 110 (0, 0)), (b2, Obj.cells #[.string ⟨#[109]⟩, .slice none 0 0, .slice (some ⟨kD, 0, none⟩) 1 1] 39 (0, 0))] from by simp)) (LKone (v := .agg #[iv 0, iv 1, iv 0, .slice none 0 0])) Tryz.underlying142 (z := .agg #[iv 0, iv 0, iv 0, .slice none 0 0]) (by kernel_rfl) (k := 1) (by decide)).1)
  have lk1 := LKH.out _ (gr_drew _)
  have SD := Lib.hid (show HS w W6.drew [(mf, mapO iv ([(1, .agg #[iv 0, iv 1, iv 0, .slice none 0 0])] : MK Int)), (t, Obj.cells #[.string ⟨#[109]⟩, .slice none 0 0, .slice (some ⟨kD, 0, none⟩) 1 1, .slice none 0 0, .map (some mS), vg, vn, .map (some mF), .bool false] 149 (0, 0)), (gC, Obj.cells uC 3 (0, 0)), (mF, mapO iv ([] : MK Int)), (mS, mapO iv ([] : MK Int)), (gL, Obj.cells uL 110 (0, 0)), (b2, Obj.cells #[.string ⟨#[109]⟩, .slice none 0 0, .slice (some ⟨kD, 0, none⟩) 1 1] 39 (0, 0))] from S6.out.gr (gr_drew _))
  have up : (Instr.mapUpdate 142 (.map (some mS)) (iv 1) (.agg #[iv 0, iv 1, iv 0, .slice none 0 0])).run Tryz.prog W6.drew = .ok () (setM iv W6.drew mS ([(1, .agg #[iv 0, iv 1, iv 0, .slice none 0 0])] : MK Int)) := update_k ktI (SD.out.mp (show (mS, mapO iv ([] : MK Int)) ∈ [(mf, mapO iv ([(1, .agg #[iv 0, iv 1, iv 0, .slice none 0 0])] : MK Int)), (t, Obj.cells #[.string ⟨#[109]⟩, .slice none 0 0, .slice (some ⟨kD, 0, none⟩) 1 1, .slice none 0 0, .map (some mS), vg, vn, .map (some mF), .bool false] 149 (0, 0)), (gC, Obj.cells uC 3 (0, 0)), (mF, mapO iv ([] : MK Int)), (mS, mapO iv ([] : MK Int)), (gL, Obj.cells uL 110 (0, 0)), (b2, Obj.cells #[.string ⟨#[109]⟩, .slice none 0 0, .slice (some ⟨kD, 0, none⟩) 1 1] 39 (0, 0))] from by simp)) LK.nil Tryz.underlying142 (k := 1) (by decide) (by rfl) (.agg #[iv 0, iv 1, iv 0, .slice none 0 0])
  go_region_held3 (fun V => V.cell? ⟨t, 4, none⟩ = some (.map (some mS))) (first | exact CT.out _ (SD.out.f (t, Obj.cells #[.string ⟨#[109]⟩, .slice none 0 0, .slice (some ⟨kD, 0, none⟩) 1 1, .slice none 0 0, .map (some mS), vg, vn, .map (some mF), .bool false] 149 (0, 0)) (by simp)) | exact CT.out _ ((HS.setm (pre := [(mf, mapO iv ([(1, .agg #[iv 0, iv 1, iv 0, .slice none 0 0])] : MK Int)), (t, Obj.cells #[.string ⟨#[109]⟩, .slice none 0 0, .slice (some ⟨kD, 0, none⟩) 1 1, .slice none 0 0, .map (some mS), vg, vn, .map (some mF), .bool false] 149 (0, 0)), (gC, Obj.cells uC 3 (0, 0)), (mF, mapO iv ([] : MK Int))]) (post := [(gL, Obj.cells uL 110 (0, 0)), (b2, Obj.cells #[.string ⟨#[109]⟩, .slice none 0 0, .slice (some ⟨kD, 0, none⟩) 1 1] 39 (0, 0))]) (l := ([] : MK Int)) SD.out ([(1, .agg #[iv 0, iv 1, iv 0, .slice none 0 0])] : MK Int)).f (t, Obj.cells #[.string ⟨#[109]⟩, .slice none 0 0, .slice (some ⟨kD, 0, none⟩) 1 1, .slice none 0 0, .map (some mS), vg, vn, .map (some mF), .bool false] 149 (0, 0)) (by simp)) | go_keep) (fail)
  generalize hW : setM iv W6.drew mS _ = W7
  have S7 := Lib.hid (show HS w W7 [(mf, mapO iv ([(1, .agg #[iv 0, iv 1, iv 0, .slice none 0 0])] : MK Int)), (t, Obj.cells #[.string ⟨#[109]⟩, .slice none 0 0, .slice (some ⟨kD, 0, none⟩) 1 1, .slice none 0 0, .map (some mS), vg, vn, .map (some mF), .bool false] 149 (0, 0)), (gC, Obj.cells uC 3 (0, 0)), (mF, mapO iv ([] : MK Int)), (mS, mapO iv ([(1, .agg #[iv 0, iv 1, iv 0, .slice none 0 0])] : MK Int)), (gL, Obj.cells uL 110 (0, 0)), (b2, Obj.cells #[.string ⟨#[109]⟩, .slice none 0 0, .slice (some ⟨kD, 0, none⟩) 1 1] 39 (0, 0))] from by rw [← hW]; exact HS.setm (pre := [(mf, mapO iv ([(1, .agg #[iv 0, iv 1, iv 0, .slice none 0 0])] : MK Int)), (t, Obj.cells #[.string ⟨#[109]⟩, .slice none 0 0, .slice (some ⟨kD, 0, none⟩) 1 1, .slice none 0 0, .map (some mS), vg, vn, .map (some mF), .bool false] 149 (0, 0)), (gC, Obj.cells uC 3 (0, 0)), (mF, mapO iv ([] : MK Int))]) (post := [(gL, Obj.cells uL 110 (0, 0)), (b2, Obj.cells #[.string ⟨#[109]⟩, .slice none 0 0, .slice (some ⟨kD, 0, none⟩) 1 1] 39 (0, 0))]) (l := ([] : MK Int)) SD.out ([(1, .agg #[iv 0, iv 1, iv 0, .slice none 0 0])] : MK Int))
  clear hW
  clear x13 lk1 up
  have x14 : W7.cell? ⟨b2, 2, none⟩ = some (.slice (some ⟨kD, 0, none⟩) 1 1) := S7.out.cell (b := b2) (C := #[.string ⟨#[109]⟩, .slice none 0 0, .slice (some ⟨kD, 0, none⟩) 1 1]) (t := 39) (by simp) 2
  go_wp2
  rw [rounds_succ]
  go_wp2
  rw [rounds_succ]
  go_wp2
  refine wp_loop_rounds 2 ?_
  rw [rounds_succ]
  obtain ⟨d0, d1, d2, d3, d4, d5, d6, d7, d8, d9, d10⟩ := FD.out _ S7.out.g
  obtain ⟨b21, hb21⟩ : ∃ b, W7.heap.size = b := ⟨_, rfl⟩
  go_upto_region 27 with fail
  generalize hW : World.alloc W7 _ = W8
  have S8 := Lib.hid (show HS w W8 [(b21, Obj.cells #[iv 1, iv 1, .bool true, .slice (some ⟨kN, 0, none⟩) 1 1, .bool false, iv 1, .string ⟨#[]⟩, .string ⟨#[]⟩, iv 7, iv 0, .slice none 0 0] 45 (0, 0)), (mf, mapO iv ([(1, .agg #[iv 0, iv 1, iv 0, .slice none 0 0])] : MK Int)), (t, Obj.cells #[.string ⟨#[109]⟩, .slice none 0 0, .slice (some ⟨kD, 0, none⟩) 1 1, .slice none 0 0, .map (some mS), vg, vn, .map (some mF), .bool false] 149 (0, 0)), (gC, Obj.cells uC 3 (0, 0)), (mF, mapO iv ([] : MK Int)), (mS, mapO iv ([(1, .agg #[iv 0, iv 1, iv 0, .slice none 0 0])] : MK Int)), (gL, Obj.cells uL 110 (0, 0)), (b2, Obj.cells #[.string ⟨#[109]⟩, .slice none 0 0, .slice (some ⟨kD, 0, none⟩) 1 1] 39 (0, 0))] from by rw [← hW]; exact S7.out.alloc hb21 _)
  clear hW
  have Hb21 := Lib.hid hb21
  clear hb21
  clear x14 d0 d1 d2 d3 d4 d5 d6 d7 d8 d9 d10
  have CT2 := Lib.hid (fun (V : World) (g : Gr W8 V) => show (fun V => (V.cell? ⟨b21, 0, none⟩ = some (iv 1) ∧ V.cell? ⟨b21, 3, none⟩ = some (.slice (some ⟨kN, 0, none⟩) 1 1)) ∧ V.cell? ⟨kN, 0, none⟩ = some (.string ⟨#[102]⟩) ∧ V.cell? ⟨t, 4, none⟩ = some (.map (some mS))) V from ⟨⟨Lib.cell_of_heap (gr_h g (S8.out.f (b21, Obj.cells #[iv 1, iv 1, .bool true, .slice (some ⟨kN, 0, none⟩) 1 1, .bool false, iv 1, .string ⟨#[]⟩, .string ⟨#[]⟩, iv 7, iv 0, .slice none 0 0] 45 (0, 0)) (by simp))) 0, Lib.cell_of_heap (gr_h g (S8.out.f (b21, Obj.cells #[iv 1, iv 1, .bool true, .slice (some ⟨kN, 0, none⟩) 1 1, .bool false, iv 1, .string ⟨#[]⟩, .string ⟨#[]⟩, iv 7, iv 0, .slice none 0 0] 45 (0, 0)) (by simp))) 3⟩, FN.out _ (S8.out.g.trans g), Lib.cell_of_heap (gr_h g (S8.out.f (t, Obj.cells #[.string ⟨#[109]⟩, .slice none 0 0, .slice (some ⟨kD, 0, none⟩) 1 1, .slice none 0 0, .map (some mS), vg, vn, .map (some mF), .bool false] 149 (0, 0)) (by simp))) 4⟩)
  obtain ⟨⟨e0, e3⟩, en, et⟩ := CT2.out _ (gr_refl _)
  have LKI := Lib.hid (fun V (g : Gr W8 V) => show (Instr.lookup 142 (.map (some mS)) (iv 1) false).run Tryz.prog V = .ok (.agg #[iv 0, iv 1, iv 0, .slice none 0 0]) V from (lookup_k ktI ((S8.out.gr g).mp (show (mS, mapO iv ([(1, .agg #[iv 0, iv 1, iv 0, .slice none 0 0])] : MK Int)) ∈ [(b21, Obj.cells #[iv 1, iv 1, .bool true, .slice (some ⟨kN, 0, none⟩) 1 1, .bool false, iv 1, .string ⟨#[]⟩, .string ⟨#[]⟩, iv 7, iv 0, .slice none 0 0] 45 (0, 0)), (mf, mapO iv ([(1, .agg #[iv 0, iv 1, iv 0, .slice none 0 0])] : MK Int)), (t, Obj.cells #[.string ⟨#[109]⟩, .slice none 0 0, .slice (some ⟨kD, 0, none⟩) 1 1, .slice none 0 0, .map (some mS), vg, vn, .map (some mF), .bool false] 149 (0, 0)), (gC, Obj.cells uC 3 (0, 0)), (mF, mapO iv ([] : MK Int)), (mS, mapO iv ([(1, .agg #[iv 0, iv 1, iv 0, .slice none 0 0])] : MK Int)), (gL, Obj.cells uL 110 (0, 0)), (b2, Obj.cells #[.string ⟨#[109]⟩, .slice none 0 0, .slice (some ⟨kD, 0, none⟩) 1 1] 39 (0, 0))] from by simp)) (LKone (v := .agg #[iv 0, iv 1, iv 0, .slice none 0 0])) Tryz.underlying142 (z := .agg #[iv 0, iv 0, iv 0, .slice none 0 0]) (by kernel_rfl) (k := 1) (by decide)).1)
  have lk1 := LKI.out _ (gr_drew _)
  go_region_held3 (fun V => (V.cell? ⟨b21, 0, none⟩ = some (iv 1) ∧ V.cell? ⟨b21, 3, none⟩ = some (.slice (some ⟨kN, 0, none⟩) 1 1)) ∧ V.cell? ⟨kN, 0, none⟩ = some (.string ⟨#[102]⟩) ∧ V.cell? ⟨t, 4, none⟩ = some (.map (some mS))) (first | exact CT2.out _ (by repeat' (first | exact gr_refl _ | refine gr_tj ?_ (gr_drew _) | refine gr_tj ?_ (gr_al _ _))) | go_keep) (fail)
  generalize hcS : Question.cut (Question.appendCap 1 0 68) _ = cS
  generalize hz : Builtin.zeroCells _ _ = uz
  clear hcS hz e0 e3 en et lk1
  refine HSgo (w0 := w) (L := [(W8.heap.size + 1, Obj.cells (#[iv 1, .string ⟨#[102]⟩, iv 0, iv 1, iv 0, .slice none 0 0] ++ uz) 68 (0, 0)), (W8.heap.size, Obj.cells #[iv 1, .string ⟨#[102]⟩, iv 0, iv 1, iv 0, .slice none 0 0] 68 (0, 0)), (b21, Obj.cells #[iv 1, iv 1, .bool true, .slice (some ⟨kN, 0, none⟩) 1 1, .bool false, iv 1, .string ⟨#[]⟩, .string ⟨#[]⟩, iv 7, iv 0, .slice none 0 0] 45 (0, 0)), (mf, mapO iv ([(1, .agg #[iv 0, iv 1, iv 0, .slice none 0 0])] : MK Int)), (t, Obj.cells #[.string ⟨#[109]⟩, .slice none 0 0, .slice (some ⟨kD, 0, none⟩) 1 1, .slice none 0 0, .map (some mS), vg, vn, .map (some mF), .bool false] 149 (0, 0)), (gC, Obj.cells uC 3 (0, 0)), (mF, mapO iv ([] : MK Int)), (mS, mapO iv ([(1, .agg #[iv 0, iv 1, iv 0, .slice none 0 0])] : MK Int)), (gL, Obj.cells uL 110 (0, 0)), (b2, Obj.cells #[.string ⟨#[109]⟩, .slice none 0 0, .slice (some ⟨kD, 0, none⟩) 1 1] 39 (0, 0))]) ((((S8.out.alloc rfl _).alloc (by simp) _).gr (gr_drew _)).gr (gr_drew _)) ?_
  intro WF SF0
  have SF := Lib.hid SF0
  clear SF0
  generalize W8.heap.size + 1 = gS at SF ⊢
  go_wp2
  rw [rounds_succ]
  go_wp2
  go_ret3
  exact ⟨gS, cS, #[iv 1, .string ⟨#[102]⟩, iv 0, iv 1, iv 0, .slice none 0 0] ++ uz, rfl, SF.out.sub (by simp) (by simp), sig_row uz⟩
end Go.Proofs.YtiaenhlflgobfaaGreatDoor
namespace Go.Proofs.YtiaenhlflgobfaaGreatDoor
open Go.RowKit Go.Maps
def sgcs (_ : Unit) : List Value := sigL
theorem elSg : EL 49 68 6 sgcs := ⟨fun _ => rfl, (fun _ u hu => by simp only [sgcs, sigL, List.mem_cons, List.not_mem_nil, or_false] at hu; rcases hu with rfl | rfl | rfl | rfl | rfl | rfl <;> rfl), Tryz.underlying49, ⟨.agg #[iv 0, .string ⟨#[]⟩, iv 0, iv 0, iv 0, .slice none 0 0], 72, by kernel_rfl, rfl, by decide⟩, by decide⟩
set_option maxRecDepth 100000 in
set_option maxHeartbeats 4000000 in
attribute [local irreducible] Calls in
theorem of_a (kN kD : Nat) (w : World) (hN : w.heap[kN]? = some (.cells #[.string ⟨#[102]⟩] 9 (0, 0))) (hD : w.heap[kD]? = some (.cells #[iv 1, iv 1, .bool true, .slice (some ⟨kN, 0, none⟩) 1 1, .bool false, iv 1, .string ⟨#[]⟩, .string ⟨#[]⟩, iv 7, iv 0, .slice none 0 0] 45 (0, 0))) : Calls Tryz.prog 16 #[.agg #[.string ⟨#[109]⟩, .slice none 0 0, .slice (some ⟨kD, 0, none⟩) 1 1], .slice none 0 0] w fun e w' => ∃ gX cX uX, e = .returned (.tuple #[.agg #[.string ⟨#[109]⟩, .slice (some ⟨gX, 0, none⟩) 1 cX], iv 0]) ∧ HS w w' [(gX, .cells uX 68 (0, 0))] ∧ ∀ (i : Nat) v, sigL[i]? = some v → uX[i]? = some v := by
  have FD := Lib.hid (fun V (g : Gr w V) => boxD (gr_h g hD))
  have C37 := Lib.hid (fun V (g : Gr w V) => module_a kN kD V (gr_h g hN) (gr_h g hD))
  clear hN hD
  have S0 := Lib.hid (HS.nil (w0 := w))
  go_enter Tryz.func16, Tryz.ntmps16
  obtain ⟨b2, hb2⟩ : ∃ b, w.heap.size = b := ⟨_, rfl⟩
  go_upto_region 1 with fail
  refine HSgo (w0 := w) (L := [(b2 + 1, Obj.cells #[.string ⟨#[]⟩, .slice none 0 0] 51 (0, 0)), (b2, Obj.cells #[.string ⟨#[109]⟩, .slice none 0 0, .slice (some ⟨kD, 0, none⟩) 1 1] 39 (0, 0))]) (by repeat' (first | exact HS.nil | refine HS.alloc ?_ (by simp [hb2]) _)) ?_
  intro W1 S1
  clear hb2
  generalize b2 + 1 = b4 at S1 ⊢
  have S1 := Lib.hid S1
  have x1 : W1.cell? ⟨b2, 0, none⟩ = some (.string ⟨#[109]⟩) := S1.out.cell (b := b2) (C := #[.string ⟨#[109]⟩, .slice none 0 0, .slice (some ⟨kD, 0, none⟩) 1 1]) (t := 39) (by simp) 0
  have x2 : W1.cell? ⟨b2, 1, none⟩ = some (.slice none 0 0) := S1.out.cell (b := b2) (C := #[.string ⟨#[109]⟩, .slice none 0 0, .slice (some ⟨kD, 0, none⟩) 1 1]) (t := 39) (by simp) 1
  have x3 : W1.cell? ⟨b2, 2, none⟩ = some (.slice (some ⟨kD, 0, none⟩) 1 1) := S1.out.cell (b := b2) (C := #[.string ⟨#[109]⟩, .slice none 0 0, .slice (some ⟨kD, 0, none⟩) 1 1]) (t := 39) (by simp) 2
  go_upto_region 4 with (go_at_call 37; (with_reducible refine (C37.out _ S1.out.g).mono ?_); rintro e W2 ⟨gS, cS, uS, rfl, h, h1⟩; have S2 := Lib.hid (show HS w W2 [(gS, Obj.cells uS 68 (0, 0)), (b4, Obj.cells #[.string ⟨#[]⟩, .slice none 0 0] 51 (0, 0)), (b2, Obj.cells #[.string ⟨#[109]⟩, .slice none 0 0, .slice (some ⟨kD, 0, none⟩) 1 1] 39 (0, 0))] from S1.out.more h); have HS1 := Lib.hid h1; clear h h1 x1 x2 x3)
  have x4 : W2.cell? ⟨b2, 0, none⟩ = some (.string ⟨#[109]⟩) := S2.out.cell (b := b2) (C := #[.string ⟨#[109]⟩, .slice none 0 0, .slice (some ⟨kD, 0, none⟩) 1 1]) (t := 39) (by simp) 0
  obtain ⟨b9, hb9⟩ : ∃ b, W2.heap.size = b := ⟨_, rfl⟩
  go_upto_region 5 with fail
  generalize hW : World.alloc W2 _ = W3
  have S3 := Lib.hid (show HS w W3 [(b9, Obj.cells #[.string ⟨#[109]⟩, .slice none 0 0] 51 (0, 0)), (gS, Obj.cells uS 68 (0, 0)), (b4, Obj.cells #[.string ⟨#[]⟩, .slice none 0 0] 51 (0, 0)), (b2, Obj.cells #[.string ⟨#[109]⟩, .slice none 0 0, .slice (some ⟨kD, 0, none⟩) 1 1] 39 (0, 0))] from by rw [← hW]; exact S2.out.alloc hb9 _)
  clear hW
  have Hb9 := Lib.hid hb9
  clear hb9
  clear x4
  have x5 : W3.cell? ⟨b2, 2, none⟩ = some (.slice (some ⟨kD, 0, none⟩) 1 1) := S3.out.cell (b := b2) (C := #[.string ⟨#[109]⟩, .slice none 0 0, .slice (some ⟨kD, 0, none⟩) 1 1]) (t := 39) (by simp) 2
  go_wp2
  refine wp_loop_rounds 2 ?_
  rw [rounds_succ]
  obtain ⟨d0, d1, d2, d3, d4, d5, d6, d7, d8, d9, d10⟩ := FD.out _ S3.out.g
  obtain ⟨b11, hb11⟩ : ∃ b, W3.heap.size = b := ⟨_, rfl⟩
  go_upto_region 8 with fail
  generalize hW : World.alloc W3 _ = W4
  have S4 := Lib.hid (show HS w W4 [(b11, Obj.cells #[iv 1, iv 1, .bool true, .slice (some ⟨kN, 0, none⟩) 1 1, .bool false, iv 1, .string ⟨#[]⟩, .string ⟨#[]⟩, iv 7, iv 0, .slice none 0 0] 45 (0, 0)), (b9, Obj.cells #[.string ⟨#[109]⟩, .slice none 0 0] 51 (0, 0)), (gS, Obj.cells uS 68 (0, 0)), (b4, Obj.cells #[.string ⟨#[]⟩, .slice none 0 0] 51 (0, 0)), (b2, Obj.cells #[.string ⟨#[109]⟩, .slice none 0 0, .slice (some ⟨kD, 0, none⟩) 1 1] 39 (0, 0))] from by rw [← hW]; exact S3.out.alloc hb11 _)
  clear hW
  have Hb11 := Lib.hid hb11
  clear hb11
  clear x5 d0 d1 d2 d3 d4 d5 d6 d7 d8 d9 d10
  have x6 : W4.cell? ⟨b11, 2, none⟩ = some (.bool true) := S4.out.cell (b := b11) (C := #[iv 1, iv 1, .bool true, .slice (some ⟨kN, 0, none⟩) 1 1, .bool false, iv 1, .string ⟨#[]⟩, .string ⟨#[]⟩, iv 7, iv 0, .slice none 0 0]) (t := 45) (by simp) 2
  go_upto_region 9 with fail
  clear x6
  have CT := Lib.hid (fun (V : World) (h : V.heap[gS]? = some (Obj.cells uS 68 (0, 0))) => show (fun V => V.cell? ⟨gS, 0, none⟩ = some (iv 1) ∧ V.cell? ⟨gS, 1, none⟩ = some (.string ⟨#[102]⟩) ∧ V.cell? ⟨gS, 2, none⟩ = some (iv 0) ∧ V.cell? ⟨gS, 3, none⟩ = some (iv 1) ∧ V.cell? ⟨gS, 4, none⟩ = some (iv 0) ∧ V.cell? ⟨gS, 5, none⟩ = some (.slice none 0 0)) V from ⟨(Lib.cell_of_heap h 0).trans (HS1.out 0 _ rfl), (Lib.cell_of_heap h 1).trans (HS1.out 1 _ rfl), (Lib.cell_of_heap h 2).trans (HS1.out 2 _ rfl), (Lib.cell_of_heap h 3).trans (HS1.out 3 _ rfl), (Lib.cell_of_heap h 4).trans (HS1.out 4 _ rfl), (Lib.cell_of_heap h 5).trans (HS1.out 5 _ rfl)⟩)
  obtain ⟨e0, e1, e2, e3, e4, e5⟩ := CT.out _ (S4.out.f (gS, Obj.cells uS 68 (0, 0)) (by simp))
  have e9 : W4.cell? ⟨b9, 1, none⟩ = some (.slice none 0 0) := S4.out.cell (show (b9, Obj.cells #[.string ⟨#[109]⟩, .slice none 0 0] 51 (0, 0)) ∈ [(b11, Obj.cells #[iv 1, iv 1, .bool true, .slice (some ⟨kN, 0, none⟩) 1 1, .bool false, iv 1, .string ⟨#[]⟩, .string ⟨#[]⟩, iv 7, iv 0, .slice none 0 0] 45 (0, 0)), (b9, Obj.cells #[.string ⟨#[109]⟩, .slice none 0 0] 51 (0, 0)), (gS, Obj.cells uS 68 (0, 0)), (b4, Obj.cells #[.string ⟨#[]⟩, .slice none 0 0] 51 (0, 0)), (b2, Obj.cells #[.string ⟨#[109]⟩, .slice none 0 0, .slice (some ⟨kD, 0, none⟩) 1 1] 39 (0, 0))] from by simp) 1
  have e9a : ∀ o, (W4.alloc o).cell? ⟨b9, 1, none⟩ = some (.slice none 0 0) := fun o => gr_c (gr_al _ o) e9
  go_region_law (first | (refine step_app elSg rfl (.tmp 37) (.tmp 42) rfl W4.heap.size (v := .slice none 0 0) rfl OR.nil (A := some ⟨_, 0, none⟩) (M := [()]) (m := 1) (c := 1) rfl rfl (rd_cells (t := 68) (cs := sgcs) (fun _ => rfl) (by first | exact al_new _ _ | exact gr_h (gr_drew _) (al_new _ _))) (by simp) ((show Gr W4 _ from (by repeat' (first | exact gr_refl _ | refine gr_tj ?_ (gr_drew _) | refine gr_tj ?_ (gr_al _ _)))).size) ?_; intro vq wq oq gq bq; obtain ⟨gX, cX, uX, rfl, hb, hf, hc, hcm, hu, hz⟩ := row1 oq rfl; have SX := Lib.hid (show HS w wq [(gX, Obj.cells uX 68 (0, 0)), (b11, Obj.cells #[iv 1, iv 1, .bool true, .slice (some ⟨kN, 0, none⟩) 1 1, .bool false, iv 1, .string ⟨#[]⟩, .string ⟨#[]⟩, iv 7, iv 0, .slice none 0 0] 45 (0, 0)), (b9, Obj.cells #[.string ⟨#[109]⟩, .slice none 0 0] 51 (0, 0)), (gS, Obj.cells uS 68 (0, 0)), (b4, Obj.cells #[.string ⟨#[]⟩, .slice none 0 0] 51 (0, 0)), (b2, Obj.cells #[.string ⟨#[109]⟩, .slice none 0 0, .slice (some ⟨kD, 0, none⟩) 1 1] 39 (0, 0))] from S4.out.row ((show Gr W4 _ from (by repeat' (first | exact gr_refl _ | refine gr_tj ?_ (gr_drew _) | refine gr_tj ?_ (gr_al _ _)))).trans gq) hb hf); have HuX := Lib.hid hu; have HcX := Lib.hid (And.intro hc hcm); have f9 := SX.out.frz (show (b9, Obj.cells #[.string ⟨#[109]⟩, .slice none 0 0] 51 (0, 0)) ∈ [(gX, Obj.cells uX 68 (0, 0)), (b11, Obj.cells #[iv 1, iv 1, .bool true, .slice (some ⟨kN, 0, none⟩) 1 1, .bool false, iv 1, .string ⟨#[]⟩, .string ⟨#[]⟩, iv 7, iv 0, .slice none 0 0] 45 (0, 0)), (b9, Obj.cells #[.string ⟨#[109]⟩, .slice none 0 0] 51 (0, 0)), (gS, Obj.cells uS 68 (0, 0)), (b4, Obj.cells #[.string ⟨#[]⟩, .slice none 0 0] 51 (0, 0)), (b2, Obj.cells #[.string ⟨#[109]⟩, .slice none 0 0, .slice (some ⟨kD, 0, none⟩) 1 1] 39 (0, 0))] from by simp); have e9b : wq.cell? ⟨b9, 1, none⟩ = some (.slice none 0 0) := SX.out.cell (show (b9, Obj.cells #[.string ⟨#[109]⟩, .slice none 0 0] 51 (0, 0)) ∈ [(gX, Obj.cells uX 68 (0, 0)), (b11, Obj.cells #[iv 1, iv 1, .bool true, .slice (some ⟨kN, 0, none⟩) 1 1, .bool false, iv 1, .string ⟨#[]⟩, .string ⟨#[]⟩, iv 7, iv 0, .slice none 0 0] 45 (0, 0)), (b9, Obj.cells #[.string ⟨#[109]⟩, .slice none 0 0] 51 (0, 0)), (gS, Obj.cells uS 68 (0, 0)), (b4, Obj.cells #[.string ⟨#[]⟩, .slice none 0 0] 51 (0, 0)), (b2, Obj.cells #[.string ⟨#[109]⟩, .slice none 0 0, .slice (some ⟨kD, 0, none⟩) 1 1] 39 (0, 0))] from by simp) 1; clear oq gq bq hb hf hc hcm hu hz))
  all_goals generalize hW : World.setCell wq _ _ = WZ
  all_goals have SZ := Lib.hid (show HS w WZ [(gX, Obj.cells uX 68 (0, 0)), (b11, Obj.cells #[iv 1, iv 1, .bool true, .slice (some ⟨kN, 0, none⟩) 1 1, .bool false, iv 1, .string ⟨#[]⟩, .string ⟨#[]⟩, iv 7, iv 0, .slice none 0 0] 45 (0, 0)), (b9, Obj.cells #[.string ⟨#[109]⟩, .slice (some ⟨gX, 0, none⟩) 1 cX] 51 (0, 0)), (gS, Obj.cells uS 68 (0, 0)), (b4, Obj.cells #[.string ⟨#[]⟩, .slice none 0 0] 51 (0, 0)), (b2, Obj.cells #[.string ⟨#[109]⟩, .slice none 0 0, .slice (some ⟨kD, 0, none⟩) 1 1] 39 (0, 0))] from by rw [← hW]; exact (HS.setc (pre := [(gX, Obj.cells uX 68 (0, 0)), (b11, Obj.cells #[iv 1, iv 1, .bool true, .slice (some ⟨kN, 0, none⟩) 1 1, .bool false, iv 1, .string ⟨#[]⟩, .string ⟨#[]⟩, iv 7, iv 0, .slice none 0 0] 45 (0, 0))]) (post := [(gS, Obj.cells uS 68 (0, 0)), (b4, Obj.cells #[.string ⟨#[]⟩, .slice none 0 0] 51 (0, 0)), (b2, Obj.cells #[.string ⟨#[109]⟩, .slice none 0 0, .slice (some ⟨kD, 0, none⟩) 1 1] 39 (0, 0))]) SX.out 1 (.slice (some ⟨gX, 0, none⟩) 1 cX)))
  all_goals clear hW e0 e1 e2 e3 e4 e5 e9 e9a
  all_goals have z0 : WZ.cell? ⟨b9, 0, none⟩ = some (.string ⟨#[109]⟩) := SZ.out.cell (show (b9, Obj.cells #[.string ⟨#[109]⟩, .slice (some ⟨gX, 0, none⟩) 1 cX] 51 (0, 0)) ∈ [(gX, Obj.cells uX 68 (0, 0)), (b11, Obj.cells #[iv 1, iv 1, .bool true, .slice (some ⟨kN, 0, none⟩) 1 1, .bool false, iv 1, .string ⟨#[]⟩, .string ⟨#[]⟩, iv 7, iv 0, .slice none 0 0] 45 (0, 0)), (b9, Obj.cells #[.string ⟨#[109]⟩, .slice (some ⟨gX, 0, none⟩) 1 cX] 51 (0, 0)), (gS, Obj.cells uS 68 (0, 0)), (b4, Obj.cells #[.string ⟨#[]⟩, .slice none 0 0] 51 (0, 0)), (b2, Obj.cells #[.string ⟨#[109]⟩, .slice none 0 0, .slice (some ⟨kD, 0, none⟩) 1 1] 39 (0, 0))] from by simp) 0
  all_goals have z1 : WZ.cell? ⟨b9, 1, none⟩ = some (.slice (some ⟨gX, 0, none⟩) 1 cX) := SZ.out.cell (show (b9, Obj.cells #[.string ⟨#[109]⟩, .slice (some ⟨gX, 0, none⟩) 1 cX] 51 (0, 0)) ∈ [(gX, Obj.cells uX 68 (0, 0)), (b11, Obj.cells #[iv 1, iv 1, .bool true, .slice (some ⟨kN, 0, none⟩) 1 1, .bool false, iv 1, .string ⟨#[]⟩, .string ⟨#[]⟩, iv 7, iv 0, .slice none 0 0] 45 (0, 0)), (b9, Obj.cells #[.string ⟨#[109]⟩, .slice (some ⟨gX, 0, none⟩) 1 cX] 51 (0, 0)), (gS, Obj.cells uS 68 (0, 0)), (b4, Obj.cells #[.string ⟨#[]⟩, .slice none 0 0] 51 (0, 0)), (b2, Obj.cells #[.string ⟨#[109]⟩, .slice none 0 0, .slice (some ⟨kD, 0, none⟩) 1 1] 39 (0, 0))] from by simp) 1
  all_goals have z2 : WZ.cell? ⟨b4, 0, none⟩ = some (.string ⟨#[]⟩) := SZ.out.cell (show (b4, Obj.cells #[.string ⟨#[]⟩, .slice none 0 0] 51 (0, 0)) ∈ [(gX, Obj.cells uX 68 (0, 0)), (b11, Obj.cells #[iv 1, iv 1, .bool true, .slice (some ⟨kN, 0, none⟩) 1 1, .bool false, iv 1, .string ⟨#[]⟩, .string ⟨#[]⟩, iv 7, iv 0, .slice none 0 0] 45 (0, 0)), (b9, Obj.cells #[.string ⟨#[109]⟩, .slice (some ⟨gX, 0, none⟩) 1 cX] 51 (0, 0)), (gS, Obj.cells uS 68 (0, 0)), (b4, Obj.cells #[.string ⟨#[]⟩, .slice none 0 0] 51 (0, 0)), (b2, Obj.cells #[.string ⟨#[109]⟩, .slice none 0 0, .slice (some ⟨kD, 0, none⟩) 1 1] 39 (0, 0))] from by simp) 0
  all_goals have z3 : WZ.cell? ⟨b4, 1, none⟩ = some (.slice none 0 0) := SZ.out.cell (show (b4, Obj.cells #[.string ⟨#[]⟩, .slice none 0 0] 51 (0, 0)) ∈ [(gX, Obj.cells uX 68 (0, 0)), (b11, Obj.cells #[iv 1, iv 1, .bool true, .slice (some ⟨kN, 0, none⟩) 1 1, .bool false, iv 1, .string ⟨#[]⟩, .string ⟨#[]⟩, iv 7, iv 0, .slice none 0 0] 45 (0, 0)), (b9, Obj.cells #[.string ⟨#[109]⟩, .slice (some ⟨gX, 0, none⟩) 1 cX] 51 (0, 0)), (gS, Obj.cells uS 68 (0, 0)), (b4, Obj.cells #[.string ⟨#[]⟩, .slice none 0 0] 51 (0, 0)), (b2, Obj.cells #[.string ⟨#[109]⟩, .slice none 0 0, .slice (some ⟨kD, 0, none⟩) 1 1] 39 (0, 0))] from by simp) 1
  all_goals have z4 := SZ.out.frz (show (b4, Obj.cells #[.string ⟨#[]⟩, .slice none 0 0] 51 (0, 0)) ∈ [(gX, Obj.cells uX 68 (0, 0)), (b11, Obj.cells #[iv 1, iv 1, .bool true, .slice (some ⟨kN, 0, none⟩) 1 1, .bool false, iv 1, .string ⟨#[]⟩, .string ⟨#[]⟩, iv 7, iv 0, .slice none 0 0] 45 (0, 0)), (b9, Obj.cells #[.string ⟨#[109]⟩, .slice (some ⟨gX, 0, none⟩) 1 cX] 51 (0, 0)), (gS, Obj.cells uS 68 (0, 0)), (b4, Obj.cells #[.string ⟨#[]⟩, .slice none 0 0] 51 (0, 0)), (b2, Obj.cells #[.string ⟨#[109]⟩, .slice none 0 0, .slice (some ⟨kD, 0, none⟩) 1 1] 39 (0, 0))] from by simp)
  all_goals go_wp2
  all_goals rw [rounds_succ]
  all_goals go_wp2
  all_goals have SY := Lib.hid (show HS w ((WZ.setCell ⟨b4, 0, none⟩ (.string ⟨#[109]⟩)).setCell ⟨b4, 1, none⟩ (.slice (some ⟨gX, 0, none⟩) 1 cX)) [(gX, Obj.cells uX 68 (0, 0)), (b11, Obj.cells #[iv 1, iv 1, .bool true, .slice (some ⟨kN, 0, none⟩) 1 1, .bool false, iv 1, .string ⟨#[]⟩, .string ⟨#[]⟩, iv 7, iv 0, .slice none 0 0] 45 (0, 0)), (b9, Obj.cells #[.string ⟨#[109]⟩, .slice (some ⟨gX, 0, none⟩) 1 cX] 51 (0, 0)), (gS, Obj.cells uS 68 (0, 0)), (b4, Obj.cells #[.string ⟨#[109]⟩, .slice (some ⟨gX, 0, none⟩) 1 cX] 51 (0, 0)), (b2, Obj.cells #[.string ⟨#[109]⟩, .slice none 0 0, .slice (some ⟨kD, 0, none⟩) 1 1] 39 (0, 0))] from (HS.setc (pre := [(gX, Obj.cells uX 68 (0, 0)), (b11, Obj.cells #[iv 1, iv 1, .bool true, .slice (some ⟨kN, 0, none⟩) 1 1, .bool false, iv 1, .string ⟨#[]⟩, .string ⟨#[]⟩, iv 7, iv 0, .slice none 0 0] 45 (0, 0)), (b9, Obj.cells #[.string ⟨#[109]⟩, .slice (some ⟨gX, 0, none⟩) 1 cX] 51 (0, 0)), (gS, Obj.cells uS 68 (0, 0))]) (post := [(b2, Obj.cells #[.string ⟨#[109]⟩, .slice none 0 0, .slice (some ⟨kD, 0, none⟩) 1 1] 39 (0, 0))]) (HS.setc (pre := [(gX, Obj.cells uX 68 (0, 0)), (b11, Obj.cells #[iv 1, iv 1, .bool true, .slice (some ⟨kN, 0, none⟩) 1 1, .bool false, iv 1, .string ⟨#[]⟩, .string ⟨#[]⟩, iv 7, iv 0, .slice none 0 0] 45 (0, 0)), (b9, Obj.cells #[.string ⟨#[109]⟩, .slice (some ⟨gX, 0, none⟩) 1 cX] 51 (0, 0)), (gS, Obj.cells uS 68 (0, 0))]) (post := [(b2, Obj.cells #[.string ⟨#[109]⟩, .slice none 0 0, .slice (some ⟨kD, 0, none⟩) 1 1] 39 (0, 0))]) SZ.out 0 (.string ⟨#[109]⟩)) 1 (.slice (some ⟨gX, 0, none⟩) 1 cX)))
  all_goals exact bodyPost_ret (results_row_tmp (P := Tryz.prog) rfl _ _ b4 _ _ _ _ rfl rfl (SY.out.f (b4, Obj.cells #[.string ⟨#[109]⟩, .slice (some ⟨gX, 0, none⟩) 1 cX] 51 (0, 0)) (by simp)) rfl rfl rfl) rfl ⟨gX, cX, uX, rfl, SY.out.sub (by simp) (by simp), HuX.out⟩
end Go.Proofs.YtiaenhlflgobfaaGreatDoor

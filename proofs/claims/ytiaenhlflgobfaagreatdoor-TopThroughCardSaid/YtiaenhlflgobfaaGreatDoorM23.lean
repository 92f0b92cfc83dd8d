/- Walks and words: AwM, Ivt, LwP, LawT. -/
import Derived.Test.YtiaenhlflgobfaaGreatDoorM19
import Derived.Test.YtiaenhlflgobfaaGreatDoorM20
import Derived.Test.YtiaenhlflgobfaaGreatDoorCaT
import Derived.Test.YtiaenhlflgobfaaGreatDoorDif
import Derived.Test.YtiaenhlflgobfaaGreatDoorM22
namespace Go.Proofs.YtiaenhlflgobfaaGreatDoor
open Go.RowKit Go.Maps
theorem aw_nil : oks.Mods [] := ⟨.nil, by simp⟩
theorem aw_one (kN kD : Nat) : oks.Mods ([aM kN kD].map Mod.er) := ⟨List.pairwise_singleton _ _, fun m hm => by
  rw [List.map_cons, List.map_nil] at hm
  rw [List.mem_singleton.1 hm]
  exact (ckM_zero _).1 (aM_ok kN kD)⟩
theorem aw_two (kN kD : Nat) : (diffP (([] : List Mod).map Mod.er) ([aM kN kD].map Mod.er)).length = 2 := by
  simp [diffP, pairs, addE, remE, useE, declE, zM, Mod.er, aM]
set_option maxRecDepth 100000 in
set_option maxHeartbeats 4000000 in
attribute [local irreducible] Calls in
theorem awake_any (w : World) : Calls Tryz.prog 7 #[] w fun e w' => e = .returned (.bool true) ∧ Gr w w' := by
  have S0 := Lib.hid (HS.nil (w0 := w))
  obtain ⟨kN, hb⟩ : ∃ b, w.heap.size = b := ⟨_, rfl⟩
  go_enter Tryz.func7, Tryz.ntmps7
  go_upto_region 2 with fail
  refine HSgo (w0 := w) (L := [(kN + 1 + 1, Obj.cells #[.string ⟨#[109]⟩, .slice none 0 0, .slice (some ⟨kN + 1, 0, none⟩) 1 1] 39 (0, 0)), (kN + 1, Obj.cells #[iv 1, iv 1, .bool true, .slice (some ⟨kN, 0, none⟩) 1 1, .bool false, iv 1, .string ⟨#[]⟩, .string ⟨#[]⟩, iv 7, iv 0, .slice none 0 0] 45 (0, 0)), (kN, Obj.cells #[.string ⟨#[102]⟩] 9 (0, 0))]) (by repeat' (first | exact HS.nil | refine HS.alloc ?_ (by simp [hb]) _)) ?_
  intro W1 S1
  clear hb
  generalize kN + 1 = kD at S1 ⊢
  generalize kD + 1 = b1 at S1 ⊢
  have S1 := Lib.hid S1
  have x1 : W1.cell? ⟨b1, 0, none⟩ = some (.string ⟨#[109]⟩) := S1.out.cell (b := b1) (C := #[.string ⟨#[109]⟩, .slice none 0 0, .slice (some ⟨kD, 0, none⟩) 1 1]) (t := 39) (by simp) 0
  have x2 : W1.cell? ⟨b1, 1, none⟩ = some (.slice none 0 0) := S1.out.cell (b := b1) (C := #[.string ⟨#[109]⟩, .slice none 0 0, .slice (some ⟨kD, 0, none⟩) 1 1]) (t := 39) (by simp) 1
  have x3 : W1.cell? ⟨b1, 2, none⟩ = some (.slice (some ⟨kD, 0, none⟩) 1 1) := S1.out.cell (b := b1) (C := #[.string ⟨#[109]⟩, .slice none 0 0, .slice (some ⟨kD, 0, none⟩) 1 1]) (t := 39) (by simp) 2
  have C16 := Lib.hid (of_a kN kD W1 (S1.out.f (kN, Obj.cells #[.string ⟨#[102]⟩] 9 (0, 0)) (by simp)) (S1.out.f (kD, Obj.cells #[iv 1, iv 1, .bool true, .slice (some ⟨kN, 0, none⟩) 1 1, .bool false, iv 1, .string ⟨#[]⟩, .string ⟨#[]⟩, iv 7, iv 0, .slice none 0 0] 45 (0, 0)) (by simp)))
  go_upto_region 3 with (go_at_call 16; (with_reducible refine (C16.out).mono ?_); rintro e W2 ⟨gX, cX, uX, rfl, h, h1⟩; have S2 := Lib.hid (show HS w W2 [(gX, Obj.cells uX 68 (0, 0)), (b1, Obj.cells #[.string ⟨#[109]⟩, .slice none 0 0, .slice (some ⟨kD, 0, none⟩) 1 1] 39 (0, 0)), (kD, Obj.cells #[iv 1, iv 1, .bool true, .slice (some ⟨kN, 0, none⟩) 1 1, .bool false, iv 1, .string ⟨#[]⟩, .string ⟨#[]⟩, iv 7, iv 0, .slice none 0 0] 45 (0, 0)), (kN, Obj.cells #[.string ⟨#[102]⟩] 9 (0, 0))] from S1.out.more h); have HuX := Lib.hid h1; clear h h1 x1 x2 x3; obtain ⟨b2, hb2⟩ : ∃ b, W2.heap.size = b := ⟨_, rfl⟩)
  generalize hW : World.alloc W2 _ = W3
  have S3 := Lib.hid (show HS w W3 [(b2, Obj.cells #[.string ⟨#[109]⟩, .slice (some ⟨gX, 0, none⟩) 1 cX] 51 (0, 0)), (gX, Obj.cells uX 68 (0, 0)), (b1, Obj.cells #[.string ⟨#[109]⟩, .slice none 0 0, .slice (some ⟨kD, 0, none⟩) 1 1] 39 (0, 0)), (kD, Obj.cells #[iv 1, iv 1, .bool true, .slice (some ⟨kN, 0, none⟩) 1 1, .bool false, iv 1, .string ⟨#[]⟩, .string ⟨#[]⟩, iv 7, iv 0, .slice none 0 0] 45 (0, 0)), (kN, Obj.cells #[.string ⟨#[102]⟩] 9 (0, 0))] from by rw [← hW]; exact S2.out.alloc hb2 _)
  clear hW
  have Hb2 := Lib.hid hb2
  clear hb2
  have x4 : W3.cell? ⟨b1, 0, none⟩ = some (.string ⟨#[109]⟩) := S3.out.cell (b := b1) (C := #[.string ⟨#[109]⟩, .slice none 0 0, .slice (some ⟨kD, 0, none⟩) 1 1]) (t := 39) (by simp) 0
  have x5 : W3.cell? ⟨b1, 1, none⟩ = some (.slice none 0 0) := S3.out.cell (b := b1) (C := #[.string ⟨#[109]⟩, .slice none 0 0, .slice (some ⟨kD, 0, none⟩) 1 1]) (t := 39) (by simp) 1
  have x6 : W3.cell? ⟨b1, 2, none⟩ = some (.slice (some ⟨kD, 0, none⟩) 1 1) := S3.out.cell (b := b1) (C := #[.string ⟨#[109]⟩, .slice none 0 0, .slice (some ⟨kD, 0, none⟩) 1 1]) (t := 39) (by simp) 2
  obtain ⟨kM, hkM⟩ : ∃ b, W3.heap.size = b := ⟨_, rfl⟩
  obtain ⟨W4, hW4⟩ : ∃ W, W3.alloc (.cells #[.string ⟨#[109]⟩, .slice none 0 0, .slice (some ⟨kD, 0, none⟩) 1 1] 39) = W := ⟨_, rfl⟩
  have S4 := Lib.hid (show HS w W4 [(kM, Obj.cells #[.string ⟨#[109]⟩, .slice none 0 0, .slice (some ⟨kD, 0, none⟩) 1 1] 39 (0, 0)), (b2, Obj.cells #[.string ⟨#[109]⟩, .slice (some ⟨gX, 0, none⟩) 1 cX] 51 (0, 0)), (gX, Obj.cells uX 68 (0, 0)), (b1, Obj.cells #[.string ⟨#[109]⟩, .slice none 0 0, .slice (some ⟨kD, 0, none⟩) 1 1] 39 (0, 0)), (kD, Obj.cells #[iv 1, iv 1, .bool true, .slice (some ⟨kN, 0, none⟩) 1 1, .bool false, iv 1, .string ⟨#[]⟩, .string ⟨#[]⟩, iv 7, iv 0, .slice none 0 0] 45 (0, 0)), (kN, Obj.cells #[.string ⟨#[102]⟩] 9 (0, 0))] from by rw [← hW4]; exact S3.out.alloc hkM _)
  have MR := Lib.hid (fun V (g : Gr W4 V) (k : Nat) (hk : V.heap[k]? = some (.cells #[.string ⟨#[109]⟩, .slice none 0 0, .slice (some ⟨kD, 0, none⟩) 1 1] 39 (0, 0))) => show MRd V (some ⟨k, 0, none⟩) 1 [aM kN kD] from ⟨⟨by simp, by simp, fun h => (by cases h), rd_cells (t := 39) Mod.cs_len hk⟩, fun m hm => by
    rw [List.mem_singleton.1 hm]
    exact aM_rd (gr_h g (S4.out.f (kN, Obj.cells #[.string ⟨#[102]⟩] 9 (0, 0)) (by simp))) (gr_h g (S4.out.f (kD, Obj.cells #[iv 1, iv 1, .bool true, .slice (some ⟨kN, 0, none⟩) 1 1, .bool false, iv 1, .string ⟨#[]⟩, .string ⟨#[]⟩, iv 7, iv 0, .slice none 0 0] 45 (0, 0)) (by simp)))⟩)
  have CD := Lib.hid (show Calls Tryz.prog 8 #[.slice none 0 0, .slice (some ⟨kM, 0, none⟩) 1 1] W4 (fun e w' => ∃ aT cT lT, e = .returned (.tuple #[.slice aT (List.length lT) cT, iv 0]) ∧ TRd w' aT cT lT ∧ lT.map Edt.er = diffP (([] : List Mod).map Mod.er) ([aM kN kD].map Mod.er) ∧ Gr W4 w') from by
    refine (show Calls Tryz.prog 8 #[.slice none 0 0, .slice (some ⟨kM, 0, none⟩) 1 1] W4 _ from diff_any none 0 [] (some ⟨kM, 0, none⟩) 1 [aM kN kD] W4 (MRd.nil _) (MR.out _ (gr_refl _) kM (S4.out.f (kM, Obj.cells #[.string ⟨#[109]⟩, .slice none 0 0, .slice (some ⟨kD, 0, none⟩) 1 1] 39 (0, 0)) (by simp))) (by simp) (by simp)).mono ?_
    rintro e w' ⟨g, h⟩
    rcases h with ⟨r, _, _, hno⟩ | ⟨aT, cT, lT, rfl, hm1, hm2, ht, he⟩
    · exact absurd ⟨aw_nil, aw_one kN kD⟩ hno
    · exact ⟨aT, cT, lT, rfl, ht, he, g⟩)
  have HW4 := Lib.hid hW4
  have HKM := Lib.hid hkM
  clear hW4
  go_upto_region 4 with (go_at_call 8; rw [HW4.out]; (with_reducible refine (CD.out).mono ?_); rintro e W5 ⟨aT, cT, lT, rfl, ht, he, g⟩; have S5 := Lib.hid (show HS w W5 [(kM, Obj.cells #[.string ⟨#[109]⟩, .slice none 0 0, .slice (some ⟨kD, 0, none⟩) 1 1] 39 (0, 0)), (b2, Obj.cells #[.string ⟨#[109]⟩, .slice (some ⟨gX, 0, none⟩) 1 cX] 51 (0, 0)), (gX, Obj.cells uX 68 (0, 0)), (b1, Obj.cells #[.string ⟨#[109]⟩, .slice none 0 0, .slice (some ⟨kD, 0, none⟩) 1 1] 39 (0, 0)), (kD, Obj.cells #[iv 1, iv 1, .bool true, .slice (some ⟨kN, 0, none⟩) 1 1, .bool false, iv 1, .string ⟨#[]⟩, .string ⟨#[]⟩, iv 7, iv 0, .slice none 0 0] 45 (0, 0)), (kN, Obj.cells #[.string ⟨#[102]⟩] 9 (0, 0))] from S4.out.gr g); have G5 := Lib.hid g; have HT := Lib.hid ht; have HE := Lib.hid he; clear g ht he x4 x5 x6)
  clear hkM
  have HL := Lib.hid (show lT.length = 2 from by have h := congrArg List.length HE.out; rw [List.length_map] at h; rw [h]; exact aw_two kN kD)
  have CA := Lib.hid (show Calls Tryz.prog 10 #[.slice none 0 0, .slice aT lT.length cT] W5 _ from apply_any none 0 [] aT cT lT W5 (MRd.nil _) HT.out (by simp) (by rw [HL.out]; omega) (by simp) aw_nil (fun e he => (diff_ok aw_nil (aw_one kN kD)).2 e.er (by have h : e.er ∈ lT.map Edt.er := List.mem_map.2 ⟨e, he, rfl⟩; rw [HE.out] at h; exact h)) [(aM kN kD).er] (by have h := HE.out; simp only [List.map_nil, List.map_cons] at h ⊢; rw [h]; exact (diff_ok aw_nil (aw_one kN kD)).1) (by intro m hm; rw [List.mem_singleton.1 hm]; exact (ckM_zero _).1 (aM_ok kN kD)))
  rw [HL.out] at CA
  (try rw [HL.out])
  go_upto_region 5 with (go_at_call 10; (with_reducible refine (CA.out).mono ?_); rintro e W6 ⟨aY, cY, lY, rfl, he, hm, g⟩; have S6 := Lib.hid (show HS w W6 [(kM, Obj.cells #[.string ⟨#[109]⟩, .slice none 0 0, .slice (some ⟨kD, 0, none⟩) 1 1] 39 (0, 0)), (b2, Obj.cells #[.string ⟨#[109]⟩, .slice (some ⟨gX, 0, none⟩) 1 cX] 51 (0, 0)), (gX, Obj.cells uX 68 (0, 0)), (b1, Obj.cells #[.string ⟨#[109]⟩, .slice none 0 0, .slice (some ⟨kD, 0, none⟩) 1 1] 39 (0, 0)), (kD, Obj.cells #[iv 1, iv 1, .bool true, .slice (some ⟨kN, 0, none⟩) 1 1, .bool false, iv 1, .string ⟨#[]⟩, .string ⟨#[]⟩, iv 7, iv 0, .slice none 0 0] 45 (0, 0)), (kN, Obj.cells #[.string ⟨#[102]⟩] 9 (0, 0))] from S5.out.gr g); have G6 := Lib.hid (G5.out.trans g); have HY := Lib.hid (And.intro he hm); clear he hm g)
  have x7 : W6.cell? ⟨b1, 0, none⟩ = some (.string ⟨#[109]⟩) := S6.out.cell (b := b1) (C := #[.string ⟨#[109]⟩, .slice none 0 0, .slice (some ⟨kD, 0, none⟩) 1 1]) (t := 39) (by simp) 0
  have x8 : W6.cell? ⟨b1, 1, none⟩ = some (.slice none 0 0) := S6.out.cell (b := b1) (C := #[.string ⟨#[109]⟩, .slice none 0 0, .slice (some ⟨kD, 0, none⟩) 1 1]) (t := 39) (by simp) 1
  have x9 : W6.cell? ⟨b1, 2, none⟩ = some (.slice (some ⟨kD, 0, none⟩) 1 1) := S6.out.cell (b := b1) (C := #[.string ⟨#[109]⟩, .slice none 0 0, .slice (some ⟨kD, 0, none⟩) 1 1]) (t := 39) (by simp) 2
  have x10 : W6.cell? ⟨b2, 1, none⟩ = some (.slice (some ⟨gX, 0, none⟩) 1 cX) := S6.out.cell (b := b2) (C := #[.string ⟨#[109]⟩, .slice (some ⟨gX, 0, none⟩) 1 cX]) (t := 51) (by simp) 1
  have y3 : W6.cell? ⟨gX, 3, none⟩ = some (iv 1) := (S6.out.cell (show (gX, Obj.cells uX 68 (0, 0)) ∈ [(kM, Obj.cells #[.string ⟨#[109]⟩, .slice none 0 0, .slice (some ⟨kD, 0, none⟩) 1 1] 39 (0, 0)), (b2, Obj.cells #[.string ⟨#[109]⟩, .slice (some ⟨gX, 0, none⟩) 1 cX] 51 (0, 0)), (gX, Obj.cells uX 68 (0, 0)), (b1, Obj.cells #[.string ⟨#[109]⟩, .slice none 0 0, .slice (some ⟨kD, 0, none⟩) 1 1] 39 (0, 0)), (kD, Obj.cells #[iv 1, iv 1, .bool true, .slice (some ⟨kN, 0, none⟩) 1 1, .bool false, iv 1, .string ⟨#[]⟩, .string ⟨#[]⟩, iv 7, iv 0, .slice none 0 0] 45 (0, 0)), (kN, Obj.cells #[.string ⟨#[102]⟩] 9 (0, 0))] from by simp) 3).trans (HuX.out 3 _ rfl)
  obtain ⟨W7, hW7⟩ : ∃ W, W6.alloc (.cells #[.string ⟨#[109]⟩, .slice none 0 0, .slice (some ⟨kD, 0, none⟩) 1 1] 39) = W := ⟨_, rfl⟩
  have G7 := Lib.hid (show Gr W6 W7 from by rw [← hW7]; exact gr_al _ _)
  have CS := Lib.hid (show Calls Tryz.prog 12 #[.slice aY lY.length cY, .slice (some ⟨W6.heap.size, 0, none⟩) 1 1] W7 _ from sameMs_any aY cY lY (some ⟨W6.heap.size, 0, none⟩) 1 [aM kN kD] W7 (HY.out.2.gr G7.out) (MR.out _ (G6.out.trans G7.out) _ (by rw [← hW7]; exact al_new _ _)) (by rw [HY.out.1]; rfl))
  have HW7 := Lib.hid hW7
  clear hW7
  go_wp2_with (go_at_call 12; rw [HW7.out]; (with_reducible refine (CS.out).mono ?_); rintro e W8 ⟨rfl, g⟩; have G8 := Lib.hid g; clear g; (try dsimp only))
  go_ret
  exact ⟨rfl, S6.out.g.trans (G7.out.trans G8.out)⟩
end Go.Proofs.YtiaenhlflgobfaaGreatDoor
namespace Go.Proofs.YtiaenhlflgobfaaGreatDoor
open Go.RowKit
set_option maxRecDepth 100000 in
set_option maxHeartbeats 4000000 in
attribute [local irreducible] Calls in
theorem opposite_any (k : Int) (w : World) (h1 : 1 ≤ k) (h9 : k ≤ 9) : Calls Tryz.prog 32 #[iv k] w fun e w' => e = .returned (iv (opp k)) ∧ w' = w := by
  have hk : k = 1 ∨ k = 2 ∨ k = 3 ∨ k = 4 ∨ k = 5 ∨ k = 6 ∨ k = 7 ∨ k = 8 ∨ k = 9 := by omega
  rcases hk with rfl | rfl | rfl | rfl | rfl | rfl | rfl | rfl | rfl
  all_goals go_enter Tryz.func32, Tryz.ntmps32
  all_goals go_wp2
  all_goals go_ret
  all_goals exact ⟨rfl, rfl⟩
def Edt.inv (e : Edt) : Edt := ⟨opp e.kind, e.pack, e.text, e.nA, e.nc, e.new, e.oA, e.oc, e.old⟩
def zEdt : Edt := ⟨0, [], [], none, 0, [], none, 0, []⟩
theorem made_edts (n : Nat) : (madeCells (Value.cells (.agg #[.int .i64 0, .string ⟨#[]⟩, .string ⟨#[]⟩, .slice none 0 0, .slice none 0 0])) (n * 5)).toList = (List.replicate n zEdt).flatMap Edt.cs := by
  have hl : ((List.replicate n zEdt).flatMap Edt.cs).length = n * 5 := by rw [flat_len Edt.cs 5 Edt.cs_len, List.length_replicate]
  apply List.ext_getElem?
  intro j
  by_cases hj : j < n * 5
  · have h3 : j % 5 < 5 := Nat.mod_lt _ (by omega)
    have hd : j / 5 < n := Nat.div_lt_of_lt_mul (by omega)
    have e2 : j / 5 * 5 + j % 5 = j := by omega
    have e4 := flat_at Edt.cs 5 Edt.cs_len h3 (List.replicate n zEdt) (j / 5) (x := zEdt) (by rw [List.getElem?_replicate, if_pos hd])
    rw [e2] at e4
    rw [e4]
    unfold madeCells
    rw [Array.getElem?_toList, Array.getElem?_map, Array.getElem?_range, if_pos hj]
    have h012 : j % 5 = 0 ∨ j % 5 = 1 ∨ j % 5 = 2 ∨ j % 5 = 3 ∨ j % 5 = 4 := by omega
    have hsz : (Value.cells (.agg #[.int .i64 0, .string ⟨#[]⟩, .string ⟨#[]⟩, .slice none 0 0, .slice none 0 0])).size = 5 := rfl
    simp only [Option.map_some, hsz]
    rcases h012 with h | h | h | h | h <;> rw [h] <;> rfl
  · rw [List.getElem?_eq_none (by rw [Array.length_toList, size_madeCells]; omega), List.getElem?_eq_none (by rw [hl]; omega)]
theorem flat_setE (pre post : List Edt) (c : List Value) (u : Value) (j : Nat) (hj : j < 5) (hl : c.length = 5) : (pre.flatMap Edt.cs ++ (c ++ post.flatMap Edt.cs)).set (pre.length * 5 + j) u = pre.flatMap Edt.cs ++ (c.set j u ++ post.flatMap Edt.cs) := by
  have hl0 : (pre.flatMap Edt.cs).length = pre.length * 5 := flat_len Edt.cs 5 Edt.cs_len pre
  rw [List.set_append_right _ _ (by omega), hl0, Nat.add_sub_cancel_left, List.set_append_left _ _ (by rw [hl]; exact hj)]
theorem OR.fillE {V : World} {B gg n cap : Nat} {pre post : List Edt} {z e : Edt} (o : OR 32 5 Edt.cs V B (.slice (some ⟨gg, 0, none⟩) n cap) (pre ++ z :: post)) :
    OR 32 5 Edt.cs (((((V.setCell ⟨gg, pre.length * 5, none⟩ (iv e.kind)).setCell ⟨gg, pre.length * 5 + 1, none⟩ (tv e.pack)).setCell ⟨gg, pre.length * 5 + 2, none⟩ (tv e.text)).setCell ⟨gg, pre.length * 5 + 3, none⟩ (.slice e.oA e.old.length e.oc)).setCell ⟨gg, pre.length * 5 + 4, none⟩ (.slice e.nA e.new.length e.nc)) B (.slice (some ⟨gg, 0, none⟩) n cap) (pre ++ e :: post) ∧ V.grownBy (((((V.setCell ⟨gg, pre.length * 5, none⟩ (iv e.kind)).setCell ⟨gg, pre.length * 5 + 1, none⟩ (tv e.pack)).setCell ⟨gg, pre.length * 5 + 2, none⟩ (tv e.text)).setCell ⟨gg, pre.length * 5 + 3, none⟩ (.slice e.oA e.old.length e.oc)).setCell ⟨gg, pre.length * 5 + 4, none⟩ (.slice e.nA e.new.length e.nc)) (some gg) := by
  have hnn : n = (pre ++ z :: post).length := by
    rcases o.2 with ⟨h1, _⟩ | ⟨g', cap', cur, e1, _⟩
    · cases h1
    · exact (Value.slice.inj e1).2.1
  have st : V.ownsRow B 32 5 (.slice (some ⟨gg, 0, none⟩) n cap) n (pre.flatMap Edt.cs ++ (z.cs ++ post.flatMap Edt.cs)) := by
    have h1 := o
    unfold OR at h1
    rw [← hnn] at h1
    simpa using h1
  have s0 := st.stored (pre.length * 5 + 0) (iv e.kind)
  rw [flat_setE pre post _ _ 0 (by decide) (by simp [Edt.cs])] at s0
  have s1 := s0.1.stored (pre.length * 5 + 1) (tv e.pack)
  rw [flat_setE pre post _ _ 1 (by decide) (by simp [Edt.cs])] at s1
  have s2 := s1.1.stored (pre.length * 5 + 2) (tv e.text)
  rw [flat_setE pre post _ _ 2 (by decide) (by simp [Edt.cs])] at s2
  have s3 := s2.1.stored (pre.length * 5 + 3) (.slice e.oA e.old.length e.oc)
  rw [flat_setE pre post _ _ 3 (by decide) (by simp [Edt.cs])] at s3
  have s4 := s3.1.stored (pre.length * 5 + 4) (.slice e.nA e.new.length e.nc)
  rw [flat_setE pre post _ _ 4 (by decide) (by simp [Edt.cs])] at s4
  refine ⟨?_, ((((s0.2).trans s1.2).trans s2.2).trans s3.2).trans s4.2⟩
  unfold OR
  rw [show (pre ++ e :: post).length = n from by rw [hnn]; simp, List.flatMap_append, List.flatMap_cons]
  exact s4.1
theorem OR.cellE {V : World} {B gg n cap : Nat} {L : List Edt} (o : OR 32 5 Edt.cs V B (.slice (some ⟨gg, 0, none⟩) n cap) L) {k : Nat} {x : Edt} (hx : L[k]? = some x) (i : Nat) (u : Value) (hu : x.cs[i]? = some u) : V.cell? ⟨gg, k * 5 + i, none⟩ = some u := by
  obtain ⟨A, c, e1, r⟩ := o.form Edt.cs_len
  cases e1
  obtain ⟨hk, rfl⟩ := List.getElem?_eq_some_iff.1 hx
  obtain ⟨a, e, hb, hc⟩ := r.at hk
  cases e
  have h := hc i u hu
  have ha : ((⟨gg, 0, none⟩ : Addr).add (k * 5 + i)) = ⟨gg, k * 5 + i, none⟩ := by
    by_cases e0 : k * 5 + i = 0
    · rw [e0]; rfl
    · rw [fld_add _ _ e0]; simp
  rw [ha] at h
  exact h
def HE5 (V : World) (k : Nat) (C : Array Value) : Prop := V.heap[k]? = some (.cells C 32 (0, 0))
theorem hE_eq {V : World} {k : Nat} {C E : Array Value} (h : HE5 V k C) (e : C = E) : HE5 V k E := e ▸ h
theorem hE_drew {V : World} {k : Nat} {C : Array Value} (h : HE5 V k C) : HE5 V.drew k C := h
theorem hE_set {V : World} {k j : Nat} {u : Value} {C : Array Value} (h : HE5 V k C) : HE5 (V.setCell ⟨k, j, none⟩ u) k (C.setIfInBounds j u) := by
  unfold HE5 at h ⊢
  simp [World.setCell, Array.getElem?_modify, h]
theorem gr_trE {a b c : World} (h : Gr a b) (k : Gr b c) : Gr a c := h.trans k
theorem boxE {G : Act → World → Prop} {tm : Array Value} {df : List Deferred} {wr V : World} {C : Array Value} (bk : Nat) (g : Gr wr V) (f : HE5 V bk C) (rest : ∀ V', Gr wr V' → HE5 V' bk C → G ⟨tm, df⟩ V') : G ⟨tm, df⟩ V := rest V g f
set_option maxRecDepth 100000 in
set_option maxHeartbeats 4000000 in
attribute [local irreducible] Calls in
theorem invert_any (Aa : Option Addr) (c : Nat) (es : List Edt) (w : World) (hE : TRd w Aa c es) (hes : es.length ≤ 100000) (hk : ∀ e ∈ es, 1 ≤ e.kind ∧ e.kind ≤ 9) :
    Calls Tryz.prog 11 #[.slice Aa es.length c] w fun y w' => ∃ A' c' L, y = .returned (.slice A' L.length c') ∧ L.map Edt.er = inv (es.map Edt.er) ∧ TRd w' A' c' L ∧ Gr w w' := by
  obtain ⟨n, hln⟩ : ∃ n, es.length = n := ⟨_, rfl⟩
  have HN := Lib.hid hln
  have HE := Lib.hid (fun V (g : Gr w V) => hE.gr g)
  have HK := Lib.hid hk
  have C32 := Lib.hid (fun e (he : e ∈ es) V => opposite_any e.kind V (hk e he).1 (hk e he).2)
  obtain ⟨i22, hi22, hz22, hs22, hb22⟩ := info_parts (show (Tryz.prog.info? 32).map (fun i => (i.zero, i.size, i.bytes)) = some (some (.agg #[.int .i64 0, .string ⟨#[]⟩, .string ⟨#[]⟩, .slice none 0 0, .slice none 0 0]), 5, 88) by kernel_rfl)
  rw [hln] at hes ⊢
  clear hE hk hln
  go_enter Tryz.func11, Tryz.ntmps11
  go_wp2_with (refine wpList_make_full _ rfl _ _ 25 rfl w.heap.size 32 i22 (.agg #[.int .i64 0, .string ⟨#[]⟩, .string ⟨#[]⟩, .slice none 0 0, .slice none 0 0]) 5 Tryz.underlying25 hi22 hz22 hs22 .i64 .i64 _ _ n rfl rfl rfl rfl (by rw [hb22]; omega) (by unfold maxLen; omega) (Nat.le_refl _) ?_; intro w2 r2 g2; have R2 := Lib.hid r2; have G2 := Lib.hid g2; clear r2 g2)
  obtain ⟨gg, hgg⟩ : ∃ gg, w.heap.size = gg := ⟨_, rfl⟩
  have A0 := Lib.hid (show OR 32 5 Edt.cs w2 gg (.slice (some ⟨gg, 0, none⟩) n n) (List.replicate (n - 0) zEdt ++ ((es.take 0).map Edt.inv).reverse) from by
    have h := R2.out
    rw [made_edts] at h
    unfold OR
    rw [hgg] at h
    simpa using h)
  have HG := Lib.hid hgg
  simp only [hgg]
  clear hgg R2 hi22 hz22 hs22 hb22
  go_loopw [4, 5, 11] (fun _ _ i V => ∃ j : Nat, j ≤ n ∧ i = iv j ∧ Hid (OR 32 5 Edt.cs V gg (.slice (some ⟨gg, 0, none⟩) n n) (List.replicate (n - j) zEdt ++ ((es.take j).map Edt.inv).reverse) ∧ Gr w V)) (fun _ _ i _ => n - (intOf i).toNat)
  case atStart => exact ⟨0, by omega, by first | rfl | trivial, Lib.hid ⟨A0.out, G2.out⟩⟩
  case round =>
    obtain ⟨j, hj, rfl, HI⟩ := hrel
    clear A0
    by_cases hlt : j < n
    · obtain ⟨e, he⟩ : ∃ e, es[j]? = some e := ⟨_, List.getElem?_eq_getElem (by rw [HN.out]; exact hlt)⟩
      obtain ⟨a, a1, rfl, ha, hab, d0, d1, d2, d3, d4⟩ := rdT (HE.out _ HI.out.2).r he
      have hmem := List.mem_of_getElem? he
      have C5 := Lib.hid (C32.out e hmem)
      obtain ⟨q, hq⟩ : ∃ q, n - 1 - j = q := ⟨_, rfl⟩
      have HQ := Lib.hid (show n - j = q + 1 ∧ n - (j + 1) = q from by omega)
      have HT := Lib.hid (show ((es.take (j + 1)).map Edt.inv).reverse = e.inv :: ((es.take j).map Edt.inv).reverse from by
        obtain ⟨hjl, hmm⟩ := List.getElem?_eq_some_iff.1 he
        rw [List.take_succ_eq_append_getElem hjl, hmm, List.map_append, List.reverse_append]
        rfl)
      have OO := Lib.hid (show OR 32 5 Edt.cs wr gg (.slice (some ⟨gg, 0, none⟩) n n) (List.replicate q zEdt ++ zEdt :: ((es.take j).map Edt.inv).reverse) from by
        have h := HI.out.1
        rw [HQ.out.1, List.replicate_succ', List.append_assoc] at h
        exact h)
      have hlt2 : (j : Int) < (n : Int) := by omega
      have w1 : IntKind.i64.wrap ((n : Int) - 1) = (n : Int) - 1 := IntWalk.i64_in _ ⟨by omega, by omega⟩
      have w2 : (n : Int) - 1 - (j : Int) = (q : Int) := by omega
      have w3 : IntKind.i64.wrap ((n : Int) - 1 - (j : Int)) = (q : Int) := by rw [IntWalk.i64_in _ ⟨by omega, by omega⟩]; omega
      have hqn : (q : Int) < (n : Int) := by omega
      have hqn2 : q < n := by omega
      obtain ⟨W1, hW1⟩ : ∃ W1, wr.alloc (.cells #[iv e.kind, tv e.pack, tv e.text, .slice e.oA e.old.length e.oc, .slice e.nA e.new.length e.nc] 32) = W1 := ⟨_, rfl⟩
      obtain ⟨bk, hbk⟩ : ∃ bk, wr.heap.size = bk := ⟨_, rfl⟩
      have GB := Lib.hid (show gg < bk from by rw [← hbk]; exact (OO.out.lt gg rfl).2)
      have B1 := Lib.hid (show W1.heap[bk]? = some (.cells #[iv e.kind, tv e.pack, tv e.text, .slice e.oA e.old.length e.oc, .slice e.nA e.new.length e.nc] 32 (0, 0)) from by rw [← hW1, ← hbk]; exact al_new _ _)
      have G1 := Lib.hid (show Gr wr W1 from by rw [← hW1]; exact gr_al _ _)
      have HW1 := Lib.hid hW1
      clear he hmem hW1 hq
      go_upto_region 5 with fail
      rw [HW1.out]
      have HBK := Lib.hid hbk
      clear hbk d0 d1 d2 d3 d4 hab ha
      have z0 : W1.cell? ⟨bk, 0, none⟩ = some (iv e.kind) := Lib.cell_of_heap B1.out 0
      have z1 : W1.cell? ⟨bk, 1, none⟩ = some (tv e.pack) := Lib.cell_of_heap B1.out 1
      have z2 : W1.cell? ⟨bk, 2, none⟩ = some (tv e.text) := Lib.cell_of_heap B1.out 2
      have z3 : W1.cell? ⟨bk, 3, none⟩ = some (.slice e.oA e.old.length e.oc) := Lib.cell_of_heap B1.out 3
      have z4 : W1.cell? ⟨bk, 4, none⟩ = some (.slice e.nA e.new.length e.nc) := Lib.cell_of_heap B1.out 4
      have zf := Lib.frozen_of_heap B1.out
      go_region_law (first | (go_simp; go_at_call 32; (with_reducible refine (C5.out _).mono ?_); rintro x w5 ⟨rfl, rfl⟩))
      all_goals refine boxE (wr := wr) (C := #[iv (opp e.kind), tv e.pack, tv e.text, .slice e.nA e.new.length e.nc, .slice e.oA e.old.length e.oc]) bk (by repeat' (first | exact G1.out | refine gr_trE ?_ (gr_drew _) | (refine gr_cell ?_ (by have := HBK.out; omega) _))) (hE_eq (hE_drew (hE_set (hE_set (hE_set B1.out)))) rfl) ?_
      all_goals clear z0 z1 z2 z3 z4 zf
      all_goals intro W5 g5 f5
      all_goals have G5 := Lib.hid g5
      all_goals have z0 : W5.cell? ⟨bk, 0, none⟩ = some (iv (opp e.kind)) := Lib.cell_of_heap f5 0
      all_goals have z1 : W5.cell? ⟨bk, 1, none⟩ = some (tv e.pack) := Lib.cell_of_heap f5 1
      all_goals have z2 : W5.cell? ⟨bk, 2, none⟩ = some (tv e.text) := Lib.cell_of_heap f5 2
      all_goals have z3 : W5.cell? ⟨bk, 3, none⟩ = some (.slice e.nA e.new.length e.nc) := Lib.cell_of_heap f5 3
      all_goals have z4 : W5.cell? ⟨bk, 4, none⟩ = some (.slice e.oA e.old.length e.oc) := Lib.cell_of_heap f5 4
      all_goals clear g5 f5
      all_goals have O5 := Lib.hid (OO.out.gr G5.out)
      all_goals have hz : (List.replicate q zEdt ++ zEdt :: ((es.take j).map Edt.inv).reverse)[q]? = some zEdt := by rw [List.getElem?_append_right (by simp), List.length_replicate, Nat.sub_self]; rfl
      all_goals have y0 : W5.cell? ⟨gg, q * 5, none⟩ = some _ := O5.out.cellE hz 0 _ rfl
      all_goals have y1 := O5.out.cellE hz 1 _ rfl
      all_goals have y2 := O5.out.cellE hz 2 _ rfl
      all_goals have y3 := O5.out.cellE hz 3 _ rfl
      all_goals have y4 := O5.out.cellE hz 4 _ rfl
      all_goals have yf := O5.out.frz
      all_goals have ylt := (O5.out.lt gg rfl).2
      all_goals have FN := Lib.hid (OR.fillE (e := e.inv) O5.out)
      all_goals clear hz
      all_goals go_wp2
      all_goals exact ⟨⟨j + 1, by omega, by simp, Lib.hid ⟨by rw [HT.out, HQ.out.2]; have h := FN.out.1; rw [List.length_replicate] at h; exact h, OR.grow (HI.out.2.trans G5.out) O5.out (by rw [HG.out]; exact Nat.le_refl _) (by have h := FN.out.2; rw [List.length_replicate] at h; exact h)⟩⟩, by simp [intOf]; omega⟩
    · obtain rfl : j = n := by omega
      have hnj : ¬ (j : Int) < (j : Int) := by omega
      have FF := Lib.hid (show OR 32 5 Edt.cs wr gg (.slice (some ⟨gg, 0, none⟩) j j) ((es.map Edt.inv).reverse) from by
        have h := HI.out.1
        rw [Nat.sub_self, List.replicate_zero, List.nil_append, List.take_of_length_le (by rw [HN.out]; exact Nat.le_refl _)] at h
        exact h)
      have GG := Lib.hid HI.out.2
      clear HI
      go_wp2
      go_ret
      obtain ⟨A9, c9, e9, r9, hc9, hm9, h09, -⟩ := FF.out.form2 Edt.cs_len
      refine ⟨A9, c9, (es.map Edt.inv).reverse, congrArg Ending.returned e9, ?_, ⟨⟨hc9, hm9, h09, r9⟩, fun e he => ?_⟩, GG.out⟩
      · unfold inv
        rw [List.map_reverse, List.map_map, List.map_map]
        rfl
      · obtain ⟨x, hx, rfl⟩ := List.mem_map.1 (List.mem_reverse.1 he)
        have h := (HE.out _ GG.out).e x hx
        exact ⟨h.p, h.t, h.n, h.o⟩
end Go.Proofs.YtiaenhlflgobfaaGreatDoor
namespace Go.Proofs.YtiaenhlflgobfaaGreatDoor
open Go.RowKit Go.Maps
def sumD : List PM → Nat
  | [] => 0
  | m :: l => m.decls.length + sumD l
def sumU : List PM → Nat
  | [] => 0
  | m :: l => m.uses.length + sumU l
theorem pairs_sum (a b : List PM) : ((pairs a b).flatMap addE).length ≤ b.length ∧ ((pairs a b).flatMap (fun p => useE 3 p.label p.b.uses p.a.uses)).length ≤ sumU b ∧ ((pairs a b).flatMap (fun p => declE p.label p.a.decls p.b.decls)).length ≤ 3 * (sumD a + sumD b) ∧ ((pairs a b).flatMap (fun p => useE 4 p.label p.a.uses p.b.uses)).length ≤ sumU a ∧ ((pairs a b).flatMap remE).length ≤ a.length := by
  fun_induction pairs a b with
  | case1 => simp
  | case2 x a ih =>
    have u1 := useE_len 3 x.label zM.uses x.uses
    have u2 := useE_len 4 x.label x.uses zM.uses
    have u3 := declE_len x.label x.decls zM.decls
    have z1 : zM.uses.length = 0 := rfl
    have z2 : zM.decls.length = 0 := rfl
    simp only [List.flatMap_cons, List.length_append, List.length_cons, sumU, sumD, addE, remE, if_true, List.length_nil] at ih ⊢
    simp only [Bool.false_eq_true, if_false, List.length_cons, List.length_nil]
    refine ⟨?_, ?_, ?_, ?_, ?_⟩ <;> omega
  | case3 y b ih =>
    have u1 := useE_len 3 y.label y.uses zM.uses
    have u2 := useE_len 4 y.label zM.uses y.uses
    have u3 := declE_len y.label zM.decls y.decls
    have z1 : zM.uses.length = 0 := rfl
    have z2 : zM.decls.length = 0 := rfl
    simp only [List.flatMap_cons, List.length_append, List.length_cons, sumU, sumD, addE, remE, if_true, List.length_nil] at ih ⊢
    simp only [Bool.false_eq_true, if_false, List.length_cons, List.length_nil]
    refine ⟨?_, ?_, ?_, ?_, ?_⟩ <;> omega
  | case4 x a y b h ih =>
    have u1 := useE_len 3 x.label zM.uses x.uses
    have u2 := useE_len 4 x.label x.uses zM.uses
    have u3 := declE_len x.label x.decls zM.decls
    have z1 : zM.uses.length = 0 := rfl
    have z2 : zM.decls.length = 0 := rfl
    simp only [List.flatMap_cons, List.length_append, List.length_cons, sumU, sumD, addE, remE, if_true, List.length_nil] at ih ⊢
    simp only [Bool.false_eq_true, if_false, List.length_cons, List.length_nil]
    refine ⟨?_, ?_, ?_, ?_, ?_⟩ <;> omega
  | case5 x a y b h k ih =>
    have u1 := useE_len 3 y.label y.uses zM.uses
    have u2 := useE_len 4 y.label zM.uses y.uses
    have u3 := declE_len y.label zM.decls y.decls
    have z1 : zM.uses.length = 0 := rfl
    have z2 : zM.decls.length = 0 := rfl
    simp only [List.flatMap_cons, List.length_append, List.length_cons, sumU, sumD, addE, remE, if_true, List.length_nil] at ih ⊢
    simp only [Bool.false_eq_true, if_false, List.length_cons, List.length_nil]
    refine ⟨?_, ?_, ?_, ?_, ?_⟩ <;> omega
  | case6 x a y b h k ih =>
    have u1 := useE_len 3 y.label y.uses x.uses
    have u2 := useE_len 4 y.label x.uses y.uses
    have u3 := declE_len y.label x.decls y.decls
    simp only [List.flatMap_cons, List.length_append, List.length_cons, sumU, sumD, addE, remE, if_true, List.length_nil] at ih ⊢
    refine ⟨?_, ?_, ?_, ?_, ?_⟩ <;> omega
theorem sum_small : ∀ (l : List PM), (∀ m ∈ l, oks.Mod m) → sumD l ≤ 100 * l.length ∧ sumU l ≤ 20 * l.length
  | [], _ => by simp [sumD, sumU]
  | m :: l, h => by
    have h1 := ok_small (h m (by simp))
    have h2 := sum_small l (fun x hx => h x (by simp [hx]))
    simp only [sumD, sumU, List.length_cons]
    omega
theorem diff_small {a b : List PM} (ha : oks.Mods a) (hb : oks.Mods b) (hn : a.length ≤ 4) (hm : b.length ≤ 4) : (diffP a b).length ≤ 2600 := by
  obtain ⟨h1, h2, h3, h4, h5⟩ := pairs_sum a b
  have s1 := sum_small a ha.mods
  have s2 := sum_small b hb.mods
  unfold diffP
  simp only [List.length_append]
  omega
theorem inv_length (l : List PT) : (inv l).length = l.length := by simp [inv]
end Go.Proofs.YtiaenhlflgobfaaGreatDoor
namespace Go.Proofs.YtiaenhlflgobfaaGreatDoor
open Go.RowKit Go.Maps
theorem small_mods {L : List Mod} (h : oks.Mods (L.map Mod.er)) : ∀ m ∈ L, m.uses.length ≤ 1000 ∧ m.decls.length ≤ 1000 := by
  intro m hm
  have h1 := ok_small (h.mods m.er (List.mem_map.2 ⟨m, hm, rfl⟩))
  have h2 : m.er.decls.length = m.decls.length := List.length_map ..
  have h3 : m.er.uses.length = m.uses.length := rfl
  omega
set_option maxRecDepth 100000 in
set_option maxHeartbeats 4000000 in
attribute [local irreducible] Calls in
theorem law_through_any (A0 A1 A2 : Option Addr) (c0 c1 c2 : Nat) (L0 L1 L2 : List Mod) (W : World) (r0 : MRd W A0 c0 L0) (r1 : MRd W A1 c1 L1) (r2 : MRd W A2 c2 L2) :
    Calls Tryz.prog 3 #[.slice A0 L0.length c0, .slice A1 L1.length c1, .slice A2 L2.length c2] W fun e w' => e = .returned (.bool true) ∧ Gr W w' := by
  have R0 := Lib.hid (fun V (g : Gr W V) => r0.gr g)
  have R1 := Lib.hid (fun V (g : Gr W V) => r1.gr g)
  have R2 := Lib.hid (fun V (g : Gr W V) => r2.gr g)
  have K0 := Lib.hid (fun V (g : Gr W V) => great_any A0 c0 L0 V (r0.gr g))
  have K1 := Lib.hid (fun V (g : Gr W V) => great_any A1 c1 L1 V (r1.gr g))
  have K2 := Lib.hid (fun V (g : Gr W V) => great_any A2 c2 L2 V (r2.gr g))
  have CW := Lib.hid (fun V => awake_any V)
  clear r0 r1 r2
  go_enter Tryz.func3, Tryz.ntmps3
  go_upto_region 3 with (first
    | (go_at_call 7; (with_reducible refine (CW.out _).mono ?_); rintro e wz ⟨rfl, gz⟩; have GZ := Lib.hid gz; clear gz)
    | (go_at_call 6; (with_reducible refine (K0.out _ (gr_refl _)).mono ?_); rintro e w1 ⟨b0, rfl, h0, g1⟩; have H0 := Lib.hid h0; have G1 := Lib.hid g1; clear h0 g1 K0; cases b0 <;> (try dsimp only))
    | (go_at_call 6; (with_reducible refine (K1.out _ G1.out).mono ?_); rintro e w2 ⟨b1, rfl, h1, g2⟩; have H1 := Lib.hid h1; have G2 := Lib.hid (G1.out.trans g2); clear h1 g2 K1; cases b1 <;> (try dsimp only))
    | (go_at_call 6; (with_reducible refine (K2.out _ G2.out).mono ?_); rintro e w3 ⟨b2, rfl, h2, g3⟩; have H2 := Lib.hid h2; have G3 := Lib.hid (G2.out.trans g3); clear h2 g3 K2; cases b2 <;> (try dsimp only)))
  rotate_left
  · go_ret
    exact ⟨rfl, G3.out.trans GZ.out⟩
  · go_ret
    exact ⟨rfl, G2.out.trans GZ.out⟩
  · go_ret
    exact ⟨rfl, G1.out.trans GZ.out⟩
  have N0 := Lib.hid (H0.out rfl)
  have N1 := Lib.hid (H1.out rfl)
  have N2 := Lib.hid (H2.out rfl)
  have D1 := Lib.hid (fun V (g : Gr W V) => diff_any A0 c0 L0 A1 c1 L1 V (R0.out V g) (R1.out V g) N0.out N1.out)
  have D2 := Lib.hid (fun V (g : Gr W V) => diff_any A1 c1 L1 A2 c2 L2 V (R1.out V g) (R2.out V g) N1.out N2.out)
  clear H0 H1 H2
  go_upto_region 7 with (first
    | (go_at_call 7; (with_reducible refine (CW.out _).mono ?_); rintro e wz ⟨rfl, gz⟩; have GZ := Lib.hid gz; clear gz)
    | (go_at_call 8; (with_reducible refine (D1.out _ G3.out).mono ?_); rintro e w4 ⟨g4, h4⟩; have G4 := Lib.hid (G3.out.trans g4); clear g4 D1; rcases h4 with ⟨r, hr, rfl, -⟩ | ⟨aT, cT, lT, rfl, hm0, hm1, ht, he⟩; have hrb : (r == 0) = false := (by rw [beq_eq_false_iff_ne]; exact hr); rotate_left; have M0 := Lib.hid hm0; have M1 := Lib.hid hm1; have T1 := Lib.hid ht; have E1 := Lib.hid he; clear hm0 hm1 ht he; rotate_left)
    | (go_at_call 8; (with_reducible refine (D2.out _ G4.out).mono ?_); rintro e w5 ⟨g5, h5⟩; have G45 := Lib.hid g5; have G5 := Lib.hid (G4.out.trans g5); clear g5 D2; rcases h5 with ⟨r', hr', rfl, -⟩ | ⟨aU, cU, lU, rfl, hm1, hm2, ht, he⟩; have hrb' : (r' == 0) = false := (by rw [beq_eq_false_iff_ne]; exact hr'); rotate_left; have M2 := Lib.hid hm2; have T2 := Lib.hid ht; have E2 := Lib.hid he; clear hm1 hm2 ht he; rotate_left))
  any_goals (go_ret; exact ⟨rfl, G5.out.trans GZ.out⟩)
  have TH := Lib.hid (through_ok M0.out M1.out M2.out)
  have B1 := Lib.hid (show lT.length ≤ 2600 from by have h := congrArg List.length E1.out; rw [List.length_map] at h; rw [h]; exact diff_small M0.out M1.out (by simpa using N0.out) (by simpa using N1.out))
  have B2 := Lib.hid (show lU.length ≤ 2600 from by have h := congrArg List.length E2.out; rw [List.length_map] at h; rw [h]; exact diff_small M1.out M2.out (by simpa using N1.out) (by simpa using N2.out))
  have EE := Lib.hid (show (lT ++ lU).map Edt.er = diffP (L0.map Mod.er) (L1.map Mod.er) ++ diffP (L1.map Mod.er) (L2.map Mod.er) from by rw [List.map_append, E1.out, E2.out])
  have BB := Lib.hid (show (lT ++ lU).length ≤ 5200 from by have := B1.out; have := B2.out; rw [List.length_append]; omega)
  obtain ⟨L7, hL7⟩ : ∃ L, lT ++ lU = L := ⟨_, rfl⟩
  have HL7 := Lib.hid hL7
  rw [hL7] at EE BB
  clear hL7
  have CC := Lib.hid (cloneT_any aT cT lT w5 (T1.out.gr G45.out).r (by have := B1.out; omega))
  go_upto_region 8 with (first
    | (go_at_call 9; (with_reducible refine (CC.out).mono ?_); rintro e w6 ⟨v6, rfl, o6, g6⟩; have O6 := Lib.hid o6; have G56 := Lib.hid g6; clear o6 g6)
    | (at_builtin; refine wpList_app elT rfl (.tmp 46) (.tmp 47) rfl w5.heap.size (v := v6) rfl O6.out (A := aU) (M := lU) (m := lU.length) (c := cU) rfl rfl (T2.out.gr G56.out).r (by have := B1.out; have := B2.out; omega) G56.out.size ?_; intro v7 w7 o7 g7 b7; have G57 := Lib.hid (OR.grow G56.out O6.out (Nat.le_refl _) g7); rw [HL7.out] at o7; obtain ⟨A7, c7, rfl, r7, hc7, hm7, h07, -⟩ := o7.form2 Edt.cs_len; have RW7 := Lib.hid (show RW 5 Edt.cs w7 A7 c7 L7 from ⟨hc7, hm7, h07, r7⟩); clear o7 g7 b7 r7 hc7 hm7 h07))
  have G7 := Lib.hid (G5.out.trans G57.out)
  have T7 := Lib.hid (show TRd w7 A7 c7 L7 from ⟨RW7.out, fun e he => by
    rw [← HL7.out] at he
    rcases List.mem_append.1 he with he | he
    · exact ((T1.out.gr G45.out).gr G57.out).e e he
    · exact (T2.out.gr G57.out).e e he⟩)
  have CA := Lib.hid (fun V (g : Gr w7 V) => apply_any A0 c0 L0 A7 c7 L7 V (R0.out V (G7.out.trans g)) (T7.out.gr g) (by have := N0.out; omega) (by have := BB.out; omega) (small_mods M0.out) M0.out (fun e he => TH.out.2.2.1 e.er (by rw [← EE.out]; exact List.mem_map.2 ⟨e, he, rfl⟩)) (L2.map Mod.er) (by rw [EE.out]; exact TH.out.1) M2.out.mods)
  have CI := Lib.hid (fun V (g : Gr w7 V) => invert_any A7 c7 L7 V (T7.out.gr g) (by have := BB.out; omega) (fun e he => by
    have h := TH.out.2.2.1 e.er (by rw [← EE.out]; exact List.mem_map.2 ⟨e, he, rfl⟩)
    exact ⟨h.k0, h.k1⟩))
  have CB := Lib.hid (fun V (g : Gr w7 V) (a9 : Option Addr) (c9 : Nat) (l9 : List Edt) (t9 : TRd V a9 c9 l9) (e9 : l9.map Edt.er = inv (L7.map Edt.er)) => apply_any A2 c2 L2 a9 c9 l9 V (R2.out V (G7.out.trans g)) t9 (by have := N2.out; omega) (by have h := congrArg List.length e9; rw [List.length_map, inv_length, List.length_map] at h; have := BB.out; omega) (small_mods M2.out) M2.out (fun e he => TH.out.2.2.2 e.er (by rw [← EE.out, ← e9]; exact List.mem_map.2 ⟨e, he, rfl⟩)) (L0.map Mod.er) (by rw [e9, EE.out]; exact TH.out.2.1) M0.out.mods)
  go_upto_region 10 with (first
    | (go_at_call 10; (with_reducible refine (CA.out _ (gr_refl _)).mono ?_); rintro e w8 ⟨aX, cX, lX, rfl, hx, mx, g8⟩; have G8 := Lib.hid g8; have MX := Lib.hid (And.intro hx mx); clear hx mx g8)
    | (go_at_call 11; (with_reducible refine (CI.out _ G8.out).mono ?_); rintro e w9 ⟨a9, c9, l9, rfl, e9, t9, g9⟩; have G9 := Lib.hid (G8.out.trans g9); have G89 := Lib.hid g9; have CB9 := Lib.hid (CB.out w9 G9.out a9 c9 l9 t9 e9); clear e9 t9 g9)
    | (go_at_call 10; (with_reducible refine (CB9.out).mono ?_); rintro e wa ⟨aY, cY, lY, rfl, hy, my, ga⟩; have GA := Lib.hid (G9.out.trans ga); have GA8 := Lib.hid (G89.out.trans ga); have MY := Lib.hid (And.intro hy my); clear hy my ga))
  have CS1 := Lib.hid (fun V (g : Gr wa V) => sameMs_any aX cX lX A2 c2 L2 V (MX.out.2.gr (GA8.out.trans g)) (R2.out V (G7.out.trans (GA.out.trans g))) MX.out.1)
  have CS2 := Lib.hid (fun V (g : Gr wa V) => sameMs_any aY cY lY A0 c0 L0 V (MY.out.2.gr g) (R0.out V (G7.out.trans (GA.out.trans g))) MY.out.1)
  go_wp2_with (first
    | (go_at_call 12; (with_reducible refine (CS1.out _ (gr_refl _)).mono ?_); rintro e wb ⟨rfl, gb⟩; have GB := Lib.hid gb; clear gb CS1; (try dsimp only))
    | (go_at_call 12; (with_reducible refine (CS2.out _ GB.out).mono ?_); rintro e wc ⟨rfl, gc⟩; have GC := Lib.hid (GB.out.trans gc); clear gc; (try dsimp only))
    | (go_at_call 7; (with_reducible refine (CW.out _).mono ?_); rintro e wz ⟨rfl, gz⟩; have GZ := Lib.hid gz; clear gz; (try dsimp only)))
  go_ret
  exact ⟨rfl, G7.out.trans (GA.out.trans (GC.out.trans GZ.out))⟩
end Go.Proofs.YtiaenhlflgobfaaGreatDoor

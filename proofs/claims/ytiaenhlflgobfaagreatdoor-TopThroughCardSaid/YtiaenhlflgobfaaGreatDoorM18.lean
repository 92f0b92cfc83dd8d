/- Walks and words: AwE, DeG, AwF. -/
import Derived.Test.YtiaenhlflgobfaaGreatDoorIns
import Derived.Test.YtiaenhlflgobfaaGreatDoorM17
import Derived.Deep.RegionLaw
namespace Go.Proofs.YtiaenhlflgobfaaGreatDoor
open Go.RowKit Go.Maps
theorem HS.row {w0 V V' : World} {L : List (Nat × Obj)} {b : Nat} {o : Obj} (h : HS w0 V L) (g : Gr V V') (hb : V.heap.size ≤ b) (f : V'.heap[b]? = some o) : HS w0 V' ((b, o) :: L) := by
  have h' := h.gr g
  refine ⟨h'.g, ?_, fun p hp => ?_, fun p hp => ?_⟩
  · rw [List.map_cons, List.nodup_cons]
    refine ⟨fun hm => ?_, h.n⟩
    obtain ⟨q, hq, e⟩ := List.mem_map.1 hm
    have := h.lt q hq
    simp only at e
    omega
  · rcases List.mem_cons.1 hp with rfl | hp
    · exact Nat.le_trans h.g.size hb
    · exact h'.b p hp
  · rcases List.mem_cons.1 hp with rfl | hp
    · exact f
    · exact h'.f p hp
theorem HS.sub {w0 V : World} {L L' : List (Nat × Obj)} (h : HS w0 V L) (hs : ∀ p ∈ L', p ∈ L) (hn : (L'.map (·.1)).Nodup) : HS w0 V L' := ⟨h.g, hn, fun p hp => h.b p (hs p hp), fun p hp => h.f p (hs p hp)⟩
theorem LKone {v : Value} : LK iOk ([(1, v)] : MK Int) := ⟨fun p hp => by rw [List.mem_singleton.1 hp]; show iOk 1; decide, by simp⟩
set_option maxRecDepth 100000 in
set_option maxHeartbeats 4000000 in
attribute [local irreducible] Calls in
theorem comp1_a (w0 V : World) (p2 p3 p5 p6 p7 p8 p9 p10 m6 m7 m8 mU : Nat) (oF o2 : Obj) (hS : HS w0 V [(p10, oF), (p9, .cells #[.slice none 0 0] 110 (0, 0)), (p8, .cells #[.map (some m8)] 187 (0, 0)), (m8, mapO iv ([] : MK Int)), (p7, .cells #[.map (some m7)] 245 (0, 0)), (p6, .cells #[.map (some m6)] 245 (0, 0)), (m7, mapO iv ([] : MK Int)), (m6, mapO iv ([] : MK Int)), (p5, .cells #[.slice none 0 0] 137 (0, 0)), (p3, .cells #[.map (some mU)] 195 (0, 0)), (p2, o2)]) (hU : ∀ V', Gr w0 V' → MP iv V' mU ([(1, .slice none 0 0)] : MK Int)) :
    Calls Tryz.prog 170 #[iv 1, .pointer (some ⟨p6, 0, none⟩), .pointer (some ⟨p7, 0, none⟩), .pointer (some ⟨p9, 0, none⟩), .pointer (some ⟨p3, 0, none⟩), .pointer (some ⟨p10, 0, none⟩), .pointer (some ⟨p8, 0, none⟩), .pointer (some ⟨p5, 0, none⟩)] V fun e V' => (∃ r, e = .returned r) ∧ ∃ gG cG uG gC cC uC, HS w0 V' [(gG, .cells uG 110 (0, 0)), (gC, .cells uC 3 (0, 0)), (p5, .cells #[.slice (some ⟨gG, 0, none⟩) 1 cG] 137 (0, 0))] ∧ (uG[0]? = some (.slice (some ⟨gC, 0, none⟩) 1 cC) ∧ uG.size = cG * 1) ∧ uC[0]? = some (iv 1) ∧ (1 ≤ cG ∧ cG ≤ 9223372036854775807) ∧ (1 ≤ cC ∧ cC ≤ 9223372036854775807) := by
  have HU := Lib.hid hU
  clear hU
  have S0 := Lib.hid hS
  clear hS
  go_enter Tryz.func170, Tryz.ntmps170
  have x1 : V.cell? ⟨p6, 0, none⟩ = some (.map (some m6)) := S0.out.cell (b := p6) (C := #[.map (some m6)]) (t := 245) (by simp) 0
  have x2 : (Builtin.len_ #[245] 3 #[.map (some m6)]).run Tryz.prog V = .ok (iv 0) V := by have h := run_len_map (P := Tryz.prog) (w := V) 245 3 m6 #[] 0 (by kernel_rfl) (S0.out.f (m6, mapO iv ([] : MK Int)) (by simp)); rw [h]; rfl
  have x3 : (Instr.mapUpdate 245 (.map (some m6)) (iv 1) (iv 1)).run Tryz.prog V = .ok () (setM iv V m6 ([(1, iv 1)] : MK Int)) := update_k ktI (S0.out.mp (b := m6) (kv := iv) (l := ([] : MK Int)) (by simp)) LK.nil Tryz.underlying245 (k := 1) (by decide) (by rfl) (iv 1)
  go_upto_region 1 with fail
  generalize hW : setM iv V m6 _ = W1
  have S1 := Lib.hid (show HS w0 W1 [(p10, oF), (p9, Obj.cells #[.slice none 0 0] 110 (0, 0)), (p8, Obj.cells #[.map (some m8)] 187 (0, 0)), (m8, mapO iv ([] : MK Int)), (p7, Obj.cells #[.map (some m7)] 245 (0, 0)), (p6, Obj.cells #[.map (some m6)] 245 (0, 0)), (m7, mapO iv ([] : MK Int)), (m6, mapO iv ([(1, iv 1)] : MK Int)), (p5, Obj.cells #[.slice none 0 0] 137 (0, 0)), (p3, Obj.cells #[.map (some mU)] 195 (0, 0)), (p2, o2)] from by rw [← hW]; exact HS.setm (pre := [(p10, oF), (p9, Obj.cells #[.slice none 0 0] 110 (0, 0)), (p8, Obj.cells #[.map (some m8)] 187 (0, 0)), (m8, mapO iv ([] : MK Int)), (p7, Obj.cells #[.map (some m7)] 245 (0, 0)), (p6, Obj.cells #[.map (some m6)] 245 (0, 0)), (m7, mapO iv ([] : MK Int))]) (post := [(p5, Obj.cells #[.slice none 0 0] 137 (0, 0)), (p3, Obj.cells #[.map (some mU)] 195 (0, 0)), (p2, o2)]) (l := ([] : MK Int)) S0.out ([(1, iv 1)] : MK Int))
  clear hW
  clear x1 x2 x3
  have x4 : W1.cell? ⟨p7, 0, none⟩ = some (.map (some m7)) := S1.out.cell (b := p7) (C := #[.map (some m7)]) (t := 245) (by simp) 0
  have x5 : W1.cell? ⟨p6, 0, none⟩ = some (.map (some m6)) := S1.out.cell (b := p6) (C := #[.map (some m6)]) (t := 245) (by simp) 0
  have x6 : (Instr.lookup 245 (.map (some m6)) (iv 1) false).run Tryz.prog W1 = .ok (iv 1) W1 := (lookup_k ktI (S1.out.mp (b := m6) (kv := iv) (l := ([(1, iv 1)] : MK Int)) (by simp)) LKone Tryz.underlying245 (z := iv 0) (by kernel_rfl) (k := 1) (by decide)).1
  have x7 : (Instr.mapUpdate 245 (.map (some m7)) (iv 1) (iv 1)).run Tryz.prog W1 = .ok () (setM iv W1 m7 ([(1, iv 1)] : MK Int)) := update_k ktI (S1.out.mp (b := m7) (kv := iv) (l := ([] : MK Int)) (by simp)) LK.nil Tryz.underlying245 (k := 1) (by decide) (by rfl) (iv 1)
  go_upto_region 2 with fail
  generalize hW : setM iv W1 m7 _ = W2
  have S2 := Lib.hid (show HS w0 W2 [(p10, oF), (p9, Obj.cells #[.slice none 0 0] 110 (0, 0)), (p8, Obj.cells #[.map (some m8)] 187 (0, 0)), (m8, mapO iv ([] : MK Int)), (p7, Obj.cells #[.map (some m7)] 245 (0, 0)), (p6, Obj.cells #[.map (some m6)] 245 (0, 0)), (m7, mapO iv ([(1, iv 1)] : MK Int)), (m6, mapO iv ([(1, iv 1)] : MK Int)), (p5, Obj.cells #[.slice none 0 0] 137 (0, 0)), (p3, Obj.cells #[.map (some mU)] 195 (0, 0)), (p2, o2)] from by rw [← hW]; exact HS.setm (pre := [(p10, oF), (p9, Obj.cells #[.slice none 0 0] 110 (0, 0)), (p8, Obj.cells #[.map (some m8)] 187 (0, 0)), (m8, mapO iv ([] : MK Int)), (p7, Obj.cells #[.map (some m7)] 245 (0, 0)), (p6, Obj.cells #[.map (some m6)] 245 (0, 0))]) (post := [(m6, mapO iv ([(1, iv 1)] : MK Int)), (p5, Obj.cells #[.slice none 0 0] 137 (0, 0)), (p3, Obj.cells #[.map (some mU)] 195 (0, 0)), (p2, o2)]) (l := ([] : MK Int)) S1.out ([(1, iv 1)] : MK Int))
  clear hW
  clear x4 x5 x6 x7
  have x8 : W2.cell? ⟨p9, 0, none⟩ = some (.slice none 0 0) := S2.out.cell (b := p9) (C := #[.slice none 0 0]) (t := 110) (by simp) 0
  go_upto_region 3 with (at_builtin; refine wpList_app elI rfl (.tmp 25) (.tmp 27) rfl W2.heap.size (v := .slice none 0 0) rfl OR.nil (A := some ⟨_, 0, none⟩) (M := ([1] : List Int)) (m := 1) (c := 1) rfl rfl (rd_cells (t := 3) ics_len (al_new _ _)) (by simp) (by simp) ?_; intro vq W3 oq gq bq; obtain ⟨gO, cO, uO, rfl, hb, hf, hcO, hcOm, huO, hzuO⟩ := row1 oq rfl; have S3 := Lib.hid (show HS w0 W3 [(gO, Obj.cells uO 3 (0, 0)), (p10, oF), (p9, Obj.cells #[.slice none 0 0] 110 (0, 0)), (p8, Obj.cells #[.map (some m8)] 187 (0, 0)), (m8, mapO iv ([] : MK Int)), (p7, Obj.cells #[.map (some m7)] 245 (0, 0)), (p6, Obj.cells #[.map (some m6)] 245 (0, 0)), (m7, mapO iv ([(1, iv 1)] : MK Int)), (m6, mapO iv ([(1, iv 1)] : MK Int)), (p5, Obj.cells #[.slice none 0 0] 137 (0, 0)), (p3, Obj.cells #[.map (some mU)] 195 (0, 0)), (p2, o2)] from S2.out.row ((gr_al _ _).trans gq) hb hf); have HuO := Lib.hid huO; have HZuO := Lib.hid hzuO; have HcO := Lib.hid (And.intro hcO hcOm); clear oq gq bq hb hf huO hcO hcOm hzuO; clear x8; have x9 : W3.cell? ⟨p9, 0, none⟩ = some (.slice none 0 0) := S3.out.cell (b := p9) (C := #[.slice none 0 0]) (t := 110) (by simp) 0; have x10 : ∀ j, W3.frozen? ⟨p9, j, none⟩ = false := S3.out.frz (b := p9) (C := #[.slice none 0 0]) (t := 110) (by simp))
  generalize hW : World.setCell W3 _ _ = W4
  have S4 := Lib.hid (show HS w0 W4 [(gO, Obj.cells uO 3 (0, 0)), (p10, oF), (p9, Obj.cells #[.slice (some ⟨gO, 0, none⟩) 1 cO] 110 (0, 0)), (p8, Obj.cells #[.map (some m8)] 187 (0, 0)), (m8, mapO iv ([] : MK Int)), (p7, Obj.cells #[.map (some m7)] 245 (0, 0)), (p6, Obj.cells #[.map (some m6)] 245 (0, 0)), (m7, mapO iv ([(1, iv 1)] : MK Int)), (m6, mapO iv ([(1, iv 1)] : MK Int)), (p5, Obj.cells #[.slice none 0 0] 137 (0, 0)), (p3, Obj.cells #[.map (some mU)] 195 (0, 0)), (p2, o2)] from by rw [← hW]; exact HS.setc (pre := [(gO, Obj.cells uO 3 (0, 0)), (p10, oF)]) (post := [(p8, Obj.cells #[.map (some m8)] 187 (0, 0)), (m8, mapO iv ([] : MK Int)), (p7, Obj.cells #[.map (some m7)] 245 (0, 0)), (p6, Obj.cells #[.map (some m6)] 245 (0, 0)), (m7, mapO iv ([(1, iv 1)] : MK Int)), (m6, mapO iv ([(1, iv 1)] : MK Int)), (p5, Obj.cells #[.slice none 0 0] 137 (0, 0)), (p3, Obj.cells #[.map (some mU)] 195 (0, 0)), (p2, o2)]) S3.out 0 _)
  clear hW
  clear x9 x10
  have x11 : W4.cell? ⟨p3, 0, none⟩ = some (.map (some mU)) := S4.out.cell (b := p3) (C := #[.map (some mU)]) (t := 195) (by simp) 0
  have x12 : (Instr.lookup 195 (.map (some mU)) (iv 1) false).run Tryz.prog W4 = .ok (.slice none 0 0) W4 := (lookup_k ktI (HU.out _ S4.out.g) (LKone (v := .slice none 0 0)) Tryz.underlying195 (z := .slice none 0 0) (by kernel_rfl) (k := 1) (by decide)).1
  go_wp2
  refine wp_loop_rounds 1 ?_
  rw [rounds_succ]
  have x13 : W4.cell? ⟨p7, 0, none⟩ = some (.map (some m7)) := S4.out.cell (b := p7) (C := #[.map (some m7)]) (t := 245) (by simp) 0
  have x14 : W4.cell? ⟨p6, 0, none⟩ = some (.map (some m6)) := S4.out.cell (b := p6) (C := #[.map (some m6)]) (t := 245) (by simp) 0
  have x15 : (Instr.lookup 245 (.map (some m7)) (iv 1) false).run Tryz.prog W4 = .ok (iv 1) W4 := (lookup_k ktI (S4.out.mp (b := m7) (kv := iv) (l := ([(1, iv 1)] : MK Int)) (by simp)) LKone Tryz.underlying245 (z := iv 0) (by kernel_rfl) (k := 1) (by decide)).1
  have x16 : (Instr.lookup 245 (.map (some m6)) (iv 1) false).run Tryz.prog W4 = .ok (iv 1) W4 := (lookup_k ktI (S4.out.mp (b := m6) (kv := iv) (l := ([(1, iv 1)] : MK Int)) (by simp)) LKone Tryz.underlying245 (z := iv 0) (by kernel_rfl) (k := 1) (by decide)).1
  go_upto_region 13 with fail
  clear x11 x12 x13 x14 x15 x16
  have x17 : W4.cell? ⟨p9, 0, none⟩ = some (.slice (some ⟨gO, 0, none⟩) 1 cO) := S4.out.cell (b := p9) (C := #[.slice (some ⟨gO, 0, none⟩) 1 cO]) (t := 110) (by simp) 0
  have y0 : W4.cell? ⟨gO, 0, none⟩ = some (iv 1) := (S4.out.cell (b := gO) (C := uO) (t := 3) (by simp) 0).trans (HuO.out 0 _ rfl)
  have hc1 : (1 : Int) ≤ (cO : Int) := by have := HcO.out; omega
  have hc2 : 1 ≤ cO := HcO.out.1
  have hc3 : cO ≤ 9223372036854775807 := HcO.out.2
  have hl : gO < W4.heap.size := S4.out.lt (gO, .cells uO 3 (0, 0)) (by simp)
  have CI := Lib.hid (indexI_one gO cO W4 y0)
  have CC := Lib.hid (cloneI_one gO cO W4 y0 hl)
  go_upto_region 16 with (first | (go_at_call 171; (with_reducible refine (CI.out).mono ?_); rintro e Wq ⟨rfl, rfl⟩) | (go_at_call 172; (with_reducible refine (CC.out).mono ?_); rintro e W5 ⟨v, rfl, o, g⟩; obtain ⟨gC, cC, uC, rfl, hb, hf, hcC, hcCm, huC, hzC⟩ := row1 o rfl; have S5 := Lib.hid (show HS w0 W5 [(gC, Obj.cells uC 3 (0, 0)), (gO, Obj.cells uO 3 (0, 0)), (p10, oF), (p9, Obj.cells #[.slice (some ⟨gO, 0, none⟩) 1 cO] 110 (0, 0)), (p8, Obj.cells #[.map (some m8)] 187 (0, 0)), (m8, mapO iv ([] : MK Int)), (p7, Obj.cells #[.map (some m7)] 245 (0, 0)), (p6, Obj.cells #[.map (some m6)] 245 (0, 0)), (m7, mapO iv ([(1, iv 1)] : MK Int)), (m6, mapO iv ([(1, iv 1)] : MK Int)), (p5, Obj.cells #[.slice none 0 0] 137 (0, 0)), (p3, Obj.cells #[.map (some mU)] 195 (0, 0)), (p2, o2)] from S4.out.row g hb hf); have HuC := Lib.hid huC; have HcC := Lib.hid (And.intro hcC hcCm); clear o g hb hf huC hcC hcCm hzC x17 y0 hl; have x18 : W5.cell? ⟨p9, 0, none⟩ = some (.slice (some ⟨gO, 0, none⟩) 1 cO) := S5.out.cell (b := p9) (C := #[.slice (some ⟨gO, 0, none⟩) 1 cO]) (t := 110) (by simp) 0; have x19 : ∀ j, W5.frozen? ⟨p9, j, none⟩ = false := S5.out.frz (b := p9) (C := #[.slice (some ⟨gO, 0, none⟩) 1 cO]) (t := 110) (by simp)))
  generalize hW : World.setCell W5 _ _ = W6
  have S6 := Lib.hid (show HS w0 W6 [(gC, Obj.cells uC 3 (0, 0)), (gO, Obj.cells uO 3 (0, 0)), (p10, oF), (p9, Obj.cells #[.slice (some ⟨gO, 0, none⟩) 0 cO] 110 (0, 0)), (p8, Obj.cells #[.map (some m8)] 187 (0, 0)), (m8, mapO iv ([] : MK Int)), (p7, Obj.cells #[.map (some m7)] 245 (0, 0)), (p6, Obj.cells #[.map (some m6)] 245 (0, 0)), (m7, mapO iv ([(1, iv 1)] : MK Int)), (m6, mapO iv ([(1, iv 1)] : MK Int)), (p5, Obj.cells #[.slice none 0 0] 137 (0, 0)), (p3, Obj.cells #[.map (some mU)] 195 (0, 0)), (p2, o2)] from by rw [← hW]; exact HS.setc (pre := [(gC, Obj.cells uC 3 (0, 0)), (gO, Obj.cells uO 3 (0, 0)), (p10, oF)]) (post := [(p8, Obj.cells #[.map (some m8)] 187 (0, 0)), (m8, mapO iv ([] : MK Int)), (p7, Obj.cells #[.map (some m7)] 245 (0, 0)), (p6, Obj.cells #[.map (some m6)] 245 (0, 0)), (m7, mapO iv ([(1, iv 1)] : MK Int)), (m6, mapO iv ([(1, iv 1)] : MK Int)), (p5, Obj.cells #[.slice none 0 0] 137 (0, 0)), (p3, Obj.cells #[.map (some mU)] 195 (0, 0)), (p2, o2)]) S5.out 0 _)
  clear hW
  clear x18 x19
  go_wp2
  refine wp_loop_rounds 2 ?_
  rw [rounds_succ]
  have y0 : W6.cell? ⟨gC, 0, none⟩ = some (iv 1) := (S6.out.cell (b := gC) (C := uC) (t := 3) (by simp) 0).trans (HuC.out 0 _ rfl)
  have hl : gC < W6.heap.size := S6.out.lt (gC, .cells uC 3 (0, 0)) (by simp)
  have x20 : W6.cell? ⟨p8, 0, none⟩ = some (.map (some m8)) := S6.out.cell (b := p8) (C := #[.map (some m8)]) (t := 187) (by simp) 0
  have x21 : (Instr.mapUpdate 187 (.map (some m8)) (iv 1) (.bool true)).run Tryz.prog W6 = .ok () (setM iv W6 m8 ([(1, .bool true)] : MK Int)) := update_k ktI (S6.out.mp (b := m8) (kv := iv) (l := ([] : MK Int)) (by simp)) LK.nil Tryz.underlying187 (k := 1) (by decide) (by rfl) (.bool true)
  go_upto_region 20 with fail
  generalize hW : setM iv W6 m8 _ = W7
  have S7 := Lib.hid (show HS w0 W7 [(gC, Obj.cells uC 3 (0, 0)), (gO, Obj.cells uO 3 (0, 0)), (p10, oF), (p9, Obj.cells #[.slice (some ⟨gO, 0, none⟩) 0 cO] 110 (0, 0)), (p8, Obj.cells #[.map (some m8)] 187 (0, 0)), (m8, mapO iv ([(1, .bool true)] : MK Int)), (p7, Obj.cells #[.map (some m7)] 245 (0, 0)), (p6, Obj.cells #[.map (some m6)] 245 (0, 0)), (m7, mapO iv ([(1, iv 1)] : MK Int)), (m6, mapO iv ([(1, iv 1)] : MK Int)), (p5, Obj.cells #[.slice none 0 0] 137 (0, 0)), (p3, Obj.cells #[.map (some mU)] 195 (0, 0)), (p2, o2)] from by rw [← hW]; exact HS.setm (pre := [(gC, Obj.cells uC 3 (0, 0)), (gO, Obj.cells uO 3 (0, 0)), (p10, oF), (p9, Obj.cells #[.slice (some ⟨gO, 0, none⟩) 0 cO] 110 (0, 0)), (p8, Obj.cells #[.map (some m8)] 187 (0, 0))]) (post := [(p7, Obj.cells #[.map (some m7)] 245 (0, 0)), (p6, Obj.cells #[.map (some m6)] 245 (0, 0)), (m7, mapO iv ([(1, iv 1)] : MK Int)), (m6, mapO iv ([(1, iv 1)] : MK Int)), (p5, Obj.cells #[.slice none 0 0] 137 (0, 0)), (p3, Obj.cells #[.map (some mU)] 195 (0, 0)), (p2, o2)]) (l := ([] : MK Int)) S6.out ([(1, .bool true)] : MK Int))
  clear hW
  clear y0 hl x20 x21
  go_wp2
  rw [rounds_succ]
  go_upto_region 22 with (go_at_call 173; (with_reducible refine (sortI_one _ _ _).mono ?_); rintro e Wq ⟨⟨r, rfl⟩, hq⟩; obtain rfl := hq.symm)
  have x22 : W7.cell? ⟨p5, 0, none⟩ = some (.slice none 0 0) := S7.out.cell (b := p5) (C := #[.slice none 0 0]) (t := 137) (by simp) 0
  go_wp2_with (at_builtin; refine wpList_app elG rfl (.tmp 95) (.tmp 97) rfl W7.heap.size (v := .slice none 0 0) rfl OR.nil (A := some ⟨_, 0, none⟩) (M := ([⟨some ⟨gC, 0, none⟩, 1, cC⟩] : List GI)) (m := 1) (c := 1) rfl rfl (rd_cells (t := 110) GI.cs_len (al_new _ _)) (by simp) (by simp) ?_; intro vq W8 oq gq bq; obtain ⟨gG, cG, uG, rfl, hb, hf, hcG, hcGm, huG, hzuG⟩ := row1 oq rfl; have S8 := Lib.hid (show HS w0 W8 [(gG, Obj.cells uG 110 (0, 0)), (gC, Obj.cells uC 3 (0, 0)), (gO, Obj.cells uO 3 (0, 0)), (p10, oF), (p9, Obj.cells #[.slice (some ⟨gO, 0, none⟩) 0 cO] 110 (0, 0)), (p8, Obj.cells #[.map (some m8)] 187 (0, 0)), (m8, mapO iv ([(1, .bool true)] : MK Int)), (p7, Obj.cells #[.map (some m7)] 245 (0, 0)), (p6, Obj.cells #[.map (some m6)] 245 (0, 0)), (m7, mapO iv ([(1, iv 1)] : MK Int)), (m6, mapO iv ([(1, iv 1)] : MK Int)), (p5, Obj.cells #[.slice none 0 0] 137 (0, 0)), (p3, Obj.cells #[.map (some mU)] 195 (0, 0)), (p2, o2)] from S7.out.row ((gr_al _ _).trans gq) hb hf); have HuG := Lib.hid huG; have HZuG := Lib.hid hzuG; have HcG := Lib.hid (And.intro hcG hcGm); clear oq gq bq hb hf huG hcG hcGm hzuG; clear x22; have x23 : W8.cell? ⟨p5, 0, none⟩ = some (.slice none 0 0) := S8.out.cell (b := p5) (C := #[.slice none 0 0]) (t := 137) (by simp) 0; have x24 : ∀ j, W8.frozen? ⟨p5, j, none⟩ = false := S8.out.frz (b := p5) (C := #[.slice none 0 0]) (t := 137) (by simp))
  generalize hW : World.setCell W8 _ _ = WZ
  have SZ := Lib.hid (show HS w0 WZ [(gG, Obj.cells uG 110 (0, 0)), (gC, Obj.cells uC 3 (0, 0)), (gO, Obj.cells uO 3 (0, 0)), (p10, oF), (p9, Obj.cells #[.slice (some ⟨gO, 0, none⟩) 0 cO] 110 (0, 0)), (p8, Obj.cells #[.map (some m8)] 187 (0, 0)), (m8, mapO iv ([(1, .bool true)] : MK Int)), (p7, Obj.cells #[.map (some m7)] 245 (0, 0)), (p6, Obj.cells #[.map (some m6)] 245 (0, 0)), (m7, mapO iv ([(1, iv 1)] : MK Int)), (m6, mapO iv ([(1, iv 1)] : MK Int)), (p5, Obj.cells #[.slice (some ⟨gG, 0, none⟩) 1 cG] 137 (0, 0)), (p3, Obj.cells #[.map (some mU)] 195 (0, 0)), (p2, o2)] from by rw [← hW]; exact HS.setc (pre := [(gG, Obj.cells uG 110 (0, 0)), (gC, Obj.cells uC 3 (0, 0)), (gO, Obj.cells uO 3 (0, 0)), (p10, oF), (p9, Obj.cells #[.slice (some ⟨gO, 0, none⟩) 0 cO] 110 (0, 0)), (p8, Obj.cells #[.map (some m8)] 187 (0, 0)), (m8, mapO iv ([(1, .bool true)] : MK Int)), (p7, Obj.cells #[.map (some m7)] 245 (0, 0)), (p6, Obj.cells #[.map (some m6)] 245 (0, 0)), (m7, mapO iv ([(1, iv 1)] : MK Int)), (m6, mapO iv ([(1, iv 1)] : MK Int))]) (post := [(p3, Obj.cells #[.map (some mU)] 195 (0, 0)), (p2, o2)]) S8.out 0 _)
  clear hW x23 x24
  first | go_end0 | refine bodyPost_ret (results_none rfl _ _ _) rfl ?_
  exact ⟨⟨_, rfl⟩, gG, cG, uG, gC, cC, uC, SZ.out.sub (by simp) (by
    have := SZ.out.n
    simp only [List.map_cons, List.map_nil, List.nodup_cons, List.mem_cons, List.not_mem_nil, or_false, not_or] at this ⊢
    simp_all), ⟨HuG.out 0 _ rfl, HZuG.out⟩, HuC.out 0 _ rfl, HcG.out, HcC.out⟩
end Go.Proofs.YtiaenhlflgobfaaGreatDoor
namespace Go.Proofs.YtiaenhlflgobfaaGreatDoor
open Go.RowKit
theorem delG_clear {B g cap n : Nat} {xs : List Value} {V : World} (h : V.ownsRow B 110 1 (.slice (some ⟨g, 0, none⟩) n cap) n xs) (o : Nat) (ho : o + 1 ≤ n * 1) (ty : TypeId) (c : Nat) : ∃ vs, (Builtin.clear_ #[137] ty #[.slice (some ⟨g, o, none⟩) 1 c]).run Tryz.prog V = .ok (.tuple #[]) (V.setCells g o vs) := by
  have hl := h.1
  have hz : ∀ W, (zeroValue 110).run Tryz.prog W = .ok (.slice none 0 0) W := Tryz.zeroValue110
  obtain ⟨vs, hvs⟩ : ∃ vs, (Builtin.zeroCells (Value.cells (.slice none 0 0)) 1).toList = vs := ⟨_, rfl⟩
  have hlen : vs.length = 1 := by rw [← hvs]; simp [Builtin.zeroCells, Value.cells]
  have h1 : ∀ v ∈ vs, v.oneCell' = true := by
    intro v hv
    rw [← hvs] at hv
    simp [Builtin.zeroCells, Value.cells] at hv
    rw [hv]; rfl
  have hst := run_storeCells_cells (P := Tryz.prog) g o vs 0 V (fun j hj => by
      rw [Nat.add_zero]
      rw [h.cellAt _ (by omega)]
      rw [List.getElem?_eq_getElem (by omega)]
      rfl) (fun j _ => h.frozenAt _) h1
  simp only [Nat.add_zero] at hst
  refine ⟨vs, ?_⟩
  simp [Builtin.clear_, run_underlying Tryz.underlying137, hz, hvs, hst]
attribute [local irreducible] Calls in
set_option maxRecDepth 100000 in
set_option maxHeartbeats 8000000 in
theorem delG_core (B g off cap n i j : Nat) (L : List GI) (w : World) (hof : off = 0) (o : OR 110 1 GI.cs w B (.slice (some ⟨g, 0, none⟩) n cap) L) (hn : L.length = n) (hi : i < n) (hj : j = i + 1) (hc : n ≤ cap) (hm : cap ≤ 9223372036854775807) :
    Calls Tryz.prog 169 #[.slice (some ⟨g, off, none⟩) n cap, .int .i64 i, .int .i64 j] w fun e w' => e = .returned (.slice (some ⟨g, off, none⟩) (n - 1) cap) ∧ OR 110 1 GI.cs w' B (.slice (some ⟨g, 0, none⟩) (n - 1) cap) (L.eraseIdx i) ∧ w.grownBy w' (some g) := by
  obtain ⟨i0, hi0, hz0, hz1, hz2⟩ := info_parts (show (Tryz.prog.info? 110).map (fun i => (i.zero, i.size, i.bytes)) = some (some (.slice none 0 0), 1, 24) by kernel_rfl)
  obtain ⟨news, hnews⟩ : ∃ news, news = (L.drop j).flatMap GI.cs := ⟨_, rfl⟩
  have hlen : news.length = (n - j) * 1 := by rw [hnews, flat_len GI.cs 1 (fun _ => rfl), List.length_drop, hn]
  have o1 : w.drew.ownsRow B 110 1 (.slice (some ⟨g, 0, none⟩) n cap) n (L.flatMap GI.cs) := by have h := o.gr (gr_drew w); unfold OR at h; rwa [hn] at h
  have hfl : (L.flatMap GI.cs).length = n * 1 := by rw [flat_len GI.cs 1 (fun _ => rfl), hn]
  have hget : ∀ t u, news[t]? = some u → w.drew.cell? ⟨g, j * 1 + t, none⟩ = some u := by
    intro t u hu
    have ht := (List.getElem?_eq_some_iff.1 hu).1
    rw [o1.cellAt (j * 1 + t) (by omega)]
    have e : L.flatMap GI.cs = (L.take j).flatMap GI.cs ++ news := by rw [hnews, ← List.flatMap_append, List.take_append_drop]
    rw [e, List.getElem?_append_right (by rw [flat_len GI.cs 1 (fun _ => rfl), List.length_take, hn]; omega), flat_len GI.cs 1 (fun _ => rfl), List.length_take, hn, Nat.min_eq_left (by omega), Nat.add_sub_cancel_left]
    exact hu
  obtain ⟨A, hA, hsrc⟩ : ∃ A : Addr, (if cap = j then some (⟨g, off, none⟩ : Addr) else some ⟨g, off + j, none⟩) = some A ∧ Hid (∀ t u, news[t]? = some u → w.drew.cell? (A.add t) = some u) := by
    by_cases h : cap = j
    · refine ⟨⟨g, off, none⟩, by simp [h], fun t u hu => ?_⟩
      have h0 : news.length = 0 := by rw [hlen]; omega
      rw [List.length_eq_zero_iff.1 h0] at hu
      simp at hu
    · refine ⟨⟨g, off + j * 1, none⟩, by simp [h], fun t u hu => ?_⟩
      rw [Addr.add_lit, hof, Nat.zero_add]
      exact hget t u hu
  have s1 : Hid (news.length = (n - j) * 1) := hlen
  have s2 : Hid (∀ u ∈ news, u.oneCell' = true) := by
    intro u hu
    rw [hnews] at hu
    obtain ⟨x, _, hx⟩ := List.mem_flatMap.1 hu
    exact elG.h1 x u hx
  have s3 : Hid (∀ t, t < news.length → (w.drew.cell? ⟨g, off + i * 1 + t, none⟩).isSome = true ∧ w.drew.frozen? ⟨g, off + i * 1 + t, none⟩ = false) := by
    intro t ht
    rw [hlen] at ht
    rw [hof, Nat.zero_add]
    refine ⟨?_, o1.frozenAt _⟩
    rw [o1.cellAt _ (by omega), List.getElem?_eq_getElem (by rw [hfl]; omega)]
    rfl
  obtain ⟨W1, hW1⟩ : ∃ W1, W1 = w.drew.setCells g (off + i * 1) news := ⟨_, rfl⟩
  have o2 : W1.ownsRow B 110 1 (.slice (some ⟨g, 0, none⟩) n cap) n (setL (L.flatMap GI.cs) (i * 1) news) := by rw [hW1, hof, Nat.zero_add]; exact (setCells_own news _ (i * 1) _ o1).1
  have FIN : Hid (∀ vs, OR 110 1 GI.cs (W1.setCells g (off + (i + (n - j)) * 1) vs) B (.slice (some ⟨g, 0, none⟩) (n - 1) cap) (L.eraseIdx i) ∧ w.grownBy (W1.setCells g (off + (i + (n - j)) * 1) vs) (some g)) := fun vs => by
    have h := del_own (cs := GI.cs) (k := 1) (fun _ => rfl) (o.gr (gr_drew w)) hn hi vs
    rw [hW1, hof, Nat.zero_add, Nat.zero_add, hnews, hj, show i + (n - (i + 1)) = n - 1 from by omega]
    exact ⟨h.1, (World.grownBy.but (gr_drew w) _).trans h.2⟩
  obtain ⟨k1, hk1⟩ : ∃ k, k = i + (n - j) := ⟨_, rfl⟩
  have hcl : ∀ ty c, ∃ vs, (Builtin.clear_ #[137] ty #[.slice (some ⟨g, off + k1 * 1, none⟩) (n - k1) c]).run Tryz.prog W1 = .ok (.tuple #[]) (W1.setCells g (off + k1 * 1) vs) := fun ty c => by
    have h := delG_clear o2 (k1 * 1) (by omega) ty c
    rw [hof, Nat.zero_add, show n - k1 = 1 from by omega]
    exact h
  have HCL := Lib.hid hcl
  have hW : Hid (W1 = w.drew.setCells g (off + i * 1) news) := hW1
  have HK := Lib.hid hk1
  have hic : i ≤ cap := by omega
  have hjc : j ≤ cap := by omega
  have hij : i < j := by omega
  have hij2 : i ≤ j := by omega
  have hin : i ≤ n := by omega
  have hjn : j ≤ n := by omega
  have hsum : i + (n - j) ≤ cap := by omega
  have hkn : i + (n - j) = n - 1 := by omega
  have HJ := Lib.hid (show j = i + 1 ∧ i + (n - j) = n - 1 from ⟨hj, hkn⟩)
  clear hW1 hcl o2 o1 hget hnews hlen hfl o hn hk1 hof hj hkn
  simp only [Nat.mul_one] at FIN HCL
  go_enter Tryz.func169, Tryz.ntmps169
  go_wp2_with fail
  go_region_law (refine step_append_room rfl (.tmp 22) (.tmp 25) 137 rfl 110 i0 1 Tryz.underlying137 hi0 hz1 g off i cap (by simp [Act.eval, Act.put]) A (n - j) (cap - j) news (by simp [Act.eval, Act.put]) s1.out hsrc.out s2.out (by omega) s3.out ?_; rw [← hW.out])
  rw [← HK.out]
  have k2 : k1 < n := by have := HK.out; have := HJ.out; omega
  have k3 : k1 < cap := by omega
  have k4 : k1 ≤ cap := by omega
  have k5 : k1 ≤ n := by omega
  clear hsum
  obtain ⟨vs, hvs⟩ := HCL.out 0 (cap - k1)
  go_wp2
  go_ret
  have e1 : n - 1 = k1 := by have := HK.out; have := HJ.out; omega
  have F := FIN.out vs
  rw [← HK.out] at F
  rw [e1] at F ⊢
  exact ⟨rfl, F⟩
theorem delG_any (B i : Nat) (z : Int) (v : Value) (L : List GI) (w : World) (o : OR 110 1 GI.cs w B v L) (hi : i < L.length) (hz : z = (i : Int) + 1) :
    Calls Tryz.prog 169 #[v, .int .i64 i, .int .i64 z] w fun e w' => ∃ v', e = .returned v' ∧ OR 110 1 GI.cs w' B v' (L.eraseIdx i) ∧ w.grownBy w' v.ownBlock ∧ v'.ownBlock = v.ownBlock := by
  have e : z = ((i + 1 : Nat) : Int) := by omega
  subst e
  obtain ⟨A, c, rfl, -, hnc, hc9, hA0, hA⟩ := o.form2 elG.hn
  cases A with
  | none => have := hA0 rfl; omega
  | some a =>
    obtain ⟨-, h2, e3⟩ : B ≤ a.block ∧ a.block < w.heap.size ∧ a = ⟨a.block, 0, none⟩ := hA a rfl
    rw [e3] at o ⊢
    refine (delG_core B a.block 0 c L.length i (i + 1) L w rfl o rfl hi rfl hnc hc9).mono ?_
    rintro e w' ⟨rfl, h3, h4⟩
    exact ⟨_, rfl, h3, h4, rfl⟩
end Go.Proofs.YtiaenhlflgobfaaGreatDoor
namespace Go.Proofs.YtiaenhlflgobfaaGreatDoor
open Go.RowKit Go.Maps
theorem HSgo {G : Act → World → Prop} {tm : Array Value} {df : List Deferred} {w0 V : World} {L : List (Nat × Obj)} (h : HS w0 V L) (rest : ∀ V', HS w0 V' L → G ⟨tm, df⟩ V') : G ⟨tm, df⟩ V := rest V h
theorem HS.tail {w0 V : World} {L : List (Nat × Obj)} {p : Nat × Obj} (h : HS w0 V (p :: L)) : HS w0 V L := h.sub (fun q hq => by simp [hq]) (by have := h.n; rw [List.map_cons, List.nodup_cons] at this; exact this.2)
theorem HS.lose {w0 V V' : World} {pre post : List (Nat × Obj)} {b : Nat} {o : Obj} (h : HS w0 V (pre ++ (b, o) :: post)) (g : V.grownBy V' (some b)) : HS w0 V' (pre ++ post) := by
  have hb := heap_lt (h.f (b, o) (by simp))
  obtain ⟨o', ho⟩ : ∃ o', V'.heap[b]? = some o' := ⟨_, Array.getElem?_eq_getElem (Nat.lt_of_lt_of_le hb g.size)⟩
  have h2 := h.put g ho
  refine h2.sub (fun q hq => ?_) ?_
  · rcases List.mem_append.1 hq with h | h <;> simp [h]
  · have := h2.n
    rw [List.map_append, List.map_cons, List.nodup_append, List.nodup_cons] at this
    rw [List.map_append, List.nodup_append]
    exact ⟨this.1, this.2.1.2, fun a ha c hc => this.2.2 a ha c (by simp [hc])⟩
set_option maxRecDepth 100000 in
set_option maxHeartbeats 4000000 in
attribute [local irreducible] Calls in
theorem components_a (kN kD mU : Nat) (w : World) (hD : w.heap[kD]? = some (.cells #[iv 1, iv 1, .bool true, .slice (some ⟨kN, 0, none⟩) 1 1, .bool false, iv 1, .string ⟨#[]⟩, .string ⟨#[]⟩, iv 7, iv 0, .slice none 0 0] 45 (0, 0))) (hU : MP iv w mU ([(1, .slice none 0 0)] : MK Int)) : Calls Tryz.prog 121 #[.agg #[.string ⟨#[109]⟩, .slice none 0 0, .slice (some ⟨kD, 0, none⟩) 1 1], .map (some mU)] w fun e w' => ∃ gG cG uG gC cC uC, e = .returned (.slice (some ⟨gG, 0, none⟩) 1 cG) ∧ HS w w' [(gG, .cells uG 110 (0, 0)), (gC, .cells uC 3 (0, 0))] ∧ (uG[0]? = some (.slice (some ⟨gC, 0, none⟩) 1 cC) ∧ uG.size = cG * 1) ∧ uC[0]? = some (iv 1) ∧ (1 ≤ cG ∧ cG ≤ 9223372036854775807) ∧ (1 ≤ cC ∧ cC ≤ 9223372036854775807) := by
  have FD := Lib.hid (fun V (g : Gr w V) => boxD (gr_h g hD))
  have HU := Lib.hid (fun V (g : Gr w V) => hU.keep (g.block _ (MP.lt hU) (by simp)))
  clear hD hU
  have S0 := Lib.hid (HS.nil (w0 := w))
  have hmm := @run_makeMap Tryz.prog
  obtain ⟨b, hb⟩ : ∃ b, w.heap.size = b := ⟨_, rfl⟩
  go_enter Tryz.func121, Tryz.ntmps121
  go_upto_region 6 with fail
  refine HSgo (w0 := w) (L := [((b + 1 + 1 + 1 + 1 + 1 + 1 + 1 + 1 + 1 + 1), Obj.cells #[Value.nilFunc] 101 (0, 0)), ((b + 1 + 1 + 1 + 1 + 1 + 1 + 1 + 1 + 1), Obj.cells #[.slice none 0 0] 110 (0, 0)), ((b + 1 + 1 + 1 + 1 + 1 + 1 + 1 + 1), Obj.cells #[.map (some ((b + 1 + 1 + 1 + 1 + 1 + 1 + 1)))] 187 (0, 0)), ((b + 1 + 1 + 1 + 1 + 1 + 1 + 1), mapO iv ([] : MK Int)), ((b + 1 + 1 + 1 + 1 + 1 + 1), Obj.cells #[.map (some ((b + 1 + 1 + 1 + 1)))] 245 (0, 0)), ((b + 1 + 1 + 1 + 1 + 1), Obj.cells #[.map (some ((b + 1 + 1 + 1)))] 245 (0, 0)), ((b + 1 + 1 + 1 + 1), mapO iv ([] : MK Int)), ((b + 1 + 1 + 1), mapO iv ([] : MK Int)), ((b + 1 + 1), Obj.cells #[.slice none 0 0] 137 (0, 0)), ((b + 1), Obj.cells #[.map (some mU)] 195 (0, 0)), (b, Obj.cells #[.string ⟨#[109]⟩, .slice none 0 0, .slice (some ⟨kD, 0, none⟩) 1 1] 39 (0, 0))]) (by repeat' (first | exact HS.nil | refine HS.alloc ?_ (by simp [hb]) _)) ?_
  intro W1 S1
  clear hb
  generalize b + 1 = p1 at S1 ⊢
  generalize p1 + 1 = p2 at S1 ⊢
  generalize p2 + 1 = p3 at S1 ⊢
  generalize p3 + 1 = p4 at S1 ⊢
  generalize p4 + 1 = p5 at S1 ⊢
  generalize p5 + 1 = p6 at S1 ⊢
  generalize p6 + 1 = p7 at S1 ⊢
  generalize p7 + 1 = p8 at S1 ⊢
  generalize p8 + 1 = p9 at S1 ⊢
  generalize p9 + 1 = p10 at S1 ⊢
  have S1 := Lib.hid S1
  have x1 : W1.cell? ⟨p10, 0, none⟩ = some (Value.nilFunc) := S1.out.cell (b := p10) (C := #[Value.nilFunc]) (t := 101) (by simp) 0
  have x2 : ∀ j, W1.frozen? ⟨p10, j, none⟩ = false := S1.out.frz (b := p10) (C := #[Value.nilFunc]) (t := 101) (by simp)
  have x3 : ∀ (a : Addr) (f : Fn) (x y : Array Value) (m : Mode) (w : World), (store a (.func f x y) m).run Tryz.prog w = stored Tryz.prog w a (.func f x y) m := fun a f x y m w => run_store Tryz.prog w a _ m rfl
  go_upto_region 7 with fail
  generalize hW : World.setCell W1 _ _ = W2
  have S2 := Lib.hid (show HS w W2 [(p10, Obj.cells #[.func (.func 170) #[] #[.pointer (some ⟨p5, 0, none⟩), .pointer (some ⟨p6, 0, none⟩), .pointer (some ⟨p9, 0, none⟩), .pointer (some ⟨p1, 0, none⟩), .pointer (some ⟨p10, 0, none⟩), .pointer (some ⟨p8, 0, none⟩), .pointer (some ⟨p2, 0, none⟩)]] 101 (0, 0)), (p9, Obj.cells #[.slice none 0 0] 110 (0, 0)), (p8, Obj.cells #[.map (some (p7))] 187 (0, 0)), (p7, mapO iv ([] : MK Int)), (p6, Obj.cells #[.map (some (p4))] 245 (0, 0)), (p5, Obj.cells #[.map (some (p3))] 245 (0, 0)), (p4, mapO iv ([] : MK Int)), (p3, mapO iv ([] : MK Int)), (p2, Obj.cells #[.slice none 0 0] 137 (0, 0)), (p1, Obj.cells #[.map (some mU)] 195 (0, 0)), (b, Obj.cells #[.string ⟨#[109]⟩, .slice none 0 0, .slice (some ⟨kD, 0, none⟩) 1 1] 39 (0, 0))] from by rw [← hW]; exact HS.setc (pre := []) (post := [(p9, Obj.cells #[.slice none 0 0] 110 (0, 0)), (p8, Obj.cells #[.map (some (p7))] 187 (0, 0)), (p7, mapO iv ([] : MK Int)), (p6, Obj.cells #[.map (some (p4))] 245 (0, 0)), (p5, Obj.cells #[.map (some (p3))] 245 (0, 0)), (p4, mapO iv ([] : MK Int)), (p3, mapO iv ([] : MK Int)), (p2, Obj.cells #[.slice none 0 0] 137 (0, 0)), (p1, Obj.cells #[.map (some mU)] 195 (0, 0)), (b, Obj.cells #[.string ⟨#[109]⟩, .slice none 0 0, .slice (some ⟨kD, 0, none⟩) 1 1] 39 (0, 0))]) S1.out 0 _)
  clear hW
  clear x1 x2 x3
  have x4 : W2.cell? ⟨b, 2, none⟩ = some (.slice (some ⟨kD, 0, none⟩) 1 1) := S2.out.cell (b := b) (C := #[.string ⟨#[109]⟩, .slice none 0 0, .slice (some ⟨kD, 0, none⟩) 1 1]) (t := 39) (by simp) 2
  go_wp2
  refine wp_loop_rounds 2 ?_
  rw [rounds_succ]
  obtain ⟨d0, d1, d2, d3, d4, d5, d6, d7, d8, d9, d10⟩ := FD.out _ S2.out.g
  obtain ⟨b12, hb12⟩ : ∃ b, W2.heap.size = b := ⟨_, rfl⟩
  go_upto_region 10 with fail
  generalize hW : World.alloc W2 _ = W3
  have S3 := Lib.hid (show HS w W3 [(b12, Obj.cells #[iv 1, iv 1, .bool true, .slice (some ⟨kN, 0, none⟩) 1 1, .bool false, iv 1, .string ⟨#[]⟩, .string ⟨#[]⟩, iv 7, iv 0, .slice none 0 0] 45 (0, 0)), (p10, Obj.cells #[.func (.func 170) #[] #[.pointer (some ⟨p5, 0, none⟩), .pointer (some ⟨p6, 0, none⟩), .pointer (some ⟨p9, 0, none⟩), .pointer (some ⟨p1, 0, none⟩), .pointer (some ⟨p10, 0, none⟩), .pointer (some ⟨p8, 0, none⟩), .pointer (some ⟨p2, 0, none⟩)]] 101 (0, 0)), (p9, Obj.cells #[.slice none 0 0] 110 (0, 0)), (p8, Obj.cells #[.map (some (p7))] 187 (0, 0)), (p7, mapO iv ([] : MK Int)), (p6, Obj.cells #[.map (some (p4))] 245 (0, 0)), (p5, Obj.cells #[.map (some (p3))] 245 (0, 0)), (p4, mapO iv ([] : MK Int)), (p3, mapO iv ([] : MK Int)), (p2, Obj.cells #[.slice none 0 0] 137 (0, 0)), (p1, Obj.cells #[.map (some mU)] 195 (0, 0)), (b, Obj.cells #[.string ⟨#[109]⟩, .slice none 0 0, .slice (some ⟨kD, 0, none⟩) 1 1] 39 (0, 0))] from by rw [← hW]; exact S2.out.alloc hb12 _)
  clear hW
  have Hb12 := Lib.hid hb12
  clear hb12
  clear x4 d0 d1 d2 d3 d4 d5 d6 d7 d8 d9 d10
  have x5 : W3.cell? ⟨p5, 0, none⟩ = some (.map (some (p3))) := S3.out.cell (b := p5) (C := #[.map (some (p3))]) (t := 245) (by simp) 0
  have x6 : W3.cell? ⟨b12, 0, none⟩ = some (iv 1) := S3.out.cell (b := b12) (C := #[iv 1, iv 1, .bool true, .slice (some ⟨kN, 0, none⟩) 1 1, .bool false, iv 1, .string ⟨#[]⟩, .string ⟨#[]⟩, iv 7, iv 0, .slice none 0 0]) (t := 45) (by simp) 0
  have x7 : W3.cell? ⟨p10, 0, none⟩ = some (.func (.func 170) #[] #[.pointer (some ⟨p5, 0, none⟩), .pointer (some ⟨p6, 0, none⟩), .pointer (some ⟨p9, 0, none⟩), .pointer (some ⟨p1, 0, none⟩), .pointer (some ⟨p10, 0, none⟩), .pointer (some ⟨p8, 0, none⟩), .pointer (some ⟨p2, 0, none⟩)]) := S3.out.cell (b := p10) (C := #[.func (.func 170) #[] #[.pointer (some ⟨p5, 0, none⟩), .pointer (some ⟨p6, 0, none⟩), .pointer (some ⟨p9, 0, none⟩), .pointer (some ⟨p1, 0, none⟩), .pointer (some ⟨p10, 0, none⟩), .pointer (some ⟨p8, 0, none⟩), .pointer (some ⟨p2, 0, none⟩)]]) (t := 101) (by simp) 0
  have x8 : (Instr.lookup 245 (.map (some p3)) (iv 1) false).run Tryz.prog W3 = .ok (iv 0) W3 := (lookup_k ktI (S3.out.mp (b := p3) (kv := iv) (l := ([] : MK Int)) (by simp)) LK.nil Tryz.underlying245 (z := iv 0) (by kernel_rfl) (k := 1) (by decide)).1
  have CV := Lib.hid (comp1_a w W3 _ _ _ _ _ _ _ _ _ _ _ mU _ _ (S3.out.tail) HU.out)
  go_wp2_with (go_at_call 170; (with_reducible refine (CV.out).mono ?_); rintro e WA ⟨⟨r, rfl⟩, gG, cG, uG, gC, cC, uC, sA, h1, h2, h3, h4⟩; have SA := Lib.hid sA; have HH := Lib.hid (And.intro h1 (And.intro h2 (And.intro h3 h4))); clear sA h1 h2 h3 h4)
  clear x5 x6 x7 x8
  rw [rounds_succ]
  have z0 : WA.cell? ⟨p2, 0, none⟩ = some (.slice (some ⟨gG, 0, none⟩) 1 cG) := SA.out.cell (show (p2, Obj.cells #[.slice (some ⟨gG, 0, none⟩) 1 cG] 137 (0, 0)) ∈ _ from by simp) 0
  go_wp2
  go_ret
  exact ⟨gG, cG, uG, gC, cC, uC, rfl, SA.out.sub (by simp) (by have := SA.out.n; simp only [List.map_cons, List.map_nil, List.nodup_cons, List.mem_cons, List.not_mem_nil, or_false, not_or] at this ⊢; simp_all), HH.out.1, HH.out.2.1, HH.out.2.2.1, HH.out.2.2.2⟩
set_option maxRecDepth 100000 in
set_option maxHeartbeats 4000000 in
attribute [local irreducible] Calls in
theorem ord2_a (gC cC p q mU : Nat) (w : World) (h1 : w.cell? ⟨gC, 0, none⟩ = some (iv 1)) (h2 : w.cell? ⟨p, 0, none⟩ = some (.map (some mU))) (hU : MP iv w mU ([(1, .slice none 0 0)] : MK Int)) (_hc : 1 ≤ cC ∧ cC ≤ 9223372036854775807) : Calls Tryz.prog 167 #[.slice (some ⟨gC, 0, none⟩) 1 cC, .pointer (some ⟨p, 0, none⟩), .pointer (some ⟨q, 0, none⟩)] w fun e w' => e = .returned (.bool true) ∧ w' = w := by
  have lk : (Instr.lookup 195 (.map (some mU)) (iv 1) false).run Tryz.prog w = .ok (.slice none 0 0) w := (lookup_k ktI hU (LKone (v := .slice none 0 0)) Tryz.underlying195 (z := .slice none 0 0) (by kernel_rfl) (k := 1) (by decide)).1
  clear hU
  go_enter Tryz.func167, Tryz.ntmps167
  go_wp2
  refine wp_loop_rounds 2 ?_
  rw [rounds_succ]
  go_wp2
  refine wp_loop_rounds 1 ?_
  rw [rounds_succ]
  go_wp2
  rw [rounds_succ]
  go_wp2
  go_ret
  exact ⟨rfl, rfl⟩
set_option maxRecDepth 100000 in
set_option maxHeartbeats 4000000 in
attribute [local irreducible] Calls in
theorem idxG_a (gG cG gC cC p q mU : Nat) (w : World) (h0 : w.cell? ⟨gG, 0, none⟩ = some (.slice (some ⟨gC, 0, none⟩) 1 cC)) (h1 : w.cell? ⟨gC, 0, none⟩ = some (iv 1)) (h2 : w.cell? ⟨p, 0, none⟩ = some (.map (some mU))) (hU : MP iv w mU ([(1, .slice none 0 0)] : MK Int)) (hc : 1 ≤ cC ∧ cC ≤ 9223372036854775807) : Calls Tryz.prog 166 #[.slice (some ⟨gG, 0, none⟩) 1 cG, .func (.func 167) #[] #[.pointer (some ⟨p, 0, none⟩), .pointer (some ⟨q, 0, none⟩)]] w fun e w' => e = .returned (iv 0) ∧ w' = w := by
  have C1 := Lib.hid (ord2_a gC cC p q mU w h1 h2 hU hc)
  clear hU h1 h2
  go_enter Tryz.func166, Tryz.ntmps166
  go_wp2
  refine wp_loop_rounds 1 ?_
  rw [rounds_succ]
  go_wp2_with (go_at_call 167; (with_reducible refine (C1.out).mono ?_); rintro e W1 ⟨rfl, hq⟩; obtain rfl := hq.symm)
  go_ret
  exact ⟨rfl, rfl⟩
set_option maxRecDepth 100000 in
set_option maxHeartbeats 4000000 in
attribute [local irreducible] Calls in
theorem ordered_a (gG cG gC cC mU : Nat) (uG uC : Array Value) (w0 V : World) (hS : HS w0 V [(gG, .cells uG 110 (0, 0)), (gC, .cells uC 3 (0, 0))]) (hG : uG[0]? = some (.slice (some ⟨gC, 0, none⟩) 1 cC) ∧ uG.size = cG * 1) (hC : uC[0]? = some (iv 1)) (hcG : 1 ≤ cG ∧ cG ≤ 9223372036854775807) (hcC : 1 ≤ cC ∧ cC ≤ 9223372036854775807) (hU : ∀ V', Gr w0 V' → MP iv V' mU ([(1, .slice none 0 0)] : MK Int)) :
    Calls Tryz.prog 120 #[.slice (some ⟨gG, 0, none⟩) 1 cG, .map (some mU)] V fun e V' => ∃ gL cL uL, e = .returned (.slice (some ⟨gL, 0, none⟩) 1 cL) ∧ HS w0 V' [(gL, .cells uL 110 (0, 0)), (gC, .cells uC 3 (0, 0))] ∧ uL[0]? = some (.slice (some ⟨gC, 0, none⟩) 1 cC) ∧ (1 ≤ cL ∧ cL ≤ 9223372036854775807) := by
  have HU := Lib.hid hU
  have HG := Lib.hid hG
  have HC := Lib.hid hC
  have HcG := Lib.hid hcG
  have HcC := Lib.hid hcC
  clear hU hG hC hcG hcC
  have S0 := Lib.hid hS
  clear hS
  have hmm := @run_makeMap Tryz.prog
  obtain ⟨b, hb⟩ : ∃ b, V.heap.size = b := ⟨_, rfl⟩
  go_enter Tryz.func120, Tryz.ntmps120
  go_upto_region 4 with (go_at_call 164; (with_reducible refine (sortG_one _ _ _ _).mono ?_); rintro e Wq ⟨⟨r, rfl⟩, rfl⟩)
  refine HSgo (w0 := w0) (L := [((b + 1 + 1), Obj.cells #[.map (some ((b + 1)))] 187 (0, 0)), ((b + 1), mapO iv ([] : MK Int)), (b, Obj.cells #[.map (some mU)] 195 (0, 0)), (gG, Obj.cells uG 110 (0, 0)), (gC, Obj.cells uC 3 (0, 0))]) (by repeat' (first | exact S0.out | refine HS.alloc ?_ (by simp [hb]) _)) ?_
  intro W1 S1
  clear hb
  generalize b + 1 = p1 at S1 ⊢
  generalize p1 + 1 = p2 at S1 ⊢
  have S1 := Lib.hid S1
  have y0 : W1.cell? ⟨gG, 0, none⟩ = some (.slice (some ⟨gC, 0, none⟩) 1 cC) := (S1.out.cell (b := gG) (C := uG) (t := 110) (by simp) 0).trans HG.out.1
  have y1 : W1.cell? ⟨gC, 0, none⟩ = some (iv 1) := (S1.out.cell (b := gC) (C := uC) (t := 3) (by simp) 0).trans HC.out
  have x1 : W1.cell? ⟨b, 0, none⟩ = some (.map (some mU)) := S1.out.cell (b := b) (C := #[.map (some mU)]) (t := 195) (by simp) 0
  have CI := Lib.hid (idxG_a gG cG gC cC b (p2) mU W1 y0 y1 x1 (HU.out _ S1.out.g) HcC.out)
  have k1 : 1 ≤ cG := HcG.out.1
  have k2 : cG ≤ 9223372036854775807 := HcG.out.2
  have k3 : 1 ≤ cC := HcC.out.1
  have k4 : cC ≤ 9223372036854775807 := HcC.out.2
  refine wp_loop_rounds 2 ?_
  rw [rounds_succ]
  go_upto_region 9 with (go_at_call 166; (with_reducible refine (CI.out).mono ?_); rintro e Wq ⟨rfl, hq⟩; obtain rfl := hq.symm)
  refine wp_loop_rounds 2 ?_
  rw [rounds_succ]
  have x2 : W1.cell? ⟨p2, 0, none⟩ = some (.map (some (p1))) := S1.out.cell (b := p2) (C := #[.map (some (p1))]) (t := 187) (by simp) 0
  have x3 : (Instr.mapUpdate 187 (.map (some p1)) (iv 1) (.bool true)).run Tryz.prog W1 = .ok () (setM iv W1 p1 ([(1, .bool true)] : MK Int)) := update_k ktI (S1.out.mp (b := p1) (kv := iv) (l := ([] : MK Int)) (by simp)) LK.nil Tryz.underlying187 (k := 1) (by decide) (by rfl) (.bool true)
  go_upto_region 12 with fail
  generalize hW : setM iv W1 p1 _ = W2
  have S2 := Lib.hid (show HS w0 W2 [(p2, Obj.cells #[.map (some (p1))] 187 (0, 0)), (p1, mapO iv ([(1, .bool true)] : MK Int)), (b, Obj.cells #[.map (some mU)] 195 (0, 0)), (gG, Obj.cells uG 110 (0, 0)), (gC, Obj.cells uC 3 (0, 0))] from by rw [← hW]; exact HS.setm (pre := [(p2, Obj.cells #[.map (some (p1))] 187 (0, 0))]) (post := [(b, Obj.cells #[.map (some mU)] 195 (0, 0)), (gG, Obj.cells uG 110 (0, 0)), (gC, Obj.cells uC 3 (0, 0))]) (l := ([] : MK Int)) S1.out ([(1, .bool true)] : MK Int))
  clear hW
  clear y0 y1 x1 x2 x3
  go_wp2
  rw [rounds_succ]
  have y0 : W2.cell? ⟨gG, 0, none⟩ = some (.slice (some ⟨gC, 0, none⟩) 1 cC) := (S2.out.cell (b := gG) (C := uG) (t := 110) (by simp) 0).trans HG.out.1
  go_upto_region 14 with (at_builtin; refine wpList_app elG rfl (.tmp 34) (.tmp 39) rfl W2.heap.size (v := .slice none 0 0) rfl OR.nil (A := some ⟨_, 0, none⟩) (M := ([⟨some ⟨gC, 0, none⟩, 1, cC⟩] : List GI)) (m := 1) (c := 1) rfl rfl (rd_cells (t := 110) GI.cs_len (al_new _ _)) (by simp) (by simp) ?_; intro vq W3 oq gq bq; obtain ⟨gL, cL, uL, rfl, hb, hf, hcL, hcLm, huL, hzuL⟩ := row1 oq rfl; have S3 := Lib.hid (show HS w0 W3 [(gL, Obj.cells uL 110 (0, 0)), (p2, Obj.cells #[.map (some (p1))] 187 (0, 0)), (p1, mapO iv ([(1, .bool true)] : MK Int)), (b, Obj.cells #[.map (some mU)] 195 (0, 0)), (gG, Obj.cells uG 110 (0, 0)), (gC, Obj.cells uC 3 (0, 0))] from S2.out.row ((gr_al _ _).trans gq) hb hf); have HuL := Lib.hid huL; have HZuL := Lib.hid hzuL; have HcL := Lib.hid (And.intro hcL hcLm); clear oq gq bq hb hf huL hcL hcLm hzuL; clear y0)
  have OD := Lib.hid (show OR 110 1 GI.cs W3 w0.heap.size (.slice (some ⟨gG, 0, none⟩) 1 cG) [⟨some ⟨gC, 0, none⟩, 1, cC⟩] from row_or rfl (S3.out.f (gG, .cells uG 110 (0, 0)) (by simp)) (S3.out.b (gG, .cells uG 110 (0, 0)) (by simp)) HcG.out.1 HcG.out.2 HG.out.2 HG.out.1)
  have CD := Lib.hid (show Calls Tryz.prog 169 #[.slice (some ⟨gG, 0, none⟩) 1 cG, iv 0, .int .i64 1] W3 _ from delG_any w0.heap.size 0 1 (.slice (some ⟨gG, 0, none⟩) 1 cG) [⟨some ⟨gC, 0, none⟩, 1, cC⟩] W3 OD.out (by simp) (by simp))
  go_wp2_with (go_at_call 169; (with_reducible refine (CD.out).mono ?_); rintro e W4 ⟨v, rfl, o, g, -⟩; obtain ⟨aD, cD, rfl, -⟩ := o.form2 GI.cs_len; have S4 := Lib.hid (show HS w0 W4 [(gL, Obj.cells uL 110 (0, 0)), (p2, Obj.cells #[.map (some (p1))] 187 (0, 0)), (p1, mapO iv ([(1, .bool true)] : MK Int)), (b, Obj.cells #[.map (some mU)] 195 (0, 0)), (gC, Obj.cells uC 3 (0, 0))] from HS.lose (pre := [(gL, Obj.cells uL 110 (0, 0)), (p2, Obj.cells #[.map (some (p1))] 187 (0, 0)), (p1, mapO iv ([(1, .bool true)] : MK Int)), (b, Obj.cells #[.map (some mU)] 195 (0, 0))]) (post := [(gC, Obj.cells uC 3 (0, 0))]) S3.out g); clear o g)
  rw [rounds_succ]
  go_wp2
  go_ret
  exact ⟨gL, cL, uL, rfl, S4.out.sub (by simp) (by have := S4.out.n; simp only [List.map_cons, List.map_nil, List.nodup_cons, List.mem_cons, List.not_mem_nil, or_false, not_or] at this ⊢; simp_all), HuL.out 0 _ rfl, HcL.out⟩
end Go.Proofs.YtiaenhlflgobfaaGreatDoor

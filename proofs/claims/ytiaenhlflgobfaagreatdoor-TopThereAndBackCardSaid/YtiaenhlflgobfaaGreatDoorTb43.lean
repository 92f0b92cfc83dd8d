/- Walks and words: AwG, AwI, AwJ, AwK, AwL, Gre, Smd, AwM, Ivt, LwP, LawT. -/
import Derived.Test.YtiaenhlflgobfaaGreatDoorTb3
import Derived.Test.YtiaenhlflgobfaaGreatDoorTb19
import Derived.Test.YtiaenhlflgobfaaGreatDoorTb24
import Derived.Test.YtiaenhlflgobfaaGreatDoorTb27
import Derived.Test.YtiaenhlflgobfaaGreatDoorTb36
import Derived.Test.YtiaenhlflgobfaaGreatDoorTb37
import Derived.Test.YtiaenhlflgobfaaGreatDoorTb38
import Derived.Test.YtiaenhlflgobfaaGreatDoorTb42
import Derived.LaidEqlPtr
import Derived.Deep.RegionHeld3
namespace Go.Proofs.YtiaenhlflgobfaaGreatDoor
open Go.RowKit Go.Maps
def aD (kN : Nat) : Dec:=⟨1,1,true,some ⟨kN,0,none⟩,1,[[102]],false,aB⟩
def aM (kN kD : Nat) : Mod:=⟨[109],none,0,[],some ⟨kD,0,none⟩,1,[aD kN]⟩
theorem aM_rd {kN kD : Nat} {w : World} (hN : w.heap[kN]? = some (.cells #[.string ⟨#[102]⟩] 9 (0,0))) (hD : w.heap[kD]? = some (.cells #[iv 1,iv 1,.bool true,.slice (some ⟨kN,0,none⟩) 1 1,.bool false,iv 1,.string ⟨#[]⟩,.string ⟨#[]⟩,iv 7,iv 0,.slice none 0 0] 45 (0,0))) : (aM kN kD).Rd w:=by
 refine ⟨by simp [aM,sOk],SRd.nil w,⟨⟨by simp [aM],by simp [aM],fun h => (by cases h),Qj (t:=45) Dec.cs_len hD⟩,fun x hx => ?_⟩⟩
 have hx2 : x = aD kN:=by simpa [aM] using hx
 subst hx2
 refine ⟨⟨⟨by simp [aD],by simp [aD],fun h => (by cases h),Qj (t:=9) Yy hN⟩,fun s hs => ?_⟩,⟨XRd.nil w,by simp [aD,aB,sOk,Ex.name],by simp [aD,aB,sOk,Ex.more]⟩⟩
 have h1 : s = [102]:=by simpa [aD] using hs
 rw [h1]
 simp [sOk]
theorem Qku (kN kD : Nat) : ckM (aM kN kD).er = 0:=by
 have : (aM kN kD).er = ⟨[109],[],[⟨1,1,true,[[102]],false,.mk 1 [] [] 7 0 []⟩]⟩:=by simp [aM,Mod.er,Dec.er,aD,aB,Ex.er]
 rw [this]
 decide +kernel
set_option maxRecDepth 100000 in
set_option maxHeartbeats 4000000 in
attribute [local irreducible] Calls in
theorem Qnz (kN kD : Nat) (w : World) (hN : w.heap[kN]? = some (.cells #[.string ⟨#[102]⟩] 9 (0,0))) (hD : w.heap[kD]? = some (.cells #[iv 1,iv 1,.bool true,.slice (some ⟨kN,0,none⟩) 1 1,.bool false,iv 1,.string ⟨#[]⟩,.string ⟨#[]⟩,iv 7,iv 0,.slice none 0 0] 45 (0,0))) : Calls Tryz.prog 77 #[.agg #[.string ⟨#[109]⟩,.slice none 0 0,.slice (some ⟨kD,0,none⟩) 1 1]] w fun e w' => ∃ gL cL uL gC cC uC,e = .returned (.tuple #[.slice (some ⟨gL,0,none⟩) 1 cL,iv 0]) ∧ HS w w' [(gL,.cells uL 110 (0,0)),(gC,.cells uC 3 (0,0))] ∧ uL[0]? = some (.slice (some ⟨gC,0,none⟩) 1 cC) ∧ uC[0]? = some (iv 1) ∧ (1 ≤ cL ∧ cL ≤ 9223372036854775807) ∧ (1 ≤ cC ∧ cC ≤ 9223372036854775807):=by
 have FN:=Qo0 (fun V (g : Gr w V) => show V.cell? ⟨kN,0,none⟩ = some (.string ⟨#[102]⟩) from Lib.cell_of_heap (Qe g hN) 0)
 have FD:=Qo0 (fun V (g : Gr w V) => boxD (Qe g hD))
 have HD:=Qo0 hD
 have CU:=Qo0 (fun V => uses_a kN V)
 have CK:=Qo0 (fun V (g : Gr w V) => show Calls Tryz.prog 39 #[.agg #[.string ⟨#[109]⟩,.slice none 0 0,.slice (some ⟨kD,0,none⟩) 1 1]] V (fun e w' => e = .returned (iv 0) ∧ Gr V w') from by
  have h:=Qal (aM kN kD) V ((aM_rd hN hD).gr g)
  rw [Qku] at h
  exact h)
 unfold aDv at CU
 clear hN hD
 have S0:=Qo0 (HS.nil (w0:=w))
 have hmm:=@run_makeMap Tryz.prog
 go_enter Tryz.func77,Tryz.ntmps77
 obtain ⟨b1,hb1⟩ : ∃ b,w.heap.size = b:=⟨_,rfl⟩
 go_upto_region 1 with fail
 generalize hW : World.alloc w _ = W1
 have S1:=Qo0 (show HS w W1 [(b1,Obj.cells #[.string ⟨#[109]⟩,.slice none 0 0,.slice (some ⟨kD,0,none⟩) 1 1] 39 (0,0))] from by rw [← hW];exact S0.out.alloc hb1 _)
 clear hW
 have Hb1:=Qo0 hb1
 clear hb1
 have x1 : W1.cell? ⟨b1,0,none⟩ = some (.string ⟨#[109]⟩):=S1.out.cell (b:=b1) (C:=#[.string ⟨#[109]⟩,.slice none 0 0,.slice (some ⟨kD,0,none⟩) 1 1]) (t:=39) (by simp) 0
 have x2 : W1.cell? ⟨b1,1,none⟩ = some (.slice none 0 0):=S1.out.cell (b:=b1) (C:=#[.string ⟨#[109]⟩,.slice none 0 0,.slice (some ⟨kD,0,none⟩) 1 1]) (t:=39) (by simp) 1
 have x3 : W1.cell? ⟨b1,2,none⟩ = some (.slice (some ⟨kD,0,none⟩) 1 1):=S1.out.cell (b:=b1) (C:=#[.string ⟨#[109]⟩,.slice none 0 0,.slice (some ⟨kD,0,none⟩) 1 1]) (t:=39) (by simp) 2
 go_upto_region 4 with (go_at_call 39;(with_reducible refine (CK.out _ S1.out.g).mono ?_);rintro e W2 ⟨rfl,g⟩;have S2:=Qo0 (show HS w W2 [(b1,Obj.cells #[.string ⟨#[109]⟩,.slice none 0 0,.slice (some ⟨kD,0,none⟩) 1 1] 39 (0,0))] from S1.out.gr g);clear g x1 x2 x3)
 obtain ⟨b5,hb5⟩ : ∃ b,W2.heap.size = b:=⟨_,rfl⟩
 go_upto_region 5 with fail
 generalize hW : World.alloc W2 _ = W3
 have S3:=Qo0 (show HS w W3 [(b5,Qg iv ([] : MK Int)),(b1,Obj.cells #[.string ⟨#[109]⟩,.slice none 0 0,.slice (some ⟨kD,0,none⟩) 1 1] 39 (0,0))] from by rw [← hW];exact S2.out.alloc hb5 _)
 clear hW
 have Hb5:=Qo0 hb5
 clear hb5
 have x4 : W3.cell? ⟨b1,2,none⟩ = some (.slice (some ⟨kD,0,none⟩) 1 1):=S3.out.cell (b:=b1) (C:=#[.string ⟨#[109]⟩,.slice none 0 0,.slice (some ⟨kD,0,none⟩) 1 1]) (t:=39) (by simp) 2
 go_wp2
 refine wp_loop_rounds 2 ?_
 rw [rounds_succ]
 obtain ⟨d0,d1,d2,d3,d4,d5,d6,d7,d8,d9,d10⟩:=FD.out _ S3.out.g
 obtain ⟨b7,hb7⟩ : ∃ b,W3.heap.size = b:=⟨_,rfl⟩
 go_upto_region 8 with fail
 generalize hW : World.alloc W3 _ = W4
 have S4:=Qo0 (show HS w W4 [(b7,Obj.cells #[iv 1,iv 1,.bool true,.slice (some ⟨kN,0,none⟩) 1 1,.bool false,iv 1,.string ⟨#[]⟩,.string ⟨#[]⟩,iv 7,iv 0,.slice none 0 0] 45 (0,0)),(b5,Qg iv ([] : MK Int)),(b1,Obj.cells #[.string ⟨#[109]⟩,.slice none 0 0,.slice (some ⟨kD,0,none⟩) 1 1] 39 (0,0))] from by rw [← hW];exact S3.out.alloc hb7 _)
 clear hW
 have Hb7:=Qo0 hb7
 clear hb7
 clear x4 d0 d1 d2 d3 d4 d5 d6 d7 d8 d9 d10
 have x5 : W4.cell? ⟨b7,0,none⟩ = some (iv 1):=S4.out.cell (b:=b7) (C:=#[iv 1,iv 1,.bool true,.slice (some ⟨kN,0,none⟩) 1 1,.bool false,iv 1,.string ⟨#[]⟩,.string ⟨#[]⟩,iv 7,iv 0,.slice none 0 0]) (t:=45) (by simp) 0
 have x6 : W4.cell? ⟨b7,1,none⟩ = some (iv 1):=S4.out.cell (b:=b7) (C:=#[iv 1,iv 1,.bool true,.slice (some ⟨kN,0,none⟩) 1 1,.bool false,iv 1,.string ⟨#[]⟩,.string ⟨#[]⟩,iv 7,iv 0,.slice none 0 0]) (t:=45) (by simp) 1
 have x7 : W4.cell? ⟨b7,2,none⟩ = some (.bool true):=S4.out.cell (b:=b7) (C:=#[iv 1,iv 1,.bool true,.slice (some ⟨kN,0,none⟩) 1 1,.bool false,iv 1,.string ⟨#[]⟩,.string ⟨#[]⟩,iv 7,iv 0,.slice none 0 0]) (t:=45) (by simp) 2
 have x8 : W4.cell? ⟨b7,3,none⟩ = some (.slice (some ⟨kN,0,none⟩) 1 1):=S4.out.cell (b:=b7) (C:=#[iv 1,iv 1,.bool true,.slice (some ⟨kN,0,none⟩) 1 1,.bool false,iv 1,.string ⟨#[]⟩,.string ⟨#[]⟩,iv 7,iv 0,.slice none 0 0]) (t:=45) (by simp) 3
 have x9 : W4.cell? ⟨b7,4,none⟩ = some (.bool false):=S4.out.cell (b:=b7) (C:=#[iv 1,iv 1,.bool true,.slice (some ⟨kN,0,none⟩) 1 1,.bool false,iv 1,.string ⟨#[]⟩,.string ⟨#[]⟩,iv 7,iv 0,.slice none 0 0]) (t:=45) (by simp) 4
 have x10 : W4.cell? ⟨b7,5,none⟩ = some (iv 1):=S4.out.cell (b:=b7) (C:=#[iv 1,iv 1,.bool true,.slice (some ⟨kN,0,none⟩) 1 1,.bool false,iv 1,.string ⟨#[]⟩,.string ⟨#[]⟩,iv 7,iv 0,.slice none 0 0]) (t:=45) (by simp) 5
 have x11 : W4.cell? ⟨b7,6,none⟩ = some (.string ⟨#[]⟩):=S4.out.cell (b:=b7) (C:=#[iv 1,iv 1,.bool true,.slice (some ⟨kN,0,none⟩) 1 1,.bool false,iv 1,.string ⟨#[]⟩,.string ⟨#[]⟩,iv 7,iv 0,.slice none 0 0]) (t:=45) (by simp) 6
 have x12 : W4.cell? ⟨b7,7,none⟩ = some (.string ⟨#[]⟩):=S4.out.cell (b:=b7) (C:=#[iv 1,iv 1,.bool true,.slice (some ⟨kN,0,none⟩) 1 1,.bool false,iv 1,.string ⟨#[]⟩,.string ⟨#[]⟩,iv 7,iv 0,.slice none 0 0]) (t:=45) (by simp) 7
 have x13 : W4.cell? ⟨b7,8,none⟩ = some (iv 7):=S4.out.cell (b:=b7) (C:=#[iv 1,iv 1,.bool true,.slice (some ⟨kN,0,none⟩) 1 1,.bool false,iv 1,.string ⟨#[]⟩,.string ⟨#[]⟩,iv 7,iv 0,.slice none 0 0]) (t:=45) (by simp) 8
 have x14 : W4.cell? ⟨b7,9,none⟩ = some (iv 0):=S4.out.cell (b:=b7) (C:=#[iv 1,iv 1,.bool true,.slice (some ⟨kN,0,none⟩) 1 1,.bool false,iv 1,.string ⟨#[]⟩,.string ⟨#[]⟩,iv 7,iv 0,.slice none 0 0]) (t:=45) (by simp) 9
 have x15 : W4.cell? ⟨b7,10,none⟩ = some (.slice none 0 0):=S4.out.cell (b:=b7) (C:=#[iv 1,iv 1,.bool true,.slice (some ⟨kN,0,none⟩) 1 1,.bool false,iv 1,.string ⟨#[]⟩,.string ⟨#[]⟩,iv 7,iv 0,.slice none 0 0]) (t:=45) (by simp) 10
 have BX:=Qo0 (fun V (h : V.heap[b7]? = some (.cells #[iv 1,iv 1,.bool true,.slice (some ⟨kN,0,none⟩) 1 1,.bool false,iv 1,.string ⟨#[]⟩,.string ⟨#[]⟩,iv 7,iv 0,.slice none 0 0] 45 (0,0))) => boxD (V:=V) h)
 go_region_held3 (fun V => V.cell? ⟨b7,0,none⟩ = some (iv 1) ∧ V.cell? ⟨b7,1,none⟩ = some (iv 1) ∧ V.cell? ⟨b7,2,none⟩ = some (.bool true) ∧ V.cell? ⟨b7,3,none⟩ = some (.slice (some ⟨kN,0,none⟩) 1 1) ∧ V.cell? ⟨b7,4,none⟩ = some (.bool false) ∧ V.cell? ⟨b7,5,none⟩ = some (iv 1) ∧ V.cell? ⟨b7,6,none⟩ = some (.string ⟨#[]⟩) ∧ V.cell? ⟨b7,7,none⟩ = some (.string ⟨#[]⟩) ∧ V.cell? ⟨b7,8,none⟩ = some (iv 7) ∧ V.cell? ⟨b7,9,none⟩ = some (iv 0) ∧ V.cell? ⟨b7,10,none⟩ = some (.slice none 0 0)) (first | exact BX.out _ (S4.out.f (b7,Obj.cells #[iv 1,iv 1,.bool true,.slice (some ⟨kN,0,none⟩) 1 1,.bool false,iv 1,.string ⟨#[]⟩,.string ⟨#[]⟩,iv 7,iv 0,.slice none 0 0] 45 (0,0)) (by simp)) | exact BX.out _ (S5.out.f (b7,Obj.cells #[iv 1,iv 1,.bool true,.slice (some ⟨kN,0,none⟩) 1 1,.bool false,iv 1,.string ⟨#[]⟩,.string ⟨#[]⟩,iv 7,iv 0,.slice none 0 0] 45 (0,0)) (by simp)) | exact BX.out _ ((HS.setm (pre:=[(b7,Obj.cells #[iv 1,iv 1,.bool true,.slice (some ⟨kN,0,none⟩) 1 1,.bool false,iv 1,.string ⟨#[]⟩,.string ⟨#[]⟩,iv 7,iv 0,.slice none 0 0] 45 (0,0))]) (post:=[(b1,Obj.cells #[.string ⟨#[109]⟩,.slice none 0 0,.slice (some ⟨kD,0,none⟩) 1 1] 39 (0,0))]) (l:=([] : MK Int)) S5.out ([(1,.slice none 0 0)] : MK Int)).f (b7,Obj.cells #[iv 1,iv 1,.bool true,.slice (some ⟨kN,0,none⟩) 1 1,.bool false,iv 1,.string ⟨#[]⟩,.string ⟨#[]⟩,iv 7,iv 0,.slice none 0 0] 45 (0,0)) (by simp)) | go_keep) (first | (go_at_call 119;(with_reducible refine (CU.out _).mono ?_);rintro e W5 ⟨rfl,g⟩;have S5:=Qo0 (show HS w W5 [(b7,Obj.cells #[iv 1,iv 1,.bool true,.slice (some ⟨kN,0,none⟩) 1 1,.bool false,iv 1,.string ⟨#[]⟩,.string ⟨#[]⟩,iv 7,iv 0,.slice none 0 0] 45 (0,0)),(b5,Qg iv ([] : MK Int)),(b1,Obj.cells #[.string ⟨#[109]⟩,.slice none 0 0,.slice (some ⟨kD,0,none⟩) 1 1] 39 (0,0))] from S4.out.gr ((Qb _).trans g));clear g;have x16 : (Instr.mapUpdate 195 (.map (some b5)) (iv 1) (.slice none 0 0)).run Tryz.prog W5 = .ok () (Zp iv W5 b5 ([(1,.slice none 0 0)] : MK Int)):=Q4 ktI (S5.out.mp (b:=b5) (kv:=iv) (l:=([] : MK Int)) (by simp)) LK.nil Tryz.underlying195 (k:=1) (by decide) (by rfl) (.slice none 0 0)))
 generalize hW : Zp iv W5 b5 _ = W6
 have S6:=Qo0 (show HS w W6 [(b7,Obj.cells #[iv 1,iv 1,.bool true,.slice (some ⟨kN,0,none⟩) 1 1,.bool false,iv 1,.string ⟨#[]⟩,.string ⟨#[]⟩,iv 7,iv 0,.slice none 0 0] 45 (0,0)),(b5,Qg iv ([(1,.slice none 0 0)] : MK Int)),(b1,Obj.cells #[.string ⟨#[109]⟩,.slice none 0 0,.slice (some ⟨kD,0,none⟩) 1 1] 39 (0,0))] from by rw [← hW];exact HS.setm (pre:=[(b7,Obj.cells #[iv 1,iv 1,.bool true,.slice (some ⟨kN,0,none⟩) 1 1,.bool false,iv 1,.string ⟨#[]⟩,.string ⟨#[]⟩,iv 7,iv 0,.slice none 0 0] 45 (0,0))]) (post:=[(b1,Obj.cells #[.string ⟨#[109]⟩,.slice none 0 0,.slice (some ⟨kD,0,none⟩) 1 1] 39 (0,0))]) (l:=([] : MK Int)) S5.out ([(1,.slice none 0 0)] : MK Int))
 clear hW
 clear x5 x6 x7 x8 x9 x10 x11 x12 x13 x14 x15 x16
 go_wp2
 rw [rounds_succ]
 obtain ⟨b8,hb8⟩ : ∃ b,W6.heap.size = b:=⟨_,rfl⟩
 go_upto_region 11 with fail
 generalize hW : World.alloc W6 _ = W7
 have S7:=Qo0 (show HS w W7 [(b8,Qg iv ([] : MK Int)),(b7,Obj.cells #[iv 1,iv 1,.bool true,.slice (some ⟨kN,0,none⟩) 1 1,.bool false,iv 1,.string ⟨#[]⟩,.string ⟨#[]⟩,iv 7,iv 0,.slice none 0 0] 45 (0,0)),(b5,Qg iv ([(1,.slice none 0 0)] : MK Int)),(b1,Obj.cells #[.string ⟨#[109]⟩,.slice none 0 0,.slice (some ⟨kD,0,none⟩) 1 1] 39 (0,0))] from by rw [← hW];exact S6.out.alloc hb8 _)
 clear hW
 have Hb8:=Qo0 hb8
 clear hb8
 have x17 : W7.cell? ⟨b1,2,none⟩ = some (.slice (some ⟨kD,0,none⟩) 1 1):=S7.out.cell (b:=b1) (C:=#[.string ⟨#[109]⟩,.slice none 0 0,.slice (some ⟨kD,0,none⟩) 1 1]) (t:=39) (by simp) 2
 go_wp2
 refine wp_loop_rounds 2 ?_
 rw [rounds_succ]
 obtain ⟨d0,d1,d2,d3,d4,d5,d6,d7,d8,d9,d10⟩:=FD.out _ S7.out.g
 obtain ⟨b10,hb10⟩ : ∃ b,W7.heap.size = b:=⟨_,rfl⟩
 go_upto_region 14 with fail
 generalize hW : World.alloc W7 _ = W8
 have S8:=Qo0 (show HS w W8 [(b10,Obj.cells #[iv 1,iv 1,.bool true,.slice (some ⟨kN,0,none⟩) 1 1,.bool false,iv 1,.string ⟨#[]⟩,.string ⟨#[]⟩,iv 7,iv 0,.slice none 0 0] 45 (0,0)),(b8,Qg iv ([] : MK Int)),(b7,Obj.cells #[iv 1,iv 1,.bool true,.slice (some ⟨kN,0,none⟩) 1 1,.bool false,iv 1,.string ⟨#[]⟩,.string ⟨#[]⟩,iv 7,iv 0,.slice none 0 0] 45 (0,0)),(b5,Qg iv ([(1,.slice none 0 0)] : MK Int)),(b1,Obj.cells #[.string ⟨#[109]⟩,.slice none 0 0,.slice (some ⟨kD,0,none⟩) 1 1] 39 (0,0))] from by rw [← hW];exact S7.out.alloc hb10 _)
 clear hW
 have Hb10:=Qo0 hb10
 clear hb10
 clear x17 d0 d1 d2 d3 d4 d5 d6 d7 d8 d9 d10
 have x18 : W8.cell? ⟨b10,0,none⟩ = some (iv 1):=S8.out.cell (b:=b10) (C:=#[iv 1,iv 1,.bool true,.slice (some ⟨kN,0,none⟩) 1 1,.bool false,iv 1,.string ⟨#[]⟩,.string ⟨#[]⟩,iv 7,iv 0,.slice none 0 0]) (t:=45) (by simp) 0
 have x19 : (Instr.mapUpdate 187 (.map (some b8)) (iv 1) (.bool true)).run Tryz.prog W8 = .ok () (Zp iv W8 b8 ([(1,.bool true)] : MK Int)):=Q4 ktI (S8.out.mp (b:=b8) (kv:=iv) (l:=([] : MK Int)) (by simp)) LK.nil Tryz.underlying187 (k:=1) (by decide) (by rfl) (.bool true)
 go_upto_region 15 with fail
 generalize hW : Zp iv W8 b8 _ = W9
 have S9:=Qo0 (show HS w W9 [(b10,Obj.cells #[iv 1,iv 1,.bool true,.slice (some ⟨kN,0,none⟩) 1 1,.bool false,iv 1,.string ⟨#[]⟩,.string ⟨#[]⟩,iv 7,iv 0,.slice none 0 0] 45 (0,0)),(b8,Qg iv ([(1,.bool true)] : MK Int)),(b7,Obj.cells #[iv 1,iv 1,.bool true,.slice (some ⟨kN,0,none⟩) 1 1,.bool false,iv 1,.string ⟨#[]⟩,.string ⟨#[]⟩,iv 7,iv 0,.slice none 0 0] 45 (0,0)),(b5,Qg iv ([(1,.slice none 0 0)] : MK Int)),(b1,Obj.cells #[.string ⟨#[109]⟩,.slice none 0 0,.slice (some ⟨kD,0,none⟩) 1 1] 39 (0,0))] from by rw [← hW];exact HS.setm (pre:=[(b10,Obj.cells #[iv 1,iv 1,.bool true,.slice (some ⟨kN,0,none⟩) 1 1,.bool false,iv 1,.string ⟨#[]⟩,.string ⟨#[]⟩,iv 7,iv 0,.slice none 0 0] 45 (0,0))]) (post:=[(b7,Obj.cells #[iv 1,iv 1,.bool true,.slice (some ⟨kN,0,none⟩) 1 1,.bool false,iv 1,.string ⟨#[]⟩,.string ⟨#[]⟩,iv 7,iv 0,.slice none 0 0] 45 (0,0)),(b5,Qg iv ([(1,.slice none 0 0)] : MK Int)),(b1,Obj.cells #[.string ⟨#[109]⟩,.slice none 0 0,.slice (some ⟨kD,0,none⟩) 1 1] 39 (0,0))]) (l:=([] : MK Int)) S8.out ([(1,.bool true)] : MK Int))
 clear hW
 clear x18 x19
 have x20 : W9.cell? ⟨b1,2,none⟩ = some (.slice (some ⟨kD,0,none⟩) 1 1):=S9.out.cell (b:=b1) (C:=#[.string ⟨#[109]⟩,.slice none 0 0,.slice (some ⟨kD,0,none⟩) 1 1]) (t:=39) (by simp) 2
 go_wp2
 rw [rounds_succ]
 go_wp2
 refine wp_loop_rounds 2 ?_
 rw [rounds_succ]
 obtain ⟨d0,d1,d2,d3,d4,d5,d6,d7,d8,d9,d10⟩:=FD.out _ S9.out.g
 obtain ⟨b12,hb12⟩ : ∃ b,W9.heap.size = b:=⟨_,rfl⟩
 go_upto_region 19 with fail
 generalize hW : World.alloc W9 _ = W10
 have S10:=Qo0 (show HS w W10 [(b12,Obj.cells #[iv 1,iv 1,.bool true,.slice (some ⟨kN,0,none⟩) 1 1,.bool false,iv 1,.string ⟨#[]⟩,.string ⟨#[]⟩,iv 7,iv 0,.slice none 0 0] 45 (0,0)),(b10,Obj.cells #[iv 1,iv 1,.bool true,.slice (some ⟨kN,0,none⟩) 1 1,.bool false,iv 1,.string ⟨#[]⟩,.string ⟨#[]⟩,iv 7,iv 0,.slice none 0 0] 45 (0,0)),(b8,Qg iv ([(1,.bool true)] : MK Int)),(b7,Obj.cells #[iv 1,iv 1,.bool true,.slice (some ⟨kN,0,none⟩) 1 1,.bool false,iv 1,.string ⟨#[]⟩,.string ⟨#[]⟩,iv 7,iv 0,.slice none 0 0] 45 (0,0)),(b5,Qg iv ([(1,.slice none 0 0)] : MK Int)),(b1,Obj.cells #[.string ⟨#[109]⟩,.slice none 0 0,.slice (some ⟨kD,0,none⟩) 1 1] 39 (0,0))] from by rw [← hW];exact S9.out.alloc hb12 _)
 clear hW
 have Hb12:=Qo0 hb12
 clear hb12
 clear x20 d0 d1 d2 d3 d4 d5 d6 d7 d8 d9 d10
 have x21 : W10.cell? ⟨b12,0,none⟩ = some (iv 1):=S10.out.cell (b:=b12) (C:=#[iv 1,iv 1,.bool true,.slice (some ⟨kN,0,none⟩) 1 1,.bool false,iv 1,.string ⟨#[]⟩,.string ⟨#[]⟩,iv 7,iv 0,.slice none 0 0]) (t:=45) (by simp) 0
 have x22 : (Instr.lookup 195 (.map (some b5)) (iv 1) false).run Tryz.prog W10 = .ok (.slice none 0 0) W10:=(Q7 ktI (S10.out.mp (b:=b5) (kv:=iv) (l:=([(1,.slice none 0 0)] : MK Int)) (by simp)) (Qbp (v:=.slice none 0 0)) Tryz.underlying195 (z:=.slice none 0 0) (by kernel_rfl) (k:=1) (by decide)).1
 go_wp2
 refine wp_loop_rounds 1 ?_
 rw [rounds_succ]
 go_wp2
 rw [rounds_succ]
 clear x21 x22
 have x23 : W10.cell? ⟨b1,0,none⟩ = some (.string ⟨#[109]⟩):=S10.out.cell (b:=b1) (C:=#[.string ⟨#[109]⟩,.slice none 0 0,.slice (some ⟨kD,0,none⟩) 1 1]) (t:=39) (by simp) 0
 have x24 : W10.cell? ⟨b1,1,none⟩ = some (.slice none 0 0):=S10.out.cell (b:=b1) (C:=#[.string ⟨#[109]⟩,.slice none 0 0,.slice (some ⟨kD,0,none⟩) 1 1]) (t:=39) (by simp) 1
 have x25 : W10.cell? ⟨b1,2,none⟩ = some (.slice (some ⟨kD,0,none⟩) 1 1):=S10.out.cell (b:=b1) (C:=#[.string ⟨#[109]⟩,.slice none 0 0,.slice (some ⟨kD,0,none⟩) 1 1]) (t:=39) (by simp) 2
 have MU:=Qo0 (S10.out.mp (show (b5,Qg iv ([(1,.slice none 0 0)] : MK Int)) ∈ [(b12,Obj.cells #[iv 1,iv 1,.bool true,.slice (some ⟨kN,0,none⟩) 1 1,.bool false,iv 1,.string ⟨#[]⟩,.string ⟨#[]⟩,iv 7,iv 0,.slice none 0 0] 45 (0,0)),(b10,Obj.cells #[iv 1,iv 1,.bool true,.slice (some ⟨kN,0,none⟩) 1 1,.bool false,iv 1,.string ⟨#[]⟩,.string ⟨#[]⟩,iv 7,iv 0,.slice none 0 0] 45 (0,0)),(b8,Qg iv ([(1,.bool true)] : MK Int)),(b7,Obj.cells #[iv 1,iv 1,.bool true,.slice (some ⟨kN,0,none⟩) 1 1,.bool false,iv 1,.string ⟨#[]⟩,.string ⟨#[]⟩,iv 7,iv 0,.slice none 0 0] 45 (0,0)),(b5,Qg iv ([(1,.slice none 0 0)] : MK Int)),(b1,Obj.cells #[.string ⟨#[109]⟩,.slice none 0 0,.slice (some ⟨kD,0,none⟩) 1 1] 39 (0,0))] from by simp))
 have CC:=Qo0 (Qf5 kN kD b5 W10 (Qe S10.out.g HD.out) MU.out)
 have GX:=Qo0 S10.out.g
 go_wp2_with (first | (go_at_call 121;(with_reducible refine (CC.out).mono ?_);rintro e WA ⟨gG,cG,uG,gC,cC,uC,rfl,sA,h1,h2,h3,h4⟩;have SA:=Qo0 sA;have HC:=Qo0 (And.intro h2 h4);have CO:=Qo0 (Qlh gG cG gC cC b5 uG uC W10 WA sA h1 h2 h3 h4 (fun V' g => MU.out.keep (g.block _ (MP.lt MU.out) (by simp))));clear sA h1 h2 h3 h4) | (go_at_call 120;(with_reducible refine (CO.out).mono ?_);rintro e WB ⟨gL,cL,uL,rfl,sB,h1,h2⟩;have SB:=Qo0 sB;have HL:=Qo0 (And.intro h1 h2);clear sB h1 h2))
 go_ret2
 exact ⟨gL,cL,uL,gC,cC,uC,rfl,⟨GX.out.trans SB.out.g,SB.out.n,fun p hp => Nat.le_trans GX.out.size (SB.out.b p hp),SB.out.f⟩,HL.out.1,HC.out.1,HL.out.2,HC.out.2⟩
end Go.Proofs.YtiaenhlflgobfaaGreatDoor
namespace Go.Proofs.YtiaenhlflgobfaaGreatDoor
open Go.RowKit Go.Maps
theorem HS.sl {w0 V : World} {L L' : List (Nat × Obj)} (h : HS w0 V L) (hs : L'.Sublist L) : HS w0 V L':=h.sub (fun _ hp => hs.subset hp) (h.n.sublist (hs.map _))
theorem HS.more {w V V' : World} {L L' : List (Nat × Obj)} (h : HS w V L) (h' : HS V V' L') : HS w V' (L' ++ L):=by
 refine ⟨h.g.trans h'.g,?_,fun p hp => ?_,fun p hp => ?_⟩
 ·rw [List.map_append,List.nodup_append]
  refine ⟨h'.n,h.n,fun x hx y hy => ?_⟩
  obtain ⟨p,hp,rfl⟩:=List.mem_map.1 hx
  obtain ⟨q,hq,rfl⟩:=List.mem_map.1 hy
  have:=h'.b p hp
  have:=h.lt q hq
  omega
 ·rcases List.mem_append.1 hp with hp | hp
  ·exact Nat.le_trans h.g.size (h'.b p hp)
  ·exact h.b p hp
 ·rcases List.mem_append.1 hp with hp | hp
  ·exact h'.f p hp
  ·exact Qe h'.g (h.f p hp)
def pcs (p : Nat) : List Value:=[.pointer (some ⟨p,0,none⟩)]
theorem Qjy (p : Nat) : (pcs p).length = 1:=rfl
theorem pcs1 (p : Nat) : ∀ u ∈ pcs p,u.oneCell' = true:=by
 intro u hu
 rw [List.mem_singleton.1 hu]
 rfl
theorem elNd : EL 146 199 1 pcs:=⟨Qjy,pcs1,Tryz.underlying146,⟨.pointer none,8,by kernel_rfl,rfl,by decide⟩,by decide⟩
set_option maxRecDepth 100000 in
set_option maxHeartbeats 4000000 in
attribute [local irreducible] Calls in
theorem Qic (kD : Nat) (w : World) : Calls Tryz.prog 78 #[.agg #[.string ⟨#[109]⟩,.slice none 0 0,.slice (some ⟨kD,0,none⟩) 1 1],.slice none 0 0] w fun e w' => ∃ t mS mF,e = .returned (.pointer (some ⟨t,0,none⟩)) ∧ HS w w' [(t,.cells #[.string ⟨#[109]⟩,.slice none 0 0,.slice (some ⟨kD,0,none⟩) 1 1,.slice none 0 0,.map (some mS),.map none,.slice none 0 0,.map (some mF),.bool false] 149 (0,0)),(mF,Qg iv ([] : MK Int)),(mS,Qg iv ([] : MK Int))]:=by
 have S0:=Qo0 (HS.nil (w0:=w))
 have hmm:=@run_makeMap Tryz.prog
 obtain ⟨b,hb⟩ : ∃ b,w.heap.size = b:=⟨_,rfl⟩
 go_enter Tryz.func78,Tryz.ntmps78
 obtain ⟨c0,c1,c2⟩ : (w.alloc (.cells #[.string ⟨#[109]⟩,.slice none 0 0,.slice (some ⟨kD,0,none⟩) 1 1] 39)).cell? ⟨b,0,none⟩ = some (.string ⟨#[109]⟩) ∧ (w.alloc (.cells #[.string ⟨#[109]⟩,.slice none 0 0,.slice (some ⟨kD,0,none⟩) 1 1] 39)).cell? ⟨b,1,none⟩ = some (.slice none 0 0) ∧ (w.alloc (.cells #[.string ⟨#[109]⟩,.slice none 0 0,.slice (some ⟨kD,0,none⟩) 1 1] 39)).cell? ⟨b,2,none⟩ = some (.slice (some ⟨kD,0,none⟩) 1 1):=by
  have h : (w.alloc (.cells #[.string ⟨#[109]⟩,.slice none 0 0,.slice (some ⟨kD,0,none⟩) 1 1] 39)).heap[b]? = some (.cells #[.string ⟨#[109]⟩,.slice none 0 0,.slice (some ⟨kD,0,none⟩) 1 1] 39 (0,0)):=Qr _ _ hb.symm
  refine ⟨?_,?_,?_⟩ <;> (rw [Lib.cell_of_heap h];rfl)
 go_wp2
 have SZ : HS w ((((w.alloc (.cells #[.string ⟨#[109]⟩,.slice none 0 0,.slice (some ⟨kD,0,none⟩) 1 1] 39)).alloc (.map #[] 0)).alloc (.map #[] 0)).alloc (.cells #[.string ⟨#[109]⟩,.slice none 0 0,.slice (some ⟨kD,0,none⟩) 1 1,.slice none 0 0,.map (some (b + 1)),.map none,.slice none 0 0,.map (some (b + 1 + 1)),.bool false] 149)) [(b + 1 + 1 + 1,Obj.cells #[.string ⟨#[109]⟩,.slice none 0 0,.slice (some ⟨kD,0,none⟩) 1 1,.slice none 0 0,.map (some (b + 1)),.map none,.slice none 0 0,.map (some (b + 1 + 1)),.bool false] 149 (0,0)),(b + 1 + 1,Qg iv ([] : MK Int)),(b + 1,Qg iv ([] : MK Int)),(b,Obj.cells #[.string ⟨#[109]⟩,.slice none 0 0,.slice (some ⟨kD,0,none⟩) 1 1] 39 (0,0))]:=by repeat' (first | exact HS.nil | refine HS.alloc ?_ (by simp [hb]) _)
 go_ret
 exact ⟨b + 1 + 1 + 1,b + 1,b + 1 + 1,rfl,SZ.sub (by simp) (by have:=SZ.n;simp only [List.map_cons,List.map_nil,List.nodup_cons,List.mem_cons,List.not_mem_nil,or_false,not_or] at this ⊢;simp_all)⟩
set_option maxRecDepth 100000 in
set_option maxHeartbeats 4000000 in
attribute [local irreducible] Calls in
theorem kind_a (w0 V : World) (R : List (Nat × Obj)) (t : Value) (hS : HS w0 V R) : Calls Tryz.prog 175 #[t,aBv,.slice none 0 0] V fun e V' => ∃ p,e = .returned (.pointer (some ⟨p,0,none⟩)) ∧ HS w0 V' ((p,.cells #[.pointer none,iv 1,.slice none 0 0,iv 0] 206 (0,0)) :: R):=by
 unfold aBv
 have S0:=Qo0 hS
 clear hS
 go_enter Tryz.func175,Tryz.ntmps175
 obtain ⟨b4,hb4⟩ : ∃ b,V.heap.size = b:=⟨_,rfl⟩
 go_upto_region 1 with fail
 generalize hW : World.alloc V _ = W1
 have S1:=Qo0 (show HS w0 W1 ((b4,Obj.cells #[iv 1,.string ⟨#[]⟩,.string ⟨#[]⟩,iv 7,iv 0,.slice none 0 0] 43 (0,0)) :: R) from by rw [← hW];exact S0.out.alloc hb4 _)
 clear hW
 have Hb4:=Qo0 hb4
 clear hb4
 have x1 : W1.cell? ⟨b4,0,none⟩ = some (iv 1):=S1.out.cell (b:=b4) (C:=#[iv 1,.string ⟨#[]⟩,.string ⟨#[]⟩,iv 7,iv 0,.slice none 0 0]) (t:=43) (by simp) 0
 obtain ⟨p,hp⟩ : ∃ p,W1.heap.size = p:=⟨_,rfl⟩
 have CM:=Qo0 (Qnj 1 W1)
 rw [hp] at CM
 have SP:=Qo0 (show HS w0 (W1.alloc (.cells #[.pointer none,iv 1,.slice none 0 0,iv 0] 206)) ((p,Obj.cells #[.pointer none,iv 1,.slice none 0 0,iv 0] 206 (0,0)) :: (b4,Obj.cells #[iv 1,.string ⟨#[]⟩,.string ⟨#[]⟩,iv 7,iv 0,.slice none 0 0] 43 (0,0)) :: R) from S1.out.alloc hp _)
 clear hp
 go_wp2_with (go_at_call 125;(with_reducible refine (CM.out).mono ?_);rintro e W2 ⟨rfl,rfl⟩)
 go_ret
 exact ⟨p,rfl,SP.out.sl (.cons_cons _ (.cons _ (List.Sublist.refl _)))⟩
set_option maxRecDepth 100000 in
set_option maxHeartbeats 4000000 in
attribute [local irreducible] Calls in
theorem expr_a (w0 V : World) (R : List (Nat × Obj)) (t kD mS mF : Nat) (vg : Value) (hS : HS w0 V ((t,.cells #[.string ⟨#[109]⟩,.slice none 0 0,.slice (some ⟨kD,0,none⟩) 1 1,.slice none 0 0,.map (some mS),vg,.slice none 0 0,.map (some mF),.bool false] 149 (0,0)) :: R)) : Calls Tryz.prog 124 #[.pointer (some ⟨t,0,none⟩),aBv,.slice none 0 0] V fun e V' => ∃ p gN cN uN,e = .returned (.pointer (some ⟨p,0,none⟩)) ∧ HS w0 V' ((gN,.cells uN 199 (0,0)) :: (p,.cells #[.pointer none,iv 1,.slice none 0 0,iv 0] 206 (0,0)) :: (t,.cells #[.string ⟨#[109]⟩,.slice none 0 0,.slice (some ⟨kD,0,none⟩) 1 1,.slice none 0 0,.map (some mS),vg,.slice (some ⟨gN,0,none⟩) 1 cN,.map (some mF),.bool false] 149 (0,0)) :: R) ∧ uN[0]? = some (.pointer (some ⟨p,0,none⟩)) ∧ (1 ≤ cN ∧ cN ≤ 9223372036854775807):=by
 unfold aBv
 have S0:=Qo0 hS
 clear hS
 go_enter Tryz.func124,Tryz.ntmps124
 obtain ⟨b4,hb4⟩ : ∃ b,V.heap.size = b:=⟨_,rfl⟩
 go_upto_region 1 with fail
 generalize hW : World.alloc V _ = W1
 have S1:=Qo0 (show HS w0 W1 ((b4,Obj.cells #[iv 1,.string ⟨#[]⟩,.string ⟨#[]⟩,iv 7,iv 0,.slice none 0 0] 43 (0,0)) :: (t,Obj.cells #[.string ⟨#[109]⟩,.slice none 0 0,.slice (some ⟨kD,0,none⟩) 1 1,.slice none 0 0,.map (some mS),vg,.slice none 0 0,.map (some mF),.bool false] 149 (0,0)) :: R) from by rw [← hW];exact S0.out.alloc hb4 _)
 clear hW
 have Hb4:=Qo0 hb4
 clear hb4
 have x1 : W1.cell? ⟨b4,0,none⟩ = some (iv 1):=S1.out.cell (b:=b4) (C:=#[iv 1,.string ⟨#[]⟩,.string ⟨#[]⟩,iv 7,iv 0,.slice none 0 0]) (t:=43) (by simp) 0
 have x2 : W1.cell? ⟨b4,1,none⟩ = some (.string ⟨#[]⟩):=S1.out.cell (b:=b4) (C:=#[iv 1,.string ⟨#[]⟩,.string ⟨#[]⟩,iv 7,iv 0,.slice none 0 0]) (t:=43) (by simp) 1
 have x3 : W1.cell? ⟨b4,2,none⟩ = some (.string ⟨#[]⟩):=S1.out.cell (b:=b4) (C:=#[iv 1,.string ⟨#[]⟩,.string ⟨#[]⟩,iv 7,iv 0,.slice none 0 0]) (t:=43) (by simp) 2
 have x4 : W1.cell? ⟨b4,3,none⟩ = some (iv 7):=S1.out.cell (b:=b4) (C:=#[iv 1,.string ⟨#[]⟩,.string ⟨#[]⟩,iv 7,iv 0,.slice none 0 0]) (t:=43) (by simp) 3
 have x5 : W1.cell? ⟨b4,4,none⟩ = some (iv 0):=S1.out.cell (b:=b4) (C:=#[iv 1,.string ⟨#[]⟩,.string ⟨#[]⟩,iv 7,iv 0,.slice none 0 0]) (t:=43) (by simp) 4
 have x6 : W1.cell? ⟨b4,5,none⟩ = some (.slice none 0 0):=S1.out.cell (b:=b4) (C:=#[iv 1,.string ⟨#[]⟩,.string ⟨#[]⟩,iv 7,iv 0,.slice none 0 0]) (t:=43) (by simp) 5
 have CK:=Qo0 (kind_a w0 W1 _ (.pointer (some ⟨t,0,none⟩)) S1.out)
 unfold aBv at CK
 go_upto_region 2 with (go_at_call 175;(with_reducible refine (CK.out).mono ?_);rintro e W2 ⟨p,rfl,h⟩;have S2:=Qo0 (show HS w0 W2 ((p,Obj.cells #[.pointer none,iv 1,.slice none 0 0,iv 0] 206 (0,0)) :: (b4,Obj.cells #[iv 1,.string ⟨#[]⟩,.string ⟨#[]⟩,iv 7,iv 0,.slice none 0 0] 43 (0,0)) :: (t,Obj.cells #[.string ⟨#[109]⟩,.slice none 0 0,.slice (some ⟨kD,0,none⟩) 1 1,.slice none 0 0,.map (some mS),vg,.slice none 0 0,.map (some mF),.bool false] 149 (0,0)) :: R) from h);clear h x1 x2 x3 x4 x5 x6)
 have x7 : W2.cell? ⟨t,6,none⟩ = some (.slice none 0 0):=S2.out.cell (b:=t) (C:=#[.string ⟨#[109]⟩,.slice none 0 0,.slice (some ⟨kD,0,none⟩) 1 1,.slice none 0 0,.map (some mS),vg,.slice none 0 0,.map (some mF),.bool false]) (t:=149) (by simp) 6
 go_upto_region 3 with (at_builtin;refine Qf elNd rfl (.tmp 16) (.tmp 18) rfl W2.heap.size (v:=.slice none 0 0) rfl OR.nil (A:=some ⟨_,0,none⟩) (M:=([p] : List Nat)) (m:=1) (c:=1) rfl rfl (Qj (t:=199) Qjy (Qd _ _)) (by simp) (by simp) ?_;intro vq W3 oq gq bq;obtain ⟨gN,cN,uN,rfl,hb,hf,hcN,hcNm,huN,hzuN⟩:=row1 oq rfl;have S3:=Qo0 (show HS w0 W3 ((gN,Obj.cells uN 199 (0,0)) :: (p,Obj.cells #[.pointer none,iv 1,.slice none 0 0,iv 0] 206 (0,0)) :: (b4,Obj.cells #[iv 1,.string ⟨#[]⟩,.string ⟨#[]⟩,iv 7,iv 0,.slice none 0 0] 43 (0,0)) :: (t,Obj.cells #[.string ⟨#[109]⟩,.slice none 0 0,.slice (some ⟨kD,0,none⟩) 1 1,.slice none 0 0,.map (some mS),vg,.slice none 0 0,.map (some mF),.bool false] 149 (0,0)) :: R) from S2.out.row ((Qa _ _).trans gq) hb hf);have HuN:=Qo0 huN;have HZuN:=Qo0 hzuN;have HcN:=Qo0 (And.intro hcN hcNm);clear oq gq bq hb hf huN hcN hcNm hzuN;clear x7;have x8 : W3.cell? ⟨t,6,none⟩ = some (.slice none 0 0):=S3.out.cell (b:=t) (C:=#[.string ⟨#[109]⟩,.slice none 0 0,.slice (some ⟨kD,0,none⟩) 1 1,.slice none 0 0,.map (some mS),vg,.slice none 0 0,.map (some mF),.bool false]) (t:=149) (by simp) 6;have x9 : ∀ j,W3.frozen? ⟨t,j,none⟩ = false:=S3.out.frz (b:=t) (C:=#[.string ⟨#[109]⟩,.slice none 0 0,.slice (some ⟨kD,0,none⟩) 1 1,.slice none 0 0,.map (some mS),vg,.slice none 0 0,.map (some mF),.bool false]) (t:=149) (by simp))
 generalize hW : World.setCell W3 _ _ = W4
 have S4:=Qo0 (show HS w0 W4 ((gN,Obj.cells uN 199 (0,0)) :: (p,Obj.cells #[.pointer none,iv 1,.slice none 0 0,iv 0] 206 (0,0)) :: (b4,Obj.cells #[iv 1,.string ⟨#[]⟩,.string ⟨#[]⟩,iv 7,iv 0,.slice none 0 0] 43 (0,0)) :: (t,Obj.cells #[.string ⟨#[109]⟩,.slice none 0 0,.slice (some ⟨kD,0,none⟩) 1 1,.slice none 0 0,.map (some mS),vg,.slice (some ⟨gN,0,none⟩) 1 cN,.map (some mF),.bool false] 149 (0,0)) :: R) from by rw [← hW];exact HS.setc (pre:=[(gN,Obj.cells uN 199 (0,0)),(p,Obj.cells #[.pointer none,iv 1,.slice none 0 0,iv 0] 206 (0,0)),(b4,Obj.cells #[iv 1,.string ⟨#[]⟩,.string ⟨#[]⟩,iv 7,iv 0,.slice none 0 0] 43 (0,0))]) (post:=(R)) S3.out 6 _)
 clear hW
 clear x8 x9
 go_wp2
 go_ret
 exact ⟨p,gN,cN,uN,rfl,S4.out.sl (.cons_cons _ (.cons_cons _ (.cons _ (.cons_cons _ (List.Sublist.refl _))))),HuN.out 0 _ rfl,HcN.out⟩
set_option maxRecDepth 100000 in
set_option maxHeartbeats 4000000 in
attribute [local irreducible] Calls in
theorem unify_a (w0 V : World) (R : List (Nat × Obj)) (gN p b9 a : Nat) (oN o9 : Obj) (hS : HS w0 V ((gN,oN) :: (p,Obj.cells #[.pointer none,iv 1,.slice none 0 0,iv 0] 206 (0,0)) :: (b9,o9) :: (a,Obj.cells #[.pointer none,iv 5,.slice none 0 0,iv 0] 206 (0,0)) :: R)) : Calls Tryz.prog 174 #[.pointer (some ⟨a,0,none⟩),.pointer (some ⟨p,0,none⟩)] V fun e V' => e = .returned (.bool true) ∧ HS w0 V' ((gN,oN) :: (p,Obj.cells #[.pointer none,iv 1,.slice none 0 0,iv 0] 206 (0,0)) :: (b9,o9) :: (a,Obj.cells #[.pointer (some ⟨p,0,none⟩),iv 5,.slice none 0 0,iv 0] 206 (0,0)) :: R):=by
 have S0:=Qo0 hS
 have hne : a ≠ p:=by
  have:=hS.n
  simp only [List.map_cons,List.nodup_cons,List.mem_cons,not_or] at this
  exact fun h => this.2.1.2.1 h.symm
 obtain ⟨j,hj,-,hsz,-⟩:=info_parts (show (Tryz.prog.info? 206).map (fun i => (i.zero,i.size,i.bytes)) = some (some (.agg #[.pointer none,.int .i64 0,.slice none 0 0,.int .i64 0]),4,48) by kernel_rfl)
 have heq : (binOp .eql 199 (.pointer (some ⟨a,0,none⟩)) (.pointer (some ⟨p,0,none⟩))).run Tryz.prog V = .ok (.bool false) V:=run_eql_ptr_other V Tryz.underlying199 hj (by rw [hsz];decide) (fun h => hne (congrArg Addr.block h)) (hS.f (a,Obj.cells #[.pointer none,iv 5,.slice none 0 0,iv 0] 206 (0,0)) (by simp)) (hS.f (p,Obj.cells #[.pointer none,iv 1,.slice none 0 0,iv 0] 206 (0,0)) (by simp))
 clear hj hsz
 clear hS
 have x1 : V.cell? ⟨a,0,none⟩ = some (.pointer none):=S0.out.cell (b:=a) (C:=#[.pointer none,iv 5,.slice none 0 0,iv 0]) (t:=206) (by simp) 0
 have x2 : V.cell? ⟨p,0,none⟩ = some (.pointer none):=S0.out.cell (b:=p) (C:=#[.pointer none,iv 1,.slice none 0 0,iv 0]) (t:=206) (by simp) 0
 have x3 : V.cell? ⟨a,1,none⟩ = some (iv 5):=S0.out.cell (b:=a) (C:=#[.pointer none,iv 5,.slice none 0 0,iv 0]) (t:=206) (by simp) 1
 have x4 : ∀ j,V.frozen? ⟨a,j,none⟩ = false:=S0.out.frz (b:=a) (C:=#[.pointer none,iv 5,.slice none 0 0,iv 0]) (t:=206) (by simp)
 have C1:=Qo0 (Qbf a V x1)
 have C2:=Qo0 (Qbf p V x2)
 go_enter Tryz.func174,Tryz.ntmps174
 go_wp2_with (first | (go_at_call 127;(with_reducible refine (C1.out).mono ?_);rintro e Wq ⟨rfl,hq⟩;obtain rfl:=hq.symm) | (go_at_call 127;(with_reducible refine (C2.out).mono ?_);rintro e Wq ⟨rfl,hq⟩;obtain rfl:=hq.symm))
 generalize hW : World.setCell V _ _ = WZ
 have SZ:=Qo0 (show HS w0 WZ ((gN,oN) :: (p,Obj.cells #[.pointer none,iv 1,.slice none 0 0,iv 0] 206 (0,0)) :: (b9,o9) :: (a,Obj.cells #[.pointer (some ⟨p,0,none⟩),iv 5,.slice none 0 0,iv 0] 206 (0,0)) :: R) from by rw [← hW];exact HS.setc (pre:=[(gN,oN),(p,Obj.cells #[.pointer none,iv 1,.slice none 0 0,iv 0] 206 (0,0)),(b9,o9)]) (post:=(R)) S0.out 0 _)
 clear hW
 go_ret
 exact ⟨rfl,SZ.out⟩
set_option maxRecDepth 100000 in
set_option maxHeartbeats 4000000 in
attribute [local irreducible] Calls in
theorem same_a (w0 V : World) (R : List (Nat × Obj)) (gN p b9 a mg t kD mS mF : Nat) (vg vn : Value) (oN o9 oM : Obj) (hS : HS w0 V ((gN,oN) :: (p,Obj.cells #[.pointer none,iv 1,.slice none 0 0,iv 0] 206 (0,0)) :: (b9,o9) :: (a,Obj.cells #[.pointer none,iv 5,.slice none 0 0,iv 0] 206 (0,0)) :: (mg,oM) :: (t,Obj.cells #[.string ⟨#[109]⟩,.slice none 0 0,.slice (some ⟨kD,0,none⟩) 1 1,.slice none 0 0,.map (some mS),vg,vn,.map (some mF),.bool false] 149 (0,0)) :: R)) : Calls Tryz.prog 123 #[.pointer (some ⟨t,0,none⟩),.pointer (some ⟨a,0,none⟩),.pointer (some ⟨p,0,none⟩)] V fun e V' => (∃ r,e = .returned r) ∧ HS w0 V' ((gN,oN) :: (p,Obj.cells #[.pointer none,iv 1,.slice none 0 0,iv 0] 206 (0,0)) :: (b9,o9) :: (a,Obj.cells #[.pointer (some ⟨p,0,none⟩),iv 5,.slice none 0 0,iv 0] 206 (0,0)) :: (mg,oM) :: (t,Obj.cells #[.string ⟨#[109]⟩,.slice none 0 0,.slice (some ⟨kD,0,none⟩) 1 1,.slice none 0 0,.map (some mS),vg,vn,.map (some mF),.bool false] 149 (0,0)) :: R):=by
 have S0:=Qo0 hS
 clear hS
 have x1 : V.cell? ⟨t,8,none⟩ = some (.bool false):=S0.out.cell (b:=t) (C:=#[.string ⟨#[109]⟩,.slice none 0 0,.slice (some ⟨kD,0,none⟩) 1 1,.slice none 0 0,.map (some mS),vg,vn,.map (some mF),.bool false]) (t:=149) (by simp) 8
 have CU:=Qo0 (unify_a w0 V _ gN p b9 a oN o9 S0.out)
 go_enter Tryz.func123,Tryz.ntmps123
 go_wp2_with (go_at_call 174;(with_reducible refine (CU.out).mono ?_);rintro e WA ⟨rfl,h⟩;have SA:=Qo0 h;clear h;(try dsimp only))
 first | go_end0 | refine bodyPost_ret (results_none rfl _ _ _) rfl ?_
 exact ⟨⟨_,rfl⟩,SA.out⟩
set_option maxRecDepth 100000 in
set_option maxHeartbeats 4000000 in
attribute [local irreducible] Calls in
theorem Qlk (w0 V : World) (R : List (Nat × Obj)) (gN p : Nat) (oN : Obj) (hS : HS w0 V ((gN,oN) :: (p,Obj.cells #[.pointer none,iv 1,.slice none 0 0,iv 0] 206 (0,0)) :: R)) : Calls Tryz.prog 126 #[.pointer (some ⟨p,0,none⟩)] V fun e V' => e = .returned (.bool true) ∧ HS w0 V' ((gN,oN) :: (p,Obj.cells #[.pointer none,iv 1,.slice none 0 0,iv 1] 206 (0,0)) :: R):=by
 have S0:=Qo0 hS
 clear hS
 have x1 : V.cell? ⟨p,0,none⟩ = some (.pointer none):=S0.out.cell (b:=p) (C:=#[.pointer none,iv 1,.slice none 0 0,iv 0]) (t:=206) (by simp) 0
 have x2 : V.cell? ⟨p,3,none⟩ = some (iv 0):=S0.out.cell (b:=p) (C:=#[.pointer none,iv 1,.slice none 0 0,iv 0]) (t:=206) (by simp) 3
 have C1:=Qo0 (Qbf p V x1)
 have x3 : ∀ j,V.frozen? ⟨p,j,none⟩ = false:=S0.out.frz (b:=p) (C:=#[.pointer none,iv 1,.slice none 0 0,iv 0]) (t:=206) (by simp)
 go_enter Tryz.func126,Tryz.ntmps126
 go_upto_region 5 with (go_at_call 127;(with_reducible refine (C1.out).mono ?_);rintro e Wq ⟨rfl,hq⟩;obtain rfl:=hq.symm)
 generalize hW : World.setCell V _ _ = W1
 have S1:=Qo0 (show HS w0 W1 ((gN,oN) :: (p,Obj.cells #[.pointer none,iv 1,.slice none 0 0,iv (-1)] 206 (0,0)) :: R) from by rw [← hW];exact HS.setc (pre:=[(gN,oN)]) (post:=(R)) S0.out 3 _)
 clear hW
 clear x1 x2 x3
 have x4 : W1.cell? ⟨p,2,none⟩ = some (.slice none 0 0):=S1.out.cell (b:=p) (C:=#[.pointer none,iv 1,.slice none 0 0,iv (-1)]) (t:=206) (by simp) 2
 have x5 : W1.cell? ⟨p,3,none⟩ = some (iv (-1)):=S1.out.cell (b:=p) (C:=#[.pointer none,iv 1,.slice none 0 0,iv (-1)]) (t:=206) (by simp) 3
 have x6 : ∀ j,W1.frozen? ⟨p,j,none⟩ = false:=S1.out.frz (b:=p) (C:=#[.pointer none,iv 1,.slice none 0 0,iv (-1)]) (t:=206) (by simp)
 go_wp2
 refine wp_loop_rounds 1 ?_
 rw [rounds_succ]
 go_wp2
 generalize hW : World.setCell W1 _ _ = WZ
 have SZ:=Qo0 (show HS w0 WZ ((gN,oN) :: (p,Obj.cells #[.pointer none,iv 1,.slice none 0 0,iv 1] 206 (0,0)) :: R) from by rw [← hW];exact HS.setc (pre:=[(gN,oN)]) (post:=(R)) S1.out 3 _)
 clear hW
 go_ret
 exact ⟨rfl,SZ.out⟩
set_option maxRecDepth 100000 in
set_option maxHeartbeats 4000000 in
attribute [local irreducible] Calls in
theorem build_a (V : World) (a p : Nat) (mn : Value) (h0 : V.cell? ⟨a,0,none⟩ = some (.pointer (some ⟨p,0,none⟩))) (h1 : V.cell? ⟨p,0,none⟩ = some (.pointer none)) (h2 : V.cell? ⟨p,1,none⟩ = some (iv 1)) (h3 : V.cell? ⟨p,2,none⟩ = some (.slice none 0 0)) : Calls Tryz.prog 128 #[.pointer (some ⟨a,0,none⟩),mn] V fun e V' => e = .returned (.agg #[iv 1,iv 0,.slice none 0 0]) ∧ Gr V V':=by
 have S0:=Qo0 (HS.nil (w0:=V))
 have C1:=Qo0 (fun V' (g : Gr V V') => find_up a p V' (Ze g h0) (Ze g h1))
 have P1:=Qo0 (fun V' (g : Gr V V') => Ze g h2)
 have P2:=Qo0 (fun V' (g : Gr V V') => Ze g h3)
 clear h0 h1 h2 h3
 go_enter Tryz.func128,Tryz.ntmps128
 obtain ⟨b4,hb4⟩ : ∃ b,V.heap.size = b:=⟨_,rfl⟩
 go_upto_region 1 with fail
 generalize hW : World.alloc V _ = W1
 have S1:=Qo0 (show HS V W1 [(b4,Obj.cells #[iv 0,iv 0,.slice none 0 0] 64 (0,0))] from by rw [← hW];exact S0.out.alloc hb4 _)
 clear hW
 have Hb4:=Qo0 hb4
 clear hb4
 have p1:=P1.out _ S1.out.g
 have p2:=P2.out _ S1.out.g
 go_upto_region 7 with (go_at_call 127;(with_reducible refine (C1.out _ S1.out.g).mono ?_);rintro e Wq ⟨rfl,hq⟩;obtain rfl:=hq.symm)
 obtain ⟨b7,hb7⟩ : ∃ b,W1.heap.size = b:=⟨_,rfl⟩
 go_upto_region 8 with fail
 generalize hW : World.alloc W1 _ = W2
 have S2:=Qo0 (show HS V W2 [(b7,Obj.cells #[iv 1,iv 0,.slice none 0 0] 64 (0,0)),(b4,Obj.cells #[iv 0,iv 0,.slice none 0 0] 64 (0,0))] from by rw [← hW];exact S1.out.alloc hb7 _)
 clear hW
 have Hb7:=Qo0 hb7
 clear hb7
 clear p1 p2
 have p2:=P2.out _ S2.out.g
 have x1 : W2.cell? ⟨b7,0,none⟩ = some (iv 1):=S2.out.cell (b:=b7) (C:=#[iv 1,iv 0,.slice none 0 0]) (t:=64) (by simp) 0
 have x2 : W2.cell? ⟨b7,1,none⟩ = some (iv 0):=S2.out.cell (b:=b7) (C:=#[iv 1,iv 0,.slice none 0 0]) (t:=64) (by simp) 1
 have x3 : W2.cell? ⟨b7,2,none⟩ = some (.slice none 0 0):=S2.out.cell (b:=b7) (C:=#[iv 1,iv 0,.slice none 0 0]) (t:=64) (by simp) 2
 have x4 : W2.cell? ⟨b4,0,none⟩ = some (iv 0):=S2.out.cell (b:=b4) (C:=#[iv 0,iv 0,.slice none 0 0]) (t:=64) (by simp) 0
 have x5 : W2.cell? ⟨b4,1,none⟩ = some (iv 0):=S2.out.cell (b:=b4) (C:=#[iv 0,iv 0,.slice none 0 0]) (t:=64) (by simp) 1
 have x6 : W2.cell? ⟨b4,2,none⟩ = some (.slice none 0 0):=S2.out.cell (b:=b4) (C:=#[iv 0,iv 0,.slice none 0 0]) (t:=64) (by simp) 2
 have x7 : ∀ j,W2.frozen? ⟨b4,j,none⟩ = false:=S2.out.frz (b:=b4) (C:=#[iv 0,iv 0,.slice none 0 0]) (t:=64) (by simp)
 go_wp2
 refine wp_loop_rounds 1 ?_
 rw [rounds_succ]
 go_wp2
 have SZ:=Qo0 (show HS V (((W2.setCell ⟨b4,0,none⟩ (.int .i64 1)).setCell ⟨b4,1,none⟩ (.int .i64 0)).setCell ⟨b4,2,none⟩ (.slice none 0 0)) [(b7,Obj.cells #[iv 1,iv 0,.slice none 0 0] 64 (0,0)),(b4,Obj.cells #[iv 1,iv 0,.slice none 0 0] 64 (0,0))] from (HS.setc (pre:=[(b7,Obj.cells #[iv 1,iv 0,.slice none 0 0] 64 (0,0))]) (post:=[]) (HS.setc (pre:=[(b7,Obj.cells #[iv 1,iv 0,.slice none 0 0] 64 (0,0))]) (post:=[]) (HS.setc (pre:=[(b7,Obj.cells #[iv 1,iv 0,.slice none 0 0] 64 (0,0))]) (post:=[]) S2.out 0 (.int .i64 1)) 1 (.int .i64 0)) 2 (.slice none 0 0)))
 exact bodyPost_ret (results_cell_row (P:=Tryz.prog) rfl _ _ b4 _ _ _ _ rfl (SZ.out.f (b4,Obj.cells #[iv 1,iv 0,.slice none 0 0] 64 (0,0)) (by simp)) rfl rfl rfl) rfl ⟨rfl,SZ.out.g⟩
end Go.Proofs.YtiaenhlflgobfaaGreatDoor
namespace Go.Proofs.YtiaenhlflgobfaaGreatDoor
open Go.RowKit Go.Maps
theorem HS.pm {w0 V : World} {L L' : List (Nat × Obj)} (h : HS w0 V L) (hp : List.Perm L' L) : HS w0 V L':=h.sub (fun _ hx => hp.subset hx) ((hp.map _).nodup_iff.2 h.n)
set_option maxRecDepth 100000 in
set_option maxHeartbeats 4000000 in
attribute [local irreducible] Calls in
theorem findG_a (w0 V : World) (R : List (Nat × Obj)) (kN kD t mS mF gC cC : Nat) (uC : Array Value) (hD : w0.heap[kD]? = some (.cells #[iv 1,iv 1,.bool true,.slice (some ⟨kN,0,none⟩) 1 1,.bool false,iv 1,.string ⟨#[]⟩,.string ⟨#[]⟩,iv 7,iv 0,.slice none 0 0] 45 (0,0))) (hS : HS w0 V ((t,.cells #[.string ⟨#[109]⟩,.slice none 0 0,.slice (some ⟨kD,0,none⟩) 1 1,.slice none 0 0,.map (some mS),.map none,.slice none 0 0,.map (some mF),.bool false] 149 (0,0)) :: (gC,.cells uC 3 (0,0)) :: R)) (hC : uC[0]? = some (iv 1)) (hcC : 1 ≤ cC ∧ cC ≤ 9223372036854775807) :
 Calls Tryz.prog 79 #[.pointer (some ⟨t,0,none⟩),.slice (some ⟨gC,0,none⟩) 1 cC] V fun e V' => ∃ mf vg vn,e = .returned (.tuple #[.map (some mf),iv 0]) ∧ HS w0 V' ((mf,Qg iv ([(1,.agg #[iv 0,iv 1,iv 0,.slice none 0 0])] : MK Int)) :: (t,.cells #[.string ⟨#[109]⟩,.slice none 0 0,.slice (some ⟨kD,0,none⟩) 1 1,.slice none 0 0,.map (some mS),vg,vn,.map (some mF),.bool false] 149 (0,0)) :: (gC,.cells uC 3 (0,0)) :: R):=by
 have FD:=Qo0 (fun V (g : Gr w0 V) => boxD (Qe g hD))
 have HC:=Qo0 hC
 have HcC:=Qo0 hcC
 clear hD hC hcC
 have S0:=Qo0 hS
 clear hS
 have hmm:=@run_makeMap Tryz.prog
 go_enter Tryz.func79,Tryz.ntmps79
 obtain ⟨mg,hmg⟩ : ∃ b,V.heap.size = b:=⟨_,rfl⟩
 have SA:=Qo0 (show HS w0 (V.alloc (.map #[] 0)) ((mg,Qg iv ([] : MK Int)) :: (t,Obj.cells #[.string ⟨#[109]⟩,.slice none 0 0,.slice (some ⟨kD,0,none⟩) 1 1,.slice none 0 0,.map (some mS),.map none,.slice none 0 0,.map (some mF),.bool false] 149 (0,0)) :: (gC,Obj.cells uC 3 (0,0)) :: R) from S0.out.alloc hmg _)
 have y1 : (V.alloc (.map #[] 0)).cell? ⟨t,5,none⟩ = some (.map none):=SA.out.cell (show (t,Obj.cells #[.string ⟨#[109]⟩,.slice none 0 0,.slice (some ⟨kD,0,none⟩) 1 1,.slice none 0 0,.map (some mS),.map none,.slice none 0 0,.map (some mF),.bool false] 149 (0,0)) ∈ ((mg,Qg iv ([] : MK Int)) :: (t,Obj.cells #[.string ⟨#[109]⟩,.slice none 0 0,.slice (some ⟨kD,0,none⟩) 1 1,.slice none 0 0,.map (some mS),.map none,.slice none 0 0,.map (some mF),.bool false] 149 (0,0)) :: (gC,Obj.cells uC 3 (0,0)) :: R) from by simp) 5
 have y2 : ∀ j,(V.alloc (.map #[] 0)).frozen? ⟨t,j,none⟩ = false:=SA.out.frz (show (t,Obj.cells #[.string ⟨#[109]⟩,.slice none 0 0,.slice (some ⟨kD,0,none⟩) 1 1,.slice none 0 0,.map (some mS),.map none,.slice none 0 0,.map (some mF),.bool false] 149 (0,0)) ∈ ((mg,Qg iv ([] : MK Int)) :: (t,Obj.cells #[.string ⟨#[109]⟩,.slice none 0 0,.slice (some ⟨kD,0,none⟩) 1 1,.slice none 0 0,.map (some mS),.map none,.slice none 0 0,.map (some mF),.bool false] 149 (0,0)) :: (gC,Obj.cells uC 3 (0,0)) :: R) from by simp)
 go_upto_region 2 with fail
 generalize hV : World.alloc V _ = VA
 rw [hV] at SA
 clear hV y1 y2
 have Hmg:=Qo0 hmg
 clear hmg
 have S1:=SA
 generalize hW : World.setCell VA _ _ = W2
 have S2:=Qo0 (show HS w0 W2 ((mg,Qg iv ([] : MK Int)) :: (t,Obj.cells #[.string ⟨#[109]⟩,.slice none 0 0,.slice (some ⟨kD,0,none⟩) 1 1,.slice none 0 0,.map (some mS),.map (some mg),.slice none 0 0,.map (some mF),.bool false] 149 (0,0)) :: (gC,Obj.cells uC 3 (0,0)) :: R) from by rw [← hW];exact HS.setc (pre:=[(mg,Qg iv ([] : MK Int))]) (post:=((gC,Obj.cells uC 3 (0,0)) :: R)) S1.out 5 _)
 clear hW
 have x1 : W2.cell? ⟨t,6,none⟩ = some (.slice none 0 0):=S2.out.cell (b:=t) (C:=#[.string ⟨#[109]⟩,.slice none 0 0,.slice (some ⟨kD,0,none⟩) 1 1,.slice none 0 0,.map (some mS),.map (some mg),.slice none 0 0,.map (some mF),.bool false]) (t:=149) (by simp) 6
 have x2 : ∀ j,W2.frozen? ⟨t,j,none⟩ = false:=S2.out.frz (b:=t) (C:=#[.string ⟨#[109]⟩,.slice none 0 0,.slice (some ⟨kD,0,none⟩) 1 1,.slice none 0 0,.map (some mS),.map (some mg),.slice none 0 0,.map (some mF),.bool false]) (t:=149) (by simp)
 go_upto_region 3 with fail
 generalize hW : World.setCell W2 _ _ = W3
 have S3:=Qo0 (show HS w0 W3 ((mg,Qg iv ([] : MK Int)) :: (t,Obj.cells #[.string ⟨#[109]⟩,.slice none 0 0,.slice (some ⟨kD,0,none⟩) 1 1,.slice none 0 0,.map (some mS),.map (some mg),.slice none 0 0,.map (some mF),.bool false] 149 (0,0)) :: (gC,Obj.cells uC 3 (0,0)) :: R) from by rw [← hW];exact HS.setc (pre:=[(mg,Qg iv ([] : MK Int))]) (post:=((gC,Obj.cells uC 3 (0,0)) :: R)) S2.out 6 _)
 clear hW
 clear x1 x2
 have x3 : W3.cell? ⟨t,8,none⟩ = some (.bool false):=S3.out.cell (b:=t) (C:=#[.string ⟨#[109]⟩,.slice none 0 0,.slice (some ⟨kD,0,none⟩) 1 1,.slice none 0 0,.map (some mS),.map (some mg),.slice none 0 0,.map (some mF),.bool false]) (t:=149) (by simp) 8
 have x4 : ∀ j,W3.frozen? ⟨t,j,none⟩ = false:=S3.out.frz (b:=t) (C:=#[.string ⟨#[109]⟩,.slice none 0 0,.slice (some ⟨kD,0,none⟩) 1 1,.slice none 0 0,.map (some mS),.map (some mg),.slice none 0 0,.map (some mF),.bool false]) (t:=149) (by simp)
 go_upto_region 4 with fail
 generalize hW : World.setCell W3 _ _ = W4
 have S4:=Qo0 (show HS w0 W4 ((mg,Qg iv ([] : MK Int)) :: (t,Obj.cells #[.string ⟨#[109]⟩,.slice none 0 0,.slice (some ⟨kD,0,none⟩) 1 1,.slice none 0 0,.map (some mS),.map (some mg),.slice none 0 0,.map (some mF),.bool false] 149 (0,0)) :: (gC,Obj.cells uC 3 (0,0)) :: R) from by rw [← hW];exact HS.setc (pre:=[(mg,Qg iv ([] : MK Int))]) (post:=((gC,Obj.cells uC 3 (0,0)) :: R)) S3.out 8 _)
 clear hW
 clear x3 x4
 have k1 : 1 ≤ cC:=HcC.out.1
 have k2 : cC ≤ 9223372036854775807:=HcC.out.2
 go_wp2
 refine wp_loop_rounds 2 ?_
 rw [rounds_succ]
 have y0 : W4.cell? ⟨gC,0,none⟩ = some (iv 1):=(S4.out.cell (b:=gC) (C:=uC) (t:=3) (by simp) 0).trans HC.out
 go_upto_region 7 with fail
 have x5 : W4.cell? ⟨t,5,none⟩ = some (.map (some mg)):=S4.out.cell (b:=t) (C:=#[.string ⟨#[109]⟩,.slice none 0 0,.slice (some ⟨kD,0,none⟩) 1 1,.slice none 0 0,.map (some mS),.map (some mg),.slice none 0 0,.map (some mF),.bool false]) (t:=149) (by simp) 5
 obtain ⟨a,ha⟩ : ∃ b,W4.heap.size = b:=⟨_,rfl⟩
 have CUN:=Qo0 (show Calls Tryz.prog 122 #[] W4.drew (fun e w' => e = .returned (.pointer (some ⟨a,0,none⟩)) ∧ w' = W4.drew.alloc (.cells #[.pointer none,iv 5,.slice none 0 0,iv 0] 206)) from by
  have h:=Qgm W4.drew
  rw [show W4.drew.heap.size = a from ha] at h
  exact h)
 have SN:=Qo0 (show HS w0 (W4.drew.alloc (.cells #[.pointer none,iv 5,.slice none 0 0,iv 0] 206)) ((a,Obj.cells #[.pointer none,iv 5,.slice none 0 0,iv 0] 206 (0,0)) :: (mg,Qg iv ([] : MK Int)) :: (t,Obj.cells #[.string ⟨#[109]⟩,.slice none 0 0,.slice (some ⟨kD,0,none⟩) 1 1,.slice none 0 0,.map (some mS),.map (some mg),.slice none 0 0,.map (some mF),.bool false] 149 (0,0)) :: (gC,Obj.cells uC 3 (0,0)) :: R) from (S4.out.gr (Qb _)).alloc ha _)
 have CT:=Qo0 (fun (V : World) (h : V.heap[t]? = some (Obj.cells #[.string ⟨#[109]⟩,.slice none 0 0,.slice (some ⟨kD,0,none⟩) 1 1,.slice none 0 0,.map (some mS),.map (some mg),.slice none 0 0,.map (some mF),.bool false] 149 (0,0))) => show V.cell? ⟨t,5,none⟩ = some (.map (some mg)) from Lib.cell_of_heap h 5)
 clear ha
 go_region_held3 (fun V => V.cell? ⟨t,5,none⟩ = some (.map (some mg))) (first | exact CT.out _ ((S4.out.gr (Qb _)).f (t,Obj.cells #[.string ⟨#[109]⟩,.slice none 0 0,.slice (some ⟨kD,0,none⟩) 1 1,.slice none 0 0,.map (some mS),.map (some mg),.slice none 0 0,.map (some mF),.bool false] 149 (0,0)) (by simp)) | exact CT.out _ (S5.out.f (t,Obj.cells #[.string ⟨#[109]⟩,.slice none 0 0,.slice (some ⟨kD,0,none⟩) 1 1,.slice none 0 0,.map (some mS),.map (some mg),.slice none 0 0,.map (some mF),.bool false] 149 (0,0)) (by simp)) | exact CT.out _ ((HS.setm (pre:=[(a,Obj.cells #[.pointer none,iv 5,.slice none 0 0,iv 0] 206 (0,0))]) (post:=((t,Obj.cells #[.string ⟨#[109]⟩,.slice none 0 0,.slice (some ⟨kD,0,none⟩) 1 1,.slice none 0 0,.map (some mS),.map (some mg),.slice none 0 0,.map (some mF),.bool false] 149 (0,0)) :: (gC,Obj.cells uC 3 (0,0)) :: R)) (l:=([] : MK Int)) S5.out ([(1,.pointer (some ⟨a,0,none⟩))] : MK Int)).f (t,Obj.cells #[.string ⟨#[109]⟩,.slice none 0 0,.slice (some ⟨kD,0,none⟩) 1 1,.slice none 0 0,.map (some mS),.map (some mg),.slice none 0 0,.map (some mF),.bool false] 149 (0,0)) (by simp)) | go_keep) (first | (go_at_call 122;(with_reducible refine (CUN.out).mono ?_);rintro e W5 ⟨rfl,hq⟩;have S5:=Qo0 (show HS w0 W5 ((a,Obj.cells #[.pointer none,iv 5,.slice none 0 0,iv 0] 206 (0,0)) :: (mg,Qg iv ([] : MK Int)) :: (t,Obj.cells #[.string ⟨#[109]⟩,.slice none 0 0,.slice (some ⟨kD,0,none⟩) 1 1,.slice none 0 0,.map (some mS),.map (some mg),.slice none 0 0,.map (some mF),.bool false] 149 (0,0)) :: (gC,Obj.cells uC 3 (0,0)) :: R) from by rw [hq];exact SN.out);clear hq;have x6 : (Instr.mapUpdate 145 (.map (some mg)) (iv 1) (.pointer (some ⟨a,0,none⟩))).run Tryz.prog W5 = .ok () (Zp iv W5 mg ([(1,.pointer (some ⟨a,0,none⟩))] : MK Int)):=Q4 ktI (S5.out.mp (b:=mg) (kv:=iv) (l:=([] : MK Int)) (by simp)) LK.nil Tryz.underlying145 (k:=1) (by decide) (by rfl) (.pointer (some ⟨a,0,none⟩))))
 generalize hW : Zp iv W5 mg _ = W6
 have S6:=Qo0 (show HS w0 W6 ((a,Obj.cells #[.pointer none,iv 5,.slice none 0 0,iv 0] 206 (0,0)) :: (mg,Qg iv ([(1,.pointer (some ⟨a,0,none⟩))] : MK Int)) :: (t,Obj.cells #[.string ⟨#[109]⟩,.slice none 0 0,.slice (some ⟨kD,0,none⟩) 1 1,.slice none 0 0,.map (some mS),.map (some mg),.slice none 0 0,.map (some mF),.bool false] 149 (0,0)) :: (gC,Obj.cells uC 3 (0,0)) :: R) from by rw [← hW];exact HS.setm (pre:=[(a,Obj.cells #[.pointer none,iv 5,.slice none 0 0,iv 0] 206 (0,0))]) (post:=((t,Obj.cells #[.string ⟨#[109]⟩,.slice none 0 0,.slice (some ⟨kD,0,none⟩) 1 1,.slice none 0 0,.map (some mS),.map (some mg),.slice none 0 0,.map (some mF),.bool false] 149 (0,0)) :: (gC,Obj.cells uC 3 (0,0)) :: R)) (l:=([] : MK Int)) S5.out ([(1,.pointer (some ⟨a,0,none⟩))] : MK Int))
 clear hW
 clear y0 x5 x6
 have x7 : W6.cell? ⟨t,2,none⟩ = some (.slice (some ⟨kD,0,none⟩) 1 1):=S6.out.cell (b:=t) (C:=#[.string ⟨#[109]⟩,.slice none 0 0,.slice (some ⟨kD,0,none⟩) 1 1,.slice none 0 0,.map (some mS),.map (some mg),.slice none 0 0,.map (some mF),.bool false]) (t:=149) (by simp) 2
 go_wp2
 rw [rounds_succ]
 go_wp2
 refine wp_loop_rounds 2 ?_
 rw [rounds_succ]
 obtain ⟨d0,d1,d2,d3,d4,d5,d6,d7,d8,d9,d10⟩:=FD.out _ S6.out.g
 obtain ⟨b9,hb9⟩ : ∃ b,W6.heap.size = b:=⟨_,rfl⟩
 go_upto_region 12 with fail
 generalize hW : World.alloc W6 _ = W7
 have S7:=Qo0 (show HS w0 W7 ((b9,Obj.cells #[iv 1,iv 1,.bool true,.slice (some ⟨kN,0,none⟩) 1 1,.bool false,iv 1,.string ⟨#[]⟩,.string ⟨#[]⟩,iv 7,iv 0,.slice none 0 0] 45 (0,0)) :: (a,Obj.cells #[.pointer none,iv 5,.slice none 0 0,iv 0] 206 (0,0)) :: (mg,Qg iv ([(1,.pointer (some ⟨a,0,none⟩))] : MK Int)) :: (t,Obj.cells #[.string ⟨#[109]⟩,.slice none 0 0,.slice (some ⟨kD,0,none⟩) 1 1,.slice none 0 0,.map (some mS),.map (some mg),.slice none 0 0,.map (some mF),.bool false] 149 (0,0)) :: (gC,Obj.cells uC 3 (0,0)) :: R) from by rw [← hW];exact S6.out.alloc hb9 _)
 clear hW
 have Hb9:=Qo0 hb9
 clear hb9
 clear x7 d0 d1 d2 d3 d4 d5 d6 d7 d8 d9 d10
 have x8 : W7.cell? ⟨t,5,none⟩ = some (.map (some mg)):=S7.out.cell (b:=t) (C:=#[.string ⟨#[109]⟩,.slice none 0 0,.slice (some ⟨kD,0,none⟩) 1 1,.slice none 0 0,.map (some mS),.map (some mg),.slice none 0 0,.map (some mF),.bool false]) (t:=149) (by simp) 5
 have x9 : W7.cell? ⟨b9,0,none⟩ = some (iv 1):=S7.out.cell (b:=b9) (C:=#[iv 1,iv 1,.bool true,.slice (some ⟨kN,0,none⟩) 1 1,.bool false,iv 1,.string ⟨#[]⟩,.string ⟨#[]⟩,iv 7,iv 0,.slice none 0 0]) (t:=45) (by simp) 0
 have LKH:=Qo0 (fun V (g : Gr W7 V) => show (Instr.lookup 145 (.map (some mg)) (iv 1) false).run Tryz.prog V = .ok (.pointer (some ⟨a,0,none⟩)) V from (Q7 ktI ((S7.out.gr g).mp (show (mg,Qg iv ([(1,.pointer (some ⟨a,0,none⟩))] : MK Int)) ∈ ((b9,Obj.cells #[iv 1,iv 1,.bool true,.slice (some ⟨kN,0,none⟩) 1 1,.bool false,iv 1,.string ⟨#[]⟩,.string ⟨#[]⟩,iv 7,iv 0,.slice none 0 0] 45 (0,0)) :: (a,Obj.cells #[.pointer none,iv 5,.slice none 0 0,iv 0] 206 (0,0)) :: (mg,Qg iv ([(1,.pointer (some ⟨a,0,none⟩))] : MK Int)) :: (t,Obj.cells #[.string ⟨#[109]⟩,.slice none 0 0,.slice (some ⟨kD,0,none⟩) 1 1,.slice none 0 0,.map (some mS),.map (some mg),.slice none 0 0,.map (some mF),.bool false] 149 (0,0)) :: (gC,Obj.cells uC 3 (0,0)) :: R) from by simp)) (Qbp (v:=.pointer (some ⟨a,0,none⟩))) Tryz.underlying145 (z:=.pointer none) (by kernel_rfl) (k:=1) (by decide)).1)
 have lk0:=LKH.out _ (Qc _)
 have lk1:=LKH.out _ (Qb _)
 have lk2:=fun n => LKH.out _ (Qq _ n)
 go_big_quiet (fail)
 generalize hV : World.drewN W7 _ = VB
 have S8:=Qo0 (show HS w0 VB ((b9,Obj.cells #[iv 1,iv 1,.bool true,.slice (some ⟨kN,0,none⟩) 1 1,.bool false,iv 1,.string ⟨#[]⟩,.string ⟨#[]⟩,iv 7,iv 0,.slice none 0 0] 45 (0,0)) :: (a,Obj.cells #[.pointer none,iv 5,.slice none 0 0,iv 0] 206 (0,0)) :: (mg,Qg iv ([(1,.pointer (some ⟨a,0,none⟩))] : MK Int)) :: (t,Obj.cells #[.string ⟨#[109]⟩,.slice none 0 0,.slice (some ⟨kD,0,none⟩) 1 1,.slice none 0 0,.map (some mS),.map (some mg),.slice none 0 0,.map (some mF),.bool false] 149 (0,0)) :: (gC,Obj.cells uC 3 (0,0)) :: R) from S7.out.gr (by rw [← hV];exact Qq _ _))
 clear hV lk0 lk1 lk2 LKH
 clear x8 x9
 go_upto_region 14 with fail
 have x10 : VB.cell? ⟨b9,5,none⟩ = some (iv 1):=S8.out.cell (b:=b9) (C:=#[iv 1,iv 1,.bool true,.slice (some ⟨kN,0,none⟩) 1 1,.bool false,iv 1,.string ⟨#[]⟩,.string ⟨#[]⟩,iv 7,iv 0,.slice none 0 0]) (t:=45) (by simp) 5
 have x11 : VB.cell? ⟨b9,6,none⟩ = some (.string ⟨#[]⟩):=S8.out.cell (b:=b9) (C:=#[iv 1,iv 1,.bool true,.slice (some ⟨kN,0,none⟩) 1 1,.bool false,iv 1,.string ⟨#[]⟩,.string ⟨#[]⟩,iv 7,iv 0,.slice none 0 0]) (t:=45) (by simp) 6
 have x12 : VB.cell? ⟨b9,7,none⟩ = some (.string ⟨#[]⟩):=S8.out.cell (b:=b9) (C:=#[iv 1,iv 1,.bool true,.slice (some ⟨kN,0,none⟩) 1 1,.bool false,iv 1,.string ⟨#[]⟩,.string ⟨#[]⟩,iv 7,iv 0,.slice none 0 0]) (t:=45) (by simp) 7
 have x13 : VB.cell? ⟨b9,8,none⟩ = some (iv 7):=S8.out.cell (b:=b9) (C:=#[iv 1,iv 1,.bool true,.slice (some ⟨kN,0,none⟩) 1 1,.bool false,iv 1,.string ⟨#[]⟩,.string ⟨#[]⟩,iv 7,iv 0,.slice none 0 0]) (t:=45) (by simp) 8
 have x14 : VB.cell? ⟨b9,9,none⟩ = some (iv 0):=S8.out.cell (b:=b9) (C:=#[iv 1,iv 1,.bool true,.slice (some ⟨kN,0,none⟩) 1 1,.bool false,iv 1,.string ⟨#[]⟩,.string ⟨#[]⟩,iv 7,iv 0,.slice none 0 0]) (t:=45) (by simp) 9
 have x15 : VB.cell? ⟨b9,10,none⟩ = some (.slice none 0 0):=S8.out.cell (b:=b9) (C:=#[iv 1,iv 1,.bool true,.slice (some ⟨kN,0,none⟩) 1 1,.bool false,iv 1,.string ⟨#[]⟩,.string ⟨#[]⟩,iv 7,iv 0,.slice none 0 0]) (t:=45) (by simp) 10
 have SP:=Qo0 (show HS w0 VB ((t,Obj.cells #[.string ⟨#[109]⟩,.slice none 0 0,.slice (some ⟨kD,0,none⟩) 1 1,.slice none 0 0,.map (some mS),.map (some mg),.slice none 0 0,.map (some mF),.bool false] 149 (0,0)) :: (b9,Obj.cells #[iv 1,iv 1,.bool true,.slice (some ⟨kN,0,none⟩) 1 1,.bool false,iv 1,.string ⟨#[]⟩,.string ⟨#[]⟩,iv 7,iv 0,.slice none 0 0] 45 (0,0)) :: (a,Obj.cells #[.pointer none,iv 5,.slice none 0 0,iv 0] 206 (0,0)) :: (mg,Qg iv ([(1,.pointer (some ⟨a,0,none⟩))] : MK Int)) :: (gC,Obj.cells uC 3 (0,0)) :: R) from S8.out.pm (List.perm_middle (l₁:=[(b9,Obj.cells #[iv 1,iv 1,.bool true,.slice (some ⟨kN,0,none⟩) 1 1,.bool false,iv 1,.string ⟨#[]⟩,.string ⟨#[]⟩,iv 7,iv 0,.slice none 0 0] 45 (0,0)),(a,Obj.cells #[.pointer none,iv 5,.slice none 0 0,iv 0] 206 (0,0)),(mg,Qg iv ([(1,.pointer (some ⟨a,0,none⟩))] : MK Int))]) (l₂:=((gC,Obj.cells uC 3 (0,0)) :: R))).symm)
 have CE:=Qo0 (expr_a w0 VB ((b9,Obj.cells #[iv 1,iv 1,.bool true,.slice (some ⟨kN,0,none⟩) 1 1,.bool false,iv 1,.string ⟨#[]⟩,.string ⟨#[]⟩,iv 7,iv 0,.slice none 0 0] 45 (0,0)) :: (a,Obj.cells #[.pointer none,iv 5,.slice none 0 0,iv 0] 206 (0,0)) :: (mg,Qg iv ([(1,.pointer (some ⟨a,0,none⟩))] : MK Int)) :: (gC,Obj.cells uC 3 (0,0)) :: R) t kD mS mF (.map (some mg)) SP.out)
 unfold aBv at CE
 go_upto_region 15 with (first | (go_at_call 124;(with_reducible refine (CE.out).mono ?_);rintro e WE ⟨p,gN,cN,uN,rfl,h,h1,h2⟩;have SE:=Qo0 (show HS w0 WE ((gN,Obj.cells uN 199 (0,0)) :: (p,Obj.cells #[.pointer none,iv 1,.slice none 0 0,iv 0] 206 (0,0)) :: (b9,Obj.cells #[iv 1,iv 1,.bool true,.slice (some ⟨kN,0,none⟩) 1 1,.bool false,iv 1,.string ⟨#[]⟩,.string ⟨#[]⟩,iv 7,iv 0,.slice none 0 0] 45 (0,0)) :: (a,Obj.cells #[.pointer none,iv 5,.slice none 0 0,iv 0] 206 (0,0)) :: (mg,Qg iv ([(1,.pointer (some ⟨a,0,none⟩))] : MK Int)) :: (t,Obj.cells #[.string ⟨#[109]⟩,.slice none 0 0,.slice (some ⟨kD,0,none⟩) 1 1,.slice none 0 0,.map (some mS),.map (some mg),.slice (some ⟨gN,0,none⟩) 1 cN,.map (some mF),.bool false] 149 (0,0)) :: (gC,Obj.cells uC 3 (0,0)) :: R) from HS.pm (show HS w0 WE ((gN,Obj.cells uN 199 (0,0)) :: (p,Obj.cells #[.pointer none,iv 1,.slice none 0 0,iv 0] 206 (0,0)) :: (t,Obj.cells #[.string ⟨#[109]⟩,.slice none 0 0,.slice (some ⟨kD,0,none⟩) 1 1,.slice none 0 0,.map (some mS),.map (some mg),.slice (some ⟨gN,0,none⟩) 1 cN,.map (some mF),.bool false] 149 (0,0)) :: (b9,Obj.cells #[iv 1,iv 1,.bool true,.slice (some ⟨kN,0,none⟩) 1 1,.bool false,iv 1,.string ⟨#[]⟩,.string ⟨#[]⟩,iv 7,iv 0,.slice none 0 0] 45 (0,0)) :: (a,Obj.cells #[.pointer none,iv 5,.slice none 0 0,iv 0] 206 (0,0)) :: (mg,Qg iv ([(1,.pointer (some ⟨a,0,none⟩))] : MK Int)) :: (gC,Obj.cells uC 3 (0,0)) :: R) from h) (.cons _ (.cons _ (List.perm_middle (l₁:=[(b9,Obj.cells #[iv 1,iv 1,.bool true,.slice (some ⟨kN,0,none⟩) 1 1,.bool false,iv 1,.string ⟨#[]⟩,.string ⟨#[]⟩,iv 7,iv 0,.slice none 0 0] 45 (0,0)),(a,Obj.cells #[.pointer none,iv 5,.slice none 0 0,iv 0] 206 (0,0)),(mg,Qg iv ([(1,.pointer (some ⟨a,0,none⟩))] : MK Int))]) (l₂:=((gC,Obj.cells uC 3 (0,0)) :: R))))));have HuN:=Qo0 h1;have HcN:=Qo0 h2;have CS:=Qo0 (same_a w0 WE _ gN p b9 a mg t kD mS mF _ _ _ _ _ SE.out);clear h h1 h2) | (go_at_call 123;(with_reducible refine (CS.out).mono ?_);rintro e WS ⟨⟨r,rfl⟩,h⟩;have S9:=Qo0 (show HS w0 WS ((gN,Obj.cells uN 199 (0,0)) :: (p,Obj.cells #[.pointer none,iv 1,.slice none 0 0,iv 0] 206 (0,0)) :: (b9,Obj.cells #[iv 1,iv 1,.bool true,.slice (some ⟨kN,0,none⟩) 1 1,.bool false,iv 1,.string ⟨#[]⟩,.string ⟨#[]⟩,iv 7,iv 0,.slice none 0 0] 45 (0,0)) :: (a,Obj.cells #[.pointer (some ⟨p,0,none⟩),iv 5,.slice none 0 0,iv 0] 206 (0,0)) :: (mg,Qg iv ([(1,.pointer (some ⟨a,0,none⟩))] : MK Int)) :: (t,Obj.cells #[.string ⟨#[109]⟩,.slice none 0 0,.slice (some ⟨kD,0,none⟩) 1 1,.slice none 0 0,.map (some mS),.map (some mg),.slice (some ⟨gN,0,none⟩) 1 cN,.map (some mF),.bool false] 149 (0,0)) :: (gC,Obj.cells uC 3 (0,0)) :: R) from h);clear h x10 x11 x12 x13 x14 x15))
 have x16 : WS.cell? ⟨b9,1,none⟩ = some (iv 1):=S9.out.cell (b:=b9) (C:=#[iv 1,iv 1,.bool true,.slice (some ⟨kN,0,none⟩) 1 1,.bool false,iv 1,.string ⟨#[]⟩,.string ⟨#[]⟩,iv 7,iv 0,.slice none 0 0]) (t:=45) (by simp) 1
 have x17 : WS.cell? ⟨t,8,none⟩ = some (.bool false):=S9.out.cell (b:=t) (C:=#[.string ⟨#[109]⟩,.slice none 0 0,.slice (some ⟨kD,0,none⟩) 1 1,.slice none 0 0,.map (some mS),.map (some mg),.slice (some ⟨gN,0,none⟩) 1 cN,.map (some mF),.bool false]) (t:=149) (by simp) 8
 have x18 : WS.cell? ⟨t,6,none⟩ = some (.slice (some ⟨gN,0,none⟩) 1 cN):=S9.out.cell (b:=t) (C:=#[.string ⟨#[109]⟩,.slice none 0 0,.slice (some ⟨kD,0,none⟩) 1 1,.slice none 0 0,.map (some mS),.map (some mg),.slice (some ⟨gN,0,none⟩) 1 cN,.map (some mF),.bool false]) (t:=149) (by simp) 6
 have k3 : 1 ≤ cN:=HcN.out.1
 have k4 : cN ≤ 9223372036854775807:=HcN.out.2
 go_wp2
 rw [rounds_succ]
 go_wp2
 refine wp_loop_rounds 2 ?_
 rw [rounds_succ]
 have y0 : WS.cell? ⟨gN,0,none⟩ = some (.pointer (some ⟨p,0,none⟩)):=(S9.out.cell (b:=gN) (C:=uN) (t:=199) (by simp) 0).trans HuN.out
 have CM:=Qo0 (Qlk w0 WS ((b9,Obj.cells #[iv 1,iv 1,.bool true,.slice (some ⟨kN,0,none⟩) 1 1,.bool false,iv 1,.string ⟨#[]⟩,.string ⟨#[]⟩,iv 7,iv 0,.slice none 0 0] 45 (0,0)) :: (a,Obj.cells #[.pointer (some ⟨p,0,none⟩),iv 5,.slice none 0 0,iv 0] 206 (0,0)) :: (mg,Qg iv ([(1,.pointer (some ⟨a,0,none⟩))] : MK Int)) :: (t,Obj.cells #[.string ⟨#[109]⟩,.slice none 0 0,.slice (some ⟨kD,0,none⟩) 1 1,.slice none 0 0,.map (some mS),.map (some mg),.slice (some ⟨gN,0,none⟩) 1 cN,.map (some mF),.bool false] 149 (0,0)) :: (gC,Obj.cells uC 3 (0,0)) :: R) gN p _ S9.out)
 go_wp2_with (go_at_call 126;(with_reducible refine (CM.out).mono ?_);rintro e WM ⟨rfl,h⟩;have S10:=Qo0 (show HS w0 WM ((gN,Obj.cells uN 199 (0,0)) :: (p,Obj.cells #[.pointer none,iv 1,.slice none 0 0,iv 1] 206 (0,0)) :: (b9,Obj.cells #[iv 1,iv 1,.bool true,.slice (some ⟨kN,0,none⟩) 1 1,.bool false,iv 1,.string ⟨#[]⟩,.string ⟨#[]⟩,iv 7,iv 0,.slice none 0 0] 45 (0,0)) :: (a,Obj.cells #[.pointer (some ⟨p,0,none⟩),iv 5,.slice none 0 0,iv 0] 206 (0,0)) :: (mg,Qg iv ([(1,.pointer (some ⟨a,0,none⟩))] : MK Int)) :: (t,Obj.cells #[.string ⟨#[109]⟩,.slice none 0 0,.slice (some ⟨kD,0,none⟩) 1 1,.slice none 0 0,.map (some mS),.map (some mg),.slice (some ⟨gN,0,none⟩) 1 cN,.map (some mF),.bool false] 149 (0,0)) :: (gC,Obj.cells uC 3 (0,0)) :: R) from h);clear h x16 x17 x18 y0)
 have x19 : WM.cell? ⟨t,6,none⟩ = some (.slice (some ⟨gN,0,none⟩) 1 cN):=S10.out.cell (b:=t) (C:=#[.string ⟨#[109]⟩,.slice none 0 0,.slice (some ⟨kD,0,none⟩) 1 1,.slice none 0 0,.map (some mS),.map (some mg),.slice (some ⟨gN,0,none⟩) 1 cN,.map (some mF),.bool false]) (t:=149) (by simp) 6
 rw [rounds_succ]
 go_wp2
 refine wp_loop_rounds 2 ?_
 rw [rounds_succ]
 have y0 : WM.cell? ⟨gN,0,none⟩ = some (.pointer (some ⟨p,0,none⟩)):=(S10.out.cell (b:=gN) (C:=uN) (t:=199) (by simp) 0).trans HuN.out
 have x20 : WM.cell? ⟨p,0,none⟩ = some (.pointer none):=S10.out.cell (b:=p) (C:=#[.pointer none,iv 1,.slice none 0 0,iv 1]) (t:=206) (by simp) 0
 have x21 : WM.cell? ⟨p,3,none⟩ = some (iv 1):=S10.out.cell (b:=p) (C:=#[.pointer none,iv 1,.slice none 0 0,iv 1]) (t:=206) (by simp) 3
 have CF:=Qo0 (Qbf p WM x20)
 go_wp2_with (go_at_call 127;(with_reducible refine (CF.out).mono ?_);rintro e Wq ⟨rfl,hq⟩;obtain rfl:=hq.symm)
 rw [rounds_succ]
 obtain ⟨mf,hmf⟩ : ∃ b,WM.heap.size = b:=⟨_,rfl⟩
 go_upto_region 33 with fail
 generalize hW : World.alloc WM _ = W11
 have S11:=Qo0 (show HS w0 W11 ((mf,Qg iv ([] : MK Int)) :: (gN,Obj.cells uN 199 (0,0)) :: (p,Obj.cells #[.pointer none,iv 1,.slice none 0 0,iv 1] 206 (0,0)) :: (b9,Obj.cells #[iv 1,iv 1,.bool true,.slice (some ⟨kN,0,none⟩) 1 1,.bool false,iv 1,.string ⟨#[]⟩,.string ⟨#[]⟩,iv 7,iv 0,.slice none 0 0] 45 (0,0)) :: (a,Obj.cells #[.pointer (some ⟨p,0,none⟩),iv 5,.slice none 0 0,iv 0] 206 (0,0)) :: (mg,Qg iv ([(1,.pointer (some ⟨a,0,none⟩))] : MK Int)) :: (t,Obj.cells #[.string ⟨#[109]⟩,.slice none 0 0,.slice (some ⟨kD,0,none⟩) 1 1,.slice none 0 0,.map (some mS),.map (some mg),.slice (some ⟨gN,0,none⟩) 1 cN,.map (some mF),.bool false] 149 (0,0)) :: (gC,Obj.cells uC 3 (0,0)) :: R) from by rw [← hW];exact S10.out.alloc hmf _)
 clear hW
 have Hmf:=Qo0 hmf
 clear hmf
 clear x19 y0 x20 x21
 go_wp2
 refine wp_loop_rounds 2 ?_
 rw [rounds_succ]
 have y0 : W11.cell? ⟨gC,0,none⟩ = some (iv 1):=(S11.out.cell (b:=gC) (C:=uC) (t:=3) (by simp) 0).trans HC.out
 obtain ⟨mn,hmn⟩ : ∃ b,W11.heap.size = b:=⟨_,rfl⟩
 go_upto_region 37 with fail
 generalize hW : World.alloc W11 _ = W12
 have S12:=Qo0 (show HS w0 W12 ((mn,Qg iv ([] : MK Int)) :: (mf,Qg iv ([] : MK Int)) :: (gN,Obj.cells uN 199 (0,0)) :: (p,Obj.cells #[.pointer none,iv 1,.slice none 0 0,iv 1] 206 (0,0)) :: (b9,Obj.cells #[iv 1,iv 1,.bool true,.slice (some ⟨kN,0,none⟩) 1 1,.bool false,iv 1,.string ⟨#[]⟩,.string ⟨#[]⟩,iv 7,iv 0,.slice none 0 0] 45 (0,0)) :: (a,Obj.cells #[.pointer (some ⟨p,0,none⟩),iv 5,.slice none 0 0,iv 0] 206 (0,0)) :: (mg,Qg iv ([(1,.pointer (some ⟨a,0,none⟩))] : MK Int)) :: (t,Obj.cells #[.string ⟨#[109]⟩,.slice none 0 0,.slice (some ⟨kD,0,none⟩) 1 1,.slice none 0 0,.map (some mS),.map (some mg),.slice (some ⟨gN,0,none⟩) 1 cN,.map (some mF),.bool false] 149 (0,0)) :: (gC,Obj.cells uC 3 (0,0)) :: R) from by rw [← hW];exact S11.out.alloc hmn _)
 clear hW
 have Hmn:=Qo0 hmn
 clear hmn
 clear y0
 have x22 : W12.cell? ⟨t,5,none⟩ = some (.map (some mg)):=S12.out.cell (b:=t) (C:=#[.string ⟨#[109]⟩,.slice none 0 0,.slice (some ⟨kD,0,none⟩) 1 1,.slice none 0 0,.map (some mS),.map (some mg),.slice (some ⟨gN,0,none⟩) 1 cN,.map (some mF),.bool false]) (t:=149) (by simp) 5
 have x23 : (Instr.lookup 145 (.map (some mg)) (iv 1) false).run Tryz.prog W12 = .ok (.pointer (some ⟨a,0,none⟩)) W12:=(Q7 ktI (S12.out.mp (b:=mg) (kv:=iv) (l:=([(1,.pointer (some ⟨a,0,none⟩))] : MK Int)) (by simp)) (Qbp (v:=.pointer (some ⟨a,0,none⟩))) Tryz.underlying145 (z:=.pointer none) (by kernel_rfl) (k:=1) (by decide)).1
 have x24 : W12.cell? ⟨a,0,none⟩ = some (.pointer (some ⟨p,0,none⟩)):=S12.out.cell (b:=a) (C:=#[.pointer (some ⟨p,0,none⟩),iv 5,.slice none 0 0,iv 0]) (t:=206) (by simp) 0
 have x25 : W12.cell? ⟨p,0,none⟩ = some (.pointer none):=S12.out.cell (b:=p) (C:=#[.pointer none,iv 1,.slice none 0 0,iv 1]) (t:=206) (by simp) 0
 have x26 : W12.cell? ⟨p,1,none⟩ = some (iv 1):=S12.out.cell (b:=p) (C:=#[.pointer none,iv 1,.slice none 0 0,iv 1]) (t:=206) (by simp) 1
 have x27 : W12.cell? ⟨p,2,none⟩ = some (.slice none 0 0):=S12.out.cell (b:=p) (C:=#[.pointer none,iv 1,.slice none 0 0,iv 1]) (t:=206) (by simp) 2
 have CB:=Qo0 (build_a W12 a p (.map (some mn)) x24 x25 x26 x27)
 go_upto_region 38 with (go_at_call 128;(with_reducible refine (CB.out).mono ?_);rintro e W13 ⟨rfl,g⟩;have S13:=Qo0 (show HS w0 W13 ((mn,Qg iv ([] : MK Int)) :: (mf,Qg iv ([] : MK Int)) :: (gN,Obj.cells uN 199 (0,0)) :: (p,Obj.cells #[.pointer none,iv 1,.slice none 0 0,iv 1] 206 (0,0)) :: (b9,Obj.cells #[iv 1,iv 1,.bool true,.slice (some ⟨kN,0,none⟩) 1 1,.bool false,iv 1,.string ⟨#[]⟩,.string ⟨#[]⟩,iv 7,iv 0,.slice none 0 0] 45 (0,0)) :: (a,Obj.cells #[.pointer (some ⟨p,0,none⟩),iv 5,.slice none 0 0,iv 0] 206 (0,0)) :: (mg,Qg iv ([(1,.pointer (some ⟨a,0,none⟩))] : MK Int)) :: (t,Obj.cells #[.string ⟨#[109]⟩,.slice none 0 0,.slice (some ⟨kD,0,none⟩) 1 1,.slice none 0 0,.map (some mS),.map (some mg),.slice (some ⟨gN,0,none⟩) 1 cN,.map (some mF),.bool false] 149 (0,0)) :: (gC,Obj.cells uC 3 (0,0)) :: R) from S12.out.gr g);clear g x22 x23 x24 x25 x26 x27;obtain ⟨b19,hb19⟩ : ∃ b,W13.heap.size = b:=⟨_,rfl⟩)
 generalize hW : World.alloc W13 _ = W14
 have S14:=Qo0 (show HS w0 W14 ((b19,Obj.cells #[iv 1,iv 0,.slice none 0 0] 64 (0,0)) :: (mn,Qg iv ([] : MK Int)) :: (mf,Qg iv ([] : MK Int)) :: (gN,Obj.cells uN 199 (0,0)) :: (p,Obj.cells #[.pointer none,iv 1,.slice none 0 0,iv 1] 206 (0,0)) :: (b9,Obj.cells #[iv 1,iv 1,.bool true,.slice (some ⟨kN,0,none⟩) 1 1,.bool false,iv 1,.string ⟨#[]⟩,.string ⟨#[]⟩,iv 7,iv 0,.slice none 0 0] 45 (0,0)) :: (a,Obj.cells #[.pointer (some ⟨p,0,none⟩),iv 5,.slice none 0 0,iv 0] 206 (0,0)) :: (mg,Qg iv ([(1,.pointer (some ⟨a,0,none⟩))] : MK Int)) :: (t,Obj.cells #[.string ⟨#[109]⟩,.slice none 0 0,.slice (some ⟨kD,0,none⟩) 1 1,.slice none 0 0,.map (some mS),.map (some mg),.slice (some ⟨gN,0,none⟩) 1 cN,.map (some mF),.bool false] 149 (0,0)) :: (gC,Obj.cells uC 3 (0,0)) :: R) from by rw [← hW];exact S13.out.alloc hb19 _)
 clear hW
 have Hb19:=Qo0 hb19
 clear hb19
 have x28 : W14.cell? ⟨b19,0,none⟩ = some (iv 1):=S14.out.cell (b:=b19) (C:=#[iv 1,iv 0,.slice none 0 0]) (t:=64) (by simp) 0
 have x29 : W14.cell? ⟨b19,1,none⟩ = some (iv 0):=S14.out.cell (b:=b19) (C:=#[iv 1,iv 0,.slice none 0 0]) (t:=64) (by simp) 1
 have x30 : W14.cell? ⟨b19,2,none⟩ = some (.slice none 0 0):=S14.out.cell (b:=b19) (C:=#[iv 1,iv 0,.slice none 0 0]) (t:=64) (by simp) 2
 have x31 : (Builtin.len_ #[208] 3 #[.map (some mn)]).run Tryz.prog W14 = .ok (iv 0) W14:=by have h:=run_len_map (P:=Tryz.prog) (w:=W14) 208 3 mn #[] 0 (by kernel_rfl) (S14.out.f (mn,Qg iv ([] : MK Int)) (by simp));rw [h];rfl
 have x32 : (Instr.mapUpdate 142 (.map (some mf)) (iv 1) (.agg #[iv 0,iv 1,iv 0,.slice none 0 0])).run Tryz.prog W14 = .ok () (Zp iv W14 mf ([(1,.agg #[iv 0,iv 1,iv 0,.slice none 0 0])] : MK Int)):=Q4 ktI (S14.out.mp (b:=mf) (kv:=iv) (l:=([] : MK Int)) (by simp)) LK.nil Tryz.underlying142 (k:=1) (by decide) (by rfl) (.agg #[iv 0,iv 1,iv 0,.slice none 0 0])
 go_upto_region 39 with fail
 generalize hW : Zp iv W14 mf _ = W15
 have S15:=Qo0 (show HS w0 W15 ((b19,Obj.cells #[iv 1,iv 0,.slice none 0 0] 64 (0,0)) :: (mn,Qg iv ([] : MK Int)) :: (mf,Qg iv ([(1,.agg #[iv 0,iv 1,iv 0,.slice none 0 0])] : MK Int)) :: (gN,Obj.cells uN 199 (0,0)) :: (p,Obj.cells #[.pointer none,iv 1,.slice none 0 0,iv 1] 206 (0,0)) :: (b9,Obj.cells #[iv 1,iv 1,.bool true,.slice (some ⟨kN,0,none⟩) 1 1,.bool false,iv 1,.string ⟨#[]⟩,.string ⟨#[]⟩,iv 7,iv 0,.slice none 0 0] 45 (0,0)) :: (a,Obj.cells #[.pointer (some ⟨p,0,none⟩),iv 5,.slice none 0 0,iv 0] 206 (0,0)) :: (mg,Qg iv ([(1,.pointer (some ⟨a,0,none⟩))] : MK Int)) :: (t,Obj.cells #[.string ⟨#[109]⟩,.slice none 0 0,.slice (some ⟨kD,0,none⟩) 1 1,.slice none 0 0,.map (some mS),.map (some mg),.slice (some ⟨gN,0,none⟩) 1 cN,.map (some mF),.bool false] 149 (0,0)) :: (gC,Obj.cells uC 3 (0,0)) :: R) from by rw [← hW];exact HS.setm (pre:=[(b19,Obj.cells #[iv 1,iv 0,.slice none 0 0] 64 (0,0)),(mn,Qg iv ([] : MK Int))]) (post:=((gN,Obj.cells uN 199 (0,0)) :: (p,Obj.cells #[.pointer none,iv 1,.slice none 0 0,iv 1] 206 (0,0)) :: (b9,Obj.cells #[iv 1,iv 1,.bool true,.slice (some ⟨kN,0,none⟩) 1 1,.bool false,iv 1,.string ⟨#[]⟩,.string ⟨#[]⟩,iv 7,iv 0,.slice none 0 0] 45 (0,0)) :: (a,Obj.cells #[.pointer (some ⟨p,0,none⟩),iv 5,.slice none 0 0,iv 0] 206 (0,0)) :: (mg,Qg iv ([(1,.pointer (some ⟨a,0,none⟩))] : MK Int)) :: (t,Obj.cells #[.string ⟨#[109]⟩,.slice none 0 0,.slice (some ⟨kD,0,none⟩) 1 1,.slice none 0 0,.map (some mS),.map (some mg),.slice (some ⟨gN,0,none⟩) 1 cN,.map (some mF),.bool false] 149 (0,0)) :: (gC,Obj.cells uC 3 (0,0)) :: R)) (l:=([] : MK Int)) S14.out ([(1,.agg #[iv 0,iv 1,iv 0,.slice none 0 0])] : MK Int))
 clear hW
 clear x28 x29 x30 x31 x32
 go_wp2
 rw [rounds_succ]
 go_wp2
 go_ret2
 exact ⟨mf,_,_,rfl,S15.out.sl (.cons _ (.cons _ (.cons_cons _ (.cons _ (.cons _ (.cons _ (.cons _ (.cons _ (.cons_cons _ (.cons_cons _ (List.Sublist.refl _)))))))))))⟩
end Go.Proofs.YtiaenhlflgobfaaGreatDoor
namespace Go.Proofs.YtiaenhlflgobfaaGreatDoor
open Go.RowKit Go.Maps
theorem Qey {a b c : World} (h : Gr a b) (k : Gr b c) : Gr a c:=h.trans k
def sigL : List Value:=[iv 1,.string ⟨#[102]⟩,iv 0,iv 1,iv 0,.slice none 0 0]
theorem sig_row (uz : Array Value) : ∀ (i : Nat) v,sigL[i]? = some v → (#[iv 1,.string ⟨#[102]⟩,iv 0,iv 1,iv 0,.slice none 0 0] ++ uz)[i]? = some v:=by
 intro i v h
 have hi : i < 6:=by
  rcases Nat.lt_or_ge i 6 with h1 | h1
  ·exact h1
  ·rw [List.getElem?_eq_none h1] at h;cases h
 rw [Array.getElem?_append_left (by simpa using hi)]
 simpa [sigL] using h
set_option maxRecDepth 100000 in
set_option maxHeartbeats 4000000 in
attribute [local irreducible] Calls in
theorem Qne (kN kD : Nat) (w : World) (hN : w.heap[kN]? = some (.cells #[.string ⟨#[102]⟩] 9 (0,0))) (hD : w.heap[kD]? = some (.cells #[iv 1,iv 1,.bool true,.slice (some ⟨kN,0,none⟩) 1 1,.bool false,iv 1,.string ⟨#[]⟩,.string ⟨#[]⟩,iv 7,iv 0,.slice none 0 0] 45 (0,0))) : Calls Tryz.prog 37 #[.agg #[.string ⟨#[109]⟩,.slice none 0 0,.slice (some ⟨kD,0,none⟩) 1 1],.slice none 0 0] w fun e w' => ∃ gS cS uS,e = .returned (.tuple #[.slice (some ⟨gS,0,none⟩) 1 cS,iv 0,iv 0]) ∧ HS w w' [(gS,.cells uS 68 (0,0))] ∧ ∀ (i : Nat) v,sigL[i]? = some v → uS[i]? = some v:=by
 have FN:=Qo0 (fun V (g : Gr w V) => show V.cell? ⟨kN,0,none⟩ = some (.string ⟨#[102]⟩) from Lib.cell_of_heap (Qe g hN) 0)
 have FD:=Qo0 (fun V (g : Gr w V) => boxD (Qe g hD))
 have HD:=Qo0 hD
 have C76:=Qo0 (fun V (g : Gr w V) => Qga kN kD V (Qe g hN) (Qe g hD))
 have C77:=Qo0 (fun V (g : Gr w V) => Qnz kN kD V (Qe g hN) (Qe g hD))
 have CK:=Qo0 (fun V (g : Gr w V) => show Calls Tryz.prog 39 #[.agg #[.string ⟨#[109]⟩,.slice none 0 0,.slice (some ⟨kD,0,none⟩) 1 1]] V (fun e w' => e = .returned (iv 0) ∧ Gr V w') from by
  have h:=Qal (aM kN kD) V ((aM_rd hN hD).gr g)
  rw [Qku] at h
  exact h)
 clear hN hD
 have S0:=Qo0 (HS.nil (w0:=w))
 go_enter Tryz.func37,Tryz.ntmps37
 obtain ⟨b2,hb2⟩ : ∃ b,w.heap.size = b:=⟨_,rfl⟩
 go_upto_region 1 with fail
 generalize hW : World.alloc w _ = W1
 have S1:=Qo0 (show HS w W1 [(b2,Obj.cells #[.string ⟨#[109]⟩,.slice none 0 0,.slice (some ⟨kD,0,none⟩) 1 1] 39 (0,0))] from by rw [← hW];exact S0.out.alloc hb2 _)
 clear hW
 have Hb2:=Qo0 hb2
 clear hb2
 have x1 : W1.cell? ⟨b2,0,none⟩ = some (.string ⟨#[109]⟩):=S1.out.cell (b:=b2) (C:=#[.string ⟨#[109]⟩,.slice none 0 0,.slice (some ⟨kD,0,none⟩) 1 1]) (t:=39) (by simp) 0
 have x2 : W1.cell? ⟨b2,1,none⟩ = some (.slice none 0 0):=S1.out.cell (b:=b2) (C:=#[.string ⟨#[109]⟩,.slice none 0 0,.slice (some ⟨kD,0,none⟩) 1 1]) (t:=39) (by simp) 1
 have x3 : W1.cell? ⟨b2,2,none⟩ = some (.slice (some ⟨kD,0,none⟩) 1 1):=S1.out.cell (b:=b2) (C:=#[.string ⟨#[109]⟩,.slice none 0 0,.slice (some ⟨kD,0,none⟩) 1 1]) (t:=39) (by simp) 2
 go_upto_region 4 with (go_at_call 39;(with_reducible refine (CK.out _ S1.out.g).mono ?_);rintro e W2 ⟨rfl,g⟩;have S2:=Qo0 (show HS w W2 [(b2,Obj.cells #[.string ⟨#[109]⟩,.slice none 0 0,.slice (some ⟨kD,0,none⟩) 1 1] 39 (0,0))] from S1.out.gr g);clear g;clear x1 x2 x3)
 have x4 : W2.cell? ⟨b2,0,none⟩ = some (.string ⟨#[109]⟩):=S2.out.cell (b:=b2) (C:=#[.string ⟨#[109]⟩,.slice none 0 0,.slice (some ⟨kD,0,none⟩) 1 1]) (t:=39) (by simp) 0
 have x5 : W2.cell? ⟨b2,1,none⟩ = some (.slice none 0 0):=S2.out.cell (b:=b2) (C:=#[.string ⟨#[109]⟩,.slice none 0 0,.slice (some ⟨kD,0,none⟩) 1 1]) (t:=39) (by simp) 1
 have x6 : W2.cell? ⟨b2,2,none⟩ = some (.slice (some ⟨kD,0,none⟩) 1 1):=S2.out.cell (b:=b2) (C:=#[.string ⟨#[109]⟩,.slice none 0 0,.slice (some ⟨kD,0,none⟩) 1 1]) (t:=39) (by simp) 2
 go_upto_region 7 with (go_at_call 76;(with_reducible refine (C76.out _ S2.out.g).mono ?_);rintro e W3 ⟨rfl,g⟩;have S3:=Qo0 (show HS w W3 [(b2,Obj.cells #[.string ⟨#[109]⟩,.slice none 0 0,.slice (some ⟨kD,0,none⟩) 1 1] 39 (0,0))] from S2.out.gr g);clear g;clear x4 x5 x6)
 have x7 : W3.cell? ⟨b2,0,none⟩ = some (.string ⟨#[109]⟩):=S3.out.cell (b:=b2) (C:=#[.string ⟨#[109]⟩,.slice none 0 0,.slice (some ⟨kD,0,none⟩) 1 1]) (t:=39) (by simp) 0
 have x8 : W3.cell? ⟨b2,1,none⟩ = some (.slice none 0 0):=S3.out.cell (b:=b2) (C:=#[.string ⟨#[109]⟩,.slice none 0 0,.slice (some ⟨kD,0,none⟩) 1 1]) (t:=39) (by simp) 1
 have x9 : W3.cell? ⟨b2,2,none⟩ = some (.slice (some ⟨kD,0,none⟩) 1 1):=S3.out.cell (b:=b2) (C:=#[.string ⟨#[109]⟩,.slice none 0 0,.slice (some ⟨kD,0,none⟩) 1 1]) (t:=39) (by simp) 2
 go_upto_region 10 with (go_at_call 77;(with_reducible refine (C77.out _ S3.out.g).mono ?_);rintro e W4 ⟨gL,cL,uL,gC,cC,uC,rfl,h,h1,h2,h3,h4⟩;have S4:=Qo0 (show HS w W4 [(gL,Obj.cells uL 110 (0,0)),(gC,Obj.cells uC 3 (0,0)),(b2,Obj.cells #[.string ⟨#[109]⟩,.slice none 0 0,.slice (some ⟨kD,0,none⟩) 1 1] 39 (0,0))] from S3.out.more h);have H1:=Qo0 h1;have H2:=Qo0 h2;have H3:=Qo0 h3;have H4:=Qo0 h4;clear h h1 h2 h3 h4;clear x7 x8 x9)
 have x10 : W4.cell? ⟨b2,0,none⟩ = some (.string ⟨#[109]⟩):=S4.out.cell (b:=b2) (C:=#[.string ⟨#[109]⟩,.slice none 0 0,.slice (some ⟨kD,0,none⟩) 1 1]) (t:=39) (by simp) 0
 have x11 : W4.cell? ⟨b2,1,none⟩ = some (.slice none 0 0):=S4.out.cell (b:=b2) (C:=#[.string ⟨#[109]⟩,.slice none 0 0,.slice (some ⟨kD,0,none⟩) 1 1]) (t:=39) (by simp) 1
 have x12 : W4.cell? ⟨b2,2,none⟩ = some (.slice (some ⟨kD,0,none⟩) 1 1):=S4.out.cell (b:=b2) (C:=#[.string ⟨#[109]⟩,.slice none 0 0,.slice (some ⟨kD,0,none⟩) 1 1]) (t:=39) (by simp) 2
 go_upto_region 11 with (go_at_call 78;(with_reducible refine (Qic kD _).mono ?_);rintro e W5 ⟨t,mS,mF,rfl,h⟩;have S5:=Qo0 (show HS w W5 [(t,Obj.cells #[.string ⟨#[109]⟩,.slice none 0 0,.slice (some ⟨kD,0,none⟩) 1 1,.slice none 0 0,.map (some mS),.map none,.slice none 0 0,.map (some mF),.bool false] 149 (0,0)),(mF,Qg iv ([] : MK Int)),(mS,Qg iv ([] : MK Int)),(gL,Obj.cells uL 110 (0,0)),(gC,Obj.cells uC 3 (0,0)),(b2,Obj.cells #[.string ⟨#[109]⟩,.slice none 0 0,.slice (some ⟨kD,0,none⟩) 1 1] 39 (0,0))] from S4.out.more h);clear h;clear x10 x11 x12)
 have k1 : 1 ≤ cL:=H3.out.1
 have k2 : cL ≤ 9223372036854775807:=H3.out.2
 have k3 : 1 ≤ cC:=H4.out.1
 have k4 : cC ≤ 9223372036854775807:=H4.out.2
 go_wp2
 refine wp_loop_rounds 2 ?_
 rw [rounds_succ]
 have y0 : W5.cell? ⟨gL,0,none⟩ = some (.slice (some ⟨gC,0,none⟩) 1 cC):=(S5.out.cell (b:=gL) (C:=uL) (t:=110) (by simp) 0).trans H1.out
 have SP:=Qo0 (HS.pm (show HS w W5 [(t,Obj.cells #[.string ⟨#[109]⟩,.slice none 0 0,.slice (some ⟨kD,0,none⟩) 1 1,.slice none 0 0,.map (some mS),.map none,.slice none 0 0,.map (some mF),.bool false] 149 (0,0)),(mF,Qg iv ([] : MK Int)),(mS,Qg iv ([] : MK Int)),(gL,Obj.cells uL 110 (0,0)),(gC,Obj.cells uC 3 (0,0)),(b2,Obj.cells #[.string ⟨#[109]⟩,.slice none 0 0,.slice (some ⟨kD,0,none⟩) 1 1] 39 (0,0))] from S5.out) (show List.Perm [(t,Obj.cells #[.string ⟨#[109]⟩,.slice none 0 0,.slice (some ⟨kD,0,none⟩) 1 1,.slice none 0 0,.map (some mS),.map none,.slice none 0 0,.map (some mF),.bool false] 149 (0,0)),(gC,Obj.cells uC 3 (0,0)),(mF,Qg iv ([] : MK Int)),(mS,Qg iv ([] : MK Int)),(gL,Obj.cells uL 110 (0,0)),(b2,Obj.cells #[.string ⟨#[109]⟩,.slice none 0 0,.slice (some ⟨kD,0,none⟩) 1 1] 39 (0,0))] [(t,Obj.cells #[.string ⟨#[109]⟩,.slice none 0 0,.slice (some ⟨kD,0,none⟩) 1 1,.slice none 0 0,.map (some mS),.map none,.slice none 0 0,.map (some mF),.bool false] 149 (0,0)),(mF,Qg iv ([] : MK Int)),(mS,Qg iv ([] : MK Int)),(gL,Obj.cells uL 110 (0,0)),(gC,Obj.cells uC 3 (0,0)),(b2,Obj.cells #[.string ⟨#[109]⟩,.slice none 0 0,.slice (some ⟨kD,0,none⟩) 1 1] 39 (0,0))] from .cons _ (List.perm_middle (l₁:=[(mF,Qg iv ([] : MK Int)),(mS,Qg iv ([] : MK Int)),(gL,Obj.cells uL 110 (0,0))]) (l₂:=[(b2,Obj.cells #[.string ⟨#[109]⟩,.slice none 0 0,.slice (some ⟨kD,0,none⟩) 1 1] 39 (0,0))])).symm))
 have CF:=Qo0 (findG_a w W5 [(mF,Qg iv ([] : MK Int)),(mS,Qg iv ([] : MK Int)),(gL,Obj.cells uL 110 (0,0)),(b2,Obj.cells #[.string ⟨#[109]⟩,.slice none 0 0,.slice (some ⟨kD,0,none⟩) 1 1] 39 (0,0))] kN kD t mS mF gC cC uC HD.out SP.out H2.out H4.out)
 go_upto_region 17 with (go_at_call 79;(with_reducible refine (CF.out).mono ?_);rintro e W6 ⟨mf,vg,vn,rfl,h⟩;have S6:=Qo0 (show HS w W6 [(mf,Qg iv ([(1,.agg #[iv 0,iv 1,iv 0,.slice none 0 0])] : MK Int)),(t,Obj.cells #[.string ⟨#[109]⟩,.slice none 0 0,.slice (some ⟨kD,0,none⟩) 1 1,.slice none 0 0,.map (some mS),vg,vn,.map (some mF),.bool false] 149 (0,0)),(gC,Obj.cells uC 3 (0,0)),(mF,Qg iv ([] : MK Int)),(mS,Qg iv ([] : MK Int)),(gL,Obj.cells uL 110 (0,0)),(b2,Obj.cells #[.string ⟨#[109]⟩,.slice none 0 0,.slice (some ⟨kD,0,none⟩) 1 1] 39 (0,0))] from h);clear h;clear y0)
 go_wp2
 refine wp_loop_rounds 2 ?_
 rw [rounds_succ]
 have y0 : W6.cell? ⟨gC,0,none⟩ = some (iv 1):=(S6.out.cell (b:=gC) (C:=uC) (t:=3) (by simp) 0).trans H2.out
 go_upto_region 20 with fail
 clear y0
 have CT:=Qo0 (fun (V : World) (h : V.heap[t]? = some (Obj.cells #[.string ⟨#[109]⟩,.slice none 0 0,.slice (some ⟨kD,0,none⟩) 1 1,.slice none 0 0,.map (some mS),vg,vn,.map (some mF),.bool false] 149 (0,0))) => show V.cell? ⟨t,4,none⟩ = some (.map (some mS)) from Lib.cell_of_heap h 4)
 have x13 : W6.cell? ⟨t,4,none⟩ = some (.map (some mS)):=S6.out.cell (b:=t) (C:=#[.string ⟨#[109]⟩,.slice none 0 0,.slice (some ⟨kD,0,none⟩) 1 1,.slice none 0 0,.map (some mS),vg,vn,.map (some mF),.bool false]) (t:=149) (by simp) 4
 have LKH:=Qo0 (fun V (g : Gr W6 V) => show (Instr.lookup 142 (.map (some mf)) (iv 1) false).run Tryz.prog V = .ok (.agg #[iv 0,iv 1,iv 0,.slice none 0 0]) V from (Q7 ktI ((S6.out.gr g).mp (show (mf,Qg iv ([(1,.agg #[iv 0,iv 1,iv 0,.slice none 0 0])] : MK Int)) ∈ [(mf,Qg iv ([(1,.agg #[iv 0,iv 1,iv 0,.slice none 0 0])] : MK Int)),(t,Obj.cells #[.string ⟨#[109]⟩,.slice none 0 0,.slice (some ⟨kD,0,none⟩) 1 1,.slice none 0 0,.map (some mS),vg,vn,.map (some mF),.bool false] 149 (0,0)),(gC,Obj.cells uC 3 (0,0)),(mF,Qg iv ([] : MK Int)),(mS,Qg iv ([] : MK Int)),(gL,Obj.cells uL 110 (0,0)),(b2,Obj.cells #[.string ⟨#[109]⟩,.slice none 0 0,.slice (some ⟨kD,0,none⟩) 1 1] 39 (0,0))] from by simp)) (Qbp (v:=.agg #[iv 0,iv 1,iv 0,.slice none 0 0])) Tryz.underlying142 (z:=.agg #[iv 0,iv 0,iv 0,.slice none 0 0]) (by kernel_rfl) (k:=1) (by decide)).1)
 have lk1:=LKH.out _ (Qb _)
 have SD:=Qo0 (show HS w W6.drew [(mf,Qg iv ([(1,.agg #[iv 0,iv 1,iv 0,.slice none 0 0])] : MK Int)),(t,Obj.cells #[.string ⟨#[109]⟩,.slice none 0 0,.slice (some ⟨kD,0,none⟩) 1 1,.slice none 0 0,.map (some mS),vg,vn,.map (some mF),.bool false] 149 (0,0)),(gC,Obj.cells uC 3 (0,0)),(mF,Qg iv ([] : MK Int)),(mS,Qg iv ([] : MK Int)),(gL,Obj.cells uL 110 (0,0)),(b2,Obj.cells #[.string ⟨#[109]⟩,.slice none 0 0,.slice (some ⟨kD,0,none⟩) 1 1] 39 (0,0))] from S6.out.gr (Qb _))
 have up : (Instr.mapUpdate 142 (.map (some mS)) (iv 1) (.agg #[iv 0,iv 1,iv 0,.slice none 0 0])).run Tryz.prog W6.drew = .ok () (Zp iv W6.drew mS ([(1,.agg #[iv 0,iv 1,iv 0,.slice none 0 0])] : MK Int)):=Q4 ktI (SD.out.mp (show (mS,Qg iv ([] : MK Int)) ∈ [(mf,Qg iv ([(1,.agg #[iv 0,iv 1,iv 0,.slice none 0 0])] : MK Int)),(t,Obj.cells #[.string ⟨#[109]⟩,.slice none 0 0,.slice (some ⟨kD,0,none⟩) 1 1,.slice none 0 0,.map (some mS),vg,vn,.map (some mF),.bool false] 149 (0,0)),(gC,Obj.cells uC 3 (0,0)),(mF,Qg iv ([] : MK Int)),(mS,Qg iv ([] : MK Int)),(gL,Obj.cells uL 110 (0,0)),(b2,Obj.cells #[.string ⟨#[109]⟩,.slice none 0 0,.slice (some ⟨kD,0,none⟩) 1 1] 39 (0,0))] from by simp)) LK.nil Tryz.underlying142 (k:=1) (by decide) (by rfl) (.agg #[iv 0,iv 1,iv 0,.slice none 0 0])
 go_region_held3 (fun V => V.cell? ⟨t,4,none⟩ = some (.map (some mS))) (first | exact CT.out _ (SD.out.f (t,Obj.cells #[.string ⟨#[109]⟩,.slice none 0 0,.slice (some ⟨kD,0,none⟩) 1 1,.slice none 0 0,.map (some mS),vg,vn,.map (some mF),.bool false] 149 (0,0)) (by simp)) | exact CT.out _ ((HS.setm (pre:=[(mf,Qg iv ([(1,.agg #[iv 0,iv 1,iv 0,.slice none 0 0])] : MK Int)),(t,Obj.cells #[.string ⟨#[109]⟩,.slice none 0 0,.slice (some ⟨kD,0,none⟩) 1 1,.slice none 0 0,.map (some mS),vg,vn,.map (some mF),.bool false] 149 (0,0)),(gC,Obj.cells uC 3 (0,0)),(mF,Qg iv ([] : MK Int))]) (post:=[(gL,Obj.cells uL 110 (0,0)),(b2,Obj.cells #[.string ⟨#[109]⟩,.slice none 0 0,.slice (some ⟨kD,0,none⟩) 1 1] 39 (0,0))]) (l:=([] : MK Int)) SD.out ([(1,.agg #[iv 0,iv 1,iv 0,.slice none 0 0])] : MK Int)).f (t,Obj.cells #[.string ⟨#[109]⟩,.slice none 0 0,.slice (some ⟨kD,0,none⟩) 1 1,.slice none 0 0,.map (some mS),vg,vn,.map (some mF),.bool false] 149 (0,0)) (by simp)) | go_keep) (fail)
 generalize hW : Zp iv W6.drew mS _ = W7
 have S7:=Qo0 (show HS w W7 [(mf,Qg iv ([(1,.agg #[iv 0,iv 1,iv 0,.slice none 0 0])] : MK Int)),(t,Obj.cells #[.string ⟨#[109]⟩,.slice none 0 0,.slice (some ⟨kD,0,none⟩) 1 1,.slice none 0 0,.map (some mS),vg,vn,.map (some mF),.bool false] 149 (0,0)),(gC,Obj.cells uC 3 (0,0)),(mF,Qg iv ([] : MK Int)),(mS,Qg iv ([(1,.agg #[iv 0,iv 1,iv 0,.slice none 0 0])] : MK Int)),(gL,Obj.cells uL 110 (0,0)),(b2,Obj.cells #[.string ⟨#[109]⟩,.slice none 0 0,.slice (some ⟨kD,0,none⟩) 1 1] 39 (0,0))] from by rw [← hW];exact HS.setm (pre:=[(mf,Qg iv ([(1,.agg #[iv 0,iv 1,iv 0,.slice none 0 0])] : MK Int)),(t,Obj.cells #[.string ⟨#[109]⟩,.slice none 0 0,.slice (some ⟨kD,0,none⟩) 1 1,.slice none 0 0,.map (some mS),vg,vn,.map (some mF),.bool false] 149 (0,0)),(gC,Obj.cells uC 3 (0,0)),(mF,Qg iv ([] : MK Int))]) (post:=[(gL,Obj.cells uL 110 (0,0)),(b2,Obj.cells #[.string ⟨#[109]⟩,.slice none 0 0,.slice (some ⟨kD,0,none⟩) 1 1] 39 (0,0))]) (l:=([] : MK Int)) SD.out ([(1,.agg #[iv 0,iv 1,iv 0,.slice none 0 0])] : MK Int))
 clear hW
 clear x13 lk1 up
 have x14 : W7.cell? ⟨b2,2,none⟩ = some (.slice (some ⟨kD,0,none⟩) 1 1):=S7.out.cell (b:=b2) (C:=#[.string ⟨#[109]⟩,.slice none 0 0,.slice (some ⟨kD,0,none⟩) 1 1]) (t:=39) (by simp) 2
 iterate 2 (go_wp2;rw [rounds_succ])
 go_wp2
 refine wp_loop_rounds 2 ?_
 rw [rounds_succ]
 obtain ⟨d0,d1,d2,d3,d4,d5,d6,d7,d8,d9,d10⟩:=FD.out _ S7.out.g
 obtain ⟨b21,hb21⟩ : ∃ b,W7.heap.size = b:=⟨_,rfl⟩
 go_upto_region 27 with fail
 generalize hW : World.alloc W7 _ = W8
 have S8:=Qo0 (show HS w W8 [(b21,Obj.cells #[iv 1,iv 1,.bool true,.slice (some ⟨kN,0,none⟩) 1 1,.bool false,iv 1,.string ⟨#[]⟩,.string ⟨#[]⟩,iv 7,iv 0,.slice none 0 0] 45 (0,0)),(mf,Qg iv ([(1,.agg #[iv 0,iv 1,iv 0,.slice none 0 0])] : MK Int)),(t,Obj.cells #[.string ⟨#[109]⟩,.slice none 0 0,.slice (some ⟨kD,0,none⟩) 1 1,.slice none 0 0,.map (some mS),vg,vn,.map (some mF),.bool false] 149 (0,0)),(gC,Obj.cells uC 3 (0,0)),(mF,Qg iv ([] : MK Int)),(mS,Qg iv ([(1,.agg #[iv 0,iv 1,iv 0,.slice none 0 0])] : MK Int)),(gL,Obj.cells uL 110 (0,0)),(b2,Obj.cells #[.string ⟨#[109]⟩,.slice none 0 0,.slice (some ⟨kD,0,none⟩) 1 1] 39 (0,0))] from by rw [← hW];exact S7.out.alloc hb21 _)
 clear hW
 have Hb21:=Qo0 hb21
 clear hb21
 clear x14 d0 d1 d2 d3 d4 d5 d6 d7 d8 d9 d10
 have CT2:=Qo0 (fun (V : World) (g : Gr W8 V) => show (fun V => (V.cell? ⟨b21,0,none⟩ = some (iv 1) ∧ V.cell? ⟨b21,3,none⟩ = some (.slice (some ⟨kN,0,none⟩) 1 1)) ∧ V.cell? ⟨kN,0,none⟩ = some (.string ⟨#[102]⟩) ∧ V.cell? ⟨t,4,none⟩ = some (.map (some mS))) V from ⟨⟨Lib.cell_of_heap (Qe g (S8.out.f (b21,Obj.cells #[iv 1,iv 1,.bool true,.slice (some ⟨kN,0,none⟩) 1 1,.bool false,iv 1,.string ⟨#[]⟩,.string ⟨#[]⟩,iv 7,iv 0,.slice none 0 0] 45 (0,0)) (by simp))) 0,Lib.cell_of_heap (Qe g (S8.out.f (b21,Obj.cells #[iv 1,iv 1,.bool true,.slice (some ⟨kN,0,none⟩) 1 1,.bool false,iv 1,.string ⟨#[]⟩,.string ⟨#[]⟩,iv 7,iv 0,.slice none 0 0] 45 (0,0)) (by simp))) 3⟩,FN.out _ (S8.out.g.trans g),Lib.cell_of_heap (Qe g (S8.out.f (t,Obj.cells #[.string ⟨#[109]⟩,.slice none 0 0,.slice (some ⟨kD,0,none⟩) 1 1,.slice none 0 0,.map (some mS),vg,vn,.map (some mF),.bool false] 149 (0,0)) (by simp))) 4⟩)
 obtain ⟨⟨e0,e3⟩,en,et⟩:=CT2.out _ (Qc _)
 have LKI:=Qo0 (fun V (g : Gr W8 V) => show (Instr.lookup 142 (.map (some mS)) (iv 1) false).run Tryz.prog V = .ok (.agg #[iv 0,iv 1,iv 0,.slice none 0 0]) V from (Q7 ktI ((S8.out.gr g).mp (show (mS,Qg iv ([(1,.agg #[iv 0,iv 1,iv 0,.slice none 0 0])] : MK Int)) ∈ [(b21,Obj.cells #[iv 1,iv 1,.bool true,.slice (some ⟨kN,0,none⟩) 1 1,.bool false,iv 1,.string ⟨#[]⟩,.string ⟨#[]⟩,iv 7,iv 0,.slice none 0 0] 45 (0,0)),(mf,Qg iv ([(1,.agg #[iv 0,iv 1,iv 0,.slice none 0 0])] : MK Int)),(t,Obj.cells #[.string ⟨#[109]⟩,.slice none 0 0,.slice (some ⟨kD,0,none⟩) 1 1,.slice none 0 0,.map (some mS),vg,vn,.map (some mF),.bool false] 149 (0,0)),(gC,Obj.cells uC 3 (0,0)),(mF,Qg iv ([] : MK Int)),(mS,Qg iv ([(1,.agg #[iv 0,iv 1,iv 0,.slice none 0 0])] : MK Int)),(gL,Obj.cells uL 110 (0,0)),(b2,Obj.cells #[.string ⟨#[109]⟩,.slice none 0 0,.slice (some ⟨kD,0,none⟩) 1 1] 39 (0,0))] from by simp)) (Qbp (v:=.agg #[iv 0,iv 1,iv 0,.slice none 0 0])) Tryz.underlying142 (z:=.agg #[iv 0,iv 0,iv 0,.slice none 0 0]) (by kernel_rfl) (k:=1) (by decide)).1)
 have lk1:=LKI.out _ (Qb _)
 go_region_held3 (fun V => (V.cell? ⟨b21,0,none⟩ = some (iv 1) ∧ V.cell? ⟨b21,3,none⟩ = some (.slice (some ⟨kN,0,none⟩) 1 1)) ∧ V.cell? ⟨kN,0,none⟩ = some (.string ⟨#[102]⟩) ∧ V.cell? ⟨t,4,none⟩ = some (.map (some mS))) (first | exact CT2.out _ (by repeat' (first | exact Qc _ | refine Qey ?_ (Qb _) | refine Qey ?_ (Qa _ _))) | go_keep) (fail)
 generalize hcS : Question.cut (Question.appendCap 1 0 68) _ = cS
 generalize hz : Builtin.zeroCells _ _ = uz
 clear hcS hz e0 e3 en et lk1
 refine HSgo (w0:=w) (L:=[(W8.heap.size + 1,Obj.cells (#[iv 1,.string ⟨#[102]⟩,iv 0,iv 1,iv 0,.slice none 0 0] ++ uz) 68 (0,0)),(W8.heap.size,Obj.cells #[iv 1,.string ⟨#[102]⟩,iv 0,iv 1,iv 0,.slice none 0 0] 68 (0,0)),(b21,Obj.cells #[iv 1,iv 1,.bool true,.slice (some ⟨kN,0,none⟩) 1 1,.bool false,iv 1,.string ⟨#[]⟩,.string ⟨#[]⟩,iv 7,iv 0,.slice none 0 0] 45 (0,0)),(mf,Qg iv ([(1,.agg #[iv 0,iv 1,iv 0,.slice none 0 0])] : MK Int)),(t,Obj.cells #[.string ⟨#[109]⟩,.slice none 0 0,.slice (some ⟨kD,0,none⟩) 1 1,.slice none 0 0,.map (some mS),vg,vn,.map (some mF),.bool false] 149 (0,0)),(gC,Obj.cells uC 3 (0,0)),(mF,Qg iv ([] : MK Int)),(mS,Qg iv ([(1,.agg #[iv 0,iv 1,iv 0,.slice none 0 0])] : MK Int)),(gL,Obj.cells uL 110 (0,0)),(b2,Obj.cells #[.string ⟨#[109]⟩,.slice none 0 0,.slice (some ⟨kD,0,none⟩) 1 1] 39 (0,0))]) ((((S8.out.alloc rfl _).alloc (by simp) _).gr (Qb _)).gr (Qb _)) ?_
 intro WF SF0
 have SF:=Qo0 SF0
 clear SF0
 generalize W8.heap.size + 1 = gS at SF ⊢
 go_wp2
 rw [rounds_succ]
 go_wp2
 go_ret3
 exact ⟨gS,cS,#[iv 1,.string ⟨#[102]⟩,iv 0,iv 1,iv 0,.slice none 0 0] ++ uz,rfl,SF.out.sub (by simp) (by simp),sig_row uz⟩
end Go.Proofs.YtiaenhlflgobfaaGreatDoor
namespace Go.Proofs.YtiaenhlflgobfaaGreatDoor
open Go.RowKit Go.Maps
def sgcs (_ : Unit) : List Value:=sigL
theorem elSg : EL 49 68 6 sgcs:=⟨fun _ => rfl,(fun _ u hu => by simp only [sgcs,sigL,List.mem_cons,List.not_mem_nil,or_false] at hu;rcases hu with rfl | rfl | rfl | rfl | rfl | rfl <;> rfl),Tryz.underlying49,⟨.agg #[iv 0,.string ⟨#[]⟩,iv 0,iv 0,iv 0,.slice none 0 0],72,by kernel_rfl,rfl,by decide⟩,by decide⟩
set_option maxRecDepth 100000 in
set_option maxHeartbeats 4000000 in
attribute [local irreducible] Calls in
theorem of_a (kN kD : Nat) (w : World) (hN : w.heap[kN]? = some (.cells #[.string ⟨#[102]⟩] 9 (0,0))) (hD : w.heap[kD]? = some (.cells #[iv 1,iv 1,.bool true,.slice (some ⟨kN,0,none⟩) 1 1,.bool false,iv 1,.string ⟨#[]⟩,.string ⟨#[]⟩,iv 7,iv 0,.slice none 0 0] 45 (0,0))) : Calls Tryz.prog 16 #[.agg #[.string ⟨#[109]⟩,.slice none 0 0,.slice (some ⟨kD,0,none⟩) 1 1],.slice none 0 0] w fun e w' => ∃ gX cX uX,e = .returned (.tuple #[.agg #[.string ⟨#[109]⟩,.slice (some ⟨gX,0,none⟩) 1 cX],iv 0]) ∧ HS w w' [(gX,.cells uX 68 (0,0))] ∧ ∀ (i : Nat) v,sigL[i]? = some v → uX[i]? = some v:=by
 have FD:=Qo0 (fun V (g : Gr w V) => boxD (Qe g hD))
 have C37:=Qo0 (fun V (g : Gr w V) => Qne kN kD V (Qe g hN) (Qe g hD))
 clear hN hD
 have S0:=Qo0 (HS.nil (w0:=w))
 go_enter Tryz.func16,Tryz.ntmps16
 obtain ⟨b2,hb2⟩ : ∃ b,w.heap.size = b:=⟨_,rfl⟩
 go_upto_region 1 with fail
 refine HSgo (w0:=w) (L:=[(b2 + 1,Obj.cells #[.string ⟨#[]⟩,.slice none 0 0] 51 (0,0)),(b2,Obj.cells #[.string ⟨#[109]⟩,.slice none 0 0,.slice (some ⟨kD,0,none⟩) 1 1] 39 (0,0))]) (by repeat' (first | exact HS.nil | refine HS.alloc ?_ (by simp [hb2]) _)) ?_
 intro W1 S1
 clear hb2
 generalize b2 + 1 = b4 at S1 ⊢
 have S1:=Qo0 S1
 have x1 : W1.cell? ⟨b2,0,none⟩ = some (.string ⟨#[109]⟩):=S1.out.cell (b:=b2) (C:=#[.string ⟨#[109]⟩,.slice none 0 0,.slice (some ⟨kD,0,none⟩) 1 1]) (t:=39) (by simp) 0
 have x2 : W1.cell? ⟨b2,1,none⟩ = some (.slice none 0 0):=S1.out.cell (b:=b2) (C:=#[.string ⟨#[109]⟩,.slice none 0 0,.slice (some ⟨kD,0,none⟩) 1 1]) (t:=39) (by simp) 1
 have x3 : W1.cell? ⟨b2,2,none⟩ = some (.slice (some ⟨kD,0,none⟩) 1 1):=S1.out.cell (b:=b2) (C:=#[.string ⟨#[109]⟩,.slice none 0 0,.slice (some ⟨kD,0,none⟩) 1 1]) (t:=39) (by simp) 2
 go_upto_region 4 with (go_at_call 37;(with_reducible refine (C37.out _ S1.out.g).mono ?_);rintro e W2 ⟨gS,cS,uS,rfl,h,h1⟩;have S2:=Qo0 (show HS w W2 [(gS,Obj.cells uS 68 (0,0)),(b4,Obj.cells #[.string ⟨#[]⟩,.slice none 0 0] 51 (0,0)),(b2,Obj.cells #[.string ⟨#[109]⟩,.slice none 0 0,.slice (some ⟨kD,0,none⟩) 1 1] 39 (0,0))] from S1.out.more h);have HS1:=Qo0 h1;clear h h1 x1 x2 x3)
 have x4 : W2.cell? ⟨b2,0,none⟩ = some (.string ⟨#[109]⟩):=S2.out.cell (b:=b2) (C:=#[.string ⟨#[109]⟩,.slice none 0 0,.slice (some ⟨kD,0,none⟩) 1 1]) (t:=39) (by simp) 0
 obtain ⟨b9,hb9⟩ : ∃ b,W2.heap.size = b:=⟨_,rfl⟩
 go_upto_region 5 with fail
 generalize hW : World.alloc W2 _ = W3
 have S3:=Qo0 (show HS w W3 [(b9,Obj.cells #[.string ⟨#[109]⟩,.slice none 0 0] 51 (0,0)),(gS,Obj.cells uS 68 (0,0)),(b4,Obj.cells #[.string ⟨#[]⟩,.slice none 0 0] 51 (0,0)),(b2,Obj.cells #[.string ⟨#[109]⟩,.slice none 0 0,.slice (some ⟨kD,0,none⟩) 1 1] 39 (0,0))] from by rw [← hW];exact S2.out.alloc hb9 _)
 clear hW
 have Hb9:=Qo0 hb9
 clear hb9
 clear x4
 have x5 : W3.cell? ⟨b2,2,none⟩ = some (.slice (some ⟨kD,0,none⟩) 1 1):=S3.out.cell (b:=b2) (C:=#[.string ⟨#[109]⟩,.slice none 0 0,.slice (some ⟨kD,0,none⟩) 1 1]) (t:=39) (by simp) 2
 go_wp2
 refine wp_loop_rounds 2 ?_
 rw [rounds_succ]
 obtain ⟨d0,d1,d2,d3,d4,d5,d6,d7,d8,d9,d10⟩:=FD.out _ S3.out.g
 obtain ⟨b11,hb11⟩ : ∃ b,W3.heap.size = b:=⟨_,rfl⟩
 go_upto_region 8 with fail
 generalize hW : World.alloc W3 _ = W4
 have S4:=Qo0 (show HS w W4 [(b11,Obj.cells #[iv 1,iv 1,.bool true,.slice (some ⟨kN,0,none⟩) 1 1,.bool false,iv 1,.string ⟨#[]⟩,.string ⟨#[]⟩,iv 7,iv 0,.slice none 0 0] 45 (0,0)),(b9,Obj.cells #[.string ⟨#[109]⟩,.slice none 0 0] 51 (0,0)),(gS,Obj.cells uS 68 (0,0)),(b4,Obj.cells #[.string ⟨#[]⟩,.slice none 0 0] 51 (0,0)),(b2,Obj.cells #[.string ⟨#[109]⟩,.slice none 0 0,.slice (some ⟨kD,0,none⟩) 1 1] 39 (0,0))] from by rw [← hW];exact S3.out.alloc hb11 _)
 clear hW
 have Hb11:=Qo0 hb11
 clear hb11
 clear x5 d0 d1 d2 d3 d4 d5 d6 d7 d8 d9 d10
 have x6 : W4.cell? ⟨b11,2,none⟩ = some (.bool true):=S4.out.cell (b:=b11) (C:=#[iv 1,iv 1,.bool true,.slice (some ⟨kN,0,none⟩) 1 1,.bool false,iv 1,.string ⟨#[]⟩,.string ⟨#[]⟩,iv 7,iv 0,.slice none 0 0]) (t:=45) (by simp) 2
 go_upto_region 9 with fail
 clear x6
 have CT:=Qo0 (fun (V : World) (h : V.heap[gS]? = some (Obj.cells uS 68 (0,0))) => show (fun V => V.cell? ⟨gS,0,none⟩ = some (iv 1) ∧ V.cell? ⟨gS,1,none⟩ = some (.string ⟨#[102]⟩) ∧ V.cell? ⟨gS,2,none⟩ = some (iv 0) ∧ V.cell? ⟨gS,3,none⟩ = some (iv 1) ∧ V.cell? ⟨gS,4,none⟩ = some (iv 0) ∧ V.cell? ⟨gS,5,none⟩ = some (.slice none 0 0)) V from ⟨(Lib.cell_of_heap h 0).trans (HS1.out 0 _ rfl),(Lib.cell_of_heap h 1).trans (HS1.out 1 _ rfl),(Lib.cell_of_heap h 2).trans (HS1.out 2 _ rfl),(Lib.cell_of_heap h 3).trans (HS1.out 3 _ rfl),(Lib.cell_of_heap h 4).trans (HS1.out 4 _ rfl),(Lib.cell_of_heap h 5).trans (HS1.out 5 _ rfl)⟩)
 obtain ⟨e0,e1,e2,e3,e4,e5⟩:=CT.out _ (S4.out.f (gS,Obj.cells uS 68 (0,0)) (by simp))
 have e9 : W4.cell? ⟨b9,1,none⟩ = some (.slice none 0 0):=S4.out.cell (show (b9,Obj.cells #[.string ⟨#[109]⟩,.slice none 0 0] 51 (0,0)) ∈ [(b11,Obj.cells #[iv 1,iv 1,.bool true,.slice (some ⟨kN,0,none⟩) 1 1,.bool false,iv 1,.string ⟨#[]⟩,.string ⟨#[]⟩,iv 7,iv 0,.slice none 0 0] 45 (0,0)),(b9,Obj.cells #[.string ⟨#[109]⟩,.slice none 0 0] 51 (0,0)),(gS,Obj.cells uS 68 (0,0)),(b4,Obj.cells #[.string ⟨#[]⟩,.slice none 0 0] 51 (0,0)),(b2,Obj.cells #[.string ⟨#[109]⟩,.slice none 0 0,.slice (some ⟨kD,0,none⟩) 1 1] 39 (0,0))] from by simp) 1
 have e9a : ∀ o,(W4.alloc o).cell? ⟨b9,1,none⟩ = some (.slice none 0 0):=fun o => Ze (Qa _ o) e9
 go_region_law (first | (refine Xq elSg rfl (.tmp 37) (.tmp 42) rfl W4.heap.size (v:=.slice none 0 0) rfl OR.nil (A:=some ⟨_,0,none⟩) (M:=[()]) (m:=1) (c:=1) rfl rfl (Qj (t:=68) (cs:=sgcs) (fun _ => rfl) (by first | exact Qd _ _ | exact Qe (Qb _) (Qd _ _))) (by simp) ((show Gr W4 _ from (by repeat' (first | exact Qc _ | refine Qey ?_ (Qb _) | refine Qey ?_ (Qa _ _)))).size) ?_;intro vq wq oq gq bq;obtain ⟨gX,cX,uX,rfl,hb,hf,hc,hcm,hu,hz⟩:=row1 oq rfl;have SX:=Qo0 (show HS w wq [(gX,Obj.cells uX 68 (0,0)),(b11,Obj.cells #[iv 1,iv 1,.bool true,.slice (some ⟨kN,0,none⟩) 1 1,.bool false,iv 1,.string ⟨#[]⟩,.string ⟨#[]⟩,iv 7,iv 0,.slice none 0 0] 45 (0,0)),(b9,Obj.cells #[.string ⟨#[109]⟩,.slice none 0 0] 51 (0,0)),(gS,Obj.cells uS 68 (0,0)),(b4,Obj.cells #[.string ⟨#[]⟩,.slice none 0 0] 51 (0,0)),(b2,Obj.cells #[.string ⟨#[109]⟩,.slice none 0 0,.slice (some ⟨kD,0,none⟩) 1 1] 39 (0,0))] from S4.out.row ((show Gr W4 _ from (by repeat' (first | exact Qc _ | refine Qey ?_ (Qb _) | refine Qey ?_ (Qa _ _)))).trans gq) hb hf);have HuX:=Qo0 hu;have HcX:=Qo0 (And.intro hc hcm);have f9:=SX.out.frz (show (b9,Obj.cells #[.string ⟨#[109]⟩,.slice none 0 0] 51 (0,0)) ∈ [(gX,Obj.cells uX 68 (0,0)),(b11,Obj.cells #[iv 1,iv 1,.bool true,.slice (some ⟨kN,0,none⟩) 1 1,.bool false,iv 1,.string ⟨#[]⟩,.string ⟨#[]⟩,iv 7,iv 0,.slice none 0 0] 45 (0,0)),(b9,Obj.cells #[.string ⟨#[109]⟩,.slice none 0 0] 51 (0,0)),(gS,Obj.cells uS 68 (0,0)),(b4,Obj.cells #[.string ⟨#[]⟩,.slice none 0 0] 51 (0,0)),(b2,Obj.cells #[.string ⟨#[109]⟩,.slice none 0 0,.slice (some ⟨kD,0,none⟩) 1 1] 39 (0,0))] from by simp);have e9b : wq.cell? ⟨b9,1,none⟩ = some (.slice none 0 0):=SX.out.cell (show (b9,Obj.cells #[.string ⟨#[109]⟩,.slice none 0 0] 51 (0,0)) ∈ [(gX,Obj.cells uX 68 (0,0)),(b11,Obj.cells #[iv 1,iv 1,.bool true,.slice (some ⟨kN,0,none⟩) 1 1,.bool false,iv 1,.string ⟨#[]⟩,.string ⟨#[]⟩,iv 7,iv 0,.slice none 0 0] 45 (0,0)),(b9,Obj.cells #[.string ⟨#[109]⟩,.slice none 0 0] 51 (0,0)),(gS,Obj.cells uS 68 (0,0)),(b4,Obj.cells #[.string ⟨#[]⟩,.slice none 0 0] 51 (0,0)),(b2,Obj.cells #[.string ⟨#[109]⟩,.slice none 0 0,.slice (some ⟨kD,0,none⟩) 1 1] 39 (0,0))] from by simp) 1;clear oq gq bq hb hf hc hcm hu hz))
 all_goals generalize hW : World.setCell wq _ _ = WZ
 all_goals have SZ:=Qo0 (show HS w WZ [(gX,Obj.cells uX 68 (0,0)),(b11,Obj.cells #[iv 1,iv 1,.bool true,.slice (some ⟨kN,0,none⟩) 1 1,.bool false,iv 1,.string ⟨#[]⟩,.string ⟨#[]⟩,iv 7,iv 0,.slice none 0 0] 45 (0,0)),(b9,Obj.cells #[.string ⟨#[109]⟩,.slice (some ⟨gX,0,none⟩) 1 cX] 51 (0,0)),(gS,Obj.cells uS 68 (0,0)),(b4,Obj.cells #[.string ⟨#[]⟩,.slice none 0 0] 51 (0,0)),(b2,Obj.cells #[.string ⟨#[109]⟩,.slice none 0 0,.slice (some ⟨kD,0,none⟩) 1 1] 39 (0,0))] from by rw [← hW];exact (HS.setc (pre:=[(gX,Obj.cells uX 68 (0,0)),(b11,Obj.cells #[iv 1,iv 1,.bool true,.slice (some ⟨kN,0,none⟩) 1 1,.bool false,iv 1,.string ⟨#[]⟩,.string ⟨#[]⟩,iv 7,iv 0,.slice none 0 0] 45 (0,0))]) (post:=[(gS,Obj.cells uS 68 (0,0)),(b4,Obj.cells #[.string ⟨#[]⟩,.slice none 0 0] 51 (0,0)),(b2,Obj.cells #[.string ⟨#[109]⟩,.slice none 0 0,.slice (some ⟨kD,0,none⟩) 1 1] 39 (0,0))]) SX.out 1 (.slice (some ⟨gX,0,none⟩) 1 cX)))
 all_goals clear hW e0 e1 e2 e3 e4 e5 e9 e9a
 all_goals have z0 : WZ.cell? ⟨b9,0,none⟩ = some (.string ⟨#[109]⟩):=SZ.out.cell (show (b9,Obj.cells #[.string ⟨#[109]⟩,.slice (some ⟨gX,0,none⟩) 1 cX] 51 (0,0)) ∈ [(gX,Obj.cells uX 68 (0,0)),(b11,Obj.cells #[iv 1,iv 1,.bool true,.slice (some ⟨kN,0,none⟩) 1 1,.bool false,iv 1,.string ⟨#[]⟩,.string ⟨#[]⟩,iv 7,iv 0,.slice none 0 0] 45 (0,0)),(b9,Obj.cells #[.string ⟨#[109]⟩,.slice (some ⟨gX,0,none⟩) 1 cX] 51 (0,0)),(gS,Obj.cells uS 68 (0,0)),(b4,Obj.cells #[.string ⟨#[]⟩,.slice none 0 0] 51 (0,0)),(b2,Obj.cells #[.string ⟨#[109]⟩,.slice none 0 0,.slice (some ⟨kD,0,none⟩) 1 1] 39 (0,0))] from by simp) 0
 all_goals have z1 : WZ.cell? ⟨b9,1,none⟩ = some (.slice (some ⟨gX,0,none⟩) 1 cX):=SZ.out.cell (show (b9,Obj.cells #[.string ⟨#[109]⟩,.slice (some ⟨gX,0,none⟩) 1 cX] 51 (0,0)) ∈ [(gX,Obj.cells uX 68 (0,0)),(b11,Obj.cells #[iv 1,iv 1,.bool true,.slice (some ⟨kN,0,none⟩) 1 1,.bool false,iv 1,.string ⟨#[]⟩,.string ⟨#[]⟩,iv 7,iv 0,.slice none 0 0] 45 (0,0)),(b9,Obj.cells #[.string ⟨#[109]⟩,.slice (some ⟨gX,0,none⟩) 1 cX] 51 (0,0)),(gS,Obj.cells uS 68 (0,0)),(b4,Obj.cells #[.string ⟨#[]⟩,.slice none 0 0] 51 (0,0)),(b2,Obj.cells #[.string ⟨#[109]⟩,.slice none 0 0,.slice (some ⟨kD,0,none⟩) 1 1] 39 (0,0))] from by simp) 1
 all_goals have z2 : WZ.cell? ⟨b4,0,none⟩ = some (.string ⟨#[]⟩):=SZ.out.cell (show (b4,Obj.cells #[.string ⟨#[]⟩,.slice none 0 0] 51 (0,0)) ∈ [(gX,Obj.cells uX 68 (0,0)),(b11,Obj.cells #[iv 1,iv 1,.bool true,.slice (some ⟨kN,0,none⟩) 1 1,.bool false,iv 1,.string ⟨#[]⟩,.string ⟨#[]⟩,iv 7,iv 0,.slice none 0 0] 45 (0,0)),(b9,Obj.cells #[.string ⟨#[109]⟩,.slice (some ⟨gX,0,none⟩) 1 cX] 51 (0,0)),(gS,Obj.cells uS 68 (0,0)),(b4,Obj.cells #[.string ⟨#[]⟩,.slice none 0 0] 51 (0,0)),(b2,Obj.cells #[.string ⟨#[109]⟩,.slice none 0 0,.slice (some ⟨kD,0,none⟩) 1 1] 39 (0,0))] from by simp) 0
 all_goals have z3 : WZ.cell? ⟨b4,1,none⟩ = some (.slice none 0 0):=SZ.out.cell (show (b4,Obj.cells #[.string ⟨#[]⟩,.slice none 0 0] 51 (0,0)) ∈ [(gX,Obj.cells uX 68 (0,0)),(b11,Obj.cells #[iv 1,iv 1,.bool true,.slice (some ⟨kN,0,none⟩) 1 1,.bool false,iv 1,.string ⟨#[]⟩,.string ⟨#[]⟩,iv 7,iv 0,.slice none 0 0] 45 (0,0)),(b9,Obj.cells #[.string ⟨#[109]⟩,.slice (some ⟨gX,0,none⟩) 1 cX] 51 (0,0)),(gS,Obj.cells uS 68 (0,0)),(b4,Obj.cells #[.string ⟨#[]⟩,.slice none 0 0] 51 (0,0)),(b2,Obj.cells #[.string ⟨#[109]⟩,.slice none 0 0,.slice (some ⟨kD,0,none⟩) 1 1] 39 (0,0))] from by simp) 1
 all_goals have z4:=SZ.out.frz (show (b4,Obj.cells #[.string ⟨#[]⟩,.slice none 0 0] 51 (0,0)) ∈ [(gX,Obj.cells uX 68 (0,0)),(b11,Obj.cells #[iv 1,iv 1,.bool true,.slice (some ⟨kN,0,none⟩) 1 1,.bool false,iv 1,.string ⟨#[]⟩,.string ⟨#[]⟩,iv 7,iv 0,.slice none 0 0] 45 (0,0)),(b9,Obj.cells #[.string ⟨#[109]⟩,.slice (some ⟨gX,0,none⟩) 1 cX] 51 (0,0)),(gS,Obj.cells uS 68 (0,0)),(b4,Obj.cells #[.string ⟨#[]⟩,.slice none 0 0] 51 (0,0)),(b2,Obj.cells #[.string ⟨#[109]⟩,.slice none 0 0,.slice (some ⟨kD,0,none⟩) 1 1] 39 (0,0))] from by simp)
 all_goals go_wp2
 all_goals rw [rounds_succ]
 all_goals go_wp2
 all_goals have SY:=Qo0 (show HS w ((WZ.setCell ⟨b4,0,none⟩ (.string ⟨#[109]⟩)).setCell ⟨b4,1,none⟩ (.slice (some ⟨gX,0,none⟩) 1 cX)) [(gX,Obj.cells uX 68 (0,0)),(b11,Obj.cells #[iv 1,iv 1,.bool true,.slice (some ⟨kN,0,none⟩) 1 1,.bool false,iv 1,.string ⟨#[]⟩,.string ⟨#[]⟩,iv 7,iv 0,.slice none 0 0] 45 (0,0)),(b9,Obj.cells #[.string ⟨#[109]⟩,.slice (some ⟨gX,0,none⟩) 1 cX] 51 (0,0)),(gS,Obj.cells uS 68 (0,0)),(b4,Obj.cells #[.string ⟨#[109]⟩,.slice (some ⟨gX,0,none⟩) 1 cX] 51 (0,0)),(b2,Obj.cells #[.string ⟨#[109]⟩,.slice none 0 0,.slice (some ⟨kD,0,none⟩) 1 1] 39 (0,0))] from (HS.setc (pre:=[(gX,Obj.cells uX 68 (0,0)),(b11,Obj.cells #[iv 1,iv 1,.bool true,.slice (some ⟨kN,0,none⟩) 1 1,.bool false,iv 1,.string ⟨#[]⟩,.string ⟨#[]⟩,iv 7,iv 0,.slice none 0 0] 45 (0,0)),(b9,Obj.cells #[.string ⟨#[109]⟩,.slice (some ⟨gX,0,none⟩) 1 cX] 51 (0,0)),(gS,Obj.cells uS 68 (0,0))]) (post:=[(b2,Obj.cells #[.string ⟨#[109]⟩,.slice none 0 0,.slice (some ⟨kD,0,none⟩) 1 1] 39 (0,0))]) (HS.setc (pre:=[(gX,Obj.cells uX 68 (0,0)),(b11,Obj.cells #[iv 1,iv 1,.bool true,.slice (some ⟨kN,0,none⟩) 1 1,.bool false,iv 1,.string ⟨#[]⟩,.string ⟨#[]⟩,iv 7,iv 0,.slice none 0 0] 45 (0,0)),(b9,Obj.cells #[.string ⟨#[109]⟩,.slice (some ⟨gX,0,none⟩) 1 cX] 51 (0,0)),(gS,Obj.cells uS 68 (0,0))]) (post:=[(b2,Obj.cells #[.string ⟨#[109]⟩,.slice none 0 0,.slice (some ⟨kD,0,none⟩) 1 1] 39 (0,0))]) SZ.out 0 (.string ⟨#[109]⟩)) 1 (.slice (some ⟨gX,0,none⟩) 1 cX)))
 all_goals exact bodyPost_ret (Ya (P:=Tryz.prog) rfl _ _ b4 _ _ _ _ rfl rfl (SY.out.f (b4,Obj.cells #[.string ⟨#[109]⟩,.slice (some ⟨gX,0,none⟩) 1 cX] 51 (0,0)) (by simp)) rfl rfl rfl) rfl ⟨gX,cX,uX,rfl,SY.out.sub (by simp) (by simp),HuX.out⟩
end Go.Proofs.YtiaenhlflgobfaaGreatDoor
namespace Go.Proofs.YtiaenhlflgobfaaGreatDoor
open Go.RowKit
def RetB (w : World) (e : Ending) (w' : World) : Prop:=∃ b : Bool,e = .returned (.bool b) ∧ Gr w w'
def RetI (w : World) (e : Ending) (w' : World) : Prop:=∃ q : Int,e = .returned (iv q) ∧ Gr w w'
def RetG (L : List Mod) (w : World) (e : Ending) (w' : World) : Prop:=∃ b : Bool,e = .returned (.bool b) ∧ (b = false → L.length ≤ 4) ∧ Gr w w'
theorem Qaw {w w' : World} {b : Bool} (g : Gr w w') : RetB w (.returned (.bool b)) w':=⟨b,rfl,g⟩
theorem retI {w w' : World} {q : Int} (g : Gr w w') : RetI w (.returned (iv q)) w':=⟨q,rfl,g⟩
theorem retG {L : List Mod} {w w' : World} {b : Bool} (h : b = false → L.length ≤ 4) (g : Gr w w') : RetG L w (.returned (.bool b)) w':=⟨b,rfl,h,g⟩
theorem rdX {w : World} {A : Option Addr} {L : List Ex} (h : RD 6 Ex.cs w A L) {k : Nat} {x : Ex} (hx : L[k]? = some x) : ∃ a a1 : Addr,A = some a ∧ a.add (k * 6) = a1 ∧ a1.block < w.heap.size ∧ w.cell? a1 = some (iv x.kind) ∧ w.cell? ⟨a1.block,a1.off + 1,none⟩ = some (tv x.name) ∧ w.cell? ⟨a1.block,a1.off + 2,none⟩ = some (tv x.more) ∧ w.cell? ⟨a1.block,a1.off + 3,none⟩ = some (iv x.int) ∧ w.cell? ⟨a1.block,a1.off + 4,none⟩ = some (iv x.den) ∧ w.cell? ⟨a1.block,a1.off + 5,none⟩ = some (.slice x.A x.sub.length x.c):=by
 obtain ⟨hk,rfl⟩:=List.getElem?_eq_some_iff.1 hx
 obtain ⟨a,e,hb,hc⟩:=h.at hk
 refine ⟨a,_,e,rfl,by rw [add_block];exact hb,by simpa using hc 0 _ rfl,?_,?_,?_,?_,?_⟩
 ·rw [← Qh _ 1 (by omega),add_add'];exact hc 1 _ rfl
 ·rw [← Qh _ 2 (by omega),add_add'];exact hc 2 _ rfl
 ·rw [← Qh _ 3 (by omega),add_add'];exact hc 3 _ rfl
 ·rw [← Qh _ 4 (by omega),add_add'];exact hc 4 _ rfl
 ·rw [← Qh _ 5 (by omega),add_add'];exact hc 5 _ rfl
set_option maxRecDepth 100000 in
set_option maxHeartbeats 4000000 in
attribute [local irreducible] Calls in
theorem Qia (x : Ex) : ∀ w : World,x.Rd w → Calls Tryz.prog 74 #[x.v] w (RetI w):=by
 refine Ex.ind (P:=fun x => ∀ w : World,x.Rd w → Calls Tryz.prog 74 #[x.v] w (RetI w)) (fun x ih w hx => ?_) x
 obtain ⟨W,hW⟩ : ∃ W,w.alloc (.cells #[iv x.kind,tv x.name,tv x.more,iv x.int,iv x.den,.slice x.A x.sub.length x.c] 43) = W:=⟨_,rfl⟩
 have GW:=Qo0 (show Gr w W by rw [← hW];exact Qa _ _)
 have CX:=Qo0 (fun V (g : Gr W V) => Zw x w V (by rw [hW];exact g))
 have HX:=Qo0 (fun V (g : Gr W V) => hx.gr (GW.out.trans g))
 have CA:=Qo0 (fun y (hy : y ∈ x.sub) V (g : Gr W V) => ih y hy V (((hx.gr (GW.out.trans g)).s.hs y hy)))
 have HW:=Qo0 hW
 obtain ⟨n,hn⟩ : ∃ n,x.sub.length = n:=⟨_,rfl⟩
 have HN:=Qo0 hn
 have hn9 : n ≤ 9223372036854775807:=by rw [← hn];exact Nat.le_trans hx.s.rw.hc hx.s.rw.hm
 clear hx ih
 unfold Ex.v
 rw [hn] at hW CX ⊢
 clear hn
 go_enter Tryz.func74,Tryz.ntmps74
 go_upto_region 2 with fail
 (try rw [HW.out])
 (try clear hW)
 go_wp2
 go_loopw [3,4] (fun t i V => ∃ q : Int,t = iv q ∧ ∃ j : Nat,j ≤ n ∧ i = iv j ∧ Hid (Gr W V)) (fun _ i _ => n - (intOf i).toNat)
 case atStart => exact ⟨1,by first | rfl | trivial,0,by omega,by first | rfl | trivial,Qo0 (Qc _)⟩
 case round =>
  obtain ⟨q,rfl,j,hj,rfl,HG⟩:=hrel
  obtain ⟨c0,c1,c2,c3,c4,c5⟩:=CX.out _ HG.out
  by_cases hlt : j < n
  ·obtain ⟨y,hy⟩ : ∃ y,x.sub[j]? = some y:=⟨_,List.getElem?_eq_getElem (by rw [HN.out];exact hlt)⟩
   obtain ⟨a,a1,hA,ha,hab,d0,d1,d2,d3,d4,d5⟩:=rdX (HX.out _ HG.out).s.r hy
   rw [hA] at c5
   have C1:=Qo0 (fun V (g : Gr W V) => CA.out y (List.mem_of_getElem? hy) V g)
   unfold Ex.v at C1
   have hlt2 : (j : Int) < (n : Int):=by omega
   clear hA hy
   go_wp2_with (go_at_call 74;(with_reducible refine (C1.out _ HG.out).mono ?_);rintro e w5 ⟨q5,rfl,g5⟩;have G5:=Qo0 (HG.out.trans g5);clear g5)
   exact ⟨⟨_,rfl,j + 1,by omega,by simp,G5⟩,by simp [intOf];omega⟩
  ·obtain rfl : j = n:=by omega
   have hnj : ¬ (j : Int) < (j : Int):=by omega
   go_wp2
   go_ret
   exact retI (GW.out.trans HG.out)
set_option maxRecDepth 100000 in
set_option maxHeartbeats 4000000 in
attribute [local irreducible] Calls in
theorem Qln (x : Ex) : ∀ w : World,x.Rd w → Calls Tryz.prog 75 #[x.v] w (RetB w):=by
 refine Ex.ind (P:=fun x => ∀ w : World,x.Rd w → Calls Tryz.prog 75 #[x.v] w (RetB w)) (fun x ih w hx => ?_) x
 obtain ⟨W,hW⟩ : ∃ W,w.alloc (.cells #[iv x.kind,tv x.name,tv x.more,iv x.int,iv x.den,.slice x.A x.sub.length x.c] 43) = W:=⟨_,rfl⟩
 have GW:=Qo0 (show Gr w W by rw [← hW];exact Qa _ _)
 have CX:=Qo0 (fun V (g : Gr W V) => Zw x w V (by rw [hW];exact g))
 have HX:=Qo0 (fun V (g : Gr W V) => hx.gr (GW.out.trans g))
 have CA:=Qo0 (fun y (hy : y ∈ x.sub) V (g : Gr W V) => ih y hy V (((hx.gr (GW.out.trans g)).s.hs y hy)))
 have sn:=hx.n
 have sm:=hx.m
 unfold sOk at sn sm
 obtain ⟨n,hn⟩ : ∃ n,x.sub.length = n:=⟨_,rfl⟩
 have HN:=Qo0 hn
 have hn9 : n ≤ 9223372036854775807:=by rw [← hn];exact Nat.le_trans hx.s.rw.hc hx.s.rw.hm
 clear hx ih
 unfold Ex.v
 rw [hn] at hW CX ⊢
 clear hn
 have lr : ∀ (V : World),Gr W V → True:=fun _ _ => trivial
 clear lr
 by_cases hl : 100 < x.name.length
 ·have hl2 : (100 : Int) < (x.name.length : Int):=by omega
  have HW:=Qo0 hW
  go_enter Tryz.func75,Tryz.ntmps75
  go_upto_region 1 with fail
  (try rw [HW.out])
  obtain ⟨c0,c1,c2,c3,c4,c5⟩:=CX.out _ (Qc _)
  go_wp2
  go_ret
  exact Qaw (GW.out)
 by_cases hl3 : 100 < x.more.length
 ·have hl2 : ¬ (100 : Int) < (x.name.length : Int):=by omega
  have hl4 : (100 : Int) < (x.more.length : Int):=by omega
  have HW:=Qo0 hW
  go_enter Tryz.func75,Tryz.ntmps75
  go_upto_region 1 with fail
  (try rw [HW.out])
  obtain ⟨c0,c1,c2,c3,c4,c5⟩:=CX.out _ (Qc _)
  go_wp2
  go_ret
  exact Qaw (GW.out)
 have hl2 : ¬ (100 : Int) < (x.name.length : Int):=by omega
 have hl4 : ¬ (100 : Int) < (x.more.length : Int):=by omega
 have HW:=Qo0 hW
 go_enter Tryz.func75,Tryz.ntmps75
 go_upto_region 1 with fail
 (try rw [HW.out])
 obtain ⟨c0,c1,c2,c3,c4,c5⟩:=CX.out _ (Qc _)
 go_wp2
 clear c0 c1 c2 c3 c4 c5 hl hl2 hl3 hl4 hW
 go_loopw [3] (fun i V => ∃ j : Nat,j ≤ n ∧ i = iv j ∧ Hid (Gr W V)) (fun i _ => n - (intOf i).toNat)
 case atStart => exact ⟨0,by omega,by first | rfl | trivial,Qo0 (Qc _)⟩
 case round =>
  obtain ⟨j,hj,rfl,HG⟩:=hrel
  obtain ⟨c0,c1,c2,c3,c4,c5⟩:=CX.out _ HG.out
  by_cases hlt : j < n
  ·obtain ⟨y,hy⟩ : ∃ y,x.sub[j]? = some y:=⟨_,List.getElem?_eq_getElem (by rw [HN.out];exact hlt)⟩
   obtain ⟨a,a1,hA,ha,hab,d0,d1,d2,d3,d4,d5⟩:=rdX (HX.out _ HG.out).s.r hy
   rw [hA] at c5
   have C1:=Qo0 (fun V (g : Gr W V) => CA.out y (List.mem_of_getElem? hy) V g)
   unfold Ex.v at C1
   have hlt2 : (j : Int) < (n : Int):=by omega
   clear hA hy
   go_upto_region 7 with (go_at_call 75;(with_reducible refine (C1.out _ HG.out).mono ?_);rintro e w5 ⟨b5,rfl,g5⟩;have G5:=Qo0 (HG.out.trans g5);clear g5;cases b5)
   ·go_wp2
    exact ⟨⟨j + 1,by omega,by simp,G5⟩,by simp [intOf];omega⟩
   ·go_wp2
    go_ret
    exact Qaw (GW.out.trans G5.out)
  ·obtain rfl : j = n:=by omega
   have hnj : ¬ (j : Int) < (j : Int):=by omega
   go_wp2
   go_ret
   exact Qaw (GW.out.trans HG.out)
set_option maxRecDepth 100000 in
set_option maxHeartbeats 4000000 in
attribute [local irreducible] Calls in
theorem Qiq (x : Ex) (w : World) (hx : x.Rd w) : Calls Tryz.prog 36 #[x.v] w (RetB w):=by
 obtain ⟨W,hW⟩ : ∃ W,w.alloc (.cells #[iv x.kind,tv x.name,tv x.more,iv x.int,iv x.den,.slice x.A x.sub.length x.c] 43) = W:=⟨_,rfl⟩
 have GW:=Qo0 (show Gr w W by rw [← hW];exact Qa _ _)
 have CX:=Qo0 (fun V (g : Gr W V) => Zw x w V (by rw [hW];exact g))
 have HX:=Qo0 (fun V (g : Gr W V) => hx.gr (GW.out.trans g))
 have C1:=Qo0 (fun V (g : Gr W V) => Qia x V (HX.out V g))
 have C2:=Qo0 (fun V (g : Gr W V) => Qln x V (HX.out V g))
 have HW:=Qo0 hW
 clear hx hW
 unfold Ex.v at C1 C2 ⊢
 obtain ⟨c0,c1,c2,c3,c4,c5⟩:=CX.out _ (Qc _)
 go_enter Tryz.func36,Tryz.ntmps36
 go_upto_region 1 with fail
 (try rw [HW.out])
 go_wp2_with (first
  | (go_at_call 74;(with_reducible refine (C1.out _ (Qc _)).mono ?_);rintro e w1 ⟨q,rfl,g1⟩;have G1:=Qo0 g1;clear g1 c0 c1 c2 c3 c4 c5;obtain ⟨c0,c1,c2,c3,c4,c5⟩:=CX.out _ G1.out;by_cases hq : 40 < q)
  | (go_at_call 75;(with_reducible refine (C2.out _ G1.out).mono ?_);rintro e w2 ⟨b,rfl,g2⟩;have G2:=Qo0 (G1.out.trans g2);clear g2;(try dsimp only)))
 all_goals go_ret
 ·exact Qaw (GW.out.trans G1.out)
 ·exact Qaw (GW.out.trans G2.out)
set_option maxRecDepth 100000 in
set_option maxHeartbeats 4000000 in
attribute [local irreducible] Calls in
theorem Qio (Ad : Option Addr) (c : Nat) (us : List T) (w : World) (h : SRd w Ad c us) : Calls Tryz.prog 34 #[.slice Ad us.length c] w (RetB w):=by
 obtain ⟨n,hn⟩ : ∃ n,us.length = n:=⟨_,rfl⟩
 have HN:=Qo0 hn
 have HU:=Qo0 (fun V (g : Gr w V) => h.gr g)
 rw [hn]
 clear h hn
 by_cases h10 : 10 < n
 ·have h10' : (10 : Int) < (n : Int):=by omega
  go_enter Tryz.func34,Tryz.ntmps34
  go_wp2
  go_ret
  exact Qaw (Qc _)
 have h10' : ¬ (10 : Int) < (n : Int):=by omega
 go_enter Tryz.func34,Tryz.ntmps34
 go_wp2
 clear h10'
 go_loopw [3] (fun i V => ∃ j : Nat,j ≤ n ∧ i = iv j ∧ Hid (Gr w V)) (fun i _ => n - (intOf i).toNat)
 case atStart => exact ⟨0,by omega,by first | rfl | trivial,Qo0 (Qc _)⟩
 case round =>
  obtain ⟨j,hj,rfl,HG⟩:=hrel
  by_cases hlt : j < n
  ·obtain ⟨u,hu⟩ : ∃ u,us[j]? = some u:=⟨_,List.getElem?_eq_getElem (by rw [HN.out];exact hlt)⟩
   obtain ⟨a,a1,rfl,ha,hab,d0⟩:=rdS (HU.out _ HG.out).r hu
   have hs:=(HU.out _ HG.out).ok u (List.mem_of_getElem? hu)
   unfold sOk at hs
   have hlt2 : (j : Int) < (n : Int):=by omega
   clear hu
   by_cases hl : 120 < u.length
   ·have hl2 : (120 : Int) < (u.length : Int):=by omega
    go_wp2
    go_ret
    exact Qaw (HG.out)
   ·have hl2 : ¬ (120 : Int) < (u.length : Int):=by omega
    go_wp2
    exact ⟨⟨j + 1,by omega,by simp,HG⟩,by simp [intOf];omega⟩
  ·obtain rfl : j = n:=by omega
   have hnj : ¬ (j : Int) < (j : Int):=by omega
   go_wp2
   go_ret
   exact Qaw (HG.out)
set_option maxRecDepth 100000 in
set_option maxHeartbeats 4000000 in
attribute [local irreducible] Calls in
theorem Qir (Ad : Option Addr) (c : Nat) (ds : List Dec) (w : World) (h : DRd w Ad c ds) : Calls Tryz.prog 15 #[.slice Ad ds.length c] w (RetB w):=by
 obtain ⟨n,hn⟩ : ∃ n,ds.length = n:=⟨_,rfl⟩
 have HN:=Qo0 hn
 have HD:=Qo0 (fun V (g : Gr w V) => h.gr g)
 have CE:=Qo0 (fun d (hd : d ∈ ds) V (g : Gr w V) => Qiq d.body V ((h.d d hd).b.gr g))
 rw [hn]
 clear h hn
 by_cases h8 : 8 < n
 ·have h8' : (8 : Int) < (n : Int):=by omega
  go_enter Tryz.func15,Tryz.ntmps15
  go_wp2
  go_ret
  exact Qaw (Qc _)
 have h8' : ¬ (8 : Int) < (n : Int):=by omega
 go_enter Tryz.func15,Tryz.ntmps15
 go_wp2
 clear h8'
 go_loopw [3,4] (fun i _ V => ∃ j : Nat,j ≤ n ∧ i = iv j ∧ Hid (Gr w V)) (fun i _ _ => n - (intOf i).toNat)
 case atStart => exact ⟨0,by omega,by first | rfl | trivial,Qo0 (Qc _)⟩
 case round =>
  obtain ⟨j,hj,rfl,HG⟩:=hrel
  by_cases hlt : j < n
  ·obtain ⟨d,hd⟩ : ∃ d,ds[j]? = some d:=⟨_,List.getElem?_eq_getElem (by rw [HN.out];exact hlt)⟩
   have HDJ:=Qo0 hd
   have C1:=Qo0 (fun V (g : Gr w V) => CE.out d (List.mem_of_getElem? hd) V g)
   have HS:=Qo0 (fun V (g : Gr w V) => ((HD.out V g).d d (List.mem_of_getElem? hd)).n)
   unfold Ex.v at C1
   obtain ⟨a,a1,hA,ha,hab,d0,d1,d2,d3,d4,d5,d6,d7,d8,d9,d10⟩:=rdD (HD.out _ HG.out).r hd
   subst hA
   obtain ⟨m,hm⟩ : ∃ m,d.names.length = m:=⟨_,rfl⟩
   have HM:=Qo0 hm
   have hsl:=(HS.out _ HG.out).rw.hc
   have hsm:=(HS.out _ HG.out).rw.hm
   rw [hm] at d3 hsl
   have hlt2 : (j : Int) < (n : Int):=by omega
   clear hd hm
   by_cases h5 : 5 < m
   ·have h5' : (5 : Int) < (m : Int):=by omega
    go_wp2
    go_ret
    exact Qaw (HG.out)
   have h5' : ¬ (5 : Int) < (m : Int):=by omega
   go_upto_region 8 with (go_at_call 36;(with_reducible refine (C1.out _ HG.out).mono ?_);rintro e w5 ⟨b5,rfl,g5⟩;have G5:=Qo0 (HG.out.trans g5);clear g5;cases b5)
   rotate_left
   ·go_wp2
    go_ret
    exact Qaw (G5.out)
   go_wp2
   clear d0 d1 d2 d3 d4 d5 d6 d7 d8 d9 d10 h5'
   go_loopw [4] (fun i V => ∃ k : Nat,k ≤ m ∧ i = iv k ∧ Hid (Gr w V)) (fun i _ => m - (intOf i).toNat)
   case atStart => exact ⟨0,by omega,by first | rfl | trivial,G5⟩
   case round =>
    obtain ⟨k,hk,rfl,HK⟩:=hrel
    obtain ⟨b,b1,hB,hb,hbb,d0,d1,d2,d3,d4,d5,d6,d7,d8,d9,d10⟩:=rdD (HD.out _ HK.out).r HDJ.out
    cases hB
    rw [hb] at ha
    subst ha
    rw [HM.out] at d3
    by_cases hkt : k < m
    ·obtain ⟨s,hs⟩ : ∃ s,d.names[k]? = some s:=⟨_,List.getElem?_eq_getElem (by rw [HM.out];exact hkt)⟩
     obtain ⟨f,f1,hF,hf,hfb,e0⟩:=rdS (HS.out _ HK.out).r hs
     rw [hF] at d3
     have hsk:=(HS.out _ HK.out).ok s (List.mem_of_getElem? hs)
     unfold sOk at hsk
     have hkt2 : (k : Int) < (m : Int):=by omega
     clear hs hF
     by_cases hl : 100 < s.length
     ·have hl2 : (100 : Int) < (s.length : Int):=by omega
      go_wp2
      go_ret
      exact Qaw (HK.out)
     ·have hl2 : ¬ (100 : Int) < (s.length : Int):=by omega
      go_wp2
      exact ⟨⟨k + 1,by omega,by simp,HK⟩,by simp [intOf];omega⟩
    ·obtain rfl : k = m:=by omega
     have hnk : ¬ (k : Int) < (k : Int):=by omega
     go_wp2
     exact ⟨⟨j + 1,by omega,by simp,HK⟩,by simp [intOf];omega⟩
  ·obtain rfl : j = n:=by omega
   have hnj : ¬ (j : Int) < (j : Int):=by omega
   go_wp2
   go_ret
   exact Qaw (HG.out)
set_option maxRecDepth 100000 in
set_option maxHeartbeats 4000000 in
attribute [local irreducible] Calls in
theorem Qip (m : Mod) (w : World) (hm : m.Rd w) : Calls Tryz.prog 13 #[m.v] w (RetB w):=by
 obtain ⟨W,hW⟩ : ∃ W,w.alloc (.cells #[tv m.label,.slice m.uA m.uses.length m.uc,.slice m.dA m.decls.length m.dc] 39) = W:=⟨_,rfl⟩
 have GW:=Qo0 (show Gr w W by rw [← hW];exact Qa _ _)
 have CM:=Qo0 (fun V (g : Gr W V) => show V.cell? ⟨w.heap.size,0,none⟩ = some (tv m.label) ∧ V.cell? ⟨w.heap.size,1,none⟩ = some (.slice m.uA m.uses.length m.uc) ∧ V.cell? ⟨w.heap.size,2,none⟩ = some (.slice m.dA m.decls.length m.dc) from by
  have h:=Qe g (show W.heap[w.heap.size]? = _ from by rw [← hW];exact Qd _ _)
  refine ⟨?_,?_,?_⟩ <;> (rw [Lib.cell_of_heap h];rfl))
 have C1:=Qo0 (fun V (g : Gr W V) => Qio m.uA m.uc m.uses V (hm.u.gr (GW.out.trans g)))
 have C2:=Qo0 (fun V (g : Gr W V) => Qir m.dA m.dc m.decls V (hm.d.gr (GW.out.trans g)))
 have sl:=hm.l
 unfold sOk at sl
 have HW:=Qo0 hW
 clear hm hW
 unfold Mod.v
 obtain ⟨c0,c1,c2⟩:=CM.out _ (Qc _)
 by_cases hl : 120 < m.label.length
 ·have hl2 : (120 : Int) < (m.label.length : Int):=by omega
  go_enter Tryz.func13,Tryz.ntmps13
  go_upto_region 1 with fail
  (try rw [HW.out])
  go_wp2
  go_ret
  exact Qaw (GW.out)
 have hl2 : ¬ (120 : Int) < (m.label.length : Int):=by omega
 go_enter Tryz.func13,Tryz.ntmps13
 go_upto_region 1 with fail
 (try rw [HW.out])
 go_wp2_with (first
  | (go_at_call 34;(with_reducible refine (C1.out _ (Qc _)).mono ?_);rintro e w1 ⟨b,rfl,g1⟩;have G1:=Qo0 g1;clear g1 c0 c1 c2;obtain ⟨c0,c1,c2⟩:=CM.out _ G1.out;cases b)
  | (go_at_call 15;(with_reducible refine (C2.out _ G1.out).mono ?_);rintro e w2 ⟨b,rfl,g2⟩;have G2:=Qo0 (G1.out.trans g2);clear g2;(try dsimp only)))
 all_goals go_ret
 ·exact Qaw (GW.out.trans G2.out)
 ·exact Qaw (GW.out.trans G1.out)
set_option maxRecDepth 100000 in
set_option maxHeartbeats 4000000 in
attribute [local irreducible] Calls in
theorem Qex (Ad : Option Addr) (c : Nat) (L : List Mod) (w : World) (h : MRd w Ad c L) : Calls Tryz.prog 6 #[.slice Ad L.length c] w (RetG L w):=by
 obtain ⟨n,hn⟩ : ∃ n,L.length = n:=⟨_,rfl⟩
 have HN:=Qo0 hn
 have HM:=Qo0 (fun V (g : Gr w V) => h.gr g)
 have hc:=h.rw.hc
 have hcm:=h.rw.hm
 rw [hn] at hc ⊢
 clear h hn
 go_enter Tryz.func6,Tryz.ntmps6
 go_wp2
 go_loopw [3] (fun i V => ∃ j : Nat,j ≤ n ∧ i = iv j ∧ Hid (Gr w V)) (fun i _ => n - (intOf i).toNat)
 case atStart => exact ⟨0,by omega,by first | rfl | trivial,Qo0 (Qc _)⟩
 case round =>
  obtain ⟨j,hj,rfl,HG⟩:=hrel
  by_cases hlt : j < n
  ·obtain ⟨m,hm⟩ : ∃ m,L[j]? = some m:=⟨_,List.getElem?_eq_getElem (by rw [HN.out];exact hlt)⟩
   obtain ⟨a,a1,rfl,ha,hab,d0,d1,d2⟩:=rdM (HM.out _ HG.out).r hm
   have C1:=Qo0 (fun V (g : Gr w V) => Qip m V ((HM.out V g).m m (List.mem_of_getElem? hm)))
   unfold Mod.v at C1
   have hlt2 : (j : Int) < (n : Int):=by omega
   clear hm
   go_upto_region 5 with (go_at_call 13;(with_reducible refine (C1.out _ HG.out).mono ?_);rintro e w5 ⟨b5,rfl,g5⟩;have G5:=Qo0 (HG.out.trans g5);clear g5;cases b5)
   ·go_wp2
    exact ⟨⟨j + 1,by omega,by simp,G5⟩,by simp [intOf];omega⟩
   ·go_wp2
    go_ret
    exact retG (fun h => by cases h) G5.out
  ·obtain rfl : j = n:=by omega
   have hnj : ¬ (j : Int) < (j : Int):=by omega
   by_cases h4 : 4 < j
   ·have h4' : (4 : Int) < (j : Int):=by omega
    go_wp2
    go_ret
    exact retG (fun h => by cases h) HG.out
   ·have h4' : ¬ (4 : Int) < (j : Int):=by omega
    have h4n : j ≤ 4:=by omega
    have HH:=Qo0 h4n
    go_wp2
    go_ret
    exact retG (fun _ => by have:=HN.out;have:=HH.out;omega) HG.out
end Go.Proofs.YtiaenhlflgobfaaGreatDoor
namespace Go.Proofs.YtiaenhlflgobfaaGreatDoor
open Go.RowKit
set_option maxRecDepth 100000 in
set_option maxHeartbeats 4000000 in
attribute [local irreducible] Calls in
theorem Qeq (Aa : Option Addr) (c : Nat) (us : List T) (B : Option Addr) (d : Nat) (w : World) (hA : RD 1 scs w Aa us) (hB : RD 1 scs w B us) (hn : us.length ≤ 9223372036854775807) : Calls Tryz.prog 71 #[.slice Aa us.length c,.slice B us.length d] w fun e w' => e = .returned (.bool true) ∧ Gr w w':=by
 obtain ⟨n,hus⟩ : ∃ n,us.length = n:=⟨_,rfl⟩
 have HN:=Qo0 hus
 have HA:=Qo0 (fun V (g : Gr w V) => hA.gr g)
 have HB:=Qo0 (fun V (g : Gr w V) => hB.gr g)
 rw [hus] at hn ⊢
 clear hA hB hus
 go_enter Tryz.func71,Tryz.ntmps71
 go_wp2
 go_loopw [5] (fun i V => ∃ j : Nat,j ≤ n ∧ i = iv j ∧ Hid (Gr w V)) (fun i _ => n - (intOf i).toNat)
 case atStart => exact ⟨0,by omega,by first | rfl | trivial,Qo0 (Qc _)⟩
 case round =>
  obtain ⟨j,hj,rfl,HG⟩:=hrel
  by_cases hlt : j < n
  ·obtain ⟨u,hu⟩ : ∃ u,us[j]? = some u:=⟨_,List.getElem?_eq_getElem (by rw [HN.out];exact hlt)⟩
   obtain ⟨a,a1,rfl,ha,hab,d0⟩:=rdS (HA.out _ HG.out) hu
   obtain ⟨b,b1,rfl,hb,hbb,e0⟩:=rdS (HB.out _ HG.out) hu
   have hlt2 : (j : Int) < (n : Int):=by omega
   clear hu
   go_upto_region 6 with fail
   go_big_quiet (fail)
   go_wp2
   exact ⟨⟨j + 1,by omega,by simp,Qo0 (HG.out.trans (Qq _ _))⟩,by simp [intOf];omega⟩
  ·obtain rfl : j = n:=by omega
   have hnj : ¬ (j : Int) < (j : Int):=by omega
   go_wp2
   go_ret
   exact ⟨rfl,HG.out⟩
set_option maxRecDepth 100000 in
set_option maxHeartbeats 4000000 in
attribute [local irreducible] Calls in
theorem Qk7 (x : Ex) : ∀ (y : Ex) (w : World),x.Rd w → y.Rd w → x.er = y.er → Calls Tryz.prog 150 #[x.v,y.v] w fun e w' => e = .returned (.bool true) ∧ Gr w w':=by
 refine Ex.ind (P:=fun x => ∀ (y : Ex) (w : World),x.Rd w → y.Rd w → x.er = y.er → Calls Tryz.prog 150 #[x.v,y.v] w fun e w' => e = .returned (.bool true) ∧ Gr w w') (fun x ih y w hx hy he => ?_) x
 rw [Qbl x,Qbl y] at he
 simp only [PE.mk.injEq] at he
 obtain ⟨h1,h2,h3,h4,h5,h6⟩:=he
 have hl : y.sub.length = x.sub.length:=by have h:=congrArg List.length h6;simpa using h.symm
 have HE:=Qo0 (fun (j : Nat) (p q : Ex) (hp : x.sub[j]? = some p) (hq : y.sub[j]? = some q) => show p.er = q.er from by
  have h : (ers x.sub)[j]? = (ers y.sub)[j]?:=by rw [h6]
  rw [Ym,Ym,List.getElem?_map,List.getElem?_map,hp,hq] at h
  exact Option.some.inj h)
 obtain ⟨n,hn⟩ : ∃ n,x.sub.length = n:=⟨_,rfl⟩
 have HN:=Qo0 (And.intro hn (hl.trans hn))
 have hn9 : n ≤ 9223372036854775807:=by rw [← hn];exact Nat.le_trans hx.s.rw.hc hx.s.rw.hm
 obtain ⟨W,hW⟩ : ∃ W,(w.alloc (.cells #[iv x.kind,tv x.name,tv x.more,iv x.int,iv x.den,.slice x.A x.sub.length x.c] 43)).alloc (.cells #[iv x.kind,tv x.name,tv x.more,iv x.int,iv x.den,.slice y.A x.sub.length y.c] 43) = W:=⟨_,rfl⟩
 have GW:=Qo0 (show Gr w W by rw [← hW];exact (Qa _ _).trans (Qa _ _))
 have BX:=Qo0 (fun V (g : Gr W V) => show V.cell? ⟨w.heap.size,0,none⟩ = some (iv x.kind) ∧ V.cell? ⟨w.heap.size,1,none⟩ = some (tv x.name) ∧ V.cell? ⟨w.heap.size,2,none⟩ = some (tv x.more) ∧ V.cell? ⟨w.heap.size,3,none⟩ = some (iv x.int) ∧ V.cell? ⟨w.heap.size,4,none⟩ = some (iv x.den) ∧ V.cell? ⟨w.heap.size,5,none⟩ = some (.slice x.A x.sub.length x.c) from by
  have h:=Qe g (show W.heap[w.heap.size]? = some (.cells #[iv x.kind,tv x.name,tv x.more,iv x.int,iv x.den,.slice x.A x.sub.length x.c] 43 (0,0)) from by rw [← hW];exact Qe (Qa _ _) (Qd _ _))
  refine ⟨?_,?_,?_,?_,?_,?_⟩ <;> (rw [Lib.cell_of_heap h];rfl))
 have BY:=Qo0 (fun V (g : Gr W V) => show V.cell? ⟨w.heap.size + 1,0,none⟩ = some (iv x.kind) ∧ V.cell? ⟨w.heap.size + 1,1,none⟩ = some (tv x.name) ∧ V.cell? ⟨w.heap.size + 1,2,none⟩ = some (tv x.more) ∧ V.cell? ⟨w.heap.size + 1,3,none⟩ = some (iv x.int) ∧ V.cell? ⟨w.heap.size + 1,4,none⟩ = some (iv x.den) ∧ V.cell? ⟨w.heap.size + 1,5,none⟩ = some (.slice y.A x.sub.length y.c) from by
  have h:=Qe g (show W.heap[w.heap.size + 1]? = some (.cells #[iv x.kind,tv x.name,tv x.more,iv x.int,iv x.den,.slice y.A x.sub.length y.c] 43 (0,0)) from by rw [← hW];exact Qr _ _ (by simp))
  refine ⟨?_,?_,?_,?_,?_,?_⟩ <;> (rw [Lib.cell_of_heap h];rfl))
 have RX:=Qo0 (fun V (g : Gr W V) => (hx.gr (GW.out.trans g)).s.r)
 have RY:=Qo0 (fun V (g : Gr W V) => (hy.gr (GW.out.trans g)).s.r)
 have CA:=Qo0 (fun p (hp : p ∈ x.sub) q (hq : q ∈ y.sub) (e : p.er = q.er) V (g : Gr W V) => ih p hp q V (((hx.gr (GW.out.trans g)).s.hs p hp)) (((hy.gr (GW.out.trans g)).s.hs q hq)) e)
 have HW:=Qo0 hW
 unfold Ex.v
 rw [← h1,← h2,← h3,← h4,← h5,hl,hn]
 rw [hn] at BX BY
 clear hx hy ih h1 h2 h3 h4 h5 h6 hl
 go_enter Tryz.func150,Tryz.ntmps150
 go_upto_region 1 with fail
 (try rw [hn] at HW)
 (try rw [HW.out])
 clear hn hW
 obtain ⟨c0,c1,c2,c3,c4,c5⟩:=BX.out _ (Qc _)
 obtain ⟨d0,d1,d2,d3,d4,d5⟩:=BY.out _ (Qc _)
 go_wp2
 clear c0 c1 c2 c3 c4 c5 d0 d1 d2 d3 d4 d5
 go_loopw [5] (fun i V => ∃ j : Nat,j ≤ n ∧ i = iv j ∧ Hid (Gr W V)) (fun i _ => n - (intOf i).toNat)
 case atStart => exact ⟨0,by omega,by first | rfl | trivial,Qo0 (Qc _)⟩
 case round =>
  obtain ⟨j,hj,rfl,HG⟩:=hrel
  by_cases hlt : j < n
  ·obtain ⟨p,hp⟩ : ∃ p,x.sub[j]? = some p:=⟨_,List.getElem?_eq_getElem (by rw [HN.out.1];exact hlt)⟩
   obtain ⟨q,hq⟩ : ∃ q,y.sub[j]? = some q:=⟨_,List.getElem?_eq_getElem (by rw [HN.out.2];exact hlt)⟩
   obtain ⟨a,a1,hxA,ha,hab,-⟩:=rdX (RX.out _ HG.out) hp
   obtain ⟨b,b1,hyA,hb,hbb,-⟩:=rdX (RY.out _ HG.out) hq
   have C1:=Qo0 (fun V (g : Gr W V) => CA.out p (List.mem_of_getElem? hp) q (List.mem_of_getElem? hq) (HE.out j p q hp hq) V g)
   unfold Ex.v at C1
   have XY:=Qo0 (fun V (g : Gr W V) => show (V.cell? ⟨w.heap.size,5,none⟩ = some (.slice (some a) n x.c) ∧ V.cell? ⟨w.heap.size + 1,5,none⟩ = some (.slice (some b) n y.c)) ∧ (V.cell? a1 = some (iv p.kind) ∧ V.cell? ⟨a1.block,a1.off + 1,none⟩ = some (tv p.name) ∧ V.cell? ⟨a1.block,a1.off + 2,none⟩ = some (tv p.more) ∧ V.cell? ⟨a1.block,a1.off + 3,none⟩ = some (iv p.int) ∧ V.cell? ⟨a1.block,a1.off + 4,none⟩ = some (iv p.den) ∧ V.cell? ⟨a1.block,a1.off + 5,none⟩ = some (.slice p.A p.sub.length p.c)) ∧ (V.cell? b1 = some (iv q.kind) ∧ V.cell? ⟨b1.block,b1.off + 1,none⟩ = some (tv q.name) ∧ V.cell? ⟨b1.block,b1.off + 2,none⟩ = some (tv q.more) ∧ V.cell? ⟨b1.block,b1.off + 3,none⟩ = some (iv q.int) ∧ V.cell? ⟨b1.block,b1.off + 4,none⟩ = some (iv q.den) ∧ V.cell? ⟨b1.block,b1.off + 5,none⟩ = some (.slice q.A q.sub.length q.c)) from by
    obtain ⟨c0,c1,c2,c3,c4,c5⟩:=BX.out _ g
    obtain ⟨d0,d1,d2,d3,d4,d5⟩:=BY.out _ g
    rw [hxA] at c5
    rw [hyA] at d5
    obtain ⟨a',a1',e1,e2,-,e3⟩:=rdX (RX.out _ g) hp
    obtain ⟨b',b1',f1,f2,-,f3⟩:=rdX (RY.out _ g) hq
    rw [hxA] at e1
    rw [hyA] at f1
    cases e1
    cases f1
    rw [ha] at e2
    rw [hb] at f2
    subst e2 f2
    exact ⟨⟨c5,d5⟩,e3,f3⟩)
   have hlt2 : (j : Int) < (n : Int):=by omega
   clear hp hq hxA hyA
   obtain ⟨⟨k0,k1⟩,⟨c0,c1,c2,c3,c4,c5⟩,d0,d1,d2,d3,d4,d5⟩:=XY.out _ HG.out
   go_upto_region 6 with fail
   go_region_held3 (fun V => (V.cell? ⟨w.heap.size,5,none⟩ = some (.slice (some a) n x.c) ∧ V.cell? ⟨w.heap.size + 1,5,none⟩ = some (.slice (some b) n y.c)) ∧ (V.cell? a1 = some (iv p.kind) ∧ V.cell? ⟨a1.block,a1.off + 1,none⟩ = some (tv p.name) ∧ V.cell? ⟨a1.block,a1.off + 2,none⟩ = some (tv p.more) ∧ V.cell? ⟨a1.block,a1.off + 3,none⟩ = some (iv p.int) ∧ V.cell? ⟨a1.block,a1.off + 4,none⟩ = some (iv p.den) ∧ V.cell? ⟨a1.block,a1.off + 5,none⟩ = some (.slice p.A p.sub.length p.c)) ∧ (V.cell? b1 = some (iv q.kind) ∧ V.cell? ⟨b1.block,b1.off + 1,none⟩ = some (tv q.name) ∧ V.cell? ⟨b1.block,b1.off + 2,none⟩ = some (tv q.more) ∧ V.cell? ⟨b1.block,b1.off + 3,none⟩ = some (iv q.int) ∧ V.cell? ⟨b1.block,b1.off + 4,none⟩ = some (iv q.den) ∧ V.cell? ⟨b1.block,b1.off + 5,none⟩ = some (.slice q.A q.sub.length q.c)))
    (first | with_reducible exact XY.out _ (HG.out.trans (Qb _)) | with_reducible exact XY.out _ G5.out | go_keep)
    (first | (go_at_call 150;(with_reducible refine (C1.out _ (HG.out.trans (Qb _))).mono ?_);rintro e w5 ⟨rfl,g5⟩;have G5:=Qo0 ((HG.out.trans (Qb _)).trans g5);clear g5))
   all_goals go_wp2
   all_goals exact ⟨⟨j + 1,by omega,by simp,G5⟩,by simp [intOf];omega⟩
  ·obtain rfl : j = n:=by omega
   have hnj : ¬ (j : Int) < (j : Int):=by omega
   obtain ⟨c0,c1,c2,c3,c4,c5⟩:=BX.out _ HG.out
   obtain ⟨d0,d1,d2,d3,d4,d5⟩:=BY.out _ HG.out
   go_wp2
   go_ret
   exact ⟨rfl,GW.out.trans HG.out⟩
set_option maxRecDepth 100000 in
set_option maxHeartbeats 4000000 in
attribute [local irreducible] Calls in
theorem Qk8 (x y : Dec) (w : World) (hx : x.Rd w) (hy : y.Rd w) (he : x.er = y.er) : Calls Tryz.prog 114 #[x.v,y.v] w fun e w' => e = .returned (.bool true) ∧ Gr w w':=by
 unfold Dec.er at he
 simp only [PD.mk.injEq] at he
 obtain ⟨h1,h2,h3,h4,h5,h6⟩:=he
 have hb:=h6
 rw [Qbl x.body,Qbl y.body] at hb
 simp only [PE.mk.injEq] at hb
 obtain ⟨k1,k2,k3,k4,k5,k6⟩:=hb
 have hl : y.body.sub.length = x.body.sub.length:=by have h:=congrArg List.length k6;simpa using h.symm
 have hn : y.names.length = x.names.length:=by rw [h4]
 obtain ⟨W,hW⟩ : ∃ W,(w.alloc (.cells #[iv x.id,iv x.kind,.bool x.pub,.slice x.nA x.names.length x.nc,.bool x.doubt,iv x.body.kind,tv x.body.name,tv x.body.more,iv x.body.int,iv x.body.den,.slice x.body.A x.body.sub.length x.body.c] 45)).alloc (.cells #[iv x.id,iv x.kind,.bool x.pub,.slice y.nA x.names.length y.nc,.bool x.doubt,iv x.body.kind,tv x.body.name,tv x.body.more,iv x.body.int,iv x.body.den,.slice y.body.A x.body.sub.length y.body.c] 45) = W:=⟨_,rfl⟩
 have GW:=Qo0 (show Gr w W by rw [← hW];exact (Qa _ _).trans (Qa _ _))
 have BX:=Qo0 (fun V (g : Gr W V) => show V.cell? ⟨w.heap.size,0,none⟩ = some (iv x.id) ∧ V.cell? ⟨w.heap.size,1,none⟩ = some (iv x.kind) ∧ V.cell? ⟨w.heap.size,2,none⟩ = some (.bool x.pub) ∧ V.cell? ⟨w.heap.size,3,none⟩ = some (.slice x.nA x.names.length x.nc) ∧ V.cell? ⟨w.heap.size,4,none⟩ = some (.bool x.doubt) ∧ V.cell? ⟨w.heap.size,5,none⟩ = some (iv x.body.kind) ∧ V.cell? ⟨w.heap.size,6,none⟩ = some (tv x.body.name) ∧ V.cell? ⟨w.heap.size,7,none⟩ = some (tv x.body.more) ∧ V.cell? ⟨w.heap.size,8,none⟩ = some (iv x.body.int) ∧ V.cell? ⟨w.heap.size,9,none⟩ = some (iv x.body.den) ∧ V.cell? ⟨w.heap.size,10,none⟩ = some (.slice x.body.A x.body.sub.length x.body.c) from by
  have h:=Qe g (show W.heap[w.heap.size]? = some (.cells #[iv x.id,iv x.kind,.bool x.pub,.slice x.nA x.names.length x.nc,.bool x.doubt,iv x.body.kind,tv x.body.name,tv x.body.more,iv x.body.int,iv x.body.den,.slice x.body.A x.body.sub.length x.body.c] 45 (0,0)) from by rw [← hW];exact Qe (Qa _ _) (Qd _ _))
  refine ⟨?_,?_,?_,?_,?_,?_,?_,?_,?_,?_,?_⟩ <;> (rw [Lib.cell_of_heap h];rfl))
 have BY:=Qo0 (fun V (g : Gr W V) => show V.cell? ⟨w.heap.size + 1,0,none⟩ = some (iv x.id) ∧ V.cell? ⟨w.heap.size + 1,1,none⟩ = some (iv x.kind) ∧ V.cell? ⟨w.heap.size + 1,2,none⟩ = some (.bool x.pub) ∧ V.cell? ⟨w.heap.size + 1,3,none⟩ = some (.slice y.nA x.names.length y.nc) ∧ V.cell? ⟨w.heap.size + 1,4,none⟩ = some (.bool x.doubt) ∧ V.cell? ⟨w.heap.size + 1,5,none⟩ = some (iv x.body.kind) ∧ V.cell? ⟨w.heap.size + 1,6,none⟩ = some (tv x.body.name) ∧ V.cell? ⟨w.heap.size + 1,7,none⟩ = some (tv x.body.more) ∧ V.cell? ⟨w.heap.size + 1,8,none⟩ = some (iv x.body.int) ∧ V.cell? ⟨w.heap.size + 1,9,none⟩ = some (iv x.body.den) ∧ V.cell? ⟨w.heap.size + 1,10,none⟩ = some (.slice y.body.A x.body.sub.length y.body.c) from by
  have h:=Qe g (show W.heap[w.heap.size + 1]? = some (.cells #[iv x.id,iv x.kind,.bool x.pub,.slice y.nA x.names.length y.nc,.bool x.doubt,iv x.body.kind,tv x.body.name,tv x.body.more,iv x.body.int,iv x.body.den,.slice y.body.A x.body.sub.length y.body.c] 45 (0,0)) from by rw [← hW];exact Qr _ _ (by simp))
  refine ⟨?_,?_,?_,?_,?_,?_,?_,?_,?_,?_,?_⟩ <;> (rw [Lib.cell_of_heap h];rfl))
 have C1:=Qo0 (fun V (g : Gr W V) => Qeq x.nA x.nc x.names y.nA y.nc V (hx.n.gr (GW.out.trans g)).r (by have h:=(hy.n.gr (GW.out.trans g)).r;rw [← h4] at h;exact h) (Nat.le_trans hx.n.rw.hc hx.n.rw.hm))
 have C2:=Qo0 (fun V (g : Gr W V) => show Calls Tryz.prog 150 #[.agg #[iv x.body.kind,tv x.body.name,tv x.body.more,iv x.body.int,iv x.body.den,.slice x.body.A x.body.sub.length x.body.c],.agg #[iv x.body.kind,tv x.body.name,tv x.body.more,iv x.body.int,iv x.body.den,.slice y.body.A x.body.sub.length y.body.c]] V (fun e w' => e = .returned (.bool true) ∧ Gr V w') from by
  have h:=Qk7 x.body y.body V (hx.b.gr (GW.out.trans g)) (hy.b.gr (GW.out.trans g)) h6
  unfold Ex.v at h
  rw [← k1,← k2,← k3,← k4,← k5,hl] at h
  exact h)
 have HW:=Qo0 hW
 unfold Dec.v
 rw [← h1,← h2,← h3,← h5,hn,← k1,← k2,← k3,← k4,← k5,hl]
 clear hx hy h1 h2 h3 h4 h5 h6 k1 k2 k3 k4 k5 k6 hl hn
 go_enter Tryz.func114,Tryz.ntmps114
 go_upto_region 1 with fail
 (try rw [HW.out])
 clear hW
 obtain ⟨c0,c1,c2,c3,c4,c5,c6,c7,c8,c9,c10⟩:=BX.out _ (Qc _)
 obtain ⟨d0,d1,d2,d3,d4,d5,d6,d7,d8,d9,d10⟩:=BY.out _ (Qc _)
 go_wp2_with (first
  | (go_at_call 71;(with_reducible refine (C1.out _ (Qc _)).mono ?_);rintro e w1 ⟨rfl,g1⟩;have G1:=Qo0 g1;clear g1 c0 c1 c2 c3 c4 c5 c6 c7 c8 c9 c10 d0 d1 d2 d3 d4 d5 d6 d7 d8 d9 d10;obtain ⟨c0,c1,c2,c3,c4,c5,c6,c7,c8,c9,c10⟩:=BX.out _ G1.out;obtain ⟨d0,d1,d2,d3,d4,d5,d6,d7,d8,d9,d10⟩:=BY.out _ G1.out)
  | (go_at_call 150;(with_reducible refine (C2.out _ G1.out).mono ?_);rintro e w2 ⟨rfl,g2⟩;have G2:=Qo0 (G1.out.trans g2);clear g2;(try dsimp only)))
 go_ret
 exact ⟨rfl,GW.out.trans G2.out⟩
set_option maxRecDepth 100000 in
set_option maxHeartbeats 4000000 in
attribute [local irreducible] Calls in
theorem Qh5 (Aa : Option Addr) (c : Nat) (L : List Dec) (B : Option Addr) (d : Nat) (M : List Dec) (w : World) (hA : DRd w Aa c L) (hB : DRd w B d M) (he : L.map Dec.er = M.map Dec.er) : Calls Tryz.prog 72 #[.slice Aa L.length c,.slice B M.length d] w fun e w' => e = .returned (.bool true) ∧ Gr w w':=by
 have hl : M.length = L.length:=by have h:=congrArg List.length he;simpa using h.symm
 obtain ⟨n,hn⟩ : ∃ n,L.length = n:=⟨_,rfl⟩
 have HN:=Qo0 (And.intro hn (hl.trans hn))
 have hn9 : n ≤ 9223372036854775807:=by rw [← hn];exact Nat.le_trans hA.rw.hc hA.rw.hm
 have HE:=Qo0 (fun (j : Nat) (p q : Dec) (hp : L[j]? = some p) (hq : M[j]? = some q) => show p.er = q.er from by
  have h : (L.map Dec.er)[j]? = (M.map Dec.er)[j]?:=by rw [he]
  rw [List.getElem?_map,List.getElem?_map,hp,hq] at h
  exact Option.some.inj h)
 have HA:=Qo0 (fun V (g : Gr w V) => hA.gr g)
 have HB:=Qo0 (fun V (g : Gr w V) => hB.gr g)
 rw [hl,hn]
 clear hA hB he hl hn
 go_enter Tryz.func72,Tryz.ntmps72
 go_wp2
 go_loopw [5] (fun i V => ∃ j : Nat,j ≤ n ∧ i = iv j ∧ Hid (Gr w V)) (fun i _ => n - (intOf i).toNat)
 case atStart => exact ⟨0,by omega,by first | rfl | trivial,Qo0 (Qc _)⟩
 case round =>
  obtain ⟨j,hj,rfl,HG⟩:=hrel
  by_cases hlt : j < n
  ·obtain ⟨p,hp⟩ : ∃ p,L[j]? = some p:=⟨_,List.getElem?_eq_getElem (by rw [HN.out.1];exact hlt)⟩
   obtain ⟨q,hq⟩ : ∃ q,M[j]? = some q:=⟨_,List.getElem?_eq_getElem (by rw [HN.out.2];exact hlt)⟩
   obtain ⟨a,a1,rfl,ha,hab,-⟩:=rdD (HA.out _ HG.out).r hp
   obtain ⟨b,b1,rfl,hb,hbb,-⟩:=rdD (HB.out _ HG.out).r hq
   have C1:=Qo0 (fun V (g : Gr w V) => Qk8 p q V ((HA.out V g).d p (List.mem_of_getElem? hp)) ((HB.out V g).d q (List.mem_of_getElem? hq)) (HE.out j p q hp hq))
   unfold Dec.v at C1
   have XY:=Qo0 (fun V (g : Gr w V) => show (V.cell? a1 = some (iv p.id) ∧ V.cell? ⟨a1.block,a1.off + 1,none⟩ = some (iv p.kind) ∧ V.cell? ⟨a1.block,a1.off + 2,none⟩ = some (.bool p.pub) ∧ V.cell? ⟨a1.block,a1.off + 3,none⟩ = some (.slice p.nA p.names.length p.nc) ∧ V.cell? ⟨a1.block,a1.off + 4,none⟩ = some (.bool p.doubt) ∧ V.cell? ⟨a1.block,a1.off + 5,none⟩ = some (iv p.body.kind) ∧ V.cell? ⟨a1.block,a1.off + 6,none⟩ = some (tv p.body.name) ∧ V.cell? ⟨a1.block,a1.off + 7,none⟩ = some (tv p.body.more) ∧ V.cell? ⟨a1.block,a1.off + 8,none⟩ = some (iv p.body.int) ∧ V.cell? ⟨a1.block,a1.off + 9,none⟩ = some (iv p.body.den) ∧ V.cell? ⟨a1.block,a1.off + 10,none⟩ = some (.slice p.body.A p.body.sub.length p.body.c)) ∧ (V.cell? b1 = some (iv q.id) ∧ V.cell? ⟨b1.block,b1.off + 1,none⟩ = some (iv q.kind) ∧ V.cell? ⟨b1.block,b1.off + 2,none⟩ = some (.bool q.pub) ∧ V.cell? ⟨b1.block,b1.off + 3,none⟩ = some (.slice q.nA q.names.length q.nc) ∧ V.cell? ⟨b1.block,b1.off + 4,none⟩ = some (.bool q.doubt) ∧ V.cell? ⟨b1.block,b1.off + 5,none⟩ = some (iv q.body.kind) ∧ V.cell? ⟨b1.block,b1.off + 6,none⟩ = some (tv q.body.name) ∧ V.cell? ⟨b1.block,b1.off + 7,none⟩ = some (tv q.body.more) ∧ V.cell? ⟨b1.block,b1.off + 8,none⟩ = some (iv q.body.int) ∧ V.cell? ⟨b1.block,b1.off + 9,none⟩ = some (iv q.body.den) ∧ V.cell? ⟨b1.block,b1.off + 10,none⟩ = some (.slice q.body.A q.body.sub.length q.body.c)) from by
    obtain ⟨a',a1',e1,e2,-,e3⟩:=rdD (HA.out _ g).r hp
    obtain ⟨b',b1',f1,f2,-,f3⟩:=rdD (HB.out _ g).r hq
    cases e1
    cases f1
    rw [ha] at e2
    rw [hb] at f2
    subst e2 f2
    exact ⟨e3,f3⟩)
   have hlt2 : (j : Int) < (n : Int):=by omega
   clear hp hq
   obtain ⟨⟨c0,c1,c2,c3,c4,c5,c6,c7,c8,c9,c10⟩,d0,d1,d2,d3,d4,d5,d6,d7,d8,d9,d10⟩:=XY.out _ HG.out
   go_upto_region 6 with fail
   go_region_held3 (fun V => (V.cell? a1 = some (iv p.id) ∧ V.cell? ⟨a1.block,a1.off + 1,none⟩ = some (iv p.kind) ∧ V.cell? ⟨a1.block,a1.off + 2,none⟩ = some (.bool p.pub) ∧ V.cell? ⟨a1.block,a1.off + 3,none⟩ = some (.slice p.nA p.names.length p.nc) ∧ V.cell? ⟨a1.block,a1.off + 4,none⟩ = some (.bool p.doubt) ∧ V.cell? ⟨a1.block,a1.off + 5,none⟩ = some (iv p.body.kind) ∧ V.cell? ⟨a1.block,a1.off + 6,none⟩ = some (tv p.body.name) ∧ V.cell? ⟨a1.block,a1.off + 7,none⟩ = some (tv p.body.more) ∧ V.cell? ⟨a1.block,a1.off + 8,none⟩ = some (iv p.body.int) ∧ V.cell? ⟨a1.block,a1.off + 9,none⟩ = some (iv p.body.den) ∧ V.cell? ⟨a1.block,a1.off + 10,none⟩ = some (.slice p.body.A p.body.sub.length p.body.c)) ∧ (V.cell? b1 = some (iv q.id) ∧ V.cell? ⟨b1.block,b1.off + 1,none⟩ = some (iv q.kind) ∧ V.cell? ⟨b1.block,b1.off + 2,none⟩ = some (.bool q.pub) ∧ V.cell? ⟨b1.block,b1.off + 3,none⟩ = some (.slice q.nA q.names.length q.nc) ∧ V.cell? ⟨b1.block,b1.off + 4,none⟩ = some (.bool q.doubt) ∧ V.cell? ⟨b1.block,b1.off + 5,none⟩ = some (iv q.body.kind) ∧ V.cell? ⟨b1.block,b1.off + 6,none⟩ = some (tv q.body.name) ∧ V.cell? ⟨b1.block,b1.off + 7,none⟩ = some (tv q.body.more) ∧ V.cell? ⟨b1.block,b1.off + 8,none⟩ = some (iv q.body.int) ∧ V.cell? ⟨b1.block,b1.off + 9,none⟩ = some (iv q.body.den) ∧ V.cell? ⟨b1.block,b1.off + 10,none⟩ = some (.slice q.body.A q.body.sub.length q.body.c)))
    (first | with_reducible exact XY.out _ (HG.out.trans (Qb _)) | with_reducible exact XY.out _ G5.out | go_keep)
    (first | (go_at_call 114;(with_reducible refine (C1.out _ (HG.out.trans (Qb _))).mono ?_);rintro e w5 ⟨rfl,g5⟩;have G5:=Qo0 ((HG.out.trans (Qb _)).trans g5);clear g5))
   all_goals go_wp2
   all_goals exact ⟨⟨j + 1,by omega,by simp,G5⟩,by simp [intOf];omega⟩
  ·obtain rfl : j = n:=by omega
   have hnj : ¬ (j : Int) < (j : Int):=by omega
   go_wp2
   go_ret
   exact ⟨rfl,HG.out⟩
set_option maxRecDepth 100000 in
set_option maxHeartbeats 4000000 in
attribute [local irreducible] Calls in
theorem Qk6 (x y : Mod) (w : World) (hx : x.Rd w) (hy : y.Rd w) (he : x.er = y.er) : Calls Tryz.prog 33 #[x.v,y.v] w fun e w' => e = .returned (.bool true) ∧ Gr w w':=by
 unfold Mod.er at he
 simp only [PM.mk.injEq] at he
 obtain ⟨h1,h2,h3⟩:=he
 have hn : y.uses.length = x.uses.length:=by rw [h2]
 obtain ⟨W,hW⟩ : ∃ W,(w.alloc (.cells #[tv x.label,.slice x.uA x.uses.length x.uc,.slice x.dA x.decls.length x.dc] 39)).alloc (.cells #[tv x.label,.slice y.uA x.uses.length y.uc,.slice y.dA y.decls.length y.dc] 39) = W:=⟨_,rfl⟩
 have GW:=Qo0 (show Gr w W by rw [← hW];exact (Qa _ _).trans (Qa _ _))
 have BX:=Qo0 (fun V (g : Gr W V) => show V.cell? ⟨w.heap.size,0,none⟩ = some (tv x.label) ∧ V.cell? ⟨w.heap.size,1,none⟩ = some (.slice x.uA x.uses.length x.uc) ∧ V.cell? ⟨w.heap.size,2,none⟩ = some (.slice x.dA x.decls.length x.dc) from by
  have h:=Qe g (show W.heap[w.heap.size]? = some (.cells #[tv x.label,.slice x.uA x.uses.length x.uc,.slice x.dA x.decls.length x.dc] 39 (0,0)) from by rw [← hW];exact Qe (Qa _ _) (Qd _ _))
  refine ⟨?_,?_,?_⟩ <;> (rw [Lib.cell_of_heap h];rfl))
 have BY:=Qo0 (fun V (g : Gr W V) => show V.cell? ⟨w.heap.size + 1,0,none⟩ = some (tv x.label) ∧ V.cell? ⟨w.heap.size + 1,1,none⟩ = some (.slice y.uA x.uses.length y.uc) ∧ V.cell? ⟨w.heap.size + 1,2,none⟩ = some (.slice y.dA y.decls.length y.dc) from by
  have h:=Qe g (show W.heap[w.heap.size + 1]? = some (.cells #[tv x.label,.slice y.uA x.uses.length y.uc,.slice y.dA y.decls.length y.dc] 39 (0,0)) from by rw [← hW];exact Qr _ _ (by simp))
  refine ⟨?_,?_,?_⟩ <;> (rw [Lib.cell_of_heap h];rfl))
 have C1:=Qo0 (fun V (g : Gr W V) => Qeq x.uA x.uc x.uses y.uA y.uc V (hx.u.gr (GW.out.trans g)).r (by have h:=(hy.u.gr (GW.out.trans g)).r;rw [← h2] at h;exact h) (Nat.le_trans hx.u.rw.hc hx.u.rw.hm))
 have C2:=Qo0 (fun V (g : Gr W V) => Qh5 x.dA x.dc x.decls y.dA y.dc y.decls V (hx.d.gr (GW.out.trans g)) (hy.d.gr (GW.out.trans g)) h3)
 have HW:=Qo0 hW
 unfold Mod.v
 rw [← h1,hn]
 clear hx hy h1 h2 h3 hn
 go_enter Tryz.func33,Tryz.ntmps33
 go_upto_region 1 with fail
 (try rw [HW.out])
 clear hW
 obtain ⟨c0,c1,c2⟩:=BX.out _ (Qc _)
 obtain ⟨d0,d1,d2⟩:=BY.out _ (Qc _)
 go_wp2_with (first
  | (go_at_call 71;(with_reducible refine (C1.out _ (Qc _)).mono ?_);rintro e w1 ⟨rfl,g1⟩;have G1:=Qo0 g1;clear g1 c0 c1 c2 d0 d1 d2;obtain ⟨c0,c1,c2⟩:=BX.out _ G1.out;obtain ⟨d0,d1,d2⟩:=BY.out _ G1.out)
  | (go_at_call 72;(with_reducible refine (C2.out _ G1.out).mono ?_);rintro e w2 ⟨rfl,g2⟩;have G2:=Qo0 (G1.out.trans g2);clear g2;(try dsimp only)))
 go_ret
 exact ⟨rfl,GW.out.trans G2.out⟩
set_option maxRecDepth 100000 in
set_option maxHeartbeats 4000000 in
attribute [local irreducible] Calls in
theorem Qaf (Aa : Option Addr) (c : Nat) (L : List Mod) (B : Option Addr) (d : Nat) (M : List Mod) (w : World) (hA : MRd w Aa c L) (hB : MRd w B d M) (he : L.map Mod.er = M.map Mod.er) : Calls Tryz.prog 12 #[.slice Aa L.length c,.slice B M.length d] w fun e w' => e = .returned (.bool true) ∧ Gr w w':=by
 have hl : M.length = L.length:=by have h:=congrArg List.length he;simpa using h.symm
 obtain ⟨n,hn⟩ : ∃ n,L.length = n:=⟨_,rfl⟩
 have HN:=Qo0 (And.intro hn (hl.trans hn))
 have hn9 : n ≤ 9223372036854775807:=by rw [← hn];exact Nat.le_trans hA.rw.hc hA.rw.hm
 have HE:=Qo0 (fun (j : Nat) (p q : Mod) (hp : L[j]? = some p) (hq : M[j]? = some q) => show p.er = q.er from by
  have h : (L.map Mod.er)[j]? = (M.map Mod.er)[j]?:=by rw [he]
  rw [List.getElem?_map,List.getElem?_map,hp,hq] at h
  exact Option.some.inj h)
 have HA:=Qo0 (fun V (g : Gr w V) => hA.gr g)
 have HB:=Qo0 (fun V (g : Gr w V) => hB.gr g)
 rw [hl,hn]
 clear hA hB he hl hn
 go_enter Tryz.func12,Tryz.ntmps12
 go_wp2
 go_loopw [5] (fun i V => ∃ j : Nat,j ≤ n ∧ i = iv j ∧ Hid (Gr w V)) (fun i _ => n - (intOf i).toNat)
 case atStart => exact ⟨0,by omega,by first | rfl | trivial,Qo0 (Qc _)⟩
 case round =>
  obtain ⟨j,hj,rfl,HG⟩:=hrel
  by_cases hlt : j < n
  ·obtain ⟨p,hp⟩ : ∃ p,L[j]? = some p:=⟨_,List.getElem?_eq_getElem (by rw [HN.out.1];exact hlt)⟩
   obtain ⟨q,hq⟩ : ∃ q,M[j]? = some q:=⟨_,List.getElem?_eq_getElem (by rw [HN.out.2];exact hlt)⟩
   obtain ⟨a,a1,rfl,ha,hab,-⟩:=rdM (HA.out _ HG.out).r hp
   obtain ⟨b,b1,rfl,hb,hbb,-⟩:=rdM (HB.out _ HG.out).r hq
   have C1:=Qo0 (fun V (g : Gr w V) => Qk6 p q V ((HA.out V g).m p (List.mem_of_getElem? hp)) ((HB.out V g).m q (List.mem_of_getElem? hq)) (HE.out j p q hp hq))
   unfold Mod.v at C1
   have XY:=Qo0 (fun V (g : Gr w V) => show (V.cell? a1 = some (tv p.label) ∧ V.cell? ⟨a1.block,a1.off + 1,none⟩ = some (.slice p.uA p.uses.length p.uc) ∧ V.cell? ⟨a1.block,a1.off + 2,none⟩ = some (.slice p.dA p.decls.length p.dc)) ∧ (V.cell? b1 = some (tv q.label) ∧ V.cell? ⟨b1.block,b1.off + 1,none⟩ = some (.slice q.uA q.uses.length q.uc) ∧ V.cell? ⟨b1.block,b1.off + 2,none⟩ = some (.slice q.dA q.decls.length q.dc)) from by
    obtain ⟨a',a1',e1,e2,-,e3⟩:=rdM (HA.out _ g).r hp
    obtain ⟨b',b1',f1,f2,-,f3⟩:=rdM (HB.out _ g).r hq
    cases e1
    cases f1
    rw [ha] at e2
    rw [hb] at f2
    subst e2 f2
    exact ⟨e3,f3⟩)
   have hlt2 : (j : Int) < (n : Int):=by omega
   clear hp hq
   obtain ⟨⟨c0,c1,c2⟩,d0,d1,d2⟩:=XY.out _ HG.out
   go_upto_region 6 with fail
   go_region_held3 (fun V => (V.cell? a1 = some (tv p.label) ∧ V.cell? ⟨a1.block,a1.off + 1,none⟩ = some (.slice p.uA p.uses.length p.uc) ∧ V.cell? ⟨a1.block,a1.off + 2,none⟩ = some (.slice p.dA p.decls.length p.dc)) ∧ (V.cell? b1 = some (tv q.label) ∧ V.cell? ⟨b1.block,b1.off + 1,none⟩ = some (.slice q.uA q.uses.length q.uc) ∧ V.cell? ⟨b1.block,b1.off + 2,none⟩ = some (.slice q.dA q.decls.length q.dc)))
    (first | with_reducible exact XY.out _ (HG.out.trans (Qb _)) | with_reducible exact XY.out _ G5.out | go_keep)
    (first | (go_at_call 33;(with_reducible refine (C1.out _ (HG.out.trans (Qb _))).mono ?_);rintro e w5 ⟨rfl,g5⟩;have G5:=Qo0 ((HG.out.trans (Qb _)).trans g5);clear g5))
   all_goals go_wp2
   all_goals exact ⟨⟨j + 1,by omega,by simp,G5⟩,by simp [intOf];omega⟩
  ·obtain rfl : j = n:=by omega
   have hnj : ¬ (j : Int) < (j : Int):=by omega
   go_wp2
   go_ret
   exact ⟨rfl,HG.out⟩
end Go.Proofs.YtiaenhlflgobfaaGreatDoor
namespace Go.Proofs.YtiaenhlflgobfaaGreatDoor
open Go.RowKit Go.Maps
theorem Qgb : oks.Mods []:=⟨.nil,by simp⟩
theorem Qjb (kN kD : Nat) : oks.Mods ([aM kN kD].map Mod.er):=⟨List.pairwise_singleton _ _,fun m hm => by
 rw [List.map_cons,List.map_nil] at hm
 rw [List.mem_singleton.1 hm]
 exact (Qcg _).1 (Qku kN kD)⟩
theorem aw_two (kN kD : Nat) : (Xc (([] : List Mod).map Mod.er) ([aM kN kD].map Mod.er)).length = 2:=by
 simp [Xc,Qx,Yx,Yr,Yp,Qu,zM,Mod.er,aM]
set_option maxRecDepth 100000 in
set_option maxHeartbeats 4000000 in
attribute [local irreducible] Calls in
theorem Qml (w : World) : Calls Tryz.prog 7 #[] w fun e w' => e = .returned (.bool true) ∧ Gr w w':=by
 have S0:=Qo0 (HS.nil (w0:=w))
 obtain ⟨kN,hb⟩ : ∃ b,w.heap.size = b:=⟨_,rfl⟩
 go_enter Tryz.func7,Tryz.ntmps7
 go_upto_region 2 with fail
 refine HSgo (w0:=w) (L:=[(kN + 1 + 1,Obj.cells #[.string ⟨#[109]⟩,.slice none 0 0,.slice (some ⟨kN + 1,0,none⟩) 1 1] 39 (0,0)),(kN + 1,Obj.cells #[iv 1,iv 1,.bool true,.slice (some ⟨kN,0,none⟩) 1 1,.bool false,iv 1,.string ⟨#[]⟩,.string ⟨#[]⟩,iv 7,iv 0,.slice none 0 0] 45 (0,0)),(kN,Obj.cells #[.string ⟨#[102]⟩] 9 (0,0))]) (by repeat' (first | exact HS.nil | refine HS.alloc ?_ (by simp [hb]) _)) ?_
 intro W1 S1
 clear hb
 generalize kN + 1 = kD at S1 ⊢
 generalize kD + 1 = b1 at S1 ⊢
 have S1:=Qo0 S1
 have x1 : W1.cell? ⟨b1,0,none⟩ = some (.string ⟨#[109]⟩):=S1.out.cell (b:=b1) (C:=#[.string ⟨#[109]⟩,.slice none 0 0,.slice (some ⟨kD,0,none⟩) 1 1]) (t:=39) (by simp) 0
 have x2 : W1.cell? ⟨b1,1,none⟩ = some (.slice none 0 0):=S1.out.cell (b:=b1) (C:=#[.string ⟨#[109]⟩,.slice none 0 0,.slice (some ⟨kD,0,none⟩) 1 1]) (t:=39) (by simp) 1
 have x3 : W1.cell? ⟨b1,2,none⟩ = some (.slice (some ⟨kD,0,none⟩) 1 1):=S1.out.cell (b:=b1) (C:=#[.string ⟨#[109]⟩,.slice none 0 0,.slice (some ⟨kD,0,none⟩) 1 1]) (t:=39) (by simp) 2
 have C16:=Qo0 (of_a kN kD W1 (S1.out.f (kN,Obj.cells #[.string ⟨#[102]⟩] 9 (0,0)) (by simp)) (S1.out.f (kD,Obj.cells #[iv 1,iv 1,.bool true,.slice (some ⟨kN,0,none⟩) 1 1,.bool false,iv 1,.string ⟨#[]⟩,.string ⟨#[]⟩,iv 7,iv 0,.slice none 0 0] 45 (0,0)) (by simp)))
 go_upto_region 3 with (go_at_call 16;(with_reducible refine (C16.out).mono ?_);rintro e W2 ⟨gX,cX,uX,rfl,h,h1⟩;have S2:=Qo0 (show HS w W2 [(gX,Obj.cells uX 68 (0,0)),(b1,Obj.cells #[.string ⟨#[109]⟩,.slice none 0 0,.slice (some ⟨kD,0,none⟩) 1 1] 39 (0,0)),(kD,Obj.cells #[iv 1,iv 1,.bool true,.slice (some ⟨kN,0,none⟩) 1 1,.bool false,iv 1,.string ⟨#[]⟩,.string ⟨#[]⟩,iv 7,iv 0,.slice none 0 0] 45 (0,0)),(kN,Obj.cells #[.string ⟨#[102]⟩] 9 (0,0))] from S1.out.more h);have HuX:=Qo0 h1;clear h h1 x1 x2 x3;obtain ⟨b2,hb2⟩ : ∃ b,W2.heap.size = b:=⟨_,rfl⟩)
 generalize hW : World.alloc W2 _ = W3
 have S3:=Qo0 (show HS w W3 [(b2,Obj.cells #[.string ⟨#[109]⟩,.slice (some ⟨gX,0,none⟩) 1 cX] 51 (0,0)),(gX,Obj.cells uX 68 (0,0)),(b1,Obj.cells #[.string ⟨#[109]⟩,.slice none 0 0,.slice (some ⟨kD,0,none⟩) 1 1] 39 (0,0)),(kD,Obj.cells #[iv 1,iv 1,.bool true,.slice (some ⟨kN,0,none⟩) 1 1,.bool false,iv 1,.string ⟨#[]⟩,.string ⟨#[]⟩,iv 7,iv 0,.slice none 0 0] 45 (0,0)),(kN,Obj.cells #[.string ⟨#[102]⟩] 9 (0,0))] from by rw [← hW];exact S2.out.alloc hb2 _)
 clear hW
 have Hb2:=Qo0 hb2
 clear hb2
 have x4 : W3.cell? ⟨b1,0,none⟩ = some (.string ⟨#[109]⟩):=S3.out.cell (b:=b1) (C:=#[.string ⟨#[109]⟩,.slice none 0 0,.slice (some ⟨kD,0,none⟩) 1 1]) (t:=39) (by simp) 0
 have x5 : W3.cell? ⟨b1,1,none⟩ = some (.slice none 0 0):=S3.out.cell (b:=b1) (C:=#[.string ⟨#[109]⟩,.slice none 0 0,.slice (some ⟨kD,0,none⟩) 1 1]) (t:=39) (by simp) 1
 have x6 : W3.cell? ⟨b1,2,none⟩ = some (.slice (some ⟨kD,0,none⟩) 1 1):=S3.out.cell (b:=b1) (C:=#[.string ⟨#[109]⟩,.slice none 0 0,.slice (some ⟨kD,0,none⟩) 1 1]) (t:=39) (by simp) 2
 obtain ⟨kM,hkM⟩ : ∃ b,W3.heap.size = b:=⟨_,rfl⟩
 obtain ⟨W4,hW4⟩ : ∃ W,W3.alloc (.cells #[.string ⟨#[109]⟩,.slice none 0 0,.slice (some ⟨kD,0,none⟩) 1 1] 39) = W:=⟨_,rfl⟩
 have S4:=Qo0 (show HS w W4 [(kM,Obj.cells #[.string ⟨#[109]⟩,.slice none 0 0,.slice (some ⟨kD,0,none⟩) 1 1] 39 (0,0)),(b2,Obj.cells #[.string ⟨#[109]⟩,.slice (some ⟨gX,0,none⟩) 1 cX] 51 (0,0)),(gX,Obj.cells uX 68 (0,0)),(b1,Obj.cells #[.string ⟨#[109]⟩,.slice none 0 0,.slice (some ⟨kD,0,none⟩) 1 1] 39 (0,0)),(kD,Obj.cells #[iv 1,iv 1,.bool true,.slice (some ⟨kN,0,none⟩) 1 1,.bool false,iv 1,.string ⟨#[]⟩,.string ⟨#[]⟩,iv 7,iv 0,.slice none 0 0] 45 (0,0)),(kN,Obj.cells #[.string ⟨#[102]⟩] 9 (0,0))] from by rw [← hW4];exact S3.out.alloc hkM _)
 have MR:=Qo0 (fun V (g : Gr W4 V) (k : Nat) (hk : V.heap[k]? = some (.cells #[.string ⟨#[109]⟩,.slice none 0 0,.slice (some ⟨kD,0,none⟩) 1 1] 39 (0,0))) => show MRd V (some ⟨k,0,none⟩) 1 [aM kN kD] from ⟨⟨by simp,by simp,fun h => (by cases h),Qj (t:=39) Mod.cs_len hk⟩,fun m hm => by
  rw [List.mem_singleton.1 hm]
  exact aM_rd (Qe g (S4.out.f (kN,Obj.cells #[.string ⟨#[102]⟩] 9 (0,0)) (by simp))) (Qe g (S4.out.f (kD,Obj.cells #[iv 1,iv 1,.bool true,.slice (some ⟨kN,0,none⟩) 1 1,.bool false,iv 1,.string ⟨#[]⟩,.string ⟨#[]⟩,iv 7,iv 0,.slice none 0 0] 45 (0,0)) (by simp)))⟩)
 have CD:=Qo0 (show Calls Tryz.prog 8 #[.slice none 0 0,.slice (some ⟨kM,0,none⟩) 1 1] W4 (fun e w' => ∃ aT cT lT,e = .returned (.tuple #[.slice aT (List.length lT) cT,iv 0]) ∧ TRd w' aT cT lT ∧ lT.map Edt.er = Xc (([] : List Mod).map Mod.er) ([aM kN kD].map Mod.er) ∧ Gr W4 w') from by
  refine (show Calls Tryz.prog 8 #[.slice none 0 0,.slice (some ⟨kM,0,none⟩) 1 1] W4 _ from Qdx none 0 [] (some ⟨kM,0,none⟩) 1 [aM kN kD] W4 (MRd.nil _) (MR.out _ (Qc _) kM (S4.out.f (kM,Obj.cells #[.string ⟨#[109]⟩,.slice none 0 0,.slice (some ⟨kD,0,none⟩) 1 1] 39 (0,0)) (by simp))) (by simp) (by simp)).mono ?_
  rintro e w' ⟨g,h⟩
  rcases h with ⟨r,_,_,hno⟩ | ⟨aT,cT,lT,rfl,hm1,hm2,ht,he⟩
  ·exact absurd ⟨Qgb,Qjb kN kD⟩ hno
  ·exact ⟨aT,cT,lT,rfl,ht,he,g⟩)
 have HW4:=Qo0 hW4
 have HKM:=Qo0 hkM
 clear hW4
 go_upto_region 4 with (go_at_call 8;rw [HW4.out];(with_reducible refine (CD.out).mono ?_);rintro e W5 ⟨aT,cT,lT,rfl,ht,he,g⟩;have S5:=Qo0 (show HS w W5 [(kM,Obj.cells #[.string ⟨#[109]⟩,.slice none 0 0,.slice (some ⟨kD,0,none⟩) 1 1] 39 (0,0)),(b2,Obj.cells #[.string ⟨#[109]⟩,.slice (some ⟨gX,0,none⟩) 1 cX] 51 (0,0)),(gX,Obj.cells uX 68 (0,0)),(b1,Obj.cells #[.string ⟨#[109]⟩,.slice none 0 0,.slice (some ⟨kD,0,none⟩) 1 1] 39 (0,0)),(kD,Obj.cells #[iv 1,iv 1,.bool true,.slice (some ⟨kN,0,none⟩) 1 1,.bool false,iv 1,.string ⟨#[]⟩,.string ⟨#[]⟩,iv 7,iv 0,.slice none 0 0] 45 (0,0)),(kN,Obj.cells #[.string ⟨#[102]⟩] 9 (0,0))] from S4.out.gr g);have G5:=Qo0 g;have HT:=Qo0 ht;have HE:=Qo0 he;clear g ht he x4 x5 x6)
 clear hkM
 have HL:=Qo0 (show lT.length = 2 from by have h:=congrArg List.length HE.out;rw [List.length_map] at h;rw [h];exact aw_two kN kD)
 have CA:=Qo0 (show Calls Tryz.prog 10 #[.slice none 0 0,.slice aT lT.length cT] W5 _ from Qbj none 0 [] aT cT lT W5 (MRd.nil _) HT.out (by simp) (by rw [HL.out];omega) (by simp) Qgb (fun e he => (Qcc Qgb (Qjb kN kD)).2 e.er (by have h : e.er ∈ lT.map Edt.er:=List.mem_map.2 ⟨e,he,rfl⟩;rw [HE.out] at h;exact h)) [(aM kN kD).er] (by have h:=HE.out;simp only [List.map_nil,List.map_cons] at h ⊢;rw [h];exact (Qcc Qgb (Qjb kN kD)).1) (by intro m hm;rw [List.mem_singleton.1 hm];exact (Qcg _).1 (Qku kN kD)))
 rw [HL.out] at CA
 (try rw [HL.out])
 go_upto_region 5 with (go_at_call 10;(with_reducible refine (CA.out).mono ?_);rintro e W6 ⟨aY,cY,lY,rfl,he,hm,g⟩;have S6:=Qo0 (show HS w W6 [(kM,Obj.cells #[.string ⟨#[109]⟩,.slice none 0 0,.slice (some ⟨kD,0,none⟩) 1 1] 39 (0,0)),(b2,Obj.cells #[.string ⟨#[109]⟩,.slice (some ⟨gX,0,none⟩) 1 cX] 51 (0,0)),(gX,Obj.cells uX 68 (0,0)),(b1,Obj.cells #[.string ⟨#[109]⟩,.slice none 0 0,.slice (some ⟨kD,0,none⟩) 1 1] 39 (0,0)),(kD,Obj.cells #[iv 1,iv 1,.bool true,.slice (some ⟨kN,0,none⟩) 1 1,.bool false,iv 1,.string ⟨#[]⟩,.string ⟨#[]⟩,iv 7,iv 0,.slice none 0 0] 45 (0,0)),(kN,Obj.cells #[.string ⟨#[102]⟩] 9 (0,0))] from S5.out.gr g);have G6:=Qo0 (G5.out.trans g);have HY:=Qo0 (And.intro he hm);clear he hm g)
 have x7 : W6.cell? ⟨b1,0,none⟩ = some (.string ⟨#[109]⟩):=S6.out.cell (b:=b1) (C:=#[.string ⟨#[109]⟩,.slice none 0 0,.slice (some ⟨kD,0,none⟩) 1 1]) (t:=39) (by simp) 0
 have x8 : W6.cell? ⟨b1,1,none⟩ = some (.slice none 0 0):=S6.out.cell (b:=b1) (C:=#[.string ⟨#[109]⟩,.slice none 0 0,.slice (some ⟨kD,0,none⟩) 1 1]) (t:=39) (by simp) 1
 have x9 : W6.cell? ⟨b1,2,none⟩ = some (.slice (some ⟨kD,0,none⟩) 1 1):=S6.out.cell (b:=b1) (C:=#[.string ⟨#[109]⟩,.slice none 0 0,.slice (some ⟨kD,0,none⟩) 1 1]) (t:=39) (by simp) 2
 have x10 : W6.cell? ⟨b2,1,none⟩ = some (.slice (some ⟨gX,0,none⟩) 1 cX):=S6.out.cell (b:=b2) (C:=#[.string ⟨#[109]⟩,.slice (some ⟨gX,0,none⟩) 1 cX]) (t:=51) (by simp) 1
 have y3 : W6.cell? ⟨gX,3,none⟩ = some (iv 1):=(S6.out.cell (show (gX,Obj.cells uX 68 (0,0)) ∈ [(kM,Obj.cells #[.string ⟨#[109]⟩,.slice none 0 0,.slice (some ⟨kD,0,none⟩) 1 1] 39 (0,0)),(b2,Obj.cells #[.string ⟨#[109]⟩,.slice (some ⟨gX,0,none⟩) 1 cX] 51 (0,0)),(gX,Obj.cells uX 68 (0,0)),(b1,Obj.cells #[.string ⟨#[109]⟩,.slice none 0 0,.slice (some ⟨kD,0,none⟩) 1 1] 39 (0,0)),(kD,Obj.cells #[iv 1,iv 1,.bool true,.slice (some ⟨kN,0,none⟩) 1 1,.bool false,iv 1,.string ⟨#[]⟩,.string ⟨#[]⟩,iv 7,iv 0,.slice none 0 0] 45 (0,0)),(kN,Obj.cells #[.string ⟨#[102]⟩] 9 (0,0))] from by simp) 3).trans (HuX.out 3 _ rfl)
 obtain ⟨W7,hW7⟩ : ∃ W,W6.alloc (.cells #[.string ⟨#[109]⟩,.slice none 0 0,.slice (some ⟨kD,0,none⟩) 1 1] 39) = W:=⟨_,rfl⟩
 have G7:=Qo0 (show Gr W6 W7 from by rw [← hW7];exact Qa _ _)
 have CS:=Qo0 (show Calls Tryz.prog 12 #[.slice aY lY.length cY,.slice (some ⟨W6.heap.size,0,none⟩) 1 1] W7 _ from Qaf aY cY lY (some ⟨W6.heap.size,0,none⟩) 1 [aM kN kD] W7 (HY.out.2.gr G7.out) (MR.out _ (G6.out.trans G7.out) _ (by rw [← hW7];exact Qd _ _)) (by rw [HY.out.1];rfl))
 have HW7:=Qo0 hW7
 clear hW7
 go_wp2_with (go_at_call 12;rw [HW7.out];(with_reducible refine (CS.out).mono ?_);rintro e W8 ⟨rfl,g⟩;have G8:=Qo0 g;clear g;(try dsimp only))
 go_ret
 exact ⟨rfl,S6.out.g.trans (G7.out.trans G8.out)⟩
end Go.Proofs.YtiaenhlflgobfaaGreatDoor
namespace Go.Proofs.YtiaenhlflgobfaaGreatDoor
open Go.RowKit
set_option maxRecDepth 100000 in
set_option maxHeartbeats 4000000 in
attribute [local irreducible] Calls in
theorem Qfm (k : Int) (w : World) (h1 : 1 ≤ k) (h9 : k ≤ 9) : Calls Tryz.prog 32 #[iv k] w fun e w' => e = .returned (iv (opp k)) ∧ w' = w:=by
 have hk : k = 1 ∨ k = 2 ∨ k = 3 ∨ k = 4 ∨ k = 5 ∨ k = 6 ∨ k = 7 ∨ k = 8 ∨ k = 9:=by omega
 rcases hk with rfl | rfl | rfl | rfl | rfl | rfl | rfl | rfl | rfl
 all_goals go_enter Tryz.func32,Tryz.ntmps32
 all_goals go_wp2
 all_goals go_ret
 all_goals exact ⟨rfl,rfl⟩
def Edt.inv (e : Edt) : Edt:=⟨opp e.kind,e.pack,e.text,e.nA,e.nc,e.new,e.oA,e.oc,e.old⟩
def Qdg : Edt:=⟨0,[],[],none,0,[],none,0,[]⟩
theorem Qlm (n : Nat) : (madeCells (Value.cells (.agg #[.int .i64 0,.string ⟨#[]⟩,.string ⟨#[]⟩,.slice none 0 0,.slice none 0 0])) (n * 5)).toList = (List.replicate n Qdg).flatMap Edt.cs:=by
 have hl : ((List.replicate n Qdg).flatMap Edt.cs).length = n * 5:=by rw [Qk Edt.cs 5 Edt.cs_len,List.length_replicate]
 apply List.ext_getElem?
 intro j
 by_cases hj : j < n * 5
 ·have h3 : j % 5 < 5:=Nat.mod_lt _ (by omega)
  have hd : j / 5 < n:=Nat.div_lt_of_lt_mul (by omega)
  have e2 : j / 5 * 5 + j % 5 = j:=by omega
  have e4:=Qai Edt.cs 5 Edt.cs_len h3 (List.replicate n Qdg) (j / 5) (x:=Qdg) (by rw [List.getElem?_replicate,if_pos hd])
  rw [e2] at e4
  rw [e4]
  unfold madeCells
  rw [Array.getElem?_toList,Array.getElem?_map,Array.getElem?_range,if_pos hj]
  have h012 : j % 5 = 0 ∨ j % 5 = 1 ∨ j % 5 = 2 ∨ j % 5 = 3 ∨ j % 5 = 4:=by omega
  have hsz : (Value.cells (.agg #[.int .i64 0,.string ⟨#[]⟩,.string ⟨#[]⟩,.slice none 0 0,.slice none 0 0])).size = 5:=rfl
  simp only [Option.map_some,hsz]
  rcases h012 with h | h | h | h | h <;> rw [h] <;> rfl
 ·rw [List.getElem?_eq_none (by rw [Array.length_toList,size_madeCells];omega),List.getElem?_eq_none (by rw [hl];omega)]
theorem Qab (pre post : List Edt) (c : List Value) (u : Value) (j : Nat) (hj : j < 5) (hl : c.length = 5) : (pre.flatMap Edt.cs ++ (c ++ post.flatMap Edt.cs)).set (pre.length * 5 + j) u = pre.flatMap Edt.cs ++ (c.set j u ++ post.flatMap Edt.cs):=by
 have hl0 : (pre.flatMap Edt.cs).length = pre.length * 5:=Qk Edt.cs 5 Edt.cs_len pre
 rw [List.set_append_right _ _ (by omega),hl0,Nat.add_sub_cancel_left,List.set_append_left _ _ (by rw [hl];exact hj)]
theorem OR.fillE {V : World} {B gg n cap : Nat} {pre post : List Edt} {z e : Edt} (o : OR 32 5 Edt.cs V B (.slice (some ⟨gg,0,none⟩) n cap) (pre ++ z :: post)) :
 OR 32 5 Edt.cs (((((V.setCell ⟨gg,pre.length * 5,none⟩ (iv e.kind)).setCell ⟨gg,pre.length * 5 + 1,none⟩ (tv e.pack)).setCell ⟨gg,pre.length * 5 + 2,none⟩ (tv e.text)).setCell ⟨gg,pre.length * 5 + 3,none⟩ (.slice e.oA e.old.length e.oc)).setCell ⟨gg,pre.length * 5 + 4,none⟩ (.slice e.nA e.new.length e.nc)) B (.slice (some ⟨gg,0,none⟩) n cap) (pre ++ e :: post) ∧ V.grownBy (((((V.setCell ⟨gg,pre.length * 5,none⟩ (iv e.kind)).setCell ⟨gg,pre.length * 5 + 1,none⟩ (tv e.pack)).setCell ⟨gg,pre.length * 5 + 2,none⟩ (tv e.text)).setCell ⟨gg,pre.length * 5 + 3,none⟩ (.slice e.oA e.old.length e.oc)).setCell ⟨gg,pre.length * 5 + 4,none⟩ (.slice e.nA e.new.length e.nc)) (some gg):=by
 have hnn : n = (pre ++ z :: post).length:=by
  rcases o.2 with ⟨h1,_⟩ | ⟨g',cap',cur,e1,_⟩
  ·cases h1
  ·exact (Value.slice.inj e1).2.1
 have st : V.ownsRow B 32 5 (.slice (some ⟨gg,0,none⟩) n cap) n (pre.flatMap Edt.cs ++ (z.cs ++ post.flatMap Edt.cs)):=by
  have h1:=o
  unfold OR at h1
  rw [← hnn] at h1
  simpa using h1
 have s0:=st.stored (pre.length * 5 + 0) (iv e.kind)
 rw [Qab pre post _ _ 0 (by decide) (by simp [Edt.cs])] at s0
 have s1:=s0.1.stored (pre.length * 5 + 1) (tv e.pack)
 rw [Qab pre post _ _ 1 (by decide) (by simp [Edt.cs])] at s1
 have s2:=s1.1.stored (pre.length * 5 + 2) (tv e.text)
 rw [Qab pre post _ _ 2 (by decide) (by simp [Edt.cs])] at s2
 have s3:=s2.1.stored (pre.length * 5 + 3) (.slice e.oA e.old.length e.oc)
 rw [Qab pre post _ _ 3 (by decide) (by simp [Edt.cs])] at s3
 have s4:=s3.1.stored (pre.length * 5 + 4) (.slice e.nA e.new.length e.nc)
 rw [Qab pre post _ _ 4 (by decide) (by simp [Edt.cs])] at s4
 refine ⟨?_,((((s0.2).trans s1.2).trans s2.2).trans s3.2).trans s4.2⟩
 unfold OR
 rw [show (pre ++ e :: post).length = n from by rw [hnn];simp,List.flatMap_append,List.flatMap_cons]
 exact s4.1
theorem OR.cellE {V : World} {B gg n cap : Nat} {L : List Edt} (o : OR 32 5 Edt.cs V B (.slice (some ⟨gg,0,none⟩) n cap) L) {k : Nat} {x : Edt} (hx : L[k]? = some x) (i : Nat) (u : Value) (hu : x.cs[i]? = some u) : V.cell? ⟨gg,k * 5 + i,none⟩ = some u:=by
 obtain ⟨A,c,e1,r⟩:=o.form Edt.cs_len
 cases e1
 obtain ⟨hk,rfl⟩:=List.getElem?_eq_some_iff.1 hx
 obtain ⟨a,e,hb,hc⟩:=r.at hk
 cases e
 have h:=hc i u hu
 have ha : ((⟨gg,0,none⟩ : Addr).add (k * 5 + i)) = ⟨gg,k * 5 + i,none⟩:=by
  by_cases e0 : k * 5 + i = 0
  ·rw [e0];rfl
  ·rw [Qh _ _ e0];simp
 rw [ha] at h
 exact h
def HE5 (V : World) (k : Nat) (C : Array Value) : Prop:=V.heap[k]? = some (.cells C 32 (0,0))
theorem hE_eq {V : World} {k : Nat} {C E : Array Value} (h : HE5 V k C) (e : C = E) : HE5 V k E:=e ▸ h
theorem hE_drew {V : World} {k : Nat} {C : Array Value} (h : HE5 V k C) : HE5 V.drew k C:=h
theorem Qin {V : World} {k j : Nat} {u : Value} {C : Array Value} (h : HE5 V k C) : HE5 (V.setCell ⟨k,j,none⟩ u) k (C.setIfInBounds j u):=by
 unfold HE5 at h ⊢
 simp [World.setCell,Array.getElem?_modify,h]
theorem gr_trE {a b c : World} (h : Gr a b) (k : Gr b c) : Gr a c:=h.trans k
theorem boxE {G : Act → World → Prop} {tm : Array Value} {df : List Deferred} {wr V : World} {C : Array Value} (bk : Nat) (g : Gr wr V) (f : HE5 V bk C) (rest : ∀ V',Gr wr V' → HE5 V' bk C → G ⟨tm,df⟩ V') : G ⟨tm,df⟩ V:=rest V g f
set_option maxRecDepth 100000 in
set_option maxHeartbeats 4000000 in
attribute [local irreducible] Calls in
theorem Qid (Aa : Option Addr) (c : Nat) (es : List Edt) (w : World) (hE : TRd w Aa c es) (hes : es.length ≤ 100000) (hk : ∀ e ∈ es,1 ≤ e.kind ∧ e.kind ≤ 9) :
 Calls Tryz.prog 11 #[.slice Aa es.length c] w fun y w' => ∃ A' c' L,y = .returned (.slice A' L.length c') ∧ L.map Edt.er = inv (es.map Edt.er) ∧ TRd w' A' c' L ∧ Gr w w':=by
 obtain ⟨n,hln⟩ : ∃ n,es.length = n:=⟨_,rfl⟩
 have HN:=Qo0 hln
 have HE:=Qo0 (fun V (g : Gr w V) => hE.gr g)
 have HK:=Qo0 hk
 have C32:=Qo0 (fun e (he : e ∈ es) V => Qfm e.kind V (hk e he).1 (hk e he).2)
 obtain ⟨i22,hi22,hz22,hs22,hb22⟩:=info_parts (show (Tryz.prog.info? 32).map (fun i => (i.zero,i.size,i.bytes)) = some (some (.agg #[.int .i64 0,.string ⟨#[]⟩,.string ⟨#[]⟩,.slice none 0 0,.slice none 0 0]),5,88) by kernel_rfl)
 rw [hln] at hes ⊢
 clear hE hk hln
 go_enter Tryz.func11,Tryz.ntmps11
 go_wp2_with (refine wpList_make_full _ rfl _ _ 25 rfl w.heap.size 32 i22 (.agg #[.int .i64 0,.string ⟨#[]⟩,.string ⟨#[]⟩,.slice none 0 0,.slice none 0 0]) 5 Tryz.underlying25 hi22 hz22 hs22 .i64 .i64 _ _ n rfl rfl rfl rfl (by rw [hb22];omega) (by unfold maxLen;omega) (Nat.le_refl _) ?_;intro w2 r2 g2;have R2:=Qo0 r2;have G2:=Qo0 g2;clear r2 g2)
 obtain ⟨gg,hgg⟩ : ∃ gg,w.heap.size = gg:=⟨_,rfl⟩
 have A0:=Qo0 (show OR 32 5 Edt.cs w2 gg (.slice (some ⟨gg,0,none⟩) n n) (List.replicate (n - 0) Qdg ++ ((es.take 0).map Edt.inv).reverse) from by
  have h:=R2.out
  rw [Qlm] at h
  unfold OR
  rw [hgg] at h
  simpa using h)
 have HG:=Qo0 hgg
 simp only [hgg]
 clear hgg R2 hi22 hz22 hs22 hb22
 go_loopw [4,5,11] (fun _ _ i V => ∃ j : Nat,j ≤ n ∧ i = iv j ∧ Hid (OR 32 5 Edt.cs V gg (.slice (some ⟨gg,0,none⟩) n n) (List.replicate (n - j) Qdg ++ ((es.take j).map Edt.inv).reverse) ∧ Gr w V)) (fun _ _ i _ => n - (intOf i).toNat)
 case atStart => exact ⟨0,by omega,by first | rfl | trivial,Qo0 ⟨A0.out,G2.out⟩⟩
 case round =>
  obtain ⟨j,hj,rfl,HI⟩:=hrel
  clear A0
  by_cases hlt : j < n
  ·obtain ⟨e,he⟩ : ∃ e,es[j]? = some e:=⟨_,List.getElem?_eq_getElem (by rw [HN.out];exact hlt)⟩
   obtain ⟨a,a1,rfl,ha,hab,d0,d1,d2,d3,d4⟩:=rdT (HE.out _ HI.out.2).r he
   have hmem:=List.mem_of_getElem? he
   have C5:=Qo0 (C32.out e hmem)
   obtain ⟨q,hq⟩ : ∃ q,n - 1 - j = q:=⟨_,rfl⟩
   have HQ:=Qo0 (show n - j = q + 1 ∧ n - (j + 1) = q from by omega)
   have HT:=Qo0 (show ((es.take (j + 1)).map Edt.inv).reverse = e.inv :: ((es.take j).map Edt.inv).reverse from by
    obtain ⟨hjl,hmm⟩:=List.getElem?_eq_some_iff.1 he
    rw [List.take_succ_eq_append_getElem hjl,hmm,List.map_append,List.reverse_append]
    rfl)
   have OO:=Qo0 (show OR 32 5 Edt.cs wr gg (.slice (some ⟨gg,0,none⟩) n n) (List.replicate q Qdg ++ Qdg :: ((es.take j).map Edt.inv).reverse) from by
    have h:=HI.out.1
    rw [HQ.out.1,List.replicate_succ',List.append_assoc] at h
    exact h)
   have hlt2 : (j : Int) < (n : Int):=by omega
   have w1 : IntKind.i64.wrap ((n : Int) - 1) = (n : Int) - 1:=IntWalk.i64_in _ ⟨by omega,by omega⟩
   have w2 : (n : Int) - 1 - (j : Int) = (q : Int):=by omega
   have w3 : IntKind.i64.wrap ((n : Int) - 1 - (j : Int)) = (q : Int):=by rw [IntWalk.i64_in _ ⟨by omega,by omega⟩];omega
   have hqn : (q : Int) < (n : Int):=by omega
   have hqn2 : q < n:=by omega
   obtain ⟨W1,hW1⟩ : ∃ W1,wr.alloc (.cells #[iv e.kind,tv e.pack,tv e.text,.slice e.oA e.old.length e.oc,.slice e.nA e.new.length e.nc] 32) = W1:=⟨_,rfl⟩
   obtain ⟨bk,hbk⟩ : ∃ bk,wr.heap.size = bk:=⟨_,rfl⟩
   have GB:=Qo0 (show gg < bk from by rw [← hbk];exact (OO.out.lt gg rfl).2)
   have B1:=Qo0 (show W1.heap[bk]? = some (.cells #[iv e.kind,tv e.pack,tv e.text,.slice e.oA e.old.length e.oc,.slice e.nA e.new.length e.nc] 32 (0,0)) from by rw [← hW1,← hbk];exact Qd _ _)
   have G1:=Qo0 (show Gr wr W1 from by rw [← hW1];exact Qa _ _)
   have HW1:=Qo0 hW1
   clear he hmem hW1 hq
   go_upto_region 5 with fail
   rw [HW1.out]
   have HBK:=Qo0 hbk
   clear hbk d0 d1 d2 d3 d4 hab ha
   have z0 : W1.cell? ⟨bk,0,none⟩ = some (iv e.kind):=Lib.cell_of_heap B1.out 0
   have z1 : W1.cell? ⟨bk,1,none⟩ = some (tv e.pack):=Lib.cell_of_heap B1.out 1
   have z2 : W1.cell? ⟨bk,2,none⟩ = some (tv e.text):=Lib.cell_of_heap B1.out 2
   have z3 : W1.cell? ⟨bk,3,none⟩ = some (.slice e.oA e.old.length e.oc):=Lib.cell_of_heap B1.out 3
   have z4 : W1.cell? ⟨bk,4,none⟩ = some (.slice e.nA e.new.length e.nc):=Lib.cell_of_heap B1.out 4
   have zf:=Lib.frozen_of_heap B1.out
   go_region_law (first | (go_simp;go_at_call 32;(with_reducible refine (C5.out _).mono ?_);rintro x w5 ⟨rfl,rfl⟩))
   all_goals refine boxE (wr:=wr) (C:=#[iv (opp e.kind),tv e.pack,tv e.text,.slice e.nA e.new.length e.nc,.slice e.oA e.old.length e.oc]) bk (by repeat' (first | exact G1.out | refine gr_trE ?_ (Qb _) | (refine Qv ?_ (by have:=HBK.out;omega) _))) (hE_eq (hE_drew (Qin (Qin (Qin B1.out)))) rfl) ?_
   all_goals clear z0 z1 z2 z3 z4 zf
   all_goals intro W5 g5 f5
   all_goals have G5:=Qo0 g5
   all_goals have z0 : W5.cell? ⟨bk,0,none⟩ = some (iv (opp e.kind)):=Lib.cell_of_heap f5 0
   all_goals have z1 : W5.cell? ⟨bk,1,none⟩ = some (tv e.pack):=Lib.cell_of_heap f5 1
   all_goals have z2 : W5.cell? ⟨bk,2,none⟩ = some (tv e.text):=Lib.cell_of_heap f5 2
   all_goals have z3 : W5.cell? ⟨bk,3,none⟩ = some (.slice e.nA e.new.length e.nc):=Lib.cell_of_heap f5 3
   all_goals have z4 : W5.cell? ⟨bk,4,none⟩ = some (.slice e.oA e.old.length e.oc):=Lib.cell_of_heap f5 4
   all_goals clear g5 f5
   all_goals have O5:=Qo0 (OO.out.gr G5.out)
   all_goals have hz : (List.replicate q Qdg ++ Qdg :: ((es.take j).map Edt.inv).reverse)[q]? = some Qdg:=by rw [List.getElem?_append_right (by simp),List.length_replicate,Nat.sub_self];rfl
   all_goals have y0 : W5.cell? ⟨gg,q * 5,none⟩ = some _:=O5.out.cellE hz 0 _ rfl
   all_goals have y1:=O5.out.cellE hz 1 _ rfl
   all_goals have y2:=O5.out.cellE hz 2 _ rfl
   all_goals have y3:=O5.out.cellE hz 3 _ rfl
   all_goals have y4:=O5.out.cellE hz 4 _ rfl
   all_goals have yf:=O5.out.frz
   all_goals have ylt:=(O5.out.lt gg rfl).2
   all_goals have FN:=Qo0 (OR.fillE (e:=e.inv) O5.out)
   all_goals clear hz
   all_goals go_wp2
   all_goals exact ⟨⟨j + 1,by omega,by simp,Qo0 ⟨by rw [HT.out,HQ.out.2];have h:=FN.out.1;rw [List.length_replicate] at h;exact h,OR.grow (HI.out.2.trans G5.out) O5.out (by rw [HG.out];exact Nat.le_refl _) (by have h:=FN.out.2;rw [List.length_replicate] at h;exact h)⟩⟩,by simp [intOf];omega⟩
  ·obtain rfl : j = n:=by omega
   have hnj : ¬ (j : Int) < (j : Int):=by omega
   have FF:=Qo0 (show OR 32 5 Edt.cs wr gg (.slice (some ⟨gg,0,none⟩) j j) ((es.map Edt.inv).reverse) from by
    have h:=HI.out.1
    rw [Nat.sub_self,List.replicate_zero,List.nil_append,List.take_of_length_le (by rw [HN.out];exact Nat.le_refl _)] at h
    exact h)
   have GG:=Qo0 HI.out.2
   clear HI
   go_wp2
   go_ret
   obtain ⟨A9,c9,e9,r9,hc9,hm9,h09,-⟩:=FF.out.form2 Edt.cs_len
   refine ⟨A9,c9,(es.map Edt.inv).reverse,congrArg Ending.returned e9,?_,⟨⟨hc9,hm9,h09,r9⟩,fun e he => ?_⟩,GG.out⟩
   ·unfold inv
    rw [List.map_reverse,List.map_map,List.map_map]
    rfl
   ·obtain ⟨x,hx,rfl⟩:=List.mem_map.1 (List.mem_reverse.1 he)
    have h:=(HE.out _ GG.out).e x hx
    exact ⟨h.p,h.t,h.n,h.o⟩
end Go.Proofs.YtiaenhlflgobfaaGreatDoor
namespace Go.Proofs.YtiaenhlflgobfaaGreatDoor
open Go.RowKit Go.Maps
def Qdl : List PM → Nat
 | [] => 0
 | m :: l => m.decls.length + Qdl l
def Qdk : List PM → Nat
 | [] => 0
 | m :: l => m.uses.length + Qdk l
theorem Qlf (a b : List PM) : ((Qx a b).flatMap Yx).length ≤ b.length ∧ ((Qx a b).flatMap (fun p => Yp 3 p.label p.b.uses p.a.uses)).length ≤ Qdk b ∧ ((Qx a b).flatMap (fun p => Qu p.label p.a.decls p.b.decls)).length ≤ 3 * (Qdl a + Qdl b) ∧ ((Qx a b).flatMap (fun p => Yp 4 p.label p.a.uses p.b.uses)).length ≤ Qdk a ∧ ((Qx a b).flatMap Yr).length ≤ a.length:=by
 fun_induction Qx a b with
 | case1 => simp
 | case2 x a ih =>
   have u1:=Zx 3 x.label zM.uses x.uses
   have u2:=Zx 4 x.label x.uses zM.uses
   have u3:=Yw x.label x.decls zM.decls
   have z1 : zM.uses.length = 0:=rfl
   have z2 : zM.decls.length = 0:=rfl
   simp only [List.flatMap_cons,List.length_append,List.length_cons,Qdk,Qdl,Yx,Yr,if_true,List.length_nil] at ih ⊢
   simp only [Bool.false_eq_true,if_false,List.length_cons,List.length_nil]
   refine ⟨?_,?_,?_,?_,?_⟩ <;> omega
 | case3 y b ih =>
   have u1:=Zx 3 y.label y.uses zM.uses
   have u2:=Zx 4 y.label zM.uses y.uses
   have u3:=Yw y.label zM.decls y.decls
   have z1 : zM.uses.length = 0:=rfl
   have z2 : zM.decls.length = 0:=rfl
   simp only [List.flatMap_cons,List.length_append,List.length_cons,Qdk,Qdl,Yx,Yr,if_true,List.length_nil] at ih ⊢
   simp only [Bool.false_eq_true,if_false,List.length_cons,List.length_nil]
   refine ⟨?_,?_,?_,?_,?_⟩ <;> omega
 | case4 x a y b h ih =>
   have u1:=Zx 3 x.label zM.uses x.uses
   have u2:=Zx 4 x.label x.uses zM.uses
   have u3:=Yw x.label x.decls zM.decls
   have z1 : zM.uses.length = 0:=rfl
   have z2 : zM.decls.length = 0:=rfl
   simp only [List.flatMap_cons,List.length_append,List.length_cons,Qdk,Qdl,Yx,Yr,if_true,List.length_nil] at ih ⊢
   simp only [Bool.false_eq_true,if_false,List.length_cons,List.length_nil]
   refine ⟨?_,?_,?_,?_,?_⟩ <;> omega
 | case5 x a y b h k ih =>
   have u1:=Zx 3 y.label y.uses zM.uses
   have u2:=Zx 4 y.label zM.uses y.uses
   have u3:=Yw y.label zM.decls y.decls
   have z1 : zM.uses.length = 0:=rfl
   have z2 : zM.decls.length = 0:=rfl
   simp only [List.flatMap_cons,List.length_append,List.length_cons,Qdk,Qdl,Yx,Yr,if_true,List.length_nil] at ih ⊢
   simp only [Bool.false_eq_true,if_false,List.length_cons,List.length_nil]
   refine ⟨?_,?_,?_,?_,?_⟩ <;> omega
 | case6 x a y b h k ih =>
   have u1:=Zx 3 y.label y.uses x.uses
   have u2:=Zx 4 y.label x.uses y.uses
   have u3:=Yw y.label x.decls y.decls
   simp only [List.flatMap_cons,List.length_append,List.length_cons,Qdk,Qdl,Yx,Yr,if_true,List.length_nil] at ih ⊢
   refine ⟨?_,?_,?_,?_,?_⟩ <;> omega
theorem Qcm : ∀ (l : List PM),(∀ m ∈ l,oks.Mod m) → Qdl l ≤ 100 * l.length ∧ Qdk l ≤ 20 * l.length
 | [],_ => by simp [Qdl,Qdk]
 | m :: l,h => by
   have h1:=Qb7 (h m (by simp))
   have h2:=Qcm l (fun x hx => h x (by simp [hx]))
   simp only [Qdl,Qdk,List.length_cons]
   omega
theorem Qiy {a b : List PM} (ha : oks.Mods a) (hb : oks.Mods b) (hn : a.length ≤ 4) (hm : b.length ≤ 4) : (Xc a b).length ≤ 2600:=by
 obtain ⟨h1,h2,h3,h4,h5⟩:=Qlf a b
 have s1:=Qcm a ha.mods
 have s2:=Qcm b hb.mods
 unfold Xc
 simp only [List.length_append]
 omega
theorem Qie (l : List PT) : (inv l).length = l.length:=by simp [inv]
end Go.Proofs.YtiaenhlflgobfaaGreatDoor
namespace Go.Proofs.YtiaenhlflgobfaaGreatDoor
open Go.RowKit Go.Maps
theorem Qbs {L : List Mod} (h : oks.Mods (L.map Mod.er)) : ∀ m ∈ L,m.uses.length ≤ 1000 ∧ m.decls.length ≤ 1000:=by
 intro m hm
 have h1:=Qb7 (h.mods m.er (List.mem_map.2 ⟨m,hm,rfl⟩))
 have h2 : m.er.decls.length = m.decls.length:=List.length_map ..
 have h3 : m.er.uses.length = m.uses.length:=rfl
 omega
end Go.Proofs.YtiaenhlflgobfaaGreatDoor

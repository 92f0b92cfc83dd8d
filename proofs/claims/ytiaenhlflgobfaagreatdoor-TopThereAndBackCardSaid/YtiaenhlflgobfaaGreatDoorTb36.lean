/- Walks and words: AwA, AwB, AwH, AwC, AwD, AwE, DeG, AwF. -/
import Derived.Test.YtiaenhlflgobfaaGreatDoorTb5
import Derived.Test.YtiaenhlflgobfaaGreatDoorTb17
import Derived.Test.YtiaenhlflgobfaaGreatDoorTb18
import Derived.Test.YtiaenhlflgobfaaGreatDoorTb19
import Derived.Test.YtiaenhlflgobfaaGreatDoorTb20
import Derived.Test.YtiaenhlflgobfaaGreatDoorTb35
import Derived.Deep.RegionLaw
namespace Go.Proofs.YtiaenhlflgobfaaGreatDoor
open Go.RowKit
def aB : Ex:=.mk 1 [] [] 7 0 none 0 []
def aBv : Value:=.agg #[iv 1,.string ⟨#[]⟩,.string ⟨#[]⟩,iv 7,iv 0,.slice none 0 0]
set_option maxRecDepth 100000 in
set_option maxHeartbeats 4000000 in
attribute [local irreducible] Calls in
theorem Qha (f : Value) (w : World) : Calls Tryz.prog 196 #[.slice none 0 0,f] w fun e w' => e = .returned (iv (-1)) ∧ w' = w:=by
 go_enter Tryz.func196,Tryz.ntmps196
 go_wp2
 refine wp_loop_rounds 1 ?_
 rw [rounds_succ]
 go_wp2
 go_ret
 exact ⟨rfl,rfl⟩
set_option maxRecDepth 100000 in
set_option maxHeartbeats 4000000 in
attribute [local irreducible] Calls in
theorem Qd3 (f : Value) (w : World) : Calls Tryz.prog 151 #[.slice none 0 0,f] w fun e w' => e = .returned (.bool false) ∧ w' = w:=by
 go_enter Tryz.func151,Tryz.ntmps151
 go_wp2_with (go_at_call 196;(with_reducible refine (Qha f _).mono ?_);rintro e w1 ⟨rfl,rfl⟩)
 go_ret
 exact ⟨rfl,rfl⟩
set_option maxRecDepth 100000 in
set_option maxHeartbeats 4000000 in
attribute [local irreducible] Calls in
theorem Qny (w : World) : Calls Tryz.prog 116 #[aBv] w fun e w' => e = .returned (.bool false) ∧ Gr w w':=by
 have c0:=Zw aB w _ (Qc _)
 obtain ⟨c0,c1,c2,c3,c4,c5⟩:=c0
 simp only [aB,Ex.kind,Ex.name,Ex.more,Ex.int,Ex.den,Ex.A,Ex.c,Ex.sub,List.length_nil] at c0 c1 c2 c3 c4 c5
 unfold aBv
 go_enter Tryz.func116,Tryz.ntmps116
 go_wp2_with (go_at_call 151;(with_reducible refine (Qd3 _ _).mono ?_);rintro e w1 ⟨rfl,rfl⟩;(try dsimp only))
 go_ret
 exact ⟨rfl,Qa _ _⟩
set_option maxRecDepth 100000 in
set_option maxHeartbeats 4000000 in
attribute [local irreducible] Calls in
theorem Qnj (k : Int) (w : World) : Calls Tryz.prog 125 #[iv k,.slice none 0 0] w fun e w' => e = .returned (.pointer (some ⟨w.heap.size,0,none⟩)) ∧ w' = w.alloc (.cells #[.pointer none,iv k,.slice none 0 0,iv 0] 206):=by
 go_enter Tryz.func125,Tryz.ntmps125
 go_wp2
 go_ret
 exact ⟨rfl,rfl⟩
set_option maxRecDepth 100000 in
set_option maxHeartbeats 4000000 in
attribute [local irreducible] Calls in
theorem Qgm (w : World) : Calls Tryz.prog 122 #[] w fun e w' => e = .returned (.pointer (some ⟨w.heap.size,0,none⟩)) ∧ w' = w.alloc (.cells #[.pointer none,iv 5,.slice none 0 0,iv 0] 206):=by
 go_enter Tryz.func122,Tryz.ntmps122
 go_wp2
 go_ret
 exact ⟨rfl,rfl⟩
set_option maxRecDepth 100000 in
set_option maxHeartbeats 4000000 in
attribute [local irreducible] Calls in
theorem Qbf (b : Nat) (w : World) (h : w.cell? ⟨b,0,none⟩ = some (.pointer none)) : Calls Tryz.prog 127 #[.pointer (some ⟨b,0,none⟩)] w fun e w' => e = .returned (.pointer (some ⟨b,0,none⟩)) ∧ w' = w:=by
 go_enter Tryz.func127,Tryz.ntmps127
 go_wp2
 refine wp_loop_rounds 1 ?_
 rw [rounds_succ]
 go_wp2
 go_ret
 exact ⟨rfl,rfl⟩
set_option maxRecDepth 100000 in
set_option maxHeartbeats 4000000 in
attribute [local irreducible] Calls in
theorem find_up (b c : Nat) (w : World) (h : w.cell? ⟨b,0,none⟩ = some (.pointer (some ⟨c,0,none⟩))) (h2 : w.cell? ⟨c,0,none⟩ = some (.pointer none)) : Calls Tryz.prog 127 #[.pointer (some ⟨b,0,none⟩)] w fun e w' => e = .returned (.pointer (some ⟨c,0,none⟩)) ∧ w' = w:=by
 go_enter Tryz.func127,Tryz.ntmps127
 go_wp2
 refine wp_loop_rounds 2 ?_
 iterate 2 (rw [rounds_succ];go_wp2)
 go_ret
 exact ⟨rfl,rfl⟩
set_option maxRecDepth 100000 in
set_option maxHeartbeats 4000000 in
attribute [local irreducible] Calls in
theorem len64_0 (w : World) : Calls Tryz.prog 224 #[.int .u64 0] w fun e w' => e = .returned (iv 0) ∧ w' = w:=by
 have l0 : Lib.len8 0 = 0:=by decide
 have l1 : Lib.len8 1 = 1:=by decide
 go_enter Tryz.func224,Tryz.ntmps224
 go_wp2
 go_ret
 exact ⟨rfl,rfl⟩
set_option maxRecDepth 100000 in
set_option maxHeartbeats 4000000 in
attribute [local irreducible] Calls in
theorem len64_1 (w : World) : Calls Tryz.prog 224 #[.int .u64 1] w fun e w' => e = .returned (iv 1) ∧ w' = w:=by
 have l0 : Lib.len8 0 = 0:=by decide
 have l1 : Lib.len8 1 = 1:=by decide
 go_enter Tryz.func224,Tryz.ntmps224
 go_wp2
 go_ret
 exact ⟨rfl,rfl⟩
set_option maxRecDepth 100000 in
set_option maxHeartbeats 4000000 in
attribute [local irreducible] Calls in
theorem Qmk (w : World) : Calls Tryz.prog 198 #[.int .u64 0] w fun e w' => e = .returned (iv 0) ∧ w' = w:=by
 go_enter Tryz.func198,Tryz.ntmps198
 go_wp2_with (go_at_call 224;(with_reducible refine (len64_0 _).mono ?_);rintro e w1 ⟨rfl,rfl⟩)
 go_ret
 exact ⟨rfl,rfl⟩
end Go.Proofs.YtiaenhlflgobfaaGreatDoor
namespace Go.Proofs.YtiaenhlflgobfaaGreatDoor
open Go.RowKit
theorem boxB {V : World} {b : Nat} (h : V.heap[b]? = some (.cells #[iv 1,.string ⟨#[]⟩,.string ⟨#[]⟩,iv 7,iv 0,.slice none 0 0] 43 (0,0))) : V.cell? ⟨b,0,none⟩ = some (iv 1) ∧ V.cell? ⟨b,1,none⟩ = some (.string ⟨#[]⟩) ∧ V.cell? ⟨b,2,none⟩ = some (.string ⟨#[]⟩) ∧ V.cell? ⟨b,3,none⟩ = some (iv 7) ∧ V.cell? ⟨b,4,none⟩ = some (iv 0) ∧ V.cell? ⟨b,5,none⟩ = some (.slice none 0 0):=by
 refine ⟨?_,?_,?_,?_,?_,?_⟩ <;> (rw [Lib.cell_of_heap h];rfl)
set_option maxRecDepth 100000 in
set_option maxHeartbeats 4000000 in
attribute [local irreducible] Calls in
theorem Qfu (f : Value) (w : World) : Calls Tryz.prog 215 #[.slice none 0 0,iv 0,iv 0,f] w fun e w' => (∃ r,e = .returned r) ∧ w' = w:=by
 go_enter Tryz.func215,Tryz.ntmps215
 go_wp2
 refine wp_loop_rounds 1 ?_
 rw [rounds_succ]
 go_wp2
 first | go_end0 | refine bodyPost_ret (results_none rfl _ _ _) rfl ?_
 exact ⟨⟨_,rfl⟩,rfl⟩
set_option maxRecDepth 100000 in
set_option maxHeartbeats 4000000 in
attribute [local irreducible] Calls in
theorem Qle (f : Value) (w : World) : Calls Tryz.prog 197 #[.slice none 0 0,iv 0,iv 0,iv 0,f] w fun e w' => (∃ r,e = .returned r) ∧ w' = w:=by
 go_enter Tryz.func197,Tryz.ntmps197
 go_wp2
 refine wp_loop_rounds 1 ?_
 rw [rounds_succ]
 go_wp2_with (go_at_call 215;(with_reducible refine (Qfu _ _).mono ?_);rintro e w1 ⟨⟨r,rfl⟩,rfl⟩)
 first | go_end0 | refine bodyPost_ret (results_none rfl _ _ _) rfl ?_
 exact ⟨⟨_,rfl⟩,rfl⟩
set_option maxRecDepth 100000 in
set_option maxHeartbeats 4000000 in
attribute [local irreducible] Calls in
theorem Qh3 (f : Value) (w : World) : Calls Tryz.prog 154 #[.slice none 0 0,f] w fun e w' => (∃ r,e = .returned r) ∧ w' = w:=by
 go_enter Tryz.func154,Tryz.ntmps154
 go_wp2_with (first
  | (go_at_call 198;(with_reducible refine (Qmk _).mono ?_);rintro e w1 ⟨rfl,rfl⟩)
  | (go_at_call 197;(with_reducible refine (Qle _ _).mono ?_);rintro e w1 ⟨⟨r,rfl⟩,rfl⟩))
 first | go_end0 | refine bodyPost_ret (results_none rfl _ _ _) rfl ?_
 exact ⟨⟨_,rfl⟩,rfl⟩
set_option maxRecDepth 100000 in
set_option maxHeartbeats 4000000 in
attribute [local irreducible] Calls in
theorem Qej (w : World) : Calls Tryz.prog 159 #[.slice none 0 0] w fun e w' => e = .returned (.slice none 0 0) ∧ w' = w:=by
 go_enter Tryz.func159,Tryz.ntmps159
 go_wp2
 go_ret
 exact ⟨rfl,rfl⟩
set_option maxRecDepth 100000 in
set_option maxHeartbeats 4000000 in
attribute [local irreducible] Calls in
theorem refs1_a (p : Value) (w : World) : Calls Tryz.prog 153 #[aBv,p] w fun e w' => e = .returned (.bool true) ∧ Gr w w':=by
 obtain ⟨c0,c1,c2,c3,c4,c5⟩:=boxB (V:=w.alloc (.cells #[iv 1,.string ⟨#[]⟩,.string ⟨#[]⟩,iv 7,iv 0,.slice none 0 0] 43)) (Qd _ _)
 unfold aBv
 go_enter Tryz.func153,Tryz.ntmps153
 go_wp2
 go_ret
 exact ⟨rfl,Qa _ _⟩
set_option maxRecDepth 100000 in
set_option maxHeartbeats 4000000 in
attribute [local irreducible] Calls in
theorem visit_a (p : Value) (w : World) : Calls Tryz.prog 152 #[aBv,.func (.func 153) #[] #[p]] w fun e w' => (∃ r,e = .returned r) ∧ Gr w w':=by
 obtain ⟨W1,hW1⟩ : ∃ W1,w.alloc (.cells #[iv 1,.string ⟨#[]⟩,.string ⟨#[]⟩,iv 7,iv 0,.slice none 0 0] 43) = W1:=⟨_,rfl⟩
 obtain ⟨W2,hW2⟩ : ∃ W2,W1.alloc (.cells #[iv 1,.string ⟨#[]⟩,.string ⟨#[]⟩,iv 7,iv 0,.slice none 0 0] 43) = W2:=⟨_,rfl⟩
 obtain ⟨W3,hW3⟩ : ∃ W3,W2.alloc (.cells #[iv 1,.string ⟨#[]⟩,.string ⟨#[]⟩,iv 7,iv 0,.slice none 0 0] 43) = W3:=⟨_,rfl⟩
 obtain ⟨g1,hg1⟩ : ∃ g,w.heap.size = g:=⟨_,rfl⟩
 have s1 : W1.heap.size = g1 + 1:=by rw [← hW1,← hg1];simp
 have s2 : W2.heap.size = g1 + 1 + 1:=by rw [← hW2];simp [s1]
 have h1 : W1.heap[g1]? = some (.cells #[iv 1,.string ⟨#[]⟩,.string ⟨#[]⟩,iv 7,iv 0,.slice none 0 0] 43 (0,0)):=by rw [← hW1,← hg1];exact Qd _ _
 have h2 : W2.heap[g1 + 1]? = some (.cells #[iv 1,.string ⟨#[]⟩,.string ⟨#[]⟩,iv 7,iv 0,.slice none 0 0] 43 (0,0)):=by rw [← hW2];exact Qr _ _ s1.symm
 have h3 : W3.heap[g1 + 1 + 1]? = some (.cells #[iv 1,.string ⟨#[]⟩,.string ⟨#[]⟩,iv 7,iv 0,.slice none 0 0] 43 (0,0)):=by rw [← hW3];exact Qr _ _ s2.symm
 have G1:=Qo0 (show Gr w W1 from by rw [← hW1];exact Qa _ _)
 have G2:=Qo0 (show Gr W1 W2 from by rw [← hW2];exact Qa _ _)
 have G3:=Qo0 (show Gr W2 W3 from by rw [← hW3];exact Qa _ _)
 have HS:=Qo0 (And.intro hg1 (And.intro s1 s2))
 have O2:=Qo0 (show OR 43 6 Ex.cs W2 (g1 + 1) (.slice (some ⟨g1 + 1,0,none⟩) 0 1) [] from by
  have h:=OR.one (e:=43) (w:=W1) (base:=g1 + 1) (cs:=Ex.cs) Ex.cs_len aB (b:=#[iv 1,.string ⟨#[]⟩,.string ⟨#[]⟩,iv 7,iv 0,.slice none 0 0]) (by omega) rfl
  rw [hW2,s1] at h
  exact OR.short (L:=[]) Ex.cs_len h)
 have F3:=Qo0 (fun V (g : Gr W3 V) => boxB (Qe g h3))
 obtain ⟨c0,c1,c2,c3,c4,c5⟩:=boxB h1
 obtain ⟨d0,d1,d2,d3,d4,d5⟩:=boxB h2
 obtain ⟨e0,e1,e2,e3,e4,e5⟩:=boxB h3
 have HW3:=Qo0 hW3
 clear hW3
 have C1:=Qo0 (fun V => refs1_a p V)
 clear h1 h2 h3
 unfold aBv at C1 ⊢
 go_enter Tryz.func152,Tryz.ntmps152
 go_wp2
 refine wp_loop_rounds 2 ?_
 rw [rounds_succ]
 go_upto_region 5 with fail
 rw [HW3.out]
 go_wp2_with (first
  | (go_at_call 153;(with_reducible refine (C1.out _).mono ?_);rintro e w4 ⟨rfl,g4⟩;have G4:=Qo0 g4;clear e0 e1 e2 e3 e4 e5;obtain ⟨e0,e1,e2,e3,e4,e5⟩:=F3.out _ g4;clear g4)
  | (at_builtin;refine Qf elE rfl (.tmp 26) (.tmp 28) rfl (g1 + 1) (v:=.slice (some ⟨g1 + 1,0,none⟩) 0 1) rfl (O2.out.gr (G3.out.trans G4.out)) (A:=none) (M:=([] : List Ex)) (m:=0) (c:=0) rfl rfl RD.nil (by simp) (by have:=HS.out;have:=G3.out.size;have:=G4.out.size;omega) ?_;intro v7 w7 o7 g7 b7;have O7:=Qo0 o7;have G7:=Qo0 (OR.grow (W:=w) (G1.out.trans (G2.out.trans (G3.out.trans G4.out))) (O2.out.gr (G3.out.trans G4.out)) (by have:=HS.out;omega) g7);obtain ⟨A7,c7,rfl,-⟩:=o7.form2 Ex.cs_len;clear o7 g7 b7))
 rw [rounds_succ]
 go_wp2
 first | go_end0 | refine bodyPost_ret (results_none rfl _ _ _) rfl ?_
 exact ⟨⟨_,rfl⟩,G7.out⟩
set_option maxRecDepth 100000 in
set_option maxHeartbeats 4000000 in
attribute [local irreducible] Calls in
theorem refs_a (w : World) : Calls Tryz.prog 117 #[aBv] w fun e w' => e = .returned (.slice none 0 0) ∧ Gr w w':=by
 obtain ⟨W1,hW1⟩ : ∃ W1,w.alloc (.cells #[iv 1,.string ⟨#[]⟩,.string ⟨#[]⟩,iv 7,iv 0,.slice none 0 0] 43) = W1:=⟨_,rfl⟩
 obtain ⟨W2,hW2⟩ : ∃ W2,W1.alloc (.cells #[.slice none 0 0] 189) = W2:=⟨_,rfl⟩
 obtain ⟨g1,hg1⟩ : ∃ g,w.heap.size = g:=⟨_,rfl⟩
 have s1 : W1.heap.size = g1 + 1:=by rw [← hW1,← hg1];simp
 have h1 : W2.heap[g1]? = some (.cells #[iv 1,.string ⟨#[]⟩,.string ⟨#[]⟩,iv 7,iv 0,.slice none 0 0] 43 (0,0)):=by rw [← hW2];exact Qe (Qa _ _) (by rw [← hW1,← hg1];exact Qd _ _)
 have h2 : W2.heap[g1 + 1]? = some (.cells #[.slice none 0 0] 189 (0,0)):=by rw [← hW2];exact Qr _ _ s1.symm
 have G2:=Qo0 (show Gr w W2 from by rw [← hW2,← hW1];exact (Qa _ _).trans (Qa _ _))
 have F2:=Qo0 (fun V (g : Gr W2 V) => show V.cell? ⟨g1 + 1,0,none⟩ = some (.slice none 0 0) from Lib.cell_of_heap (Qe g h2) 0)
 obtain ⟨c0,c1,c2,c3,c4,c5⟩:=boxB h1
 have C1:=Qo0 (fun p V => visit_a p V)
 clear h1 h2
 unfold aBv at C1 ⊢
 go_enter Tryz.func117,Tryz.ntmps117
 go_wp2_with (first
  | (go_at_call 152;(with_reducible refine (C1.out _ _).mono ?_);rintro e w4 ⟨⟨r,rfl⟩,g4⟩;have G4:=Qo0 g4;have f2:=F2.out _ g4;clear g4 c0 c1 c2 c3 c4 c5)
  | (go_at_call 154;(with_reducible refine (Qh3 _ _).mono ?_);rintro e w5 ⟨⟨r,rfl⟩,rfl⟩)
  | (go_at_call 159;(with_reducible refine (Qej _).mono ?_);rintro e w6 ⟨rfl,rfl⟩))
 go_ret
 exact ⟨rfl,G2.out.trans G4.out⟩
def aDv (k : Nat) : Value:=.agg #[iv 1,iv 1,.bool true,.slice (some ⟨k,0,none⟩) 1 1,.bool false,iv 1,.string ⟨#[]⟩,.string ⟨#[]⟩,iv 7,iv 0,.slice none 0 0]
theorem boxD {V : World} {b k : Nat} (h : V.heap[b]? = some (.cells #[iv 1,iv 1,.bool true,.slice (some ⟨k,0,none⟩) 1 1,.bool false,iv 1,.string ⟨#[]⟩,.string ⟨#[]⟩,iv 7,iv 0,.slice none 0 0] 45 (0,0))) : V.cell? ⟨b,0,none⟩ = some (iv 1) ∧ V.cell? ⟨b,1,none⟩ = some (iv 1) ∧ V.cell? ⟨b,2,none⟩ = some (.bool true) ∧ V.cell? ⟨b,3,none⟩ = some (.slice (some ⟨k,0,none⟩) 1 1) ∧ V.cell? ⟨b,4,none⟩ = some (.bool false) ∧ V.cell? ⟨b,5,none⟩ = some (iv 1) ∧ V.cell? ⟨b,6,none⟩ = some (.string ⟨#[]⟩) ∧ V.cell? ⟨b,7,none⟩ = some (.string ⟨#[]⟩) ∧ V.cell? ⟨b,8,none⟩ = some (iv 7) ∧ V.cell? ⟨b,9,none⟩ = some (iv 0) ∧ V.cell? ⟨b,10,none⟩ = some (.slice none 0 0):=by
 refine ⟨?_,?_,?_,?_,?_,?_,?_,?_,?_,?_,?_⟩ <;> (rw [Lib.cell_of_heap h];rfl)
set_option maxRecDepth 100000 in
set_option maxHeartbeats 4000000 in
attribute [local irreducible] Calls in
theorem uses_a (k : Nat) (w : World) : Calls Tryz.prog 119 #[aDv k] w fun e w' => e = .returned (.slice none 0 0) ∧ Gr w w':=by
 obtain ⟨W1,hW1⟩ : ∃ W1,w.alloc (.cells #[iv 1,iv 1,.bool true,.slice (some ⟨k,0,none⟩) 1 1,.bool false,iv 1,.string ⟨#[]⟩,.string ⟨#[]⟩,iv 7,iv 0,.slice none 0 0] 45) = W1:=⟨_,rfl⟩
 obtain ⟨d0,d1,d2,d3,d4,d5,d6,d7,d8,d9,d10⟩:=boxD (V:=W1) (b:=w.heap.size) (k:=k) (by rw [← hW1];exact Qd _ _)
 have G1:=Qo0 (show Gr w W1 from by rw [← hW1];exact Qa _ _)
 have C1:=Qo0 (fun V => refs_a V)
 unfold aBv at C1
 unfold aDv
 go_enter Tryz.func119,Tryz.ntmps119
 go_wp2_with (go_at_call 117;(with_reducible refine (C1.out _).mono ?_);rintro e w4 ⟨rfl,g4⟩;have G4:=Qo0 g4;clear g4)
 refine wp_loop_rounds 1 ?_
 rw [rounds_succ]
 go_wp2
 go_ret
 exact ⟨rfl,G1.out.trans G4.out⟩
end Go.Proofs.YtiaenhlflgobfaaGreatDoor
namespace Go.Proofs.YtiaenhlflgobfaaGreatDoor
open Go.RowKit Go.Maps
structure HS (w0 V : World) (L : List (Nat × Obj)) : Prop where
 g : Gr w0 V
 n : (L.map (·.1)).Nodup
 b : ∀ p ∈ L,w0.heap.size ≤ p.1
 f : ∀ p ∈ L,V.heap[p.1]? = some p.2
section
variable {w0 V V' : World} {L pre post : List (Nat × Obj)} {b : Nat} {o o' : Obj}
theorem HS.nil : HS w0 w0 []:=⟨Qc _,by simp,by simp,by simp⟩
theorem HS.lt (h : HS w0 V L) : ∀ p ∈ L,p.1 < V.heap.size:=fun p hp => Qn (h.f p hp)
theorem HS.gr (h : HS w0 V L) (g : Gr V V') : HS w0 V' L:=⟨h.g.trans g,h.n,h.b,fun p hp => Qe g (h.f p hp)⟩
theorem HS.alloc (h : HS w0 V L) (hb : V.heap.size = b) (o : Obj) : HS w0 (V.alloc o) ((b,o) :: L):=by
 refine ⟨h.g.trans (Qa _ _),?_,fun p hp => ?_,fun p hp => ?_⟩
 ·rw [List.map_cons,List.nodup_cons]
  refine ⟨fun hm => ?_,h.n⟩
  obtain ⟨q,hq,e⟩:=List.mem_map.1 hm
  have:=h.lt q hq
  simp only at e
  omega
 ·rcases List.mem_cons.1 hp with rfl | hp
  ·rw [← hb];exact h.g.size
  ·exact h.b p hp
 ·rcases List.mem_cons.1 hp with rfl | hp
  ·exact Qr _ _ hb.symm
  ·exact Qe (Qa _ _) (h.f p hp)
theorem HS.put (h : HS w0 V (pre ++ (b,o) :: post)) (g : V.grownBy V' (some b)) (e : V'.heap[b]? = some o') : HS w0 V' (pre ++ (b,o') :: post):=by
 have hn:=h.n
 rw [List.map_append,List.map_cons,List.nodup_append] at hn
 obtain ⟨n1,n2,n3⟩:=hn
 rw [List.nodup_cons] at n2
 have hb : w0.heap.size ≤ b:=h.b (b,o) (by simp)
 refine ⟨⟨?_,?_,?_,?_,?_⟩,?_,?_,?_⟩
 ·exact g.os.trans h.g.os
 ·exact g.tape.trans h.g.tape
 ·exact g.output.trans h.g.output
 ·exact Nat.le_trans h.g.size g.size
 ·intro k hk _
  exact (g.block k (Nat.lt_of_lt_of_le hk h.g.size) (by intro hh;cases hh;omega)).trans (h.g.block k hk (by simp))
 ·have:=h.n
  simpa using this
 ·intro p hp
  rcases List.mem_append.1 hp with hp | hp
  ·exact h.b p (by simp [hp])
  ·rcases List.mem_cons.1 hp with rfl | hp
   ·exact hb
   ·exact h.b p (by simp [hp])
 ·intro p hp
  have key : ∀ q ∈ pre ++ (b,o) :: post,q.1 ≠ b → V'.heap[q.1]? = some q.2:=fun q hq hne => (g.block q.1 (h.lt q hq) (by intro hh;cases hh;exact hne rfl)).trans (h.f q hq)
  rcases List.mem_append.1 hp with hp | hp
  ·refine key p (by simp [hp]) (fun hh => ?_)
   exact n3 p.1 (List.mem_map.2 ⟨p,hp,rfl⟩) b (by simp) hh
  ·rcases List.mem_cons.1 hp with rfl | hp
   ·exact e
   ·refine key p (by simp [hp]) (fun hh => ?_)
    exact n2.1 (List.mem_map.2 ⟨p,hp,hh⟩)
theorem set_any {W : World} {k j : Nat} {u : Value} {C : Array Value} {t : TypeId} (h : W.heap[k]? = some (.cells C t (0,0))) : (W.setCell ⟨k,j,none⟩ u).heap[k]? = some (.cells (C.setIfInBounds j u) t (0,0)):=by
 simp [World.setCell,Array.getElem?_modify,h]
theorem HS.setc {C : Array Value} {t : TypeId} (h : HS w0 V (pre ++ (b,.cells C t (0,0)) :: post)) (j : Nat) (u : Value) : HS w0 (V.setCell ⟨b,j,none⟩ u) (pre ++ (b,.cells (C.setIfInBounds j u) t (0,0)) :: post) :=
 h.put (Qo b j u) (set_any (h.f (b,_) (by simp)))
end
def Qg {κ : Type} (kv : κ → Value) (l : MK κ) : Obj:=.map (Yu kv 0 l).toArray l.length
theorem HS.setm {w0 V : World} {pre post : List (Nat × Obj)} {b : Nat} {κ : Type} {kv : κ → Value} {l : MK κ} (h : HS w0 V (pre ++ (b,Qg kv l) :: post)) (m : MK κ) : HS w0 (Zp kv V b m) (pre ++ (b,Qg kv m) :: post) :=
 h.put (Zu V b m) (MP.set (m:=m) (h.f (b,Qg kv l) (by simp) : MP kv V b l))
theorem HS.mp {w0 V : World} {L : List (Nat × Obj)} {b : Nat} {κ : Type} {kv : κ → Value} {l : MK κ} (h : HS w0 V L) (hm : (b,Qg kv l) ∈ L) : MP kv V b l:=h.f _ hm
theorem HS.cell {w0 V : World} {L : List (Nat × Obj)} {b : Nat} {C : Array Value} {t : TypeId} (h : HS w0 V L) (hm : (b,Obj.cells C t (0,0)) ∈ L) (j : Nat) : V.cell? ⟨b,j,none⟩ = C[j]?:=Lib.cell_of_heap (h.f _ hm) j
theorem HS.frz {w0 V : World} {L : List (Nat × Obj)} {b : Nat} {C : Array Value} {t : TypeId} (h : HS w0 V L) (hm : (b,Obj.cells C t (0,0)) ∈ L) (j : Nat) : V.frozen? ⟨b,j,none⟩ = false:=Lib.frozen_of_heap (h.f _ hm) j
theorem row1 {α : Type} {e : TypeId} {n : Nat} {cs : α → List Value} {V : World} {B : Nat} {v : Value} {x : α} (o : OR e n cs V B v [x]) (hn : (cs x).length = n) : ∃ g cap cur,v = .slice (some ⟨g,0,none⟩) 1 cap ∧ B ≤ g ∧ V.heap[g]? = some (.cells cur e (0,0)) ∧ 1 ≤ cap ∧ cap ≤ 9223372036854775807 ∧ (∀ (i : Nat) u,(cs x)[i]? = some u → cur[i]? = some u) ∧ cur.size = cap * n:=by
 rcases o.2 with ⟨_,h⟩ | ⟨g,cap,cur,e1,hg,hh,hc,hm,hs,hx⟩
 ·cases h
 ·refine ⟨g,cap,cur,e1,hg,hh,hc,by unfold maxLen at hm;omega,fun i u hu => ?_,hs⟩
  have hi : i < n:=by
   rcases Nat.lt_or_ge i (cs x).length with h | h
   ·omega
   ·rw [List.getElem?_eq_none h] at hu;cases hu
  have h1 : (cur.toList.take (1 * n))[i]? = some u:=by
   have : [x].length = 1:=rfl
   rw [this] at hx
   rw [hx,List.flatMap_cons,List.flatMap_nil,List.append_nil]
   exact hu
  rw [List.getElem?_take,if_pos (by omega)] at h1
  simpa using h1
theorem row_or {α : Type} {e : TypeId} {cs : α → List Value} {V : World} {B g cap : Nat} {cur : Array Value} {x : α} {v : Value} (hx : cs x = [v]) (h : V.heap[g]? = some (.cells cur e (0,0))) (hB : B ≤ g) (h1 : 1 ≤ cap) (hm : cap ≤ 9223372036854775807) (hs : cur.size = cap * 1) (h0 : cur[0]? = some v) : OR e 1 cs V B (.slice (some ⟨g,0,none⟩) 1 cap) [x]:=by
 refine ⟨by simp [hx],.inr ⟨g,cap,cur,rfl,hB,h,h1,by unfold maxLen;omega,hs,?_⟩⟩
 rw [List.flatMap_cons,List.flatMap_nil,List.append_nil,hx]
 have h2 : cur.toList[0]? = some v:=by simpa using h0
 rcases hc : cur.toList with _ | ⟨a,l⟩
 ·rw [hc] at h2;cases h2
 ·rw [hc] at h2
  have h3 : a = v:=by simpa using h2
  rw [h3]
  simp
end Go.Proofs.YtiaenhlflgobfaaGreatDoor
namespace Go.Proofs.YtiaenhlflgobfaaGreatDoor
open Go.RowKit Go.Maps
set_option maxRecDepth 100000 in
set_option maxHeartbeats 4000000 in
attribute [local irreducible] Calls in
theorem Qga (kN kD : Nat) (w : World) (hN : w.heap[kN]? = some (.cells #[.string ⟨#[102]⟩] 9 (0,0))) (hD : w.heap[kD]? = some (.cells #[iv 1,iv 1,.bool true,.slice (some ⟨kN,0,none⟩) 1 1,.bool false,iv 1,.string ⟨#[]⟩,.string ⟨#[]⟩,iv 7,iv 0,.slice none 0 0] 45 (0,0))) : Calls Tryz.prog 76 #[.agg #[.string ⟨#[109]⟩,.slice none 0 0,.slice (some ⟨kD,0,none⟩) 1 1],.slice none 0 0] w fun e w' => e = .returned (.tuple #[iv 0,iv 0]) ∧ Gr w w':=by
 have FN:=Qo0 (fun V (g : Gr w V) => show V.cell? ⟨kN,0,none⟩ = some (.string ⟨#[102]⟩) from Lib.cell_of_heap (Qe g hN) 0)
 have FD:=Qo0 (fun V (g : Gr w V) => boxD (Qe g hD))
 clear hN hD
 have CH:=Qo0 (fun V => Qny V)
 have CR:=Qo0 (fun V => refs_a V)
 unfold aBv at CH CR
 have S0:=Qo0 (HS.nil (w0:=w))
 have hmm:=@run_makeMap Tryz.prog
 go_enter Tryz.func76,Tryz.ntmps76
 obtain ⟨b2,hb2⟩ : ∃ b,w.heap.size = b:=⟨_,rfl⟩
 go_upto_region 1 with fail
 generalize hW : World.alloc w _ = W1
 have S1:=Qo0 (show HS w W1 [(b2,Obj.cells #[.string ⟨#[109]⟩,.slice none 0 0,.slice (some ⟨kD,0,none⟩) 1 1] 39 (0,0))] from by rw [← hW];exact S0.out.alloc hb2 _)
 clear hW
 have Hb2:=Qo0 hb2
 clear hb2
 obtain ⟨b6,hb6⟩ : ∃ b,W1.heap.size = b:=⟨_,rfl⟩
 go_upto_region 2 with fail
 generalize hW : World.alloc W1 _ = W2
 have S2:=Qo0 (show HS w W2 [(b6,Qg iv ([] : MK Int)),(b2,Obj.cells #[.string ⟨#[109]⟩,.slice none 0 0,.slice (some ⟨kD,0,none⟩) 1 1] 39 (0,0))] from by rw [← hW];exact S1.out.alloc hb6 _)
 clear hW
 have Hb6:=Qo0 hb6
 clear hb6
 have x1 : W2.cell? ⟨b2,2,none⟩ = some (.slice (some ⟨kD,0,none⟩) 1 1):=S2.out.cell (b:=b2) (C:=#[.string ⟨#[109]⟩,.slice none 0 0,.slice (some ⟨kD,0,none⟩) 1 1]) (t:=39) (by simp) 2
 go_wp2
 refine wp_loop_rounds 2 ?_
 rw [rounds_succ]
 obtain ⟨d0,d1,d2,d3,d4,d5,d6,d7,d8,d9,d10⟩:=FD.out _ S2.out.g
 obtain ⟨b8,hb8⟩ : ∃ b,W2.heap.size = b:=⟨_,rfl⟩
 go_upto_region 5 with fail
 generalize hW : World.alloc W2 _ = W3
 have S3:=Qo0 (show HS w W3 [(b8,Obj.cells #[iv 1,iv 1,.bool true,.slice (some ⟨kN,0,none⟩) 1 1,.bool false,iv 1,.string ⟨#[]⟩,.string ⟨#[]⟩,iv 7,iv 0,.slice none 0 0] 45 (0,0)),(b6,Qg iv ([] : MK Int)),(b2,Obj.cells #[.string ⟨#[109]⟩,.slice none 0 0,.slice (some ⟨kD,0,none⟩) 1 1] 39 (0,0))] from by rw [← hW];exact S2.out.alloc hb8 _)
 clear hW
 have Hb8:=Qo0 hb8
 clear hb8
 clear x1 d0 d1 d2 d3 d4 d5 d6 d7 d8 d9 d10
 have x2 : W3.cell? ⟨b8,0,none⟩ = some (iv 1):=S3.out.cell (b:=b8) (C:=#[iv 1,iv 1,.bool true,.slice (some ⟨kN,0,none⟩) 1 1,.bool false,iv 1,.string ⟨#[]⟩,.string ⟨#[]⟩,iv 7,iv 0,.slice none 0 0]) (t:=45) (by simp) 0
 have x3 : (Instr.mapUpdate 187 (.map (some b6)) (iv 1) (.bool true)).run Tryz.prog W3 = .ok () (Zp iv W3 b6 ([(1,.bool true)] : MK Int)):=Q4 ktI (S3.out.mp (b:=b6) (kv:=iv) (l:=([] : MK Int)) (by simp)) LK.nil Tryz.underlying187 (k:=1) (by decide) (by rfl) (.bool true)
 go_upto_region 6 with fail
 generalize hW : Zp iv W3 b6 _ = W4
 have S4:=Qo0 (show HS w W4 [(b8,Obj.cells #[iv 1,iv 1,.bool true,.slice (some ⟨kN,0,none⟩) 1 1,.bool false,iv 1,.string ⟨#[]⟩,.string ⟨#[]⟩,iv 7,iv 0,.slice none 0 0] 45 (0,0)),(b6,Qg iv ([(1,.bool true)] : MK Int)),(b2,Obj.cells #[.string ⟨#[109]⟩,.slice none 0 0,.slice (some ⟨kD,0,none⟩) 1 1] 39 (0,0))] from by rw [← hW];exact HS.setm (pre:=[(b8,Obj.cells #[iv 1,iv 1,.bool true,.slice (some ⟨kN,0,none⟩) 1 1,.bool false,iv 1,.string ⟨#[]⟩,.string ⟨#[]⟩,iv 7,iv 0,.slice none 0 0] 45 (0,0))]) (post:=[(b2,Obj.cells #[.string ⟨#[109]⟩,.slice none 0 0,.slice (some ⟨kD,0,none⟩) 1 1] 39 (0,0))]) (l:=([] : MK Int)) S3.out ([(1,.bool true)] : MK Int))
 clear hW
 clear x2 x3
 go_wp2
 rw [rounds_succ]
 obtain ⟨b9,hb9⟩ : ∃ b,W4.heap.size = b:=⟨_,rfl⟩
 go_upto_region 8 with fail
 generalize hW : World.alloc W4 _ = W5
 have S5:=Qo0 (show HS w W5 [(b9,Qg tv ([] : MK T)),(b8,Obj.cells #[iv 1,iv 1,.bool true,.slice (some ⟨kN,0,none⟩) 1 1,.bool false,iv 1,.string ⟨#[]⟩,.string ⟨#[]⟩,iv 7,iv 0,.slice none 0 0] 45 (0,0)),(b6,Qg iv ([(1,.bool true)] : MK Int)),(b2,Obj.cells #[.string ⟨#[109]⟩,.slice none 0 0,.slice (some ⟨kD,0,none⟩) 1 1] 39 (0,0))] from by rw [← hW];exact S4.out.alloc hb9 _)
 clear hW
 have Hb9:=Qo0 hb9
 clear hb9
 have x4 : W5.cell? ⟨b2,2,none⟩ = some (.slice (some ⟨kD,0,none⟩) 1 1):=S5.out.cell (b:=b2) (C:=#[.string ⟨#[109]⟩,.slice none 0 0,.slice (some ⟨kD,0,none⟩) 1 1]) (t:=39) (by simp) 2
 go_wp2
 refine wp_loop_rounds 2 ?_
 rw [rounds_succ]
 obtain ⟨d0,d1,d2,d3,d4,d5,d6,d7,d8,d9,d10⟩:=FD.out _ S5.out.g
 obtain ⟨b11,hb11⟩ : ∃ b,W5.heap.size = b:=⟨_,rfl⟩
 go_upto_region 11 with fail
 generalize hW : World.alloc W5 _ = W6
 have S6:=Qo0 (show HS w W6 [(b11,Obj.cells #[iv 1,iv 1,.bool true,.slice (some ⟨kN,0,none⟩) 1 1,.bool false,iv 1,.string ⟨#[]⟩,.string ⟨#[]⟩,iv 7,iv 0,.slice none 0 0] 45 (0,0)),(b9,Qg tv ([] : MK T)),(b8,Obj.cells #[iv 1,iv 1,.bool true,.slice (some ⟨kN,0,none⟩) 1 1,.bool false,iv 1,.string ⟨#[]⟩,.string ⟨#[]⟩,iv 7,iv 0,.slice none 0 0] 45 (0,0)),(b6,Qg iv ([(1,.bool true)] : MK Int)),(b2,Obj.cells #[.string ⟨#[109]⟩,.slice none 0 0,.slice (some ⟨kD,0,none⟩) 1 1] 39 (0,0))] from by rw [← hW];exact S5.out.alloc hb11 _)
 clear hW
 have Hb11:=Qo0 hb11
 clear hb11
 clear x4 d0 d1 d2 d3 d4 d5 d6 d7 d8 d9 d10
 have x5 : W6.cell? ⟨b11,3,none⟩ = some (.slice (some ⟨kN,0,none⟩) 1 1):=S6.out.cell (b:=b11) (C:=#[iv 1,iv 1,.bool true,.slice (some ⟨kN,0,none⟩) 1 1,.bool false,iv 1,.string ⟨#[]⟩,.string ⟨#[]⟩,iv 7,iv 0,.slice none 0 0]) (t:=45) (by simp) 3
 have x6 : W6.cell? ⟨b11,4,none⟩ = some (.bool false):=S6.out.cell (b:=b11) (C:=#[iv 1,iv 1,.bool true,.slice (some ⟨kN,0,none⟩) 1 1,.bool false,iv 1,.string ⟨#[]⟩,.string ⟨#[]⟩,iv 7,iv 0,.slice none 0 0]) (t:=45) (by simp) 4
 have x7 : W6.cell? ⟨b11,5,none⟩ = some (iv 1):=S6.out.cell (b:=b11) (C:=#[iv 1,iv 1,.bool true,.slice (some ⟨kN,0,none⟩) 1 1,.bool false,iv 1,.string ⟨#[]⟩,.string ⟨#[]⟩,iv 7,iv 0,.slice none 0 0]) (t:=45) (by simp) 5
 have x8 : W6.cell? ⟨b11,6,none⟩ = some (.string ⟨#[]⟩):=S6.out.cell (b:=b11) (C:=#[iv 1,iv 1,.bool true,.slice (some ⟨kN,0,none⟩) 1 1,.bool false,iv 1,.string ⟨#[]⟩,.string ⟨#[]⟩,iv 7,iv 0,.slice none 0 0]) (t:=45) (by simp) 6
 have x9 : W6.cell? ⟨b11,7,none⟩ = some (.string ⟨#[]⟩):=S6.out.cell (b:=b11) (C:=#[iv 1,iv 1,.bool true,.slice (some ⟨kN,0,none⟩) 1 1,.bool false,iv 1,.string ⟨#[]⟩,.string ⟨#[]⟩,iv 7,iv 0,.slice none 0 0]) (t:=45) (by simp) 7
 have x10 : W6.cell? ⟨b11,8,none⟩ = some (iv 7):=S6.out.cell (b:=b11) (C:=#[iv 1,iv 1,.bool true,.slice (some ⟨kN,0,none⟩) 1 1,.bool false,iv 1,.string ⟨#[]⟩,.string ⟨#[]⟩,iv 7,iv 0,.slice none 0 0]) (t:=45) (by simp) 8
 have x11 : W6.cell? ⟨b11,9,none⟩ = some (iv 0):=S6.out.cell (b:=b11) (C:=#[iv 1,iv 1,.bool true,.slice (some ⟨kN,0,none⟩) 1 1,.bool false,iv 1,.string ⟨#[]⟩,.string ⟨#[]⟩,iv 7,iv 0,.slice none 0 0]) (t:=45) (by simp) 9
 have x12 : W6.cell? ⟨b11,10,none⟩ = some (.slice none 0 0):=S6.out.cell (b:=b11) (C:=#[iv 1,iv 1,.bool true,.slice (some ⟨kN,0,none⟩) 1 1,.bool false,iv 1,.string ⟨#[]⟩,.string ⟨#[]⟩,iv 7,iv 0,.slice none 0 0]) (t:=45) (by simp) 10
 have n0:=FN.out _ S6.out.g
 go_upto_region 13 with (go_at_call 116;(with_reducible refine (CH.out _).mono ?_);rintro e W7 ⟨rfl,g⟩;have S7:=Qo0 (show HS w W7 [(b11,Obj.cells #[iv 1,iv 1,.bool true,.slice (some ⟨kN,0,none⟩) 1 1,.bool false,iv 1,.string ⟨#[]⟩,.string ⟨#[]⟩,iv 7,iv 0,.slice none 0 0] 45 (0,0)),(b9,Qg tv ([] : MK T)),(b8,Obj.cells #[iv 1,iv 1,.bool true,.slice (some ⟨kN,0,none⟩) 1 1,.bool false,iv 1,.string ⟨#[]⟩,.string ⟨#[]⟩,iv 7,iv 0,.slice none 0 0] 45 (0,0)),(b6,Qg iv ([(1,.bool true)] : MK Int)),(b2,Obj.cells #[.string ⟨#[109]⟩,.slice none 0 0,.slice (some ⟨kD,0,none⟩) 1 1] 39 (0,0))] from S6.out.gr g);clear g x5 x6 x7 x8 x9 x10 x11 x12 n0;have x13 : W7.cell? ⟨b11,3,none⟩ = some (.slice (some ⟨kN,0,none⟩) 1 1):=S7.out.cell (b:=b11) (C:=#[iv 1,iv 1,.bool true,.slice (some ⟨kN,0,none⟩) 1 1,.bool false,iv 1,.string ⟨#[]⟩,.string ⟨#[]⟩,iv 7,iv 0,.slice none 0 0]) (t:=45) (by simp) 3;have x14 : W7.cell? ⟨b11,4,none⟩ = some (.bool false):=S7.out.cell (b:=b11) (C:=#[iv 1,iv 1,.bool true,.slice (some ⟨kN,0,none⟩) 1 1,.bool false,iv 1,.string ⟨#[]⟩,.string ⟨#[]⟩,iv 7,iv 0,.slice none 0 0]) (t:=45) (by simp) 4;have x15 : W7.cell? ⟨b11,5,none⟩ = some (iv 1):=S7.out.cell (b:=b11) (C:=#[iv 1,iv 1,.bool true,.slice (some ⟨kN,0,none⟩) 1 1,.bool false,iv 1,.string ⟨#[]⟩,.string ⟨#[]⟩,iv 7,iv 0,.slice none 0 0]) (t:=45) (by simp) 5;have x16 : W7.cell? ⟨b11,6,none⟩ = some (.string ⟨#[]⟩):=S7.out.cell (b:=b11) (C:=#[iv 1,iv 1,.bool true,.slice (some ⟨kN,0,none⟩) 1 1,.bool false,iv 1,.string ⟨#[]⟩,.string ⟨#[]⟩,iv 7,iv 0,.slice none 0 0]) (t:=45) (by simp) 6;have x17 : W7.cell? ⟨b11,7,none⟩ = some (.string ⟨#[]⟩):=S7.out.cell (b:=b11) (C:=#[iv 1,iv 1,.bool true,.slice (some ⟨kN,0,none⟩) 1 1,.bool false,iv 1,.string ⟨#[]⟩,.string ⟨#[]⟩,iv 7,iv 0,.slice none 0 0]) (t:=45) (by simp) 7;have x18 : W7.cell? ⟨b11,8,none⟩ = some (iv 7):=S7.out.cell (b:=b11) (C:=#[iv 1,iv 1,.bool true,.slice (some ⟨kN,0,none⟩) 1 1,.bool false,iv 1,.string ⟨#[]⟩,.string ⟨#[]⟩,iv 7,iv 0,.slice none 0 0]) (t:=45) (by simp) 8;have x19 : W7.cell? ⟨b11,9,none⟩ = some (iv 0):=S7.out.cell (b:=b11) (C:=#[iv 1,iv 1,.bool true,.slice (some ⟨kN,0,none⟩) 1 1,.bool false,iv 1,.string ⟨#[]⟩,.string ⟨#[]⟩,iv 7,iv 0,.slice none 0 0]) (t:=45) (by simp) 9;have x20 : W7.cell? ⟨b11,10,none⟩ = some (.slice none 0 0):=S7.out.cell (b:=b11) (C:=#[iv 1,iv 1,.bool true,.slice (some ⟨kN,0,none⟩) 1 1,.bool false,iv 1,.string ⟨#[]⟩,.string ⟨#[]⟩,iv 7,iv 0,.slice none 0 0]) (t:=45) (by simp) 10;have n0:=FN.out _ S7.out.g;have x21 : (Instr.lookup 188 (.map (some b9)) (.string ⟨#[102]⟩) false).run Tryz.prog W7 = .ok (.bool false) W7:=(Q7 ktT (S7.out.mp (b:=b9) (kv:=tv) (l:=([] : MK T)) (by simp)) LK.nil Tryz.underlying188 (z:=.bool false) (by kernel_rfl) (k:=([102] : T)) (by decide)).1;(try dsimp only))
 clear x13 x14 x15 x16 x17 x18 x19 x20 n0 x21
 have x22 : W7.cell? ⟨b11,3,none⟩ = some (.slice (some ⟨kN,0,none⟩) 1 1):=S7.out.cell (b:=b11) (C:=#[iv 1,iv 1,.bool true,.slice (some ⟨kN,0,none⟩) 1 1,.bool false,iv 1,.string ⟨#[]⟩,.string ⟨#[]⟩,iv 7,iv 0,.slice none 0 0]) (t:=45) (by simp) 3
 have n0:=FN.out _ S7.out.g
 have x23 : (Instr.mapUpdate 188 (.map (some b9)) (.string ⟨#[102]⟩) (.bool true)).run Tryz.prog W7 = .ok () (Zp tv W7 b9 ([([102],.bool true)] : MK T)):=Q4 ktT (S7.out.mp (b:=b9) (kv:=tv) (l:=([] : MK T)) (by simp)) LK.nil Tryz.underlying188 (k:=([102] : T)) (by decide) (by rfl) (.bool true)
 go_upto_region 14 with fail
 generalize hW : Zp tv W7 b9 _ = W8
 have S8:=Qo0 (show HS w W8 [(b11,Obj.cells #[iv 1,iv 1,.bool true,.slice (some ⟨kN,0,none⟩) 1 1,.bool false,iv 1,.string ⟨#[]⟩,.string ⟨#[]⟩,iv 7,iv 0,.slice none 0 0] 45 (0,0)),(b9,Qg tv ([([102],.bool true)] : MK T)),(b8,Obj.cells #[iv 1,iv 1,.bool true,.slice (some ⟨kN,0,none⟩) 1 1,.bool false,iv 1,.string ⟨#[]⟩,.string ⟨#[]⟩,iv 7,iv 0,.slice none 0 0] 45 (0,0)),(b6,Qg iv ([(1,.bool true)] : MK Int)),(b2,Obj.cells #[.string ⟨#[109]⟩,.slice none 0 0,.slice (some ⟨kD,0,none⟩) 1 1] 39 (0,0))] from by rw [← hW];exact HS.setm (pre:=[(b11,Obj.cells #[iv 1,iv 1,.bool true,.slice (some ⟨kN,0,none⟩) 1 1,.bool false,iv 1,.string ⟨#[]⟩,.string ⟨#[]⟩,iv 7,iv 0,.slice none 0 0] 45 (0,0))]) (post:=[(b8,Obj.cells #[iv 1,iv 1,.bool true,.slice (some ⟨kN,0,none⟩) 1 1,.bool false,iv 1,.string ⟨#[]⟩,.string ⟨#[]⟩,iv 7,iv 0,.slice none 0 0] 45 (0,0)),(b6,Qg iv ([(1,.bool true)] : MK Int)),(b2,Obj.cells #[.string ⟨#[109]⟩,.slice none 0 0,.slice (some ⟨kD,0,none⟩) 1 1] 39 (0,0))]) (l:=([] : MK T)) S7.out ([([102],.bool true)] : MK T))
 clear hW
 clear x22 n0 x23
 have x24 : W8.cell? ⟨b11,5,none⟩ = some (iv 1):=S8.out.cell (b:=b11) (C:=#[iv 1,iv 1,.bool true,.slice (some ⟨kN,0,none⟩) 1 1,.bool false,iv 1,.string ⟨#[]⟩,.string ⟨#[]⟩,iv 7,iv 0,.slice none 0 0]) (t:=45) (by simp) 5
 have x25 : W8.cell? ⟨b11,6,none⟩ = some (.string ⟨#[]⟩):=S8.out.cell (b:=b11) (C:=#[iv 1,iv 1,.bool true,.slice (some ⟨kN,0,none⟩) 1 1,.bool false,iv 1,.string ⟨#[]⟩,.string ⟨#[]⟩,iv 7,iv 0,.slice none 0 0]) (t:=45) (by simp) 6
 have x26 : W8.cell? ⟨b11,7,none⟩ = some (.string ⟨#[]⟩):=S8.out.cell (b:=b11) (C:=#[iv 1,iv 1,.bool true,.slice (some ⟨kN,0,none⟩) 1 1,.bool false,iv 1,.string ⟨#[]⟩,.string ⟨#[]⟩,iv 7,iv 0,.slice none 0 0]) (t:=45) (by simp) 7
 have x27 : W8.cell? ⟨b11,8,none⟩ = some (iv 7):=S8.out.cell (b:=b11) (C:=#[iv 1,iv 1,.bool true,.slice (some ⟨kN,0,none⟩) 1 1,.bool false,iv 1,.string ⟨#[]⟩,.string ⟨#[]⟩,iv 7,iv 0,.slice none 0 0]) (t:=45) (by simp) 8
 have x28 : W8.cell? ⟨b11,9,none⟩ = some (iv 0):=S8.out.cell (b:=b11) (C:=#[iv 1,iv 1,.bool true,.slice (some ⟨kN,0,none⟩) 1 1,.bool false,iv 1,.string ⟨#[]⟩,.string ⟨#[]⟩,iv 7,iv 0,.slice none 0 0]) (t:=45) (by simp) 9
 have x29 : W8.cell? ⟨b11,10,none⟩ = some (.slice none 0 0):=S8.out.cell (b:=b11) (C:=#[iv 1,iv 1,.bool true,.slice (some ⟨kN,0,none⟩) 1 1,.bool false,iv 1,.string ⟨#[]⟩,.string ⟨#[]⟩,iv 7,iv 0,.slice none 0 0]) (t:=45) (by simp) 10
 go_wp2_with (go_at_call 117;(with_reducible refine (CR.out _).mono ?_);rintro e W9 ⟨rfl,g⟩;have S9:=Qo0 (show HS w W9 [(b11,Obj.cells #[iv 1,iv 1,.bool true,.slice (some ⟨kN,0,none⟩) 1 1,.bool false,iv 1,.string ⟨#[]⟩,.string ⟨#[]⟩,iv 7,iv 0,.slice none 0 0] 45 (0,0)),(b9,Qg tv ([([102],.bool true)] : MK T)),(b8,Obj.cells #[iv 1,iv 1,.bool true,.slice (some ⟨kN,0,none⟩) 1 1,.bool false,iv 1,.string ⟨#[]⟩,.string ⟨#[]⟩,iv 7,iv 0,.slice none 0 0] 45 (0,0)),(b6,Qg iv ([(1,.bool true)] : MK Int)),(b2,Obj.cells #[.string ⟨#[109]⟩,.slice none 0 0,.slice (some ⟨kD,0,none⟩) 1 1] 39 (0,0))] from S8.out.gr g);clear g)
 clear x24 x25 x26 x27 x28 x29
 refine wp_loop_rounds 1 ?_
 iterate 2 (rw [rounds_succ];go_wp2)
 go_ret2
 exact ⟨rfl,S9.out.g⟩
end Go.Proofs.YtiaenhlflgobfaaGreatDoor
namespace Go.Proofs.YtiaenhlflgobfaaGreatDoor
open Go.RowKit Go.Maps
def ics (n : Int) : List Value:=[iv n]
theorem Qj6 (n : Int) : (ics n).length = 1:=rfl
theorem ics1 (n : Int) : ∀ u ∈ ics n,u.oneCell' = true:=by
 intro u hu
 rw [List.mem_singleton.1 hu]
 rfl
theorem elI : EL 110 3 1 ics:=⟨Qj6,ics1,Tryz.underlying110,⟨iv 0,8,by kernel_rfl,rfl,by decide⟩,by decide⟩
structure GI where
 A : Option Addr
 n : Nat
 c : Nat
def GI.cs (s : GI) : List Value:=[.slice s.A s.n s.c]
theorem GI.cs_len (s : GI) : s.cs.length = 1:=rfl
theorem GI.cell1 (s : GI) : ∀ u ∈ s.cs,u.oneCell' = true:=by
 intro u hu
 rw [List.mem_singleton.1 hu]
 rfl
theorem elG : EL 137 110 1 GI.cs:=⟨GI.cs_len,GI.cell1,Tryz.underlying137,⟨.slice none 0 0,24,by kernel_rfl,rfl,by decide⟩,by decide⟩
set_option maxRecDepth 100000 in
set_option maxHeartbeats 4000000 in
attribute [local irreducible] Calls in
theorem Qe6 (w : World) : Calls Tryz.prog 198 #[.int .u64 1] w fun e w' => e = .returned (iv 1) ∧ w' = w:=by
 go_enter Tryz.func198,Tryz.ntmps198
 go_wp2_with (go_at_call 224;(with_reducible refine (len64_1 _).mono ?_);rintro e w1 ⟨rfl,rfl⟩)
 go_ret
 exact ⟨rfl,rfl⟩
set_option maxRecDepth 100000 in
set_option maxHeartbeats 4000000 in
attribute [local irreducible] Calls in
theorem Qik (g cap : Nat) (w : World) (h : w.cell? ⟨g,0,none⟩ = some (iv 1)) : Calls Tryz.prog 171 #[.slice (some ⟨g,0,none⟩) 1 cap,iv 1] w fun e w' => e = .returned (iv 0) ∧ w' = w:=by
 go_enter Tryz.func171,Tryz.ntmps171
 go_wp2
 refine wp_loop_rounds 1 ?_
 rw [rounds_succ]
 go_wp2
 go_ret
 exact ⟨rfl,rfl⟩
set_option maxRecDepth 100000 in
set_option maxHeartbeats 4000000 in
attribute [local irreducible] Calls in
theorem Qi6 (g cap : Nat) (w : World) (h : w.cell? ⟨g,0,none⟩ = some (iv 1)) (hg : g < w.heap.size) : Calls Tryz.prog 172 #[.slice (some ⟨g,0,none⟩) 1 cap] w fun e w' => ∃ v,e = .returned v ∧ OR 3 1 ics w' w.heap.size v [1] ∧ Gr w w':=by
 have R1:=Qo0 (show RD 1 ics w (some ⟨g,0,none⟩) [1] from .inr ⟨_,rfl,hg,fun j x hx i v hv => by
  have hj : j = 0:=by
   rcases j with _ | j
   ·rfl
   ·simp at hx
  subst hj
  have hx1 : x = 1:=by simpa using hx.symm
  subst hx1
  have hi : i = 0:=by
   rcases i with _ | i
   ·rfl
   ·simp [ics] at hv
  subst hi
  have hv1 : iv 1 = v:=by simpa [ics] using hv
  rw [← hv1]
  exact h⟩)
 have q22 : ∀ (w : World) (a : Option Addr) (n c n' c' : Nat),(binOp .eql 110 (.slice a n c) (.slice none n' c')).run Tryz.prog w = .ok (.bool a.isNone) w:=fun w a n c n' c' => Lib.run_eql_slice_nil w _ _ a n c n' c' Tryz.underlying110
 go_enter Tryz.func172,Tryz.ntmps172
 go_wp2_with (at_builtin;refine Qf elI rfl (.tmp 5) (.tmp 6) rfl w.heap.size (v:=.slice (some ⟨w.heap.size,0,none⟩) 0 0) rfl (OR.empty (Nat.le_refl _)) (A:=some ⟨g,0,none⟩) (M:=([1] : List Int)) (m:=1) (c:=cap) rfl rfl (R1.out.gr (Qa _ _)) (by simp) (by simp) ?_;intro v7 w7 o7 g7 b7;have O7:=Qo0 o7;have G7:=Qo0 (OR.grow (W:=w) (Qa _ _) (OR.empty (n:=1) (cs:=ics) (Nat.le_refl _)) (Nat.le_refl _) g7);clear o7 g7 b7)
 go_ret
 exact ⟨_,rfl,O7.out,G7.out⟩
set_option maxRecDepth 100000 in
set_option maxHeartbeats 4000000 in
attribute [local irreducible] Calls in
theorem Qg7 (v : Value) (w : World) : Calls Tryz.prog 240 #[v,iv 0,iv 1] w fun e w' => (∃ r,e = .returned r) ∧ w' = w:=by
 go_enter Tryz.func240,Tryz.ntmps240
 go_wp2
 refine wp_loop_rounds 1 ?_
 rw [rounds_succ]
 go_wp2
 first | go_end0 | refine bodyPost_ret (results_none rfl _ _ _) rfl ?_
 exact ⟨⟨_,rfl⟩,rfl⟩
set_option maxRecDepth 100000 in
set_option maxHeartbeats 4000000 in
attribute [local irreducible] Calls in
theorem Qm5 (v : Value) (w : World) : Calls Tryz.prog 203 #[v,iv 0,iv 1,iv 1] w fun e w' => (∃ r,e = .returned r) ∧ w' = w:=by
 go_enter Tryz.func203,Tryz.ntmps203
 go_wp2
 refine wp_loop_rounds 1 ?_
 rw [rounds_succ]
 go_wp2_with (go_at_call 240;(with_reducible refine (Qg7 _ _).mono ?_);rintro e w1 ⟨⟨r,rfl⟩,rfl⟩)
 first | go_end0 | refine bodyPost_ret (results_none rfl _ _ _) rfl ?_
 exact ⟨⟨_,rfl⟩,rfl⟩
set_option maxRecDepth 100000 in
set_option maxHeartbeats 4000000 in
attribute [local irreducible] Calls in
theorem Qk2 (g cap : Nat) (w : World) : Calls Tryz.prog 173 #[.slice (some ⟨g,0,none⟩) 1 cap] w fun e w' => (∃ r,e = .returned r) ∧ w' = w:=by
 go_enter Tryz.func173,Tryz.ntmps173
 go_wp2_with (first
  | (go_at_call 198;(with_reducible refine (Qe6 _).mono ?_);rintro e w1 ⟨rfl,rfl⟩)
  | (go_at_call 203;(with_reducible refine (Qm5 _ _).mono ?_);rintro e w1 ⟨⟨r,rfl⟩,rfl⟩))
 first | go_end0 | refine bodyPost_ret (results_none rfl _ _ _) rfl ?_
 exact ⟨⟨_,rfl⟩,rfl⟩
set_option maxRecDepth 100000 in
set_option maxHeartbeats 4000000 in
attribute [local irreducible] Calls in
theorem Qg8 (v f : Value) (w : World) : Calls Tryz.prog 232 #[v,iv 0,iv 1,f] w fun e w' => (∃ r,e = .returned r) ∧ w' = w:=by
 go_enter Tryz.func232,Tryz.ntmps232
 go_wp2
 refine wp_loop_rounds 1 ?_
 rw [rounds_succ]
 go_wp2
 first | go_end0 | refine bodyPost_ret (results_none rfl _ _ _) rfl ?_
 exact ⟨⟨_,rfl⟩,rfl⟩
set_option maxRecDepth 100000 in
set_option maxHeartbeats 4000000 in
attribute [local irreducible] Calls in
theorem Qm6 (v f : Value) (w : World) : Calls Tryz.prog 202 #[v,iv 0,iv 1,iv 1,f] w fun e w' => (∃ r,e = .returned r) ∧ w' = w:=by
 go_enter Tryz.func202,Tryz.ntmps202
 go_wp2
 refine wp_loop_rounds 1 ?_
 rw [rounds_succ]
 go_wp2_with (go_at_call 232;(with_reducible refine (Qg8 _ _ _).mono ?_);rintro e w1 ⟨⟨r,rfl⟩,rfl⟩)
 first | go_end0 | refine bodyPost_ret (results_none rfl _ _ _) rfl ?_
 exact ⟨⟨_,rfl⟩,rfl⟩
set_option maxRecDepth 100000 in
set_option maxHeartbeats 4000000 in
attribute [local irreducible] Calls in
theorem Qk3 (g cap : Nat) (f : Value) (w : World) : Calls Tryz.prog 164 #[.slice (some ⟨g,0,none⟩) 1 cap,f] w fun e w' => (∃ r,e = .returned r) ∧ w' = w:=by
 go_enter Tryz.func164,Tryz.ntmps164
 go_wp2_with (first
  | (go_at_call 198;(with_reducible refine (Qe6 _).mono ?_);rintro e w1 ⟨rfl,rfl⟩)
  | (go_at_call 202;(with_reducible refine (Qm6 _ _ _).mono ?_);rintro e w1 ⟨⟨r,rfl⟩,rfl⟩))
 first | go_end0 | refine bodyPost_ret (results_none rfl _ _ _) rfl ?_
 exact ⟨⟨_,rfl⟩,rfl⟩
end Go.Proofs.YtiaenhlflgobfaaGreatDoor
namespace Go.Proofs.YtiaenhlflgobfaaGreatDoor
open Go.RowKit Go.Maps
theorem HS.row {w0 V V' : World} {L : List (Nat × Obj)} {b : Nat} {o : Obj} (h : HS w0 V L) (g : Gr V V') (hb : V.heap.size ≤ b) (f : V'.heap[b]? = some o) : HS w0 V' ((b,o) :: L):=by
 have h':=h.gr g
 refine ⟨h'.g,?_,fun p hp => ?_,fun p hp => ?_⟩
 ·rw [List.map_cons,List.nodup_cons]
  refine ⟨fun hm => ?_,h.n⟩
  obtain ⟨q,hq,e⟩:=List.mem_map.1 hm
  have:=h.lt q hq
  simp only at e
  omega
 ·rcases List.mem_cons.1 hp with rfl | hp
  ·exact Nat.le_trans h.g.size hb
  ·exact h'.b p hp
 ·rcases List.mem_cons.1 hp with rfl | hp
  ·exact f
  ·exact h'.f p hp
theorem HS.sub {w0 V : World} {L L' : List (Nat × Obj)} (h : HS w0 V L) (hs : ∀ p ∈ L',p ∈ L) (hn : (L'.map (·.1)).Nodup) : HS w0 V L':=⟨h.g,hn,fun p hp => h.b p (hs p hp),fun p hp => h.f p (hs p hp)⟩
theorem Qbp {v : Value} : LK iOk ([(1,v)] : MK Int):=⟨fun p hp => by rw [List.mem_singleton.1 hp];show iOk 1;decide,by simp⟩
set_option maxRecDepth 100000 in
set_option maxHeartbeats 4000000 in
attribute [local irreducible] Calls in
theorem comp1_a (w0 V : World) (p2 p3 p5 p6 p7 p8 p9 p10 m6 m7 m8 mU : Nat) (oF o2 : Obj) (hS : HS w0 V [(p10,oF),(p9,.cells #[.slice none 0 0] 110 (0,0)),(p8,.cells #[.map (some m8)] 187 (0,0)),(m8,Qg iv ([] : MK Int)),(p7,.cells #[.map (some m7)] 245 (0,0)),(p6,.cells #[.map (some m6)] 245 (0,0)),(m7,Qg iv ([] : MK Int)),(m6,Qg iv ([] : MK Int)),(p5,.cells #[.slice none 0 0] 137 (0,0)),(p3,.cells #[.map (some mU)] 195 (0,0)),(p2,o2)]) (hU : ∀ V',Gr w0 V' → MP iv V' mU ([(1,.slice none 0 0)] : MK Int)) :
 Calls Tryz.prog 170 #[iv 1,.pointer (some ⟨p6,0,none⟩),.pointer (some ⟨p7,0,none⟩),.pointer (some ⟨p9,0,none⟩),.pointer (some ⟨p3,0,none⟩),.pointer (some ⟨p10,0,none⟩),.pointer (some ⟨p8,0,none⟩),.pointer (some ⟨p5,0,none⟩)] V fun e V' => (∃ r,e = .returned r) ∧ ∃ gG cG uG gC cC uC,HS w0 V' [(gG,.cells uG 110 (0,0)),(gC,.cells uC 3 (0,0)),(p5,.cells #[.slice (some ⟨gG,0,none⟩) 1 cG] 137 (0,0))] ∧ (uG[0]? = some (.slice (some ⟨gC,0,none⟩) 1 cC) ∧ uG.size = cG * 1) ∧ uC[0]? = some (iv 1) ∧ (1 ≤ cG ∧ cG ≤ 9223372036854775807) ∧ (1 ≤ cC ∧ cC ≤ 9223372036854775807):=by
 have HU:=Qo0 hU
 clear hU
 have S0:=Qo0 hS
 clear hS
 go_enter Tryz.func170,Tryz.ntmps170
 have x1 : V.cell? ⟨p6,0,none⟩ = some (.map (some m6)):=S0.out.cell (b:=p6) (C:=#[.map (some m6)]) (t:=245) (by simp) 0
 have x2 : (Builtin.len_ #[245] 3 #[.map (some m6)]).run Tryz.prog V = .ok (iv 0) V:=by have h:=run_len_map (P:=Tryz.prog) (w:=V) 245 3 m6 #[] 0 (by kernel_rfl) (S0.out.f (m6,Qg iv ([] : MK Int)) (by simp));rw [h];rfl
 have x3 : (Instr.mapUpdate 245 (.map (some m6)) (iv 1) (iv 1)).run Tryz.prog V = .ok () (Zp iv V m6 ([(1,iv 1)] : MK Int)):=Q4 ktI (S0.out.mp (b:=m6) (kv:=iv) (l:=([] : MK Int)) (by simp)) LK.nil Tryz.underlying245 (k:=1) (by decide) (by rfl) (iv 1)
 go_upto_region 1 with fail
 generalize hW : Zp iv V m6 _ = W1
 have S1:=Qo0 (show HS w0 W1 [(p10,oF),(p9,Obj.cells #[.slice none 0 0] 110 (0,0)),(p8,Obj.cells #[.map (some m8)] 187 (0,0)),(m8,Qg iv ([] : MK Int)),(p7,Obj.cells #[.map (some m7)] 245 (0,0)),(p6,Obj.cells #[.map (some m6)] 245 (0,0)),(m7,Qg iv ([] : MK Int)),(m6,Qg iv ([(1,iv 1)] : MK Int)),(p5,Obj.cells #[.slice none 0 0] 137 (0,0)),(p3,Obj.cells #[.map (some mU)] 195 (0,0)),(p2,o2)] from by rw [← hW];exact HS.setm (pre:=[(p10,oF),(p9,Obj.cells #[.slice none 0 0] 110 (0,0)),(p8,Obj.cells #[.map (some m8)] 187 (0,0)),(m8,Qg iv ([] : MK Int)),(p7,Obj.cells #[.map (some m7)] 245 (0,0)),(p6,Obj.cells #[.map (some m6)] 245 (0,0)),(m7,Qg iv ([] : MK Int))]) (post:=[(p5,Obj.cells #[.slice none 0 0] 137 (0,0)),(p3,Obj.cells #[.map (some mU)] 195 (0,0)),(p2,o2)]) (l:=([] : MK Int)) S0.out ([(1,iv 1)] : MK Int))
 clear hW
 clear x1 x2 x3
 have x4 : W1.cell? ⟨p7,0,none⟩ = some (.map (some m7)):=S1.out.cell (b:=p7) (C:=#[.map (some m7)]) (t:=245) (by simp) 0
 have x5 : W1.cell? ⟨p6,0,none⟩ = some (.map (some m6)):=S1.out.cell (b:=p6) (C:=#[.map (some m6)]) (t:=245) (by simp) 0
 have x6 : (Instr.lookup 245 (.map (some m6)) (iv 1) false).run Tryz.prog W1 = .ok (iv 1) W1:=(Q7 ktI (S1.out.mp (b:=m6) (kv:=iv) (l:=([(1,iv 1)] : MK Int)) (by simp)) Qbp Tryz.underlying245 (z:=iv 0) (by kernel_rfl) (k:=1) (by decide)).1
 have x7 : (Instr.mapUpdate 245 (.map (some m7)) (iv 1) (iv 1)).run Tryz.prog W1 = .ok () (Zp iv W1 m7 ([(1,iv 1)] : MK Int)):=Q4 ktI (S1.out.mp (b:=m7) (kv:=iv) (l:=([] : MK Int)) (by simp)) LK.nil Tryz.underlying245 (k:=1) (by decide) (by rfl) (iv 1)
 go_upto_region 2 with fail
 generalize hW : Zp iv W1 m7 _ = W2
 have S2:=Qo0 (show HS w0 W2 [(p10,oF),(p9,Obj.cells #[.slice none 0 0] 110 (0,0)),(p8,Obj.cells #[.map (some m8)] 187 (0,0)),(m8,Qg iv ([] : MK Int)),(p7,Obj.cells #[.map (some m7)] 245 (0,0)),(p6,Obj.cells #[.map (some m6)] 245 (0,0)),(m7,Qg iv ([(1,iv 1)] : MK Int)),(m6,Qg iv ([(1,iv 1)] : MK Int)),(p5,Obj.cells #[.slice none 0 0] 137 (0,0)),(p3,Obj.cells #[.map (some mU)] 195 (0,0)),(p2,o2)] from by rw [← hW];exact HS.setm (pre:=[(p10,oF),(p9,Obj.cells #[.slice none 0 0] 110 (0,0)),(p8,Obj.cells #[.map (some m8)] 187 (0,0)),(m8,Qg iv ([] : MK Int)),(p7,Obj.cells #[.map (some m7)] 245 (0,0)),(p6,Obj.cells #[.map (some m6)] 245 (0,0))]) (post:=[(m6,Qg iv ([(1,iv 1)] : MK Int)),(p5,Obj.cells #[.slice none 0 0] 137 (0,0)),(p3,Obj.cells #[.map (some mU)] 195 (0,0)),(p2,o2)]) (l:=([] : MK Int)) S1.out ([(1,iv 1)] : MK Int))
 clear hW
 clear x4 x5 x6 x7
 have x8 : W2.cell? ⟨p9,0,none⟩ = some (.slice none 0 0):=S2.out.cell (b:=p9) (C:=#[.slice none 0 0]) (t:=110) (by simp) 0
 go_upto_region 3 with (at_builtin;refine Qf elI rfl (.tmp 25) (.tmp 27) rfl W2.heap.size (v:=.slice none 0 0) rfl OR.nil (A:=some ⟨_,0,none⟩) (M:=([1] : List Int)) (m:=1) (c:=1) rfl rfl (Qj (t:=3) Qj6 (Qd _ _)) (by simp) (by simp) ?_;intro vq W3 oq gq bq;obtain ⟨gO,cO,uO,rfl,hb,hf,hcO,hcOm,huO,hzuO⟩:=row1 oq rfl;have S3:=Qo0 (show HS w0 W3 [(gO,Obj.cells uO 3 (0,0)),(p10,oF),(p9,Obj.cells #[.slice none 0 0] 110 (0,0)),(p8,Obj.cells #[.map (some m8)] 187 (0,0)),(m8,Qg iv ([] : MK Int)),(p7,Obj.cells #[.map (some m7)] 245 (0,0)),(p6,Obj.cells #[.map (some m6)] 245 (0,0)),(m7,Qg iv ([(1,iv 1)] : MK Int)),(m6,Qg iv ([(1,iv 1)] : MK Int)),(p5,Obj.cells #[.slice none 0 0] 137 (0,0)),(p3,Obj.cells #[.map (some mU)] 195 (0,0)),(p2,o2)] from S2.out.row ((Qa _ _).trans gq) hb hf);have HuO:=Qo0 huO;have HZuO:=Qo0 hzuO;have HcO:=Qo0 (And.intro hcO hcOm);clear oq gq bq hb hf huO hcO hcOm hzuO;clear x8;have x9 : W3.cell? ⟨p9,0,none⟩ = some (.slice none 0 0):=S3.out.cell (b:=p9) (C:=#[.slice none 0 0]) (t:=110) (by simp) 0;have x10 : ∀ j,W3.frozen? ⟨p9,j,none⟩ = false:=S3.out.frz (b:=p9) (C:=#[.slice none 0 0]) (t:=110) (by simp))
 generalize hW : World.setCell W3 _ _ = W4
 have S4:=Qo0 (show HS w0 W4 [(gO,Obj.cells uO 3 (0,0)),(p10,oF),(p9,Obj.cells #[.slice (some ⟨gO,0,none⟩) 1 cO] 110 (0,0)),(p8,Obj.cells #[.map (some m8)] 187 (0,0)),(m8,Qg iv ([] : MK Int)),(p7,Obj.cells #[.map (some m7)] 245 (0,0)),(p6,Obj.cells #[.map (some m6)] 245 (0,0)),(m7,Qg iv ([(1,iv 1)] : MK Int)),(m6,Qg iv ([(1,iv 1)] : MK Int)),(p5,Obj.cells #[.slice none 0 0] 137 (0,0)),(p3,Obj.cells #[.map (some mU)] 195 (0,0)),(p2,o2)] from by rw [← hW];exact HS.setc (pre:=[(gO,Obj.cells uO 3 (0,0)),(p10,oF)]) (post:=[(p8,Obj.cells #[.map (some m8)] 187 (0,0)),(m8,Qg iv ([] : MK Int)),(p7,Obj.cells #[.map (some m7)] 245 (0,0)),(p6,Obj.cells #[.map (some m6)] 245 (0,0)),(m7,Qg iv ([(1,iv 1)] : MK Int)),(m6,Qg iv ([(1,iv 1)] : MK Int)),(p5,Obj.cells #[.slice none 0 0] 137 (0,0)),(p3,Obj.cells #[.map (some mU)] 195 (0,0)),(p2,o2)]) S3.out 0 _)
 clear hW
 clear x9 x10
 have x11 : W4.cell? ⟨p3,0,none⟩ = some (.map (some mU)):=S4.out.cell (b:=p3) (C:=#[.map (some mU)]) (t:=195) (by simp) 0
 have x12 : (Instr.lookup 195 (.map (some mU)) (iv 1) false).run Tryz.prog W4 = .ok (.slice none 0 0) W4:=(Q7 ktI (HU.out _ S4.out.g) (Qbp (v:=.slice none 0 0)) Tryz.underlying195 (z:=.slice none 0 0) (by kernel_rfl) (k:=1) (by decide)).1
 go_wp2
 refine wp_loop_rounds 1 ?_
 rw [rounds_succ]
 have x13 : W4.cell? ⟨p7,0,none⟩ = some (.map (some m7)):=S4.out.cell (b:=p7) (C:=#[.map (some m7)]) (t:=245) (by simp) 0
 have x14 : W4.cell? ⟨p6,0,none⟩ = some (.map (some m6)):=S4.out.cell (b:=p6) (C:=#[.map (some m6)]) (t:=245) (by simp) 0
 have x15 : (Instr.lookup 245 (.map (some m7)) (iv 1) false).run Tryz.prog W4 = .ok (iv 1) W4:=(Q7 ktI (S4.out.mp (b:=m7) (kv:=iv) (l:=([(1,iv 1)] : MK Int)) (by simp)) Qbp Tryz.underlying245 (z:=iv 0) (by kernel_rfl) (k:=1) (by decide)).1
 have x16 : (Instr.lookup 245 (.map (some m6)) (iv 1) false).run Tryz.prog W4 = .ok (iv 1) W4:=(Q7 ktI (S4.out.mp (b:=m6) (kv:=iv) (l:=([(1,iv 1)] : MK Int)) (by simp)) Qbp Tryz.underlying245 (z:=iv 0) (by kernel_rfl) (k:=1) (by decide)).1
 go_upto_region 13 with fail
 clear x11 x12 x13 x14 x15 x16
 have x17 : W4.cell? ⟨p9,0,none⟩ = some (.slice (some ⟨gO,0,none⟩) 1 cO):=S4.out.cell (b:=p9) (C:=#[.slice (some ⟨gO,0,none⟩) 1 cO]) (t:=110) (by simp) 0
 have y0 : W4.cell? ⟨gO,0,none⟩ = some (iv 1):=(S4.out.cell (b:=gO) (C:=uO) (t:=3) (by simp) 0).trans (HuO.out 0 _ rfl)
 have hc1 : (1 : Int) ≤ (cO : Int):=by have:=HcO.out;omega
 have hc2 : 1 ≤ cO:=HcO.out.1
 have hc3 : cO ≤ 9223372036854775807:=HcO.out.2
 have hl : gO < W4.heap.size:=S4.out.lt (gO,.cells uO 3 (0,0)) (by simp)
 have CI:=Qo0 (Qik gO cO W4 y0)
 have CC:=Qo0 (Qi6 gO cO W4 y0 hl)
 go_upto_region 16 with (first | (go_at_call 171;(with_reducible refine (CI.out).mono ?_);rintro e Wq ⟨rfl,rfl⟩) | (go_at_call 172;(with_reducible refine (CC.out).mono ?_);rintro e W5 ⟨v,rfl,o,g⟩;obtain ⟨gC,cC,uC,rfl,hb,hf,hcC,hcCm,huC,hzC⟩:=row1 o rfl;have S5:=Qo0 (show HS w0 W5 [(gC,Obj.cells uC 3 (0,0)),(gO,Obj.cells uO 3 (0,0)),(p10,oF),(p9,Obj.cells #[.slice (some ⟨gO,0,none⟩) 1 cO] 110 (0,0)),(p8,Obj.cells #[.map (some m8)] 187 (0,0)),(m8,Qg iv ([] : MK Int)),(p7,Obj.cells #[.map (some m7)] 245 (0,0)),(p6,Obj.cells #[.map (some m6)] 245 (0,0)),(m7,Qg iv ([(1,iv 1)] : MK Int)),(m6,Qg iv ([(1,iv 1)] : MK Int)),(p5,Obj.cells #[.slice none 0 0] 137 (0,0)),(p3,Obj.cells #[.map (some mU)] 195 (0,0)),(p2,o2)] from S4.out.row g hb hf);have HuC:=Qo0 huC;have HcC:=Qo0 (And.intro hcC hcCm);clear o g hb hf huC hcC hcCm hzC x17 y0 hl;have x18 : W5.cell? ⟨p9,0,none⟩ = some (.slice (some ⟨gO,0,none⟩) 1 cO):=S5.out.cell (b:=p9) (C:=#[.slice (some ⟨gO,0,none⟩) 1 cO]) (t:=110) (by simp) 0;have x19 : ∀ j,W5.frozen? ⟨p9,j,none⟩ = false:=S5.out.frz (b:=p9) (C:=#[.slice (some ⟨gO,0,none⟩) 1 cO]) (t:=110) (by simp)))
 generalize hW : World.setCell W5 _ _ = W6
 have S6:=Qo0 (show HS w0 W6 [(gC,Obj.cells uC 3 (0,0)),(gO,Obj.cells uO 3 (0,0)),(p10,oF),(p9,Obj.cells #[.slice (some ⟨gO,0,none⟩) 0 cO] 110 (0,0)),(p8,Obj.cells #[.map (some m8)] 187 (0,0)),(m8,Qg iv ([] : MK Int)),(p7,Obj.cells #[.map (some m7)] 245 (0,0)),(p6,Obj.cells #[.map (some m6)] 245 (0,0)),(m7,Qg iv ([(1,iv 1)] : MK Int)),(m6,Qg iv ([(1,iv 1)] : MK Int)),(p5,Obj.cells #[.slice none 0 0] 137 (0,0)),(p3,Obj.cells #[.map (some mU)] 195 (0,0)),(p2,o2)] from by rw [← hW];exact HS.setc (pre:=[(gC,Obj.cells uC 3 (0,0)),(gO,Obj.cells uO 3 (0,0)),(p10,oF)]) (post:=[(p8,Obj.cells #[.map (some m8)] 187 (0,0)),(m8,Qg iv ([] : MK Int)),(p7,Obj.cells #[.map (some m7)] 245 (0,0)),(p6,Obj.cells #[.map (some m6)] 245 (0,0)),(m7,Qg iv ([(1,iv 1)] : MK Int)),(m6,Qg iv ([(1,iv 1)] : MK Int)),(p5,Obj.cells #[.slice none 0 0] 137 (0,0)),(p3,Obj.cells #[.map (some mU)] 195 (0,0)),(p2,o2)]) S5.out 0 _)
 clear hW
 clear x18 x19
 go_wp2
 refine wp_loop_rounds 2 ?_
 rw [rounds_succ]
 have y0 : W6.cell? ⟨gC,0,none⟩ = some (iv 1):=(S6.out.cell (b:=gC) (C:=uC) (t:=3) (by simp) 0).trans (HuC.out 0 _ rfl)
 have hl : gC < W6.heap.size:=S6.out.lt (gC,.cells uC 3 (0,0)) (by simp)
 have x20 : W6.cell? ⟨p8,0,none⟩ = some (.map (some m8)):=S6.out.cell (b:=p8) (C:=#[.map (some m8)]) (t:=187) (by simp) 0
 have x21 : (Instr.mapUpdate 187 (.map (some m8)) (iv 1) (.bool true)).run Tryz.prog W6 = .ok () (Zp iv W6 m8 ([(1,.bool true)] : MK Int)):=Q4 ktI (S6.out.mp (b:=m8) (kv:=iv) (l:=([] : MK Int)) (by simp)) LK.nil Tryz.underlying187 (k:=1) (by decide) (by rfl) (.bool true)
 go_upto_region 20 with fail
 generalize hW : Zp iv W6 m8 _ = W7
 have S7:=Qo0 (show HS w0 W7 [(gC,Obj.cells uC 3 (0,0)),(gO,Obj.cells uO 3 (0,0)),(p10,oF),(p9,Obj.cells #[.slice (some ⟨gO,0,none⟩) 0 cO] 110 (0,0)),(p8,Obj.cells #[.map (some m8)] 187 (0,0)),(m8,Qg iv ([(1,.bool true)] : MK Int)),(p7,Obj.cells #[.map (some m7)] 245 (0,0)),(p6,Obj.cells #[.map (some m6)] 245 (0,0)),(m7,Qg iv ([(1,iv 1)] : MK Int)),(m6,Qg iv ([(1,iv 1)] : MK Int)),(p5,Obj.cells #[.slice none 0 0] 137 (0,0)),(p3,Obj.cells #[.map (some mU)] 195 (0,0)),(p2,o2)] from by rw [← hW];exact HS.setm (pre:=[(gC,Obj.cells uC 3 (0,0)),(gO,Obj.cells uO 3 (0,0)),(p10,oF),(p9,Obj.cells #[.slice (some ⟨gO,0,none⟩) 0 cO] 110 (0,0)),(p8,Obj.cells #[.map (some m8)] 187 (0,0))]) (post:=[(p7,Obj.cells #[.map (some m7)] 245 (0,0)),(p6,Obj.cells #[.map (some m6)] 245 (0,0)),(m7,Qg iv ([(1,iv 1)] : MK Int)),(m6,Qg iv ([(1,iv 1)] : MK Int)),(p5,Obj.cells #[.slice none 0 0] 137 (0,0)),(p3,Obj.cells #[.map (some mU)] 195 (0,0)),(p2,o2)]) (l:=([] : MK Int)) S6.out ([(1,.bool true)] : MK Int))
 clear hW
 clear y0 hl x20 x21
 go_wp2
 rw [rounds_succ]
 go_upto_region 22 with (go_at_call 173;(with_reducible refine (Qk2 _ _ _).mono ?_);rintro e Wq ⟨⟨r,rfl⟩,hq⟩;obtain rfl:=hq.symm)
 have x22 : W7.cell? ⟨p5,0,none⟩ = some (.slice none 0 0):=S7.out.cell (b:=p5) (C:=#[.slice none 0 0]) (t:=137) (by simp) 0
 go_wp2_with (at_builtin;refine Qf elG rfl (.tmp 95) (.tmp 97) rfl W7.heap.size (v:=.slice none 0 0) rfl OR.nil (A:=some ⟨_,0,none⟩) (M:=([⟨some ⟨gC,0,none⟩,1,cC⟩] : List GI)) (m:=1) (c:=1) rfl rfl (Qj (t:=110) GI.cs_len (Qd _ _)) (by simp) (by simp) ?_;intro vq W8 oq gq bq;obtain ⟨gG,cG,uG,rfl,hb,hf,hcG,hcGm,huG,hzuG⟩:=row1 oq rfl;have S8:=Qo0 (show HS w0 W8 [(gG,Obj.cells uG 110 (0,0)),(gC,Obj.cells uC 3 (0,0)),(gO,Obj.cells uO 3 (0,0)),(p10,oF),(p9,Obj.cells #[.slice (some ⟨gO,0,none⟩) 0 cO] 110 (0,0)),(p8,Obj.cells #[.map (some m8)] 187 (0,0)),(m8,Qg iv ([(1,.bool true)] : MK Int)),(p7,Obj.cells #[.map (some m7)] 245 (0,0)),(p6,Obj.cells #[.map (some m6)] 245 (0,0)),(m7,Qg iv ([(1,iv 1)] : MK Int)),(m6,Qg iv ([(1,iv 1)] : MK Int)),(p5,Obj.cells #[.slice none 0 0] 137 (0,0)),(p3,Obj.cells #[.map (some mU)] 195 (0,0)),(p2,o2)] from S7.out.row ((Qa _ _).trans gq) hb hf);have HuG:=Qo0 huG;have HZuG:=Qo0 hzuG;have HcG:=Qo0 (And.intro hcG hcGm);clear oq gq bq hb hf huG hcG hcGm hzuG;clear x22;have x23 : W8.cell? ⟨p5,0,none⟩ = some (.slice none 0 0):=S8.out.cell (b:=p5) (C:=#[.slice none 0 0]) (t:=137) (by simp) 0;have x24 : ∀ j,W8.frozen? ⟨p5,j,none⟩ = false:=S8.out.frz (b:=p5) (C:=#[.slice none 0 0]) (t:=137) (by simp))
 generalize hW : World.setCell W8 _ _ = WZ
 have SZ:=Qo0 (show HS w0 WZ [(gG,Obj.cells uG 110 (0,0)),(gC,Obj.cells uC 3 (0,0)),(gO,Obj.cells uO 3 (0,0)),(p10,oF),(p9,Obj.cells #[.slice (some ⟨gO,0,none⟩) 0 cO] 110 (0,0)),(p8,Obj.cells #[.map (some m8)] 187 (0,0)),(m8,Qg iv ([(1,.bool true)] : MK Int)),(p7,Obj.cells #[.map (some m7)] 245 (0,0)),(p6,Obj.cells #[.map (some m6)] 245 (0,0)),(m7,Qg iv ([(1,iv 1)] : MK Int)),(m6,Qg iv ([(1,iv 1)] : MK Int)),(p5,Obj.cells #[.slice (some ⟨gG,0,none⟩) 1 cG] 137 (0,0)),(p3,Obj.cells #[.map (some mU)] 195 (0,0)),(p2,o2)] from by rw [← hW];exact HS.setc (pre:=[(gG,Obj.cells uG 110 (0,0)),(gC,Obj.cells uC 3 (0,0)),(gO,Obj.cells uO 3 (0,0)),(p10,oF),(p9,Obj.cells #[.slice (some ⟨gO,0,none⟩) 0 cO] 110 (0,0)),(p8,Obj.cells #[.map (some m8)] 187 (0,0)),(m8,Qg iv ([(1,.bool true)] : MK Int)),(p7,Obj.cells #[.map (some m7)] 245 (0,0)),(p6,Obj.cells #[.map (some m6)] 245 (0,0)),(m7,Qg iv ([(1,iv 1)] : MK Int)),(m6,Qg iv ([(1,iv 1)] : MK Int))]) (post:=[(p3,Obj.cells #[.map (some mU)] 195 (0,0)),(p2,o2)]) S8.out 0 _)
 clear hW x23 x24
 first | go_end0 | refine bodyPost_ret (results_none rfl _ _ _) rfl ?_
 exact ⟨⟨_,rfl⟩,gG,cG,uG,gC,cC,uC,SZ.out.sub (by simp) (by
  have:=SZ.out.n
  simp only [List.map_cons,List.map_nil,List.nodup_cons,List.mem_cons,List.not_mem_nil,or_false,not_or] at this ⊢
  simp_all),⟨HuG.out 0 _ rfl,HZuG.out⟩,HuC.out 0 _ rfl,HcG.out,HcC.out⟩
end Go.Proofs.YtiaenhlflgobfaaGreatDoor
namespace Go.Proofs.YtiaenhlflgobfaaGreatDoor
open Go.RowKit
theorem Qi1 {B g cap n : Nat} {xs : List Value} {V : World} (h : V.ownsRow B 110 1 (.slice (some ⟨g,0,none⟩) n cap) n xs) (o : Nat) (ho : o + 1 ≤ n * 1) (ty : TypeId) (c : Nat) : ∃ vs,(Builtin.clear_ #[137] ty #[.slice (some ⟨g,o,none⟩) 1 c]).run Tryz.prog V = .ok (.tuple #[]) (V.setCells g o vs):=by
 have hl:=h.1
 have hz : ∀ W,(zeroValue 110).run Tryz.prog W = .ok (.slice none 0 0) W:=Tryz.zeroValue110
 obtain ⟨vs,hvs⟩ : ∃ vs,(Builtin.zeroCells (Value.cells (.slice none 0 0)) 1).toList = vs:=⟨_,rfl⟩
 have hlen : vs.length = 1:=by rw [← hvs];simp [Builtin.zeroCells,Value.cells]
 have h1 : ∀ v ∈ vs,v.oneCell' = true:=by
  intro v hv
  rw [← hvs] at hv
  simp [Builtin.zeroCells,Value.cells] at hv
  rw [hv];rfl
 have hst:=run_storeCells_cells (P:=Tryz.prog) g o vs 0 V (fun j hj => by
  rw [Nat.add_zero]
  rw [h.cellAt _ (by omega)]
  rw [List.getElem?_eq_getElem (by omega)]
  rfl) (fun j _ => h.frozenAt _) h1
 simp only [Nat.add_zero] at hst
 refine ⟨vs,?_⟩
 simp [Builtin.clear_,run_underlying Tryz.underlying137,hz,hvs,hst]
attribute [local irreducible] Calls in
set_option maxRecDepth 100000 in
set_option maxHeartbeats 8000000 in
theorem Qmc (B g off cap n i j : Nat) (L : List GI) (w : World) (hof : off = 0) (o : OR 110 1 GI.cs w B (.slice (some ⟨g,0,none⟩) n cap) L) (hn : L.length = n) (hi : i < n) (hj : j = i + 1) (hc : n ≤ cap) (hm : cap ≤ 9223372036854775807) :
 Calls Tryz.prog 169 #[.slice (some ⟨g,off,none⟩) n cap,.int .i64 i,.int .i64 j] w fun e w' => e = .returned (.slice (some ⟨g,off,none⟩) (n - 1) cap) ∧ OR 110 1 GI.cs w' B (.slice (some ⟨g,0,none⟩) (n - 1) cap) (L.eraseIdx i) ∧ w.grownBy w' (some g):=by
 obtain ⟨i0,hi0,hz0,hz1,hz2⟩:=info_parts (show (Tryz.prog.info? 110).map (fun i => (i.zero,i.size,i.bytes)) = some (some (.slice none 0 0),1,24) by kernel_rfl)
 obtain ⟨news,hnews⟩ : ∃ news,news = (L.drop j).flatMap GI.cs:=⟨_,rfl⟩
 have hlen : news.length = (n - j) * 1:=by rw [hnews,Qk GI.cs 1 (fun _ => rfl),List.length_drop,hn]
 have o1 : w.drew.ownsRow B 110 1 (.slice (some ⟨g,0,none⟩) n cap) n (L.flatMap GI.cs):=by have h:=o.gr (Qb w);unfold OR at h;rwa [hn] at h
 have hfl : (L.flatMap GI.cs).length = n * 1:=by rw [Qk GI.cs 1 (fun _ => rfl),hn]
 have hget : ∀ t u,news[t]? = some u → w.drew.cell? ⟨g,j * 1 + t,none⟩ = some u:=by
  intro t u hu
  have ht:=(List.getElem?_eq_some_iff.1 hu).1
  rw [o1.cellAt (j * 1 + t) (by omega)]
  have e : L.flatMap GI.cs = (L.take j).flatMap GI.cs ++ news:=by rw [hnews,← List.flatMap_append,List.take_append_drop]
  rw [e,List.getElem?_append_right (by rw [Qk GI.cs 1 (fun _ => rfl),List.length_take,hn];omega),Qk GI.cs 1 (fun _ => rfl),List.length_take,hn,Nat.min_eq_left (by omega),Nat.add_sub_cancel_left]
  exact hu
 obtain ⟨A,hA,hsrc⟩ : ∃ A : Addr,(if cap = j then some (⟨g,off,none⟩ : Addr) else some ⟨g,off + j,none⟩) = some A ∧ Hid (∀ t u,news[t]? = some u → w.drew.cell? (A.add t) = some u):=by
  by_cases h : cap = j
  ·refine ⟨⟨g,off,none⟩,by simp [h],fun t u hu => ?_⟩
   have h0 : news.length = 0:=by rw [hlen];omega
   rw [List.length_eq_zero_iff.1 h0] at hu
   simp at hu
  ·refine ⟨⟨g,off + j * 1,none⟩,by simp [h],fun t u hu => ?_⟩
   rw [Addr.add_lit,hof,Nat.zero_add]
   exact hget t u hu
 have s1 : Hid (news.length = (n - j) * 1):=hlen
 have s2 : Hid (∀ u ∈ news,u.oneCell' = true):=by
  intro u hu
  rw [hnews] at hu
  obtain ⟨x,_,hx⟩:=List.mem_flatMap.1 hu
  exact elG.h1 x u hx
 have s3 : Hid (∀ t,t < news.length → (w.drew.cell? ⟨g,off + i * 1 + t,none⟩).isSome = true ∧ w.drew.frozen? ⟨g,off + i * 1 + t,none⟩ = false):=by
  intro t ht
  rw [hlen] at ht
  rw [hof,Nat.zero_add]
  refine ⟨?_,o1.frozenAt _⟩
  rw [o1.cellAt _ (by omega),List.getElem?_eq_getElem (by rw [hfl];omega)]
  rfl
 obtain ⟨W1,hW1⟩ : ∃ W1,W1 = w.drew.setCells g (off + i * 1) news:=⟨_,rfl⟩
 have o2 : W1.ownsRow B 110 1 (.slice (some ⟨g,0,none⟩) n cap) n (Ye (L.flatMap GI.cs) (i * 1) news):=by rw [hW1,hof,Nat.zero_add];exact (Qm news _ (i * 1) _ o1).1
 have FIN : Hid (∀ vs,OR 110 1 GI.cs (W1.setCells g (off + (i + (n - j)) * 1) vs) B (.slice (some ⟨g,0,none⟩) (n - 1) cap) (L.eraseIdx i) ∧ w.grownBy (W1.setCells g (off + (i + (n - j)) * 1) vs) (some g)):=fun vs => by
  have h:=Qde (cs:=GI.cs) (k:=1) (fun _ => rfl) (o.gr (Qb w)) hn hi vs
  rw [hW1,hof,Nat.zero_add,Nat.zero_add,hnews,hj,show i + (n - (i + 1)) = n - 1 from by omega]
  exact ⟨h.1,(World.grownBy.but (Qb w) _).trans h.2⟩
 obtain ⟨k1,hk1⟩ : ∃ k,k = i + (n - j):=⟨_,rfl⟩
 have hcl : ∀ ty c,∃ vs,(Builtin.clear_ #[137] ty #[.slice (some ⟨g,off + k1 * 1,none⟩) (n - k1) c]).run Tryz.prog W1 = .ok (.tuple #[]) (W1.setCells g (off + k1 * 1) vs):=fun ty c => by
  have h:=Qi1 o2 (k1 * 1) (by omega) ty c
  rw [hof,Nat.zero_add,show n - k1 = 1 from by omega]
  exact h
 have HCL:=Qo0 hcl
 have hW : Hid (W1 = w.drew.setCells g (off + i * 1) news):=hW1
 have HK:=Qo0 hk1
 have hic : i ≤ cap:=by omega
 have hjc : j ≤ cap:=by omega
 have hij : i < j:=by omega
 have hij2 : i ≤ j:=by omega
 have hin : i ≤ n:=by omega
 have hjn : j ≤ n:=by omega
 have hsum : i + (n - j) ≤ cap:=by omega
 have hkn : i + (n - j) = n - 1:=by omega
 have HJ:=Qo0 (show j = i + 1 ∧ i + (n - j) = n - 1 from ⟨hj,hkn⟩)
 clear hW1 hcl o2 o1 hget hnews hlen hfl o hn hk1 hof hj hkn
 simp only [Nat.mul_one] at FIN HCL
 go_enter Tryz.func169,Tryz.ntmps169
 go_wp2_with fail
 go_region_law (refine step_append_room rfl (.tmp 22) (.tmp 25) 137 rfl 110 i0 1 Tryz.underlying137 hi0 hz1 g off i cap (by simp [Act.eval,Act.put]) A (n - j) (cap - j) news (by simp [Act.eval,Act.put]) s1.out hsrc.out s2.out (by omega) s3.out ?_;rw [← hW.out])
 rw [← HK.out]
 have k2 : k1 < n:=by have:=HK.out;have:=HJ.out;omega
 have k3 : k1 < cap:=by omega
 have k4 : k1 ≤ cap:=by omega
 have k5 : k1 ≤ n:=by omega
 clear hsum
 obtain ⟨vs,hvs⟩:=HCL.out 0 (cap - k1)
 go_wp2
 go_ret
 have e1 : n - 1 = k1:=by have:=HK.out;have:=HJ.out;omega
 have F:=FIN.out vs
 rw [← HK.out] at F
 rw [e1] at F ⊢
 exact ⟨rfl,F⟩
theorem Qoh (B i : Nat) (z : Int) (v : Value) (L : List GI) (w : World) (o : OR 110 1 GI.cs w B v L) (hi : i < L.length) (hz : z = (i : Int) + 1) :
 Calls Tryz.prog 169 #[v,.int .i64 i,.int .i64 z] w fun e w' => ∃ v',e = .returned v' ∧ OR 110 1 GI.cs w' B v' (L.eraseIdx i) ∧ w.grownBy w' v.ownBlock ∧ v'.ownBlock = v.ownBlock:=by
 have e : z = ((i + 1 : Nat) : Int):=by omega
 subst e
 obtain ⟨A,c,rfl,-,hnc,hc9,hA0,hA⟩:=o.form2 elG.hn
 cases A with
 | none => have:=hA0 rfl;omega
 | some a =>
   obtain ⟨-,h2,e3⟩ : B ≤ a.block ∧ a.block < w.heap.size ∧ a = ⟨a.block,0,none⟩:=hA a rfl
   rw [e3] at o ⊢
   refine (Qmc B a.block 0 c L.length i (i + 1) L w rfl o rfl hi rfl hnc hc9).mono ?_
   rintro e w' ⟨rfl,h3,h4⟩
   exact ⟨_,rfl,h3,h4,rfl⟩
end Go.Proofs.YtiaenhlflgobfaaGreatDoor
namespace Go.Proofs.YtiaenhlflgobfaaGreatDoor
open Go.RowKit Go.Maps
theorem HSgo {G : Act → World → Prop} {tm : Array Value} {df : List Deferred} {w0 V : World} {L : List (Nat × Obj)} (h : HS w0 V L) (rest : ∀ V',HS w0 V' L → G ⟨tm,df⟩ V') : G ⟨tm,df⟩ V:=rest V h
theorem HS.tail {w0 V : World} {L : List (Nat × Obj)} {p : Nat × Obj} (h : HS w0 V (p :: L)) : HS w0 V L:=h.sub (fun q hq => by simp [hq]) (by have:=h.n;rw [List.map_cons,List.nodup_cons] at this;exact this.2)
theorem HS.lose {w0 V V' : World} {pre post : List (Nat × Obj)} {b : Nat} {o : Obj} (h : HS w0 V (pre ++ (b,o) :: post)) (g : V.grownBy V' (some b)) : HS w0 V' (pre ++ post):=by
 have hb:=Qn (h.f (b,o) (by simp))
 obtain ⟨o',ho⟩ : ∃ o',V'.heap[b]? = some o':=⟨_,Array.getElem?_eq_getElem (Nat.lt_of_lt_of_le hb g.size)⟩
 have h2:=h.put g ho
 refine h2.sub (fun q hq => ?_) ?_
 ·rcases List.mem_append.1 hq with h | h <;> simp [h]
 ·have:=h2.n
  rw [List.map_append,List.map_cons,List.nodup_append,List.nodup_cons] at this
  rw [List.map_append,List.nodup_append]
  exact ⟨this.1,this.2.1.2,fun a ha c hc => this.2.2 a ha c (by simp [hc])⟩
set_option maxRecDepth 100000 in
set_option maxHeartbeats 4000000 in
attribute [local irreducible] Calls in
theorem Qf5 (kN kD mU : Nat) (w : World) (hD : w.heap[kD]? = some (.cells #[iv 1,iv 1,.bool true,.slice (some ⟨kN,0,none⟩) 1 1,.bool false,iv 1,.string ⟨#[]⟩,.string ⟨#[]⟩,iv 7,iv 0,.slice none 0 0] 45 (0,0))) (hU : MP iv w mU ([(1,.slice none 0 0)] : MK Int)) : Calls Tryz.prog 121 #[.agg #[.string ⟨#[109]⟩,.slice none 0 0,.slice (some ⟨kD,0,none⟩) 1 1],.map (some mU)] w fun e w' => ∃ gG cG uG gC cC uC,e = .returned (.slice (some ⟨gG,0,none⟩) 1 cG) ∧ HS w w' [(gG,.cells uG 110 (0,0)),(gC,.cells uC 3 (0,0))] ∧ (uG[0]? = some (.slice (some ⟨gC,0,none⟩) 1 cC) ∧ uG.size = cG * 1) ∧ uC[0]? = some (iv 1) ∧ (1 ≤ cG ∧ cG ≤ 9223372036854775807) ∧ (1 ≤ cC ∧ cC ≤ 9223372036854775807):=by
 have FD:=Qo0 (fun V (g : Gr w V) => boxD (Qe g hD))
 have HU:=Qo0 (fun V (g : Gr w V) => hU.keep (g.block _ (MP.lt hU) (by simp)))
 clear hD hU
 have S0:=Qo0 (HS.nil (w0:=w))
 have hmm:=@run_makeMap Tryz.prog
 obtain ⟨b,hb⟩ : ∃ b,w.heap.size = b:=⟨_,rfl⟩
 go_enter Tryz.func121,Tryz.ntmps121
 go_upto_region 6 with fail
 refine HSgo (w0:=w) (L:=[((b + 1 + 1 + 1 + 1 + 1 + 1 + 1 + 1 + 1 + 1),Obj.cells #[Value.nilFunc] 101 (0,0)),((b + 1 + 1 + 1 + 1 + 1 + 1 + 1 + 1 + 1),Obj.cells #[.slice none 0 0] 110 (0,0)),((b + 1 + 1 + 1 + 1 + 1 + 1 + 1 + 1),Obj.cells #[.map (some ((b + 1 + 1 + 1 + 1 + 1 + 1 + 1)))] 187 (0,0)),((b + 1 + 1 + 1 + 1 + 1 + 1 + 1),Qg iv ([] : MK Int)),((b + 1 + 1 + 1 + 1 + 1 + 1),Obj.cells #[.map (some ((b + 1 + 1 + 1 + 1)))] 245 (0,0)),((b + 1 + 1 + 1 + 1 + 1),Obj.cells #[.map (some ((b + 1 + 1 + 1)))] 245 (0,0)),((b + 1 + 1 + 1 + 1),Qg iv ([] : MK Int)),((b + 1 + 1 + 1),Qg iv ([] : MK Int)),((b + 1 + 1),Obj.cells #[.slice none 0 0] 137 (0,0)),((b + 1),Obj.cells #[.map (some mU)] 195 (0,0)),(b,Obj.cells #[.string ⟨#[109]⟩,.slice none 0 0,.slice (some ⟨kD,0,none⟩) 1 1] 39 (0,0))]) (by repeat' (first | exact HS.nil | refine HS.alloc ?_ (by simp [hb]) _)) ?_
 intro W1 S1
 clear hb
 generalize b + 1 = p1 at S1 ⊢
 generalize p1 + 1 = p2 at S1 ⊢
 generalize p2 + 1 = p3 at S1 ⊢
 generalize p3 + 1 = p4 at S1 ⊢
 generalize p4 + 1 = p5 at S1 ⊢
 generalize p5 + 1 = p6 at S1 ⊢
 generalize p6 + 1 = p7 at S1 ⊢
 generalize p7 + 1 = p8 at S1 ⊢
 generalize p8 + 1 = p9 at S1 ⊢
 generalize p9 + 1 = p10 at S1 ⊢
 have S1:=Qo0 S1
 have x1 : W1.cell? ⟨p10,0,none⟩ = some (Value.nilFunc):=S1.out.cell (b:=p10) (C:=#[Value.nilFunc]) (t:=101) (by simp) 0
 have x2 : ∀ j,W1.frozen? ⟨p10,j,none⟩ = false:=S1.out.frz (b:=p10) (C:=#[Value.nilFunc]) (t:=101) (by simp)
 have x3 : ∀ (a : Addr) (f : Fn) (x y : Array Value) (m : Mode) (w : World),(store a (.func f x y) m).run Tryz.prog w = stored Tryz.prog w a (.func f x y) m:=fun a f x y m w => run_store Tryz.prog w a _ m rfl
 go_upto_region 7 with fail
 generalize hW : World.setCell W1 _ _ = W2
 have S2:=Qo0 (show HS w W2 [(p10,Obj.cells #[.func (.func 170) #[] #[.pointer (some ⟨p5,0,none⟩),.pointer (some ⟨p6,0,none⟩),.pointer (some ⟨p9,0,none⟩),.pointer (some ⟨p1,0,none⟩),.pointer (some ⟨p10,0,none⟩),.pointer (some ⟨p8,0,none⟩),.pointer (some ⟨p2,0,none⟩)]] 101 (0,0)),(p9,Obj.cells #[.slice none 0 0] 110 (0,0)),(p8,Obj.cells #[.map (some (p7))] 187 (0,0)),(p7,Qg iv ([] : MK Int)),(p6,Obj.cells #[.map (some (p4))] 245 (0,0)),(p5,Obj.cells #[.map (some (p3))] 245 (0,0)),(p4,Qg iv ([] : MK Int)),(p3,Qg iv ([] : MK Int)),(p2,Obj.cells #[.slice none 0 0] 137 (0,0)),(p1,Obj.cells #[.map (some mU)] 195 (0,0)),(b,Obj.cells #[.string ⟨#[109]⟩,.slice none 0 0,.slice (some ⟨kD,0,none⟩) 1 1] 39 (0,0))] from by rw [← hW];exact HS.setc (pre:=[]) (post:=[(p9,Obj.cells #[.slice none 0 0] 110 (0,0)),(p8,Obj.cells #[.map (some (p7))] 187 (0,0)),(p7,Qg iv ([] : MK Int)),(p6,Obj.cells #[.map (some (p4))] 245 (0,0)),(p5,Obj.cells #[.map (some (p3))] 245 (0,0)),(p4,Qg iv ([] : MK Int)),(p3,Qg iv ([] : MK Int)),(p2,Obj.cells #[.slice none 0 0] 137 (0,0)),(p1,Obj.cells #[.map (some mU)] 195 (0,0)),(b,Obj.cells #[.string ⟨#[109]⟩,.slice none 0 0,.slice (some ⟨kD,0,none⟩) 1 1] 39 (0,0))]) S1.out 0 _)
 clear hW
 clear x1 x2 x3
 have x4 : W2.cell? ⟨b,2,none⟩ = some (.slice (some ⟨kD,0,none⟩) 1 1):=S2.out.cell (b:=b) (C:=#[.string ⟨#[109]⟩,.slice none 0 0,.slice (some ⟨kD,0,none⟩) 1 1]) (t:=39) (by simp) 2
 go_wp2
 refine wp_loop_rounds 2 ?_
 rw [rounds_succ]
 obtain ⟨d0,d1,d2,d3,d4,d5,d6,d7,d8,d9,d10⟩:=FD.out _ S2.out.g
 obtain ⟨b12,hb12⟩ : ∃ b,W2.heap.size = b:=⟨_,rfl⟩
 go_upto_region 10 with fail
 generalize hW : World.alloc W2 _ = W3
 have S3:=Qo0 (show HS w W3 [(b12,Obj.cells #[iv 1,iv 1,.bool true,.slice (some ⟨kN,0,none⟩) 1 1,.bool false,iv 1,.string ⟨#[]⟩,.string ⟨#[]⟩,iv 7,iv 0,.slice none 0 0] 45 (0,0)),(p10,Obj.cells #[.func (.func 170) #[] #[.pointer (some ⟨p5,0,none⟩),.pointer (some ⟨p6,0,none⟩),.pointer (some ⟨p9,0,none⟩),.pointer (some ⟨p1,0,none⟩),.pointer (some ⟨p10,0,none⟩),.pointer (some ⟨p8,0,none⟩),.pointer (some ⟨p2,0,none⟩)]] 101 (0,0)),(p9,Obj.cells #[.slice none 0 0] 110 (0,0)),(p8,Obj.cells #[.map (some (p7))] 187 (0,0)),(p7,Qg iv ([] : MK Int)),(p6,Obj.cells #[.map (some (p4))] 245 (0,0)),(p5,Obj.cells #[.map (some (p3))] 245 (0,0)),(p4,Qg iv ([] : MK Int)),(p3,Qg iv ([] : MK Int)),(p2,Obj.cells #[.slice none 0 0] 137 (0,0)),(p1,Obj.cells #[.map (some mU)] 195 (0,0)),(b,Obj.cells #[.string ⟨#[109]⟩,.slice none 0 0,.slice (some ⟨kD,0,none⟩) 1 1] 39 (0,0))] from by rw [← hW];exact S2.out.alloc hb12 _)
 clear hW
 have Hb12:=Qo0 hb12
 clear hb12
 clear x4 d0 d1 d2 d3 d4 d5 d6 d7 d8 d9 d10
 have x5 : W3.cell? ⟨p5,0,none⟩ = some (.map (some (p3))):=S3.out.cell (b:=p5) (C:=#[.map (some (p3))]) (t:=245) (by simp) 0
 have x6 : W3.cell? ⟨b12,0,none⟩ = some (iv 1):=S3.out.cell (b:=b12) (C:=#[iv 1,iv 1,.bool true,.slice (some ⟨kN,0,none⟩) 1 1,.bool false,iv 1,.string ⟨#[]⟩,.string ⟨#[]⟩,iv 7,iv 0,.slice none 0 0]) (t:=45) (by simp) 0
 have x7 : W3.cell? ⟨p10,0,none⟩ = some (.func (.func 170) #[] #[.pointer (some ⟨p5,0,none⟩),.pointer (some ⟨p6,0,none⟩),.pointer (some ⟨p9,0,none⟩),.pointer (some ⟨p1,0,none⟩),.pointer (some ⟨p10,0,none⟩),.pointer (some ⟨p8,0,none⟩),.pointer (some ⟨p2,0,none⟩)]):=S3.out.cell (b:=p10) (C:=#[.func (.func 170) #[] #[.pointer (some ⟨p5,0,none⟩),.pointer (some ⟨p6,0,none⟩),.pointer (some ⟨p9,0,none⟩),.pointer (some ⟨p1,0,none⟩),.pointer (some ⟨p10,0,none⟩),.pointer (some ⟨p8,0,none⟩),.pointer (some ⟨p2,0,none⟩)]]) (t:=101) (by simp) 0
 have x8 : (Instr.lookup 245 (.map (some p3)) (iv 1) false).run Tryz.prog W3 = .ok (iv 0) W3:=(Q7 ktI (S3.out.mp (b:=p3) (kv:=iv) (l:=([] : MK Int)) (by simp)) LK.nil Tryz.underlying245 (z:=iv 0) (by kernel_rfl) (k:=1) (by decide)).1
 have CV:=Qo0 (comp1_a w W3 _ _ _ _ _ _ _ _ _ _ _ mU _ _ (S3.out.tail) HU.out)
 go_wp2_with (go_at_call 170;(with_reducible refine (CV.out).mono ?_);rintro e WA ⟨⟨r,rfl⟩,gG,cG,uG,gC,cC,uC,sA,h1,h2,h3,h4⟩;have SA:=Qo0 sA;have HH:=Qo0 (And.intro h1 (And.intro h2 (And.intro h3 h4)));clear sA h1 h2 h3 h4)
 clear x5 x6 x7 x8
 rw [rounds_succ]
 have z0 : WA.cell? ⟨p2,0,none⟩ = some (.slice (some ⟨gG,0,none⟩) 1 cG):=SA.out.cell (show (p2,Obj.cells #[.slice (some ⟨gG,0,none⟩) 1 cG] 137 (0,0)) ∈ _ from by simp) 0
 go_wp2
 go_ret
 exact ⟨gG,cG,uG,gC,cC,uC,rfl,SA.out.sub (by simp) (by have:=SA.out.n;simp only [List.map_cons,List.map_nil,List.nodup_cons,List.mem_cons,List.not_mem_nil,or_false,not_or] at this ⊢;simp_all),HH.out.1,HH.out.2.1,HH.out.2.2.1,HH.out.2.2.2⟩
set_option maxRecDepth 100000 in
set_option maxHeartbeats 4000000 in
attribute [local irreducible] Calls in
theorem ord2_a (gC cC p q mU : Nat) (w : World) (h1 : w.cell? ⟨gC,0,none⟩ = some (iv 1)) (h2 : w.cell? ⟨p,0,none⟩ = some (.map (some mU))) (hU : MP iv w mU ([(1,.slice none 0 0)] : MK Int)) (_hc : 1 ≤ cC ∧ cC ≤ 9223372036854775807) : Calls Tryz.prog 167 #[.slice (some ⟨gC,0,none⟩) 1 cC,.pointer (some ⟨p,0,none⟩),.pointer (some ⟨q,0,none⟩)] w fun e w' => e = .returned (.bool true) ∧ w' = w:=by
 have lk : (Instr.lookup 195 (.map (some mU)) (iv 1) false).run Tryz.prog w = .ok (.slice none 0 0) w:=(Q7 ktI hU (Qbp (v:=.slice none 0 0)) Tryz.underlying195 (z:=.slice none 0 0) (by kernel_rfl) (k:=1) (by decide)).1
 clear hU
 go_enter Tryz.func167,Tryz.ntmps167
 go_wp2
 refine wp_loop_rounds 2 ?_
 rw [rounds_succ]
 go_wp2
 refine wp_loop_rounds 1 ?_
 iterate 2 (rw [rounds_succ];go_wp2)
 go_ret
 exact ⟨rfl,rfl⟩
set_option maxRecDepth 100000 in
set_option maxHeartbeats 4000000 in
attribute [local irreducible] Calls in
theorem idxG_a (gG cG gC cC p q mU : Nat) (w : World) (h0 : w.cell? ⟨gG,0,none⟩ = some (.slice (some ⟨gC,0,none⟩) 1 cC)) (h1 : w.cell? ⟨gC,0,none⟩ = some (iv 1)) (h2 : w.cell? ⟨p,0,none⟩ = some (.map (some mU))) (hU : MP iv w mU ([(1,.slice none 0 0)] : MK Int)) (hc : 1 ≤ cC ∧ cC ≤ 9223372036854775807) : Calls Tryz.prog 166 #[.slice (some ⟨gG,0,none⟩) 1 cG,.func (.func 167) #[] #[.pointer (some ⟨p,0,none⟩),.pointer (some ⟨q,0,none⟩)]] w fun e w' => e = .returned (iv 0) ∧ w' = w:=by
 have C1:=Qo0 (ord2_a gC cC p q mU w h1 h2 hU hc)
 clear hU h1 h2
 go_enter Tryz.func166,Tryz.ntmps166
 go_wp2
 refine wp_loop_rounds 1 ?_
 rw [rounds_succ]
 go_wp2_with (go_at_call 167;(with_reducible refine (C1.out).mono ?_);rintro e W1 ⟨rfl,hq⟩;obtain rfl:=hq.symm)
 go_ret
 exact ⟨rfl,rfl⟩
set_option maxRecDepth 100000 in
set_option maxHeartbeats 4000000 in
attribute [local irreducible] Calls in
theorem Qlh (gG cG gC cC mU : Nat) (uG uC : Array Value) (w0 V : World) (hS : HS w0 V [(gG,.cells uG 110 (0,0)),(gC,.cells uC 3 (0,0))]) (hG : uG[0]? = some (.slice (some ⟨gC,0,none⟩) 1 cC) ∧ uG.size = cG * 1) (hC : uC[0]? = some (iv 1)) (hcG : 1 ≤ cG ∧ cG ≤ 9223372036854775807) (hcC : 1 ≤ cC ∧ cC ≤ 9223372036854775807) (hU : ∀ V',Gr w0 V' → MP iv V' mU ([(1,.slice none 0 0)] : MK Int)) :
 Calls Tryz.prog 120 #[.slice (some ⟨gG,0,none⟩) 1 cG,.map (some mU)] V fun e V' => ∃ gL cL uL,e = .returned (.slice (some ⟨gL,0,none⟩) 1 cL) ∧ HS w0 V' [(gL,.cells uL 110 (0,0)),(gC,.cells uC 3 (0,0))] ∧ uL[0]? = some (.slice (some ⟨gC,0,none⟩) 1 cC) ∧ (1 ≤ cL ∧ cL ≤ 9223372036854775807):=by
 have HU:=Qo0 hU
 have HG:=Qo0 hG
 have HC:=Qo0 hC
 have HcG:=Qo0 hcG
 have HcC:=Qo0 hcC
 clear hU hG hC hcG hcC
 have S0:=Qo0 hS
 clear hS
 have hmm:=@run_makeMap Tryz.prog
 obtain ⟨b,hb⟩ : ∃ b,V.heap.size = b:=⟨_,rfl⟩
 go_enter Tryz.func120,Tryz.ntmps120
 go_upto_region 4 with (go_at_call 164;(with_reducible refine (Qk3 _ _ _ _).mono ?_);rintro e Wq ⟨⟨r,rfl⟩,rfl⟩)
 refine HSgo (w0:=w0) (L:=[((b + 1 + 1),Obj.cells #[.map (some ((b + 1)))] 187 (0,0)),((b + 1),Qg iv ([] : MK Int)),(b,Obj.cells #[.map (some mU)] 195 (0,0)),(gG,Obj.cells uG 110 (0,0)),(gC,Obj.cells uC 3 (0,0))]) (by repeat' (first | exact S0.out | refine HS.alloc ?_ (by simp [hb]) _)) ?_
 intro W1 S1
 clear hb
 generalize b + 1 = p1 at S1 ⊢
 generalize p1 + 1 = p2 at S1 ⊢
 have S1:=Qo0 S1
 have y0 : W1.cell? ⟨gG,0,none⟩ = some (.slice (some ⟨gC,0,none⟩) 1 cC):=(S1.out.cell (b:=gG) (C:=uG) (t:=110) (by simp) 0).trans HG.out.1
 have y1 : W1.cell? ⟨gC,0,none⟩ = some (iv 1):=(S1.out.cell (b:=gC) (C:=uC) (t:=3) (by simp) 0).trans HC.out
 have x1 : W1.cell? ⟨b,0,none⟩ = some (.map (some mU)):=S1.out.cell (b:=b) (C:=#[.map (some mU)]) (t:=195) (by simp) 0
 have CI:=Qo0 (idxG_a gG cG gC cC b (p2) mU W1 y0 y1 x1 (HU.out _ S1.out.g) HcC.out)
 have k1 : 1 ≤ cG:=HcG.out.1
 have k2 : cG ≤ 9223372036854775807:=HcG.out.2
 have k3 : 1 ≤ cC:=HcC.out.1
 have k4 : cC ≤ 9223372036854775807:=HcC.out.2
 refine wp_loop_rounds 2 ?_
 rw [rounds_succ]
 go_upto_region 9 with (go_at_call 166;(with_reducible refine (CI.out).mono ?_);rintro e Wq ⟨rfl,hq⟩;obtain rfl:=hq.symm)
 refine wp_loop_rounds 2 ?_
 rw [rounds_succ]
 have x2 : W1.cell? ⟨p2,0,none⟩ = some (.map (some (p1))):=S1.out.cell (b:=p2) (C:=#[.map (some (p1))]) (t:=187) (by simp) 0
 have x3 : (Instr.mapUpdate 187 (.map (some p1)) (iv 1) (.bool true)).run Tryz.prog W1 = .ok () (Zp iv W1 p1 ([(1,.bool true)] : MK Int)):=Q4 ktI (S1.out.mp (b:=p1) (kv:=iv) (l:=([] : MK Int)) (by simp)) LK.nil Tryz.underlying187 (k:=1) (by decide) (by rfl) (.bool true)
 go_upto_region 12 with fail
 generalize hW : Zp iv W1 p1 _ = W2
 have S2:=Qo0 (show HS w0 W2 [(p2,Obj.cells #[.map (some (p1))] 187 (0,0)),(p1,Qg iv ([(1,.bool true)] : MK Int)),(b,Obj.cells #[.map (some mU)] 195 (0,0)),(gG,Obj.cells uG 110 (0,0)),(gC,Obj.cells uC 3 (0,0))] from by rw [← hW];exact HS.setm (pre:=[(p2,Obj.cells #[.map (some (p1))] 187 (0,0))]) (post:=[(b,Obj.cells #[.map (some mU)] 195 (0,0)),(gG,Obj.cells uG 110 (0,0)),(gC,Obj.cells uC 3 (0,0))]) (l:=([] : MK Int)) S1.out ([(1,.bool true)] : MK Int))
 clear hW
 clear y0 y1 x1 x2 x3
 go_wp2
 rw [rounds_succ]
 have y0 : W2.cell? ⟨gG,0,none⟩ = some (.slice (some ⟨gC,0,none⟩) 1 cC):=(S2.out.cell (b:=gG) (C:=uG) (t:=110) (by simp) 0).trans HG.out.1
 go_upto_region 14 with (at_builtin;refine Qf elG rfl (.tmp 34) (.tmp 39) rfl W2.heap.size (v:=.slice none 0 0) rfl OR.nil (A:=some ⟨_,0,none⟩) (M:=([⟨some ⟨gC,0,none⟩,1,cC⟩] : List GI)) (m:=1) (c:=1) rfl rfl (Qj (t:=110) GI.cs_len (Qd _ _)) (by simp) (by simp) ?_;intro vq W3 oq gq bq;obtain ⟨gL,cL,uL,rfl,hb,hf,hcL,hcLm,huL,hzuL⟩:=row1 oq rfl;have S3:=Qo0 (show HS w0 W3 [(gL,Obj.cells uL 110 (0,0)),(p2,Obj.cells #[.map (some (p1))] 187 (0,0)),(p1,Qg iv ([(1,.bool true)] : MK Int)),(b,Obj.cells #[.map (some mU)] 195 (0,0)),(gG,Obj.cells uG 110 (0,0)),(gC,Obj.cells uC 3 (0,0))] from S2.out.row ((Qa _ _).trans gq) hb hf);have HuL:=Qo0 huL;have HZuL:=Qo0 hzuL;have HcL:=Qo0 (And.intro hcL hcLm);clear oq gq bq hb hf huL hcL hcLm hzuL;clear y0)
 have OD:=Qo0 (show OR 110 1 GI.cs W3 w0.heap.size (.slice (some ⟨gG,0,none⟩) 1 cG) [⟨some ⟨gC,0,none⟩,1,cC⟩] from row_or rfl (S3.out.f (gG,.cells uG 110 (0,0)) (by simp)) (S3.out.b (gG,.cells uG 110 (0,0)) (by simp)) HcG.out.1 HcG.out.2 HG.out.2 HG.out.1)
 have CD:=Qo0 (show Calls Tryz.prog 169 #[.slice (some ⟨gG,0,none⟩) 1 cG,iv 0,.int .i64 1] W3 _ from Qoh w0.heap.size 0 1 (.slice (some ⟨gG,0,none⟩) 1 cG) [⟨some ⟨gC,0,none⟩,1,cC⟩] W3 OD.out (by simp) (by simp))
 go_wp2_with (go_at_call 169;(with_reducible refine (CD.out).mono ?_);rintro e W4 ⟨v,rfl,o,g,-⟩;obtain ⟨aD,cD,rfl,-⟩:=o.form2 GI.cs_len;have S4:=Qo0 (show HS w0 W4 [(gL,Obj.cells uL 110 (0,0)),(p2,Obj.cells #[.map (some (p1))] 187 (0,0)),(p1,Qg iv ([(1,.bool true)] : MK Int)),(b,Obj.cells #[.map (some mU)] 195 (0,0)),(gC,Obj.cells uC 3 (0,0))] from HS.lose (pre:=[(gL,Obj.cells uL 110 (0,0)),(p2,Obj.cells #[.map (some (p1))] 187 (0,0)),(p1,Qg iv ([(1,.bool true)] : MK Int)),(b,Obj.cells #[.map (some mU)] 195 (0,0))]) (post:=[(gC,Obj.cells uC 3 (0,0))]) S3.out g);clear o g)
 rw [rounds_succ]
 go_wp2
 go_ret
 exact ⟨gL,cL,uL,rfl,S4.out.sub (by simp) (by have:=S4.out.n;simp only [List.map_cons,List.map_nil,List.nodup_cons,List.mem_cons,List.not_mem_nil,or_false,not_or] at this ⊢;simp_all),HuL.out 0 _ rfl,HcL.out⟩
end Go.Proofs.YtiaenhlflgobfaaGreatDoor

/- Walks: equal (50). -/
import Derived.Test.YtjlmhfdigoogfaaRvG
namespace Go.Proofs.Ytjlmhfdigoogfaa
open Go.RowKit

/-- Two boxes. -/
structure B2 (k v : Int) (s : Value) (k' v' : Int) (s' : Value) (W W2 : World) : Prop where
  gr : Gr W W2
  h1 : W2.heap[W.heap.size]? = some (.cells #[iv k, iv v, s] 24 (0, 0))
  h2 : W2.heap[W.heap.size + 1]? = some (.cells #[iv k', iv v', s'] 24 (0, 0))
theorem b2_new (k v : Int) (s : Value) (k' v' : Int) (s' : Value) (W : World) : B2 k v s k' v' s' W ((W.alloc (.cells #[iv k, iv v, s] 24)).alloc (.cells #[iv k', iv v', s'] 24)) :=
  ⟨(gr_al _ _).trans (gr_al _ _), gr_h (gr_al _ _) (al_new _ _), al_at _ _ (by simp)⟩
theorem B2.swap {k v : Int} {s : Value} {k' v' : Int} {s' : Value} {W W2 : World} (h : B2 k v s k' v' s' W W2) :
    B2 k' v' s' k v s W ((((((W2.setCell ⟨W.heap.size, 0, none⟩ (iv k')).setCell ⟨W.heap.size, 1, none⟩ (iv v')).setCell ⟨W.heap.size, 2, none⟩ s').setCell ⟨W.heap.size + 1, 0, none⟩ (iv k)).setCell ⟨W.heap.size + 1, 1, none⟩ (iv v)).setCell ⟨W.heap.size + 1, 2, none⟩ s) := by
  refine ⟨gr_cell (gr_cell (gr_cell (gr_cell (gr_cell (gr_cell h.gr (by omega) _) (by omega) _) (by omega) _) (by omega) _) (by omega) _) (by omega) _, ?_, ?_⟩
  · exact h_oth (h_oth (h_oth (by simpa using set_heap (v := s') (j := 2) (set_heap (v := iv v') (j := 1) (set_heap (v := iv k') (j := 0) h.h1))) (by omega) _) (by omega) _) (by omega) _
  · simpa using set_heap (v := s) (j := 2) (set_heap (v := iv v) (j := 1) (set_heap (v := iv k) (j := 0) (h_oth (h_oth (h_oth h.h2 (by omega) (iv k')) (by omega) (iv v')) (by omega) s')))
theorem SGr.c {b : SB} {W W' : World} {a : Addr} {v : Value} (g : SGr b W W') (h : W.cell? a = some v) (h1 : a.block ≠ b.ub) (h2 : a.block ≠ b.ib) (h3 : a.block ≠ b.tb) : W'.cell? a = some v := by
  have hb := World.block_lt_of_cell? W a h
  rw [← h]
  unfold World.cell?
  rw [g.block _ hb h1 h2 h3]
/-- Boxes lie behind the solver. -/
theorem SMem.lt {b : SB} {B : Nat} {V : List Int} {S : SS} {L : List Ty} {W : World} (h : SMem b B V S L W) : b.ub < W.heap.size ∧ b.ib < W.heap.size ∧ b.tb < W.heap.size := by
  obtain ⟨c', h3, -⟩ := h.i
  obtain ⟨c'', h4, -⟩ := h.t
  exact ⟨h.ul, heap_lt h3, heap_lt h4⟩
attribute [local irreducible] Calls in
set_option maxRecDepth 100000 in
set_option maxHeartbeats 4000000 in
theorem equal_vv (b : SB) (B : Nat) (V : List Int) (S : SS) (L : List Ty) (W : World) (h : SMem b B V S L W) (v v' : Int) (hv : v ∈ V) (hv' : v' ∈ V) (s s' : Value) (g : SS → PT → PT → Option (Bool × SS)) (JN : JNH b B V g) (r : Bool) (S' : SS) (e : jnP V g S (cls V S v) (cls V S v') = some (r, S')) :
    Calls Try.prog 50 #[.pointer (some ⟨b.sp, 0, none⟩), .agg #[iv 5, iv v, s], .agg #[iv 5, iv v', s']] W (EqM b B V L S S' r W) := by
  have BB := Lib.hid (b2_new 5 v s 5 v' s' W)
  obtain ⟨⟨p0, p1, p2⟩, -⟩ := cell3 BB.out.h1
  obtain ⟨⟨q0, q1, q2⟩, -⟩ := cell3 BB.out.h2
  obtain ⟨l1, l2, l3⟩ := h.lt
  have C1 := Lib.hid (fun U (g : Gr W U) => class_any b B V S L U (h.gr g) v hv)
  have C2 := Lib.hid (fun U (g : Gr W U) => class_any b B V S L U (h.gr g) v' hv')
  have CJ := Lib.hid (fun U (g : Gr W U) => JN S L U _ _ r S' (h.gr g) (cls_lt h.wf hv) (cls_lt h.wf hv') e)
  clear h JN hv hv' e
  go_enter Try.func50, Try.ntmps50
  go_upto_region 2 with (fail)
  generalize hW2 : ((W.alloc (.cells #[iv 5, iv v, s] 24)).alloc (.cells #[iv 5, iv v', s'] 24)) = W2 at *
  clear hW2
  have KS := Lib.hid (fun (U : World) (g : Gr W2 U) => (⟨gr_c g p1, gr_c g q1⟩ : U.cell? ⟨W.heap.size, 1, none⟩ = some (iv v) ∧ U.cell? ⟨W.heap.size + 1, 1, none⟩ = some (iv v')))
  have K3 := Lib.hid (fun (U : World) (g : SGr b W2.drew U) => (⟨g.c (gr_c (gr_drew _) p1) (by simp; omega) (by simp; omega) (by simp; omega), g.c (gr_c (gr_drew _) q1) (by simp; omega) (by simp; omega) (by simp; omega)⟩ : U.cell? ⟨W.heap.size, 1, none⟩ = some (iv v) ∧ U.cell? ⟨W.heap.size + 1, 1, none⟩ = some (iv v')))
  have GD := Lib.hid (BB.out.gr.trans (gr_drew W2))
  clear p0 p1 p2 q0 q1 q2 BB
  go_region_held3 (fun U => U.cell? ⟨W.heap.size, 1, none⟩ = some (iv v) ∧ U.cell? ⟨W.heap.size + 1, 1, none⟩ = some (iv v')) (first | with_reducible exact K3.out _ G3.out | with_reducible exact KS.out _ (gr_drew _) | with_reducible exact KS.out _ (gr_refl _) | go_keep) (first | (go_at_call 81; (with_reducible refine (C1.out _ GD.out).mono ?_); rintro e z ⟨rfl, rfl⟩) | (go_at_call 81; (with_reducible refine (C2.out _ GD.out).mono ?_); rintro e z ⟨rfl, rfl⟩) | (go_at_call 80; (with_reducible refine (CJ.out _ GD.out).mono ?_); rintro e z2 ⟨rfl, L3, h3, g3, x3⟩; have H3 := Lib.hid h3; have G3 := Lib.hid g3; have X3 := Lib.hid x3; clear h3 g3 x3))
  go_wp2
  go_ret
  exact ⟨rfl, L3, H3.out, (SGr.gr GD.out).trans G3.out, X3.out⟩
attribute [local irreducible] Calls in
set_option maxRecDepth 100000 in
set_option maxHeartbeats 4000000 in
theorem equal_ne (b : SB) (B : Nat) (V : List Int) (S : SS) (L : List Ty) (W : World) (h : SMem b B V S L W) (x y : Ty) (hx : x.kind ≠ 5) (hy : y.kind ≠ 5) (hne : x.kind ≠ y.kind) :
    Calls Try.prog 50 #[.pointer (some ⟨b.sp, 0, none⟩), x.v, y.v] W (EqM b B V L S S false W) := by
  have BB := Lib.hid (b2_new x.kind x.var (.slice x.A x.sub.length x.c) y.kind y.var (.slice y.A y.sub.length y.c) W)
  obtain ⟨⟨p0, p1, p2⟩, -⟩ := cell3 BB.out.h1
  obtain ⟨⟨q0, q1, q2⟩, -⟩ := cell3 BB.out.h2
  have H := Lib.hid (h.gr BB.out.gr)
  have hx' : (x.kind == 5) = false := by simpa using hx
  have hy' : (y.kind == 5) = false := by simpa using hy
  have hn' : (x.kind != y.kind) = true := by simpa using hne
  unfold Ty.v
  clear h
  go_enter Try.func50, Try.ntmps50
  go_wp2
  go_ret
  exact ⟨rfl, L, H.out, SGr.gr BB.out.gr, fun i _ hb => ⟨hb, rfl⟩⟩
attribute [local irreducible] Calls in
set_option maxRecDepth 100000 in
set_option maxHeartbeats 4000000 in
theorem equal_vb (b : SB) (B : Nat) (V : List Int) (S : SS) (L : List Ty) (W : World) (h : SMem b B V S L W) (v : Int) (hv : v ∈ V) (A : Option Addr) (N C : Nat) (x : Ty) (hx : TG B V x W) (hk : x.kind ≠ 5) (g : SS → PT → PT → Option (Bool × SS)) (EQ : EQH b B V g) (r : Bool) (S' : SS) (hb : S.b (cls V S v) = true) (e : g S (S.t (cls V S v)) x.er = some (r, S')) :
    Calls Try.prog 50 #[.pointer (some ⟨b.sp, 0, none⟩), .agg #[iv 5, iv v, (.slice A N C)], .agg #[iv x.kind, iv x.var, (.slice x.A x.sub.length x.c)]] W (EqM b B V L S S' r W) := by
  have BB := Lib.hid (b2_new 5 v (.slice A N C) x.kind x.var (.slice x.A x.sub.length x.c) W)
  obtain ⟨⟨p0, p1, p2⟩, pf⟩ := cell3 BB.out.h1
  obtain ⟨⟨q0, q1, q2⟩, qf⟩ := cell3 BB.out.h2
  have hN := h.n
  have hc := cls_lt h.wf hv
  obtain ⟨l1, l2, l3⟩ := h.lt
  have C1 := Lib.hid (fun U (g : Gr W U) => class_any b B V S L U (h.gr g) v hv)
  have HX := Lib.hid (fun U (g : Gr W U) => hx.gr g)
  have H := Lib.hid (fun U (g : Gr W U) => h.gr g)
  have hk' : (x.kind == 5) = false := by simpa using hk
  have HV := Lib.hid hv
  have CE := Lib.hid (fun U (g : Gr W U) y (hy : TG B V y U) (he : y.er = S.t (cls V S v)) => EQ S L U y x r S' (h.gr g) hy (hx.gr g) (by rw [he]; exact e))
  clear e EQ
  clear h hx hv
  generalize hke : cls V S v = k at *
  clear hke
  go_enter Try.func50, Try.ntmps50
  go_upto_region 6 with (fail)
  generalize hW3 : ((W.alloc (.cells #[iv 5, iv v, (.slice A N C)] 24)).alloc (.cells #[iv x.kind, iv x.var, (.slice x.A x.sub.length x.c)] 24)) = W3 at *
  clear hW3
  have H3 := Lib.hid (H.out _ BB.out.gr)
  obtain ⟨s0, s1, s2, s3⟩ := H3.out.hd
  rw [H3.out.a1 (by omega)] at s1
  obtain ⟨pc, -⟩ := H3.out.ic hc
  rw [hb] at pc
  obtain ⟨y, hyL, ye, yr, yi, yc, -⟩ := H3.out.tc hc
  have GD := Lib.hid (BB.out.gr.trans (gr_drew W3))
  have YG : TG B V y W3.drew := TG.gr ⟨yr, yi, by rw [ye]; exact H3.out.wf.gv hc hb⟩ (gr_drew W3)
  have CE2 := Lib.hid (CE.out _ GD.out y YG ye)
  unfold Ty.v at CE2
  have KW := Lib.hid (fun (U : World) (g : Gr W3 U) => (⟨gr_c g s3, ⟨gr_c g yc.1, gr_c g yc.2.1, gr_c g yc.2.2⟩, gr_c g q0, gr_c g q1, gr_c g q2⟩ : U.cell? ⟨b.sp, 3, none⟩ = some (.slice (some ⟨b.tb, 0, none⟩) V.length V.length) ∧ (U.cell? ⟨b.tb, k * 3, none⟩ = some (iv y.kind) ∧ U.cell? ⟨b.tb, k * 3 + 1, none⟩ = some (iv y.var) ∧ U.cell? ⟨b.tb, k * 3 + 2, none⟩ = some (.slice y.A y.sub.length y.c)) ∧ (U.cell? ⟨W.heap.size + 1, 0, none⟩ = some (iv x.kind) ∧ U.cell? ⟨W.heap.size + 1, 1, none⟩ = some (iv x.var) ∧ U.cell? ⟨W.heap.size + 1, 2, none⟩ = some (.slice x.A x.sub.length x.c))))
  have K3 := Lib.hid (fun (L3 : List Ty) (U : World) (h3 : SMem b B V S' L3 U) (g : SGr b W3.drew U) (x3 : ∀ i, i < V.length → S.b i = true → S'.b i = true ∧ L3[i]? = L[i]?) => show U.cell? ⟨b.sp, 3, none⟩ = some (.slice (some ⟨b.tb, 0, none⟩) V.length V.length) ∧ (U.cell? ⟨b.tb, k * 3, none⟩ = some (iv y.kind) ∧ U.cell? ⟨b.tb, k * 3 + 1, none⟩ = some (iv y.var) ∧ U.cell? ⟨b.tb, k * 3 + 2, none⟩ = some (.slice y.A y.sub.length y.c)) ∧ (U.cell? ⟨W.heap.size + 1, 0, none⟩ = some (iv x.kind) ∧ U.cell? ⟨W.heap.size + 1, 1, none⟩ = some (iv x.var) ∧ U.cell? ⟨W.heap.size + 1, 2, none⟩ = some (.slice x.A x.sub.length x.c)) from by
    obtain ⟨y', hy', -, -, -, yc', -⟩ := h3.tc hc
    rw [(x3 k hc hb).2, hyL] at hy'
    cases hy'
    exact ⟨h3.hd.2.2.2, yc', g.c (gr_c (gr_drew _) q0) (by simp; omega) (by simp; omega) (by simp; omega), g.c (gr_c (gr_drew _) q1) (by simp; omega) (by simp; omega) (by simp; omega), g.c (gr_c (gr_drew _) q2) (by simp; omega) (by simp; omega) (by simp; omega)⟩)
  clear YG ye yr yi hyL
  obtain ⟨y0, y1, y2⟩ := yc
  go_upto_region 8 with ((go_at_call 81; (with_reducible refine (C1.out _ BB.out.gr).mono ?_); rintro e z ⟨rfl, rfl⟩))
  clear p0 p1 p2 q0 q1 q2 s0 s1 s2 s3 pc y0 y1 y2
  go_region_held3 (fun U => U.cell? ⟨b.sp, 3, none⟩ = some (.slice (some ⟨b.tb, 0, none⟩) V.length V.length) ∧ (U.cell? ⟨b.tb, k * 3, none⟩ = some (iv y.kind) ∧ U.cell? ⟨b.tb, k * 3 + 1, none⟩ = some (iv y.var) ∧ U.cell? ⟨b.tb, k * 3 + 2, none⟩ = some (.slice y.A y.sub.length y.c)) ∧ (U.cell? ⟨W.heap.size + 1, 0, none⟩ = some (iv x.kind) ∧ U.cell? ⟨W.heap.size + 1, 1, none⟩ = some (iv x.var) ∧ U.cell? ⟨W.heap.size + 1, 2, none⟩ = some (.slice x.A x.sub.length x.c))) (first | with_reducible exact K3.out _ _ H4.out G4.out X4.out | with_reducible exact KW.out _ (gr_drew _) | with_reducible exact KW.out _ (gr_refl _) | go_keep) (first | (go_at_call 50; (with_reducible refine CE2.out.mono ?_); rintro e z2 ⟨rfl, L3, h3, g3, x3⟩; have H4 := Lib.hid h3; have G4 := Lib.hid g3; have X4 := Lib.hid x3; clear h3 g3 x3))
  go_wp2
  go_ret
  exact ⟨rfl, L3, H4.out, (SGr.gr GD.out).trans G4.out, X4.out⟩
attribute [local irreducible] Calls in
set_option maxRecDepth 100000 in
set_option maxHeartbeats 4000000 in
theorem equal_vbs (b : SB) (B : Nat) (V : List Int) (S : SS) (L : List Ty) (W : World) (h : SMem b B V S L W) (v : Int) (hv : v ∈ V) (A : Option Addr) (N C : Nat) (x : Ty) (hx : TG B V x W) (hk : x.kind ≠ 5) (g : SS → PT → PT → Option (Bool × SS)) (EQ : EQH b B V g) (r : Bool) (S' : SS) (hb : S.b (cls V S v) = true) (e : g S (S.t (cls V S v)) x.er = some (r, S')) :
    Calls Try.prog 50 #[.pointer (some ⟨b.sp, 0, none⟩), .agg #[iv x.kind, iv x.var, (.slice x.A x.sub.length x.c)], .agg #[iv 5, iv v, (.slice A N C)]] W (EqM b B V L S S' r W) := by
  have BB := Lib.hid (b2_new x.kind x.var (.slice x.A x.sub.length x.c) 5 v (.slice A N C) W)
  have BS := Lib.hid (show B2 5 v (.slice A N C) x.kind x.var (.slice x.A x.sub.length x.c) W ((W.alloc (.cells #[.int .i64 5, .int .i64 v, (.slice A N C)] 24)).alloc (.cells #[.int .i64 x.kind, .int .i64 x.var, (.slice x.A x.sub.length x.c)] 24)) from b2_new 5 v (.slice A N C) x.kind x.var (.slice x.A x.sub.length x.c) W)
  obtain ⟨⟨p0, p1, p2⟩, pf⟩ := cell3 BB.out.h1
  obtain ⟨⟨q0, q1, q2⟩, qf⟩ := cell3 BB.out.h2
  obtain ⟨⟨P0, P1, P2⟩, -⟩ := cell3 BS.out.h1
  obtain ⟨⟨Q0, Q1, Q2⟩, -⟩ := cell3 BS.out.h2
  have hN := h.n
  have hc := cls_lt h.wf hv
  obtain ⟨l1, l2, l3⟩ := h.lt
  have C1 := Lib.hid (fun U (g : Gr W U) => class_any b B V S L U (h.gr g) v hv)
  have HX := Lib.hid (fun U (g : Gr W U) => hx.gr g)
  have H := Lib.hid (fun U (g : Gr W U) => h.gr g)
  have hk' : (x.kind == 5) = false := by simpa using hk
  have HV := Lib.hid hv
  have CE := Lib.hid (fun U (g : Gr W U) y (hy : TG B V y U) (he : y.er = S.t (cls V S v)) => EQ S L U y x r S' (h.gr g) hy (hx.gr g) (by rw [he]; exact e))
  clear e EQ
  clear h hx hv
  generalize hke : cls V S v = k at *
  clear hke
  go_enter Try.func50, Try.ntmps50
  go_upto_region 6 with (fail)
  generalize hW3 : ((W.alloc (.cells #[.int .i64 5, .int .i64 v, (.slice A N C)] 24)).alloc (.cells #[.int .i64 x.kind, .int .i64 x.var, (.slice x.A x.sub.length x.c)] 24)) = W3 at *
  clear hW3
  clear p0 p1 p2 q0 q1 q2 pf qf BB
  have H3 := Lib.hid (H.out _ BS.out.gr)
  obtain ⟨s0, s1, s2, s3⟩ := H3.out.hd
  rw [H3.out.a1 (by omega)] at s1
  obtain ⟨pc, -⟩ := H3.out.ic hc
  rw [hb] at pc
  obtain ⟨y, hyL, ye, yr, yi, yc, -⟩ := H3.out.tc hc
  have GD := Lib.hid (BS.out.gr.trans (gr_drew W3))
  have YG : TG B V y W3.drew := TG.gr ⟨yr, yi, by rw [ye]; exact H3.out.wf.gv hc hb⟩ (gr_drew W3)
  have CE2 := Lib.hid (CE.out _ GD.out y YG ye)
  unfold Ty.v at CE2
  have KW := Lib.hid (fun (U : World) (g : Gr W3 U) => (⟨gr_c g s3, ⟨gr_c g yc.1, gr_c g yc.2.1, gr_c g yc.2.2⟩, gr_c g Q0, gr_c g Q1, gr_c g Q2⟩ : U.cell? ⟨b.sp, 3, none⟩ = some (.slice (some ⟨b.tb, 0, none⟩) V.length V.length) ∧ (U.cell? ⟨b.tb, k * 3, none⟩ = some (iv y.kind) ∧ U.cell? ⟨b.tb, k * 3 + 1, none⟩ = some (iv y.var) ∧ U.cell? ⟨b.tb, k * 3 + 2, none⟩ = some (.slice y.A y.sub.length y.c)) ∧ (U.cell? ⟨W.heap.size + 1, 0, none⟩ = some (iv x.kind) ∧ U.cell? ⟨W.heap.size + 1, 1, none⟩ = some (iv x.var) ∧ U.cell? ⟨W.heap.size + 1, 2, none⟩ = some (.slice x.A x.sub.length x.c))))
  have K3 := Lib.hid (fun (L3 : List Ty) (U : World) (h3 : SMem b B V S' L3 U) (g : SGr b W3.drew U) (x3 : ∀ i, i < V.length → S.b i = true → S'.b i = true ∧ L3[i]? = L[i]?) => show U.cell? ⟨b.sp, 3, none⟩ = some (.slice (some ⟨b.tb, 0, none⟩) V.length V.length) ∧ (U.cell? ⟨b.tb, k * 3, none⟩ = some (iv y.kind) ∧ U.cell? ⟨b.tb, k * 3 + 1, none⟩ = some (iv y.var) ∧ U.cell? ⟨b.tb, k * 3 + 2, none⟩ = some (.slice y.A y.sub.length y.c)) ∧ (U.cell? ⟨W.heap.size + 1, 0, none⟩ = some (iv x.kind) ∧ U.cell? ⟨W.heap.size + 1, 1, none⟩ = some (iv x.var) ∧ U.cell? ⟨W.heap.size + 1, 2, none⟩ = some (.slice x.A x.sub.length x.c)) from by
    obtain ⟨y', hy', -, -, -, yc', -⟩ := h3.tc hc
    rw [(x3 k hc hb).2, hyL] at hy'
    cases hy'
    exact ⟨h3.hd.2.2.2, yc', g.c (gr_c (gr_drew _) Q0) (by simp; omega) (by simp; omega) (by simp; omega), g.c (gr_c (gr_drew _) Q1) (by simp; omega) (by simp; omega) (by simp; omega), g.c (gr_c (gr_drew _) Q2) (by simp; omega) (by simp; omega) (by simp; omega)⟩)
  clear YG ye yr yi hyL
  obtain ⟨y0, y1, y2⟩ := yc
  go_upto_region 8 with ((go_at_call 81; (with_reducible refine (C1.out _ BS.out.gr).mono ?_); rintro e z ⟨rfl, rfl⟩))
  clear P0 P1 P2 Q0 Q1 Q2 s0 s1 s2 s3 pc y0 y1 y2
  go_region_held3 (fun U => U.cell? ⟨b.sp, 3, none⟩ = some (.slice (some ⟨b.tb, 0, none⟩) V.length V.length) ∧ (U.cell? ⟨b.tb, k * 3, none⟩ = some (iv y.kind) ∧ U.cell? ⟨b.tb, k * 3 + 1, none⟩ = some (iv y.var) ∧ U.cell? ⟨b.tb, k * 3 + 2, none⟩ = some (.slice y.A y.sub.length y.c)) ∧ (U.cell? ⟨W.heap.size + 1, 0, none⟩ = some (iv x.kind) ∧ U.cell? ⟨W.heap.size + 1, 1, none⟩ = some (iv x.var) ∧ U.cell? ⟨W.heap.size + 1, 2, none⟩ = some (.slice x.A x.sub.length x.c))) (first | with_reducible exact K3.out _ _ H4.out G4.out X4.out | with_reducible exact KW.out _ (gr_drew _) | with_reducible exact KW.out _ (gr_refl _) | go_keep) (first | (go_at_call 50; (with_reducible refine CE2.out.mono ?_); rintro e z2 ⟨rfl, L3, h3, g3, x3⟩; have H4 := Lib.hid h3; have G4 := Lib.hid g3; have X4 := Lib.hid x3; clear h3 g3 x3))
  go_wp2
  go_ret
  exact ⟨rfl, L3, H4.out, (SGr.gr GD.out).trans G4.out, X4.out⟩
attribute [local irreducible] Calls in
set_option maxRecDepth 100000 in
set_option maxHeartbeats 4000000 in
theorem equal_vf (b : SB) (B : Nat) (V : List Int) (S : SS) (L : List Ty) (W : World) (h : SMem b B V S L W) (v : Int) (hv : v ∈ V) (A : Option Addr) (N C : Nat) (x : Ty) (hx : TG B V x W) (hk : x.kind ≠ 5) (hb : S.b (cls V S v) = false) :
    Calls Try.prog 50 #[.pointer (some ⟨b.sp, 0, none⟩), .agg #[iv 5, iv v, (.slice A N C)], .agg #[iv x.kind, iv x.var, (.slice x.A x.sub.length x.c)]] W (EqM b B V L S (S.bd (cls V S v) x.er) (sndP V (S.bd (cls V S v) x.er) (cls V S v)) W) := by
  have BB := Lib.hid (b2_new 5 v (.slice A N C) x.kind x.var (.slice x.A x.sub.length x.c) W)
  obtain ⟨⟨p0, p1, p2⟩, pf⟩ := cell3 BB.out.h1
  obtain ⟨⟨q0, q1, q2⟩, qf⟩ := cell3 BB.out.h2
  have hN := h.n
  have hc := cls_lt h.wf hv
  obtain ⟨l1, l2, l3⟩ := h.lt
  have C1 := Lib.hid (fun U (g : Gr W U) => class_any b B V S L U (h.gr g) v hv)
  have HX := Lib.hid (fun U (g : Gr W U) => hx.gr g)
  have H := Lib.hid (fun U (g : Gr W U) => h.gr g)
  have hk' : (x.kind == 5) = false := by simpa using hk
  have HV := Lib.hid hv
  clear h hx hv
  generalize hke : cls V S v = k at *
  clear hke
  go_enter Try.func50, Try.ntmps50
  go_upto_region 6 with (fail)
  generalize hW3 : ((W.alloc (.cells #[iv 5, iv v, (.slice A N C)] 24)).alloc (.cells #[iv x.kind, iv x.var, (.slice x.A x.sub.length x.c)] 24)) = W3 at *
  clear hW3
  have H3 := Lib.hid (H.out _ BB.out.gr)
  obtain ⟨s0, s1, s2, s3⟩ := H3.out.hd
  rw [H3.out.a1 (by omega)] at s1
  obtain ⟨pc, -⟩ := H3.out.ic hc
  rw [hb] at pc
  have hgv := (HX.out _ BB.out.gr).gv
  have w2 : WF V (S.bd k x.er) := H3.out.wf.bd hc (by rw [er_kind]; exact hk) hgv
  obtain ⟨-, paf⟩ := H3.out.ic hc
  obtain ⟨z, -, -, -, -, ⟨z0, z1, z2⟩, zf⟩ := H3.out.tc hc
  have H4 := Lib.hid (H3.out.setT hc (HX.out _ BB.out.gr) w2)
  have G4 := Lib.hid (((SGr.set (b := b) (.inr (.inl rfl)) W3 k (.bool true)).trans (SGr.set (.inr (.inr rfl)) _ (k * 3) (iv x.kind))).trans ((SGr.set (.inr (.inr rfl)) _ (k * 3 + 1) (iv x.var)).trans (SGr.set (.inr (.inr rfl)) _ (k * 3 + 2) (.slice x.A x.sub.length x.c))))
  have F3 := Lib.hid (show ((((W3.setCell ⟨b.ib, k, none⟩ (.bool true)).setCell ⟨b.tb, k * 3, none⟩ (iv x.kind)).setCell ⟨b.tb, k * 3 + 1, none⟩ (iv x.var)).setCell ⟨b.tb, k * 3 + 2, none⟩ (.slice x.A x.sub.length x.c)).drew.cell? ⟨b.sp, 2, none⟩ = some (.slice (some ⟨b.ib, 0, none⟩) V.length V.length) ∧ ((((W3.setCell ⟨b.ib, k, none⟩ (.bool true)).setCell ⟨b.tb, k * 3, none⟩ (iv x.kind)).setCell ⟨b.tb, k * 3 + 1, none⟩ (iv x.var)).setCell ⟨b.tb, k * 3 + 2, none⟩ (.slice x.A x.sub.length x.c)).drew.cell? ⟨b.sp, 3, none⟩ = some (.slice (some ⟨b.tb, 0, none⟩) V.length V.length) ∧ ((((W3.setCell ⟨b.ib, k, none⟩ (.bool true)).setCell ⟨b.tb, k * 3, none⟩ (iv x.kind)).setCell ⟨b.tb, k * 3 + 1, none⟩ (iv x.var)).setCell ⟨b.tb, k * 3 + 2, none⟩ (.slice x.A x.sub.length x.c)).drew.cell? ⟨W.heap.size + 1, 0, none⟩ = some (iv x.kind) ∧ ((((W3.setCell ⟨b.ib, k, none⟩ (.bool true)).setCell ⟨b.tb, k * 3, none⟩ (iv x.kind)).setCell ⟨b.tb, k * 3 + 1, none⟩ (iv x.var)).setCell ⟨b.tb, k * 3 + 2, none⟩ (.slice x.A x.sub.length x.c)).drew.cell? ⟨W.heap.size + 1, 1, none⟩ = some (iv x.var) ∧ ((((W3.setCell ⟨b.ib, k, none⟩ (.bool true)).setCell ⟨b.tb, k * 3, none⟩ (iv x.kind)).setCell ⟨b.tb, k * 3 + 1, none⟩ (iv x.var)).setCell ⟨b.tb, k * 3 + 2, none⟩ (.slice x.A x.sub.length x.c)).drew.cell? ⟨W.heap.size + 1, 2, none⟩ = some (.slice x.A x.sub.length x.c) from
    ⟨gr_c (gr_drew _) H4.out.hd.2.2.1, gr_c (gr_drew _) H4.out.hd.2.2.2, gr_c (gr_drew _) (G4.out.c q0 (by simp; omega) (by simp; omega) (by simp; omega)), gr_c (gr_drew _) (G4.out.c q1 (by simp; omega) (by simp; omega) (by simp; omega)), gr_c (gr_drew _) (G4.out.c q2 (by simp; omega) (by simp; omega) (by simp; omega))⟩)
  have n0 := H3.out.ne.1
  have G2 := Lib.hid (SGr.set (b := b) (.inr (.inl rfl)) W3 k (.bool true))
  have F2 := Lib.hid (show (W3.setCell ⟨b.ib, k, none⟩ (.bool true)).drew.cell? ⟨b.sp, 2, none⟩ = some (.slice (some ⟨b.ib, 0, none⟩) V.length V.length) ∧ (W3.setCell ⟨b.ib, k, none⟩ (.bool true)).drew.cell? ⟨b.sp, 3, none⟩ = some (.slice (some ⟨b.tb, 0, none⟩) V.length V.length) ∧ (W3.setCell ⟨b.ib, k, none⟩ (.bool true)).drew.cell? ⟨W.heap.size + 1, 0, none⟩ = some (iv x.kind) ∧ (W3.setCell ⟨b.ib, k, none⟩ (.bool true)).drew.cell? ⟨W.heap.size + 1, 1, none⟩ = some (iv x.var) ∧ (W3.setCell ⟨b.ib, k, none⟩ (.bool true)).drew.cell? ⟨W.heap.size + 1, 2, none⟩ = some (.slice x.A x.sub.length x.c) from
    ⟨gr_c (gr_drew _) (G2.out.c s2 n0 H3.out.ne.2.1 H3.out.ne.2.2.1), gr_c (gr_drew _) (G2.out.c s3 n0 H3.out.ne.2.1 H3.out.ne.2.2.1), gr_c (gr_drew _) (G2.out.c q0 (by simp; omega) (by simp; omega) (by simp; omega)), gr_c (gr_drew _) (G2.out.c q1 (by simp; omega) (by simp; omega) (by simp; omega)), gr_c (gr_drew _) (G2.out.c q2 (by simp; omega) (by simp; omega) (by simp; omega))⟩)
  have HXT := Lib.hid (fun i (hi : i < V.length) (hbi : S.b i = true) => show (S.bd k x.er).b i = true ∧ (L.set k x)[i]? = L[i]? from by
    have hia : i ≠ k := by rintro rfl; rw [hb] at hbi; cases hbi
    rw [bd_b H3.out.wf hc, if_neg hia]
    exact ⟨hbi, by rw [List.getElem?_set, if_neg (Ne.symm hia)]⟩)
  have CS := Lib.hid (sound_any b B V (S.bd k x.er) (L.set k x) k _ (H4.out.gr (gr_drew _)) hc)
  have KS := Lib.hid (fun (U : World) (g : Gr W3 U) => (⟨gr_c g s2, gr_c g s3, gr_c g q0, gr_c g q1, gr_c g q2⟩ : U.cell? ⟨b.sp, 2, none⟩ = some (.slice (some ⟨b.ib, 0, none⟩) V.length V.length) ∧ U.cell? ⟨b.sp, 3, none⟩ = some (.slice (some ⟨b.tb, 0, none⟩) V.length V.length) ∧ U.cell? ⟨W.heap.size + 1, 0, none⟩ = some (iv x.kind) ∧ U.cell? ⟨W.heap.size + 1, 1, none⟩ = some (iv x.var) ∧ U.cell? ⟨W.heap.size + 1, 2, none⟩ = some (.slice x.A x.sub.length x.c)))
  have n1 := H3.out.ne.2.1
  have n2 := H3.out.ne.2.2.1
  have n3 := H3.out.ne.2.2.2.2.2
  have m1 := Ne.symm n1
  have m2 := Ne.symm n2
  have m3 := Ne.symm n3
  go_upto_region 9 with ((go_at_call 81; (with_reducible refine (C1.out _ BB.out.gr).mono ?_); rintro e z ⟨rfl, rfl⟩))
  clear p0 p1 p2 q0 q1 q2
  go_region_held3 (fun U => U.cell? ⟨b.sp, 2, none⟩ = some (.slice (some ⟨b.ib, 0, none⟩) V.length V.length) ∧ U.cell? ⟨b.sp, 3, none⟩ = some (.slice (some ⟨b.tb, 0, none⟩) V.length V.length) ∧ U.cell? ⟨W.heap.size + 1, 0, none⟩ = some (iv x.kind) ∧ U.cell? ⟨W.heap.size + 1, 1, none⟩ = some (iv x.var) ∧ U.cell? ⟨W.heap.size + 1, 2, none⟩ = some (.slice x.A x.sub.length x.c)) (first | with_reducible exact KS.out _ (gr_drew _) | with_reducible exact KS.out _ (gr_refl _) | with_reducible exact F3.out | with_reducible exact F2.out | go_keep) (fail)
  go_wp2_with ((go_at_call 82; (with_reducible refine CS.out.mono ?_); rintro e w9 ⟨rfl, g⟩; have G9 := Lib.hid ((gr_drew _).trans g); clear g))
  go_ret
  exact ⟨rfl, _, H4.out.gr G9.out, (SGr.gr BB.out.gr).trans (G4.out.trans (.gr G9.out)), HXT.out⟩
attribute [local irreducible] Calls in
set_option maxRecDepth 100000 in
set_option maxHeartbeats 4000000 in
theorem equal_vfs (b : SB) (B : Nat) (V : List Int) (S : SS) (L : List Ty) (W : World) (h : SMem b B V S L W) (v : Int) (hv : v ∈ V) (A : Option Addr) (N C : Nat) (x : Ty) (hx : TG B V x W) (hk : x.kind ≠ 5) (hb : S.b (cls V S v) = false) :
    Calls Try.prog 50 #[.pointer (some ⟨b.sp, 0, none⟩), .agg #[iv x.kind, iv x.var, (.slice x.A x.sub.length x.c)], .agg #[iv 5, iv v, (.slice A N C)]] W (EqM b B V L S (S.bd (cls V S v) x.er) (sndP V (S.bd (cls V S v) x.er) (cls V S v)) W) := by
  have BB := Lib.hid (b2_new x.kind x.var (.slice x.A x.sub.length x.c) 5 v (.slice A N C) W)
  have BS := Lib.hid (show B2 5 v (.slice A N C) x.kind x.var (.slice x.A x.sub.length x.c) W ((W.alloc (.cells #[.int .i64 5, .int .i64 v, (.slice A N C)] 24)).alloc (.cells #[.int .i64 x.kind, .int .i64 x.var, (.slice x.A x.sub.length x.c)] 24)) from b2_new 5 v (.slice A N C) x.kind x.var (.slice x.A x.sub.length x.c) W)
  obtain ⟨⟨p0, p1, p2⟩, pf⟩ := cell3 BB.out.h1
  obtain ⟨⟨q0, q1, q2⟩, qf⟩ := cell3 BB.out.h2
  obtain ⟨⟨P0, P1, P2⟩, -⟩ := cell3 BS.out.h1
  obtain ⟨⟨Q0, Q1, Q2⟩, -⟩ := cell3 BS.out.h2
  have hN := h.n
  have hc := cls_lt h.wf hv
  obtain ⟨l1, l2, l3⟩ := h.lt
  have C1 := Lib.hid (fun U (g : Gr W U) => class_any b B V S L U (h.gr g) v hv)
  have HX := Lib.hid (fun U (g : Gr W U) => hx.gr g)
  have H := Lib.hid (fun U (g : Gr W U) => h.gr g)
  have hk' : (x.kind == 5) = false := by simpa using hk
  have HV := Lib.hid hv
  clear h hx hv
  generalize hke : cls V S v = k at *
  clear hke
  go_enter Try.func50, Try.ntmps50
  go_upto_region 6 with (fail)
  generalize hW3 : ((W.alloc (.cells #[.int .i64 5, .int .i64 v, (.slice A N C)] 24)).alloc (.cells #[.int .i64 x.kind, .int .i64 x.var, (.slice x.A x.sub.length x.c)] 24)) = W3 at *
  clear hW3
  clear p0 p1 p2 q0 q1 q2 pf qf BB
  have H3 := Lib.hid (H.out _ BS.out.gr)
  obtain ⟨s0, s1, s2, s3⟩ := H3.out.hd
  rw [H3.out.a1 (by omega)] at s1
  obtain ⟨pc, -⟩ := H3.out.ic hc
  rw [hb] at pc
  have hgv := (HX.out _ BS.out.gr).gv
  have w2 : WF V (S.bd k x.er) := H3.out.wf.bd hc (by rw [er_kind]; exact hk) hgv
  obtain ⟨-, paf⟩ := H3.out.ic hc
  obtain ⟨z, -, -, -, -, ⟨z0, z1, z2⟩, zf⟩ := H3.out.tc hc
  have H4 := Lib.hid (H3.out.setT hc (HX.out _ BS.out.gr) w2)
  have G4 := Lib.hid (((SGr.set (b := b) (.inr (.inl rfl)) W3 k (.bool true)).trans (SGr.set (.inr (.inr rfl)) _ (k * 3) (iv x.kind))).trans ((SGr.set (.inr (.inr rfl)) _ (k * 3 + 1) (iv x.var)).trans (SGr.set (.inr (.inr rfl)) _ (k * 3 + 2) (.slice x.A x.sub.length x.c))))
  have F3 := Lib.hid (show ((((W3.setCell ⟨b.ib, k, none⟩ (.bool true)).setCell ⟨b.tb, k * 3, none⟩ (iv x.kind)).setCell ⟨b.tb, k * 3 + 1, none⟩ (iv x.var)).setCell ⟨b.tb, k * 3 + 2, none⟩ (.slice x.A x.sub.length x.c)).drew.cell? ⟨b.sp, 2, none⟩ = some (.slice (some ⟨b.ib, 0, none⟩) V.length V.length) ∧ ((((W3.setCell ⟨b.ib, k, none⟩ (.bool true)).setCell ⟨b.tb, k * 3, none⟩ (iv x.kind)).setCell ⟨b.tb, k * 3 + 1, none⟩ (iv x.var)).setCell ⟨b.tb, k * 3 + 2, none⟩ (.slice x.A x.sub.length x.c)).drew.cell? ⟨b.sp, 3, none⟩ = some (.slice (some ⟨b.tb, 0, none⟩) V.length V.length) ∧ ((((W3.setCell ⟨b.ib, k, none⟩ (.bool true)).setCell ⟨b.tb, k * 3, none⟩ (iv x.kind)).setCell ⟨b.tb, k * 3 + 1, none⟩ (iv x.var)).setCell ⟨b.tb, k * 3 + 2, none⟩ (.slice x.A x.sub.length x.c)).drew.cell? ⟨W.heap.size + 1, 0, none⟩ = some (iv x.kind) ∧ ((((W3.setCell ⟨b.ib, k, none⟩ (.bool true)).setCell ⟨b.tb, k * 3, none⟩ (iv x.kind)).setCell ⟨b.tb, k * 3 + 1, none⟩ (iv x.var)).setCell ⟨b.tb, k * 3 + 2, none⟩ (.slice x.A x.sub.length x.c)).drew.cell? ⟨W.heap.size + 1, 1, none⟩ = some (iv x.var) ∧ ((((W3.setCell ⟨b.ib, k, none⟩ (.bool true)).setCell ⟨b.tb, k * 3, none⟩ (iv x.kind)).setCell ⟨b.tb, k * 3 + 1, none⟩ (iv x.var)).setCell ⟨b.tb, k * 3 + 2, none⟩ (.slice x.A x.sub.length x.c)).drew.cell? ⟨W.heap.size + 1, 2, none⟩ = some (.slice x.A x.sub.length x.c) from
    ⟨gr_c (gr_drew _) H4.out.hd.2.2.1, gr_c (gr_drew _) H4.out.hd.2.2.2, gr_c (gr_drew _) (G4.out.c Q0 (by simp; omega) (by simp; omega) (by simp; omega)), gr_c (gr_drew _) (G4.out.c Q1 (by simp; omega) (by simp; omega) (by simp; omega)), gr_c (gr_drew _) (G4.out.c Q2 (by simp; omega) (by simp; omega) (by simp; omega))⟩)
  have n0 := H3.out.ne.1
  have G2 := Lib.hid (SGr.set (b := b) (.inr (.inl rfl)) W3 k (.bool true))
  have F2 := Lib.hid (show (W3.setCell ⟨b.ib, k, none⟩ (.bool true)).drew.cell? ⟨b.sp, 2, none⟩ = some (.slice (some ⟨b.ib, 0, none⟩) V.length V.length) ∧ (W3.setCell ⟨b.ib, k, none⟩ (.bool true)).drew.cell? ⟨b.sp, 3, none⟩ = some (.slice (some ⟨b.tb, 0, none⟩) V.length V.length) ∧ (W3.setCell ⟨b.ib, k, none⟩ (.bool true)).drew.cell? ⟨W.heap.size + 1, 0, none⟩ = some (iv x.kind) ∧ (W3.setCell ⟨b.ib, k, none⟩ (.bool true)).drew.cell? ⟨W.heap.size + 1, 1, none⟩ = some (iv x.var) ∧ (W3.setCell ⟨b.ib, k, none⟩ (.bool true)).drew.cell? ⟨W.heap.size + 1, 2, none⟩ = some (.slice x.A x.sub.length x.c) from
    ⟨gr_c (gr_drew _) (G2.out.c s2 n0 H3.out.ne.2.1 H3.out.ne.2.2.1), gr_c (gr_drew _) (G2.out.c s3 n0 H3.out.ne.2.1 H3.out.ne.2.2.1), gr_c (gr_drew _) (G2.out.c Q0 (by simp; omega) (by simp; omega) (by simp; omega)), gr_c (gr_drew _) (G2.out.c Q1 (by simp; omega) (by simp; omega) (by simp; omega)), gr_c (gr_drew _) (G2.out.c Q2 (by simp; omega) (by simp; omega) (by simp; omega))⟩)
  have HXT := Lib.hid (fun i (hi : i < V.length) (hbi : S.b i = true) => show (S.bd k x.er).b i = true ∧ (L.set k x)[i]? = L[i]? from by
    have hia : i ≠ k := by rintro rfl; rw [hb] at hbi; cases hbi
    rw [bd_b H3.out.wf hc, if_neg hia]
    exact ⟨hbi, by rw [List.getElem?_set, if_neg (Ne.symm hia)]⟩)
  have CS := Lib.hid (sound_any b B V (S.bd k x.er) (L.set k x) k _ (H4.out.gr (gr_drew _)) hc)
  have KS := Lib.hid (fun (U : World) (g : Gr W3 U) => (⟨gr_c g s2, gr_c g s3, gr_c g Q0, gr_c g Q1, gr_c g Q2⟩ : U.cell? ⟨b.sp, 2, none⟩ = some (.slice (some ⟨b.ib, 0, none⟩) V.length V.length) ∧ U.cell? ⟨b.sp, 3, none⟩ = some (.slice (some ⟨b.tb, 0, none⟩) V.length V.length) ∧ U.cell? ⟨W.heap.size + 1, 0, none⟩ = some (iv x.kind) ∧ U.cell? ⟨W.heap.size + 1, 1, none⟩ = some (iv x.var) ∧ U.cell? ⟨W.heap.size + 1, 2, none⟩ = some (.slice x.A x.sub.length x.c)))
  have n1 := H3.out.ne.2.1
  have n2 := H3.out.ne.2.2.1
  have n3 := H3.out.ne.2.2.2.2.2
  have m1 := Ne.symm n1
  have m2 := Ne.symm n2
  have m3 := Ne.symm n3
  go_upto_region 9 with ((go_at_call 81; (with_reducible refine (C1.out _ BS.out.gr).mono ?_); rintro e z ⟨rfl, rfl⟩))
  clear P0 P1 P2 Q0 Q1 Q2
  go_region_held3 (fun U => U.cell? ⟨b.sp, 2, none⟩ = some (.slice (some ⟨b.ib, 0, none⟩) V.length V.length) ∧ U.cell? ⟨b.sp, 3, none⟩ = some (.slice (some ⟨b.tb, 0, none⟩) V.length V.length) ∧ U.cell? ⟨W.heap.size + 1, 0, none⟩ = some (iv x.kind) ∧ U.cell? ⟨W.heap.size + 1, 1, none⟩ = some (iv x.var) ∧ U.cell? ⟨W.heap.size + 1, 2, none⟩ = some (.slice x.A x.sub.length x.c)) (first | with_reducible exact KS.out _ (gr_drew _) | with_reducible exact KS.out _ (gr_refl _) | with_reducible exact F3.out | with_reducible exact F2.out | go_keep) (fail)
  go_wp2_with ((go_at_call 82; (with_reducible refine CS.out.mono ?_); rintro e w9 ⟨rfl, g⟩; have G9 := Lib.hid ((gr_drew _).trans g); clear g))
  go_ret
  exact ⟨rfl, _, H4.out.gr G9.out, (SGr.gr BS.out.gr).trans (G4.out.trans (.gr G9.out)), HXT.out⟩
end Go.Proofs.Ytjlmhfdigoogfaa

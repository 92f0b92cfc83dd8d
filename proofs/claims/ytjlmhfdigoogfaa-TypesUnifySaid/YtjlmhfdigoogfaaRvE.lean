/- Walks: join (80). -/
import Derived.Test.YtjlmhfdigoogfaaRvD
namespace Go.Proofs.Ytjlmhfdigoogfaa
open Go.RowKit

attribute [local irreducible] Calls in
set_option maxRecDepth 100000 in
set_option maxHeartbeats 4000000 in
theorem join1 (b : SB) (B : Nat) (V : List Int) (S : SS) (L : List Ty) (W : World) (h : SMem b B V S L W) (a c : Nat) (hac : a < c) (hc : c < V.length) (hb : S.b c = false) : Calls Try.prog 80 #[.pointer (some ⟨b.sp, 0, none⟩), iv a, iv c] W (EqM b B V L S (S.jn a c) (sndP V (S.jn a c) a) W) := by
  have hN := h.n
  have ha : a < V.length := by omega
  have w1 := h.wf.jn hac hc
  have HU := Lib.hid (h.setU hc w1)
  have G1 := Lib.hid (SGr.set (b := b) (.inl rfl) W c (iv a))
  obtain ⟨s0, s1, s2, s3⟩ := h.hd
  rw [h.a1 (by omega)] at s1
  obtain ⟨u0, uf⟩ := h.uc hc
  have hab : ¬ ((a : Int) = (c : Int)) := by omega
  have hba : ¬ ((c : Int) = (a : Int)) := by omega
  have gab : ¬ ((c : Int) < (a : Int)) := by omega
  have gba : ((a : Int) < (c : Int)) := by omega
  obtain ⟨t0, t1, t2, t3⟩ := HU.out.hd
  rw [h.a1 (by omega)] at t1
  obtain ⟨pc, -⟩ := HU.out.ic hc
  obtain ⟨pa, paf⟩ := HU.out.ic ha
  rw [jn_b, hb] at pc
  have CS := Lib.hid (sound_any b B V (S.jn a c) L a _ HU.out ha)
  clear h
  go_enter Try.func80, Try.ntmps80
  go_wp2_with ((go_at_call 82; (with_reducible refine CS.out.mono ?_); rintro e w2 ⟨rfl, g⟩; have G2 := Lib.hid g; clear g))
  go_ret
  exact ⟨rfl, L, HU.out.gr G2.out, G1.out.trans (.gr G2.out), fun i _ hb => ⟨hb, rfl⟩⟩
attribute [local irreducible] Calls in
set_option maxRecDepth 100000 in
set_option maxHeartbeats 4000000 in
theorem join2 (b : SB) (B : Nat) (V : List Int) (S : SS) (L : List Ty) (W : World) (h : SMem b B V S L W) (a c : Nat) (hac : a < c) (hc : c < V.length) (hb : S.b c = true) (hb2 : S.b a = false) (hk : (S.t c).kind ≠ 5) : Calls Try.prog 80 #[.pointer (some ⟨b.sp, 0, none⟩), iv a, iv c] W (EqM b B V L S ((S.jn a c).bd a (S.t c)) (sndP V ((S.jn a c).bd a (S.t c)) a) W) := by
  have hN := h.n
  have ha : a < V.length := by omega
  have w1 := h.wf.jn hac hc
  have HU := Lib.hid (h.setU hc w1)
  have G1 := Lib.hid (SGr.set (b := b) (.inl rfl) W c (iv a))
  obtain ⟨s0, s1, s2, s3⟩ := h.hd
  rw [h.a1 (by omega)] at s1
  obtain ⟨u0, uf⟩ := h.uc hc
  have hab : ¬ ((a : Int) = (c : Int)) := by omega
  have hba : ¬ ((c : Int) = (a : Int)) := by omega
  have gab : ¬ ((c : Int) < (a : Int)) := by omega
  have gba : ((a : Int) < (c : Int)) := by omega
  obtain ⟨t0, t1, t2, t3⟩ := HU.out.hd
  rw [h.a1 (by omega)] at t1
  obtain ⟨pc, -⟩ := HU.out.ic hc
  obtain ⟨pa, paf⟩ := HU.out.ic ha
  rw [jn_b, hb] at pc
  rw [jn_b, hb2] at pa
  obtain ⟨y', hyL, ye', yr', yi', ⟨y0, y1, y2⟩, -⟩ := HU.out.tc hc
  obtain ⟨z, -, -, -, -, ⟨z0, z1, z2⟩, zf⟩ := HU.out.tc ha
  rw [jn_t] at ye'
  have w2 : WF V ((S.jn a c).bd a (S.t c)) := w1.bd ha hk (h.wf.gv hc hb)
  obtain ⟨n1, n2, n3, n4, n5, n6⟩ := h.ne
  have yt' : TG B V y' _ := ⟨yr', yi', by rw [ye']; exact h.wf.gv hc hb⟩
  have H2 := Lib.hid (HU.out.setT ha yt' (by rw [ye']; exact w2))
  rw [ye'] at H2
  have F2 := Lib.hid (H2.out.tc hc)
  have hL2 : (L.set a y')[c]? = some y' := by rw [List.getElem?_set, if_neg (by omega)]; exact hyL
  have G2 := Lib.hid (((SGr.set (b := b) (.inr (.inl rfl)) (W.setCell ⟨b.ub, c, none⟩ (iv a)) a (.bool true)).trans (SGr.set (.inr (.inr rfl)) _ (a * 3) (iv y'.kind))).trans ((SGr.set (.inr (.inr rfl)) _ (a * 3 + 1) (iv y'.var)).trans (SGr.set (.inr (.inr rfl)) _ (a * 3 + 2) (.slice y'.A y'.sub.length y'.c))))
  have F3 := Lib.hid (show (((((W.setCell ⟨b.ub, c, none⟩ (iv a)).setCell ⟨b.ib, a, none⟩ (.bool true)).setCell ⟨b.tb, a * 3, none⟩ (iv y'.kind)).setCell ⟨b.tb, a * 3 + 1, none⟩ (iv y'.var)).setCell ⟨b.tb, a * 3 + 2, none⟩ (.slice y'.A y'.sub.length y'.c)).drew.cell? ⟨b.sp, 2, none⟩ = some (.slice (some ⟨b.ib, 0, none⟩) V.length V.length) ∧ (((((W.setCell ⟨b.ub, c, none⟩ (iv a)).setCell ⟨b.ib, a, none⟩ (.bool true)).setCell ⟨b.tb, a * 3, none⟩ (iv y'.kind)).setCell ⟨b.tb, a * 3 + 1, none⟩ (iv y'.var)).setCell ⟨b.tb, a * 3 + 2, none⟩ (.slice y'.A y'.sub.length y'.c)).drew.cell? ⟨b.sp, 3, none⟩ = some (.slice (some ⟨b.tb, 0, none⟩) V.length V.length) ∧ (((((W.setCell ⟨b.ub, c, none⟩ (iv a)).setCell ⟨b.ib, a, none⟩ (.bool true)).setCell ⟨b.tb, a * 3, none⟩ (iv y'.kind)).setCell ⟨b.tb, a * 3 + 1, none⟩ (iv y'.var)).setCell ⟨b.tb, a * 3 + 2, none⟩ (.slice y'.A y'.sub.length y'.c)).drew.cell? ⟨b.tb, c * 3, none⟩ = some (iv y'.kind) ∧ (((((W.setCell ⟨b.ub, c, none⟩ (iv a)).setCell ⟨b.ib, a, none⟩ (.bool true)).setCell ⟨b.tb, a * 3, none⟩ (iv y'.kind)).setCell ⟨b.tb, a * 3 + 1, none⟩ (iv y'.var)).setCell ⟨b.tb, a * 3 + 2, none⟩ (.slice y'.A y'.sub.length y'.c)).drew.cell? ⟨b.tb, c * 3 + 1, none⟩ = some (iv y'.var) ∧ (((((W.setCell ⟨b.ub, c, none⟩ (iv a)).setCell ⟨b.ib, a, none⟩ (.bool true)).setCell ⟨b.tb, a * 3, none⟩ (iv y'.kind)).setCell ⟨b.tb, a * 3 + 1, none⟩ (iv y'.var)).setCell ⟨b.tb, a * 3 + 2, none⟩ (.slice y'.A y'.sub.length y'.c)).drew.cell? ⟨b.tb, c * 3 + 2, none⟩ = some (.slice y'.A y'.sub.length y'.c) from by
    obtain ⟨y3, hy3, -, -, -, hc3, -⟩ := F2.out
    rw [hL2] at hy3
    cases hy3
    exact ⟨gr_c (gr_drew _) H2.out.hd.2.2.1, gr_c (gr_drew _) H2.out.hd.2.2.2, gr_c (gr_drew _) hc3.1, gr_c (gr_drew _) hc3.2.1, gr_c (gr_drew _) hc3.2.2⟩)
  have HXT := Lib.hid (fun i (hi : i < V.length) (hbi : S.b i = true) => show ((S.jn a c).bd a (S.t c)).b i = true ∧ (L.set a y')[i]? = L[i]? from by
    have hia : i ≠ a := by rintro rfl; rw [hb2] at hbi; cases hbi
    rw [bd_b w1 ha, if_neg hia]
    exact ⟨hbi, by rw [List.getElem?_set, if_neg (Ne.symm hia)]⟩)
  have CS := Lib.hid (sound_any b B V ((S.jn a c).bd a (S.t c)) (L.set a y') a _ (H2.out.gr (gr_drew _)) ha)
  clear h F2 hL2 yr' yi' hyL yt'
  go_enter Try.func80, Try.ntmps80
  go_upto_region 9 with (fail)
  generalize hW1 : W.setCell _ _ = W1 at *
  clear hW1 s0 s1 s2 s3 u0 uf
  have KS := Lib.hid (fun (U : World) (g : Gr W1 U) => (⟨gr_c g t2, gr_c g t3, gr_c g y0, gr_c g y1, gr_c g y2⟩ : U.cell? ⟨b.sp, 2, none⟩ = some (.slice (some ⟨b.ib, 0, none⟩) V.length V.length) ∧ U.cell? ⟨b.sp, 3, none⟩ = some (.slice (some ⟨b.tb, 0, none⟩) V.length V.length) ∧ U.cell? ⟨b.tb, c * 3, none⟩ = some (iv y'.kind) ∧ U.cell? ⟨b.tb, c * 3 + 1, none⟩ = some (iv y'.var) ∧ U.cell? ⟨b.tb, c * 3 + 2, none⟩ = some (.slice y'.A y'.sub.length y'.c)))
  have m1 := Ne.symm n2
  have m2 := Ne.symm n3
  have m3 := Ne.symm n6
  go_region_held3 (fun U => U.cell? ⟨b.sp, 2, none⟩ = some (.slice (some ⟨b.ib, 0, none⟩) V.length V.length) ∧ U.cell? ⟨b.sp, 3, none⟩ = some (.slice (some ⟨b.tb, 0, none⟩) V.length V.length) ∧ U.cell? ⟨b.tb, c * 3, none⟩ = some (iv y'.kind) ∧ U.cell? ⟨b.tb, c * 3 + 1, none⟩ = some (iv y'.var) ∧ U.cell? ⟨b.tb, c * 3 + 2, none⟩ = some (.slice y'.A y'.sub.length y'.c)) (first | with_reducible exact KS.out _ (gr_drew _) | with_reducible exact KS.out _ (gr_refl _) | with_reducible exact F3.out | go_keep) (fail)
  go_wp2_with ((go_at_call 82; (with_reducible refine CS.out.mono ?_); rintro e w9 ⟨rfl, g⟩; have G9 := Lib.hid ((gr_drew _).trans g); clear g))
  go_ret
  exact ⟨rfl, _, H2.out.gr G9.out, G1.out.trans (G2.out.trans (.gr G9.out)), HXT.out⟩
attribute [local irreducible] Calls in
set_option maxRecDepth 100000 in
set_option maxHeartbeats 4000000 in
theorem join1s (b : SB) (B : Nat) (V : List Int) (S : SS) (L : List Ty) (W : World) (h : SMem b B V S L W) (a c : Nat) (hac : a < c) (hc : c < V.length) (hb : S.b c = false) : Calls Try.prog 80 #[.pointer (some ⟨b.sp, 0, none⟩), iv c, iv a] W (EqM b B V L S (S.jn a c) (sndP V (S.jn a c) a) W) := by
  have hN := h.n
  have ha : a < V.length := by omega
  have w1 := h.wf.jn hac hc
  have HU := Lib.hid (h.setU hc w1)
  have G1 := Lib.hid (SGr.set (b := b) (.inl rfl) W c (iv a))
  obtain ⟨s0, s1, s2, s3⟩ := h.hd
  rw [h.a1 (by omega)] at s1
  obtain ⟨u0, uf⟩ := h.uc hc
  have hab : ¬ ((a : Int) = (c : Int)) := by omega
  have hba : ¬ ((c : Int) = (a : Int)) := by omega
  have gab : ¬ ((c : Int) < (a : Int)) := by omega
  have gba : ((a : Int) < (c : Int)) := by omega
  obtain ⟨t0, t1, t2, t3⟩ := HU.out.hd
  rw [h.a1 (by omega)] at t1
  obtain ⟨pc, -⟩ := HU.out.ic hc
  obtain ⟨pa, paf⟩ := HU.out.ic ha
  rw [jn_b, hb] at pc
  have CS := Lib.hid (sound_any b B V (S.jn a c) L a _ HU.out ha)
  clear h
  go_enter Try.func80, Try.ntmps80
  go_wp2_with ((go_at_call 82; (with_reducible refine CS.out.mono ?_); rintro e w2 ⟨rfl, g⟩; have G2 := Lib.hid g; clear g))
  go_ret
  exact ⟨rfl, L, HU.out.gr G2.out, G1.out.trans (.gr G2.out), fun i _ hb => ⟨hb, rfl⟩⟩
attribute [local irreducible] Calls in
set_option maxRecDepth 100000 in
set_option maxHeartbeats 4000000 in
theorem join2s (b : SB) (B : Nat) (V : List Int) (S : SS) (L : List Ty) (W : World) (h : SMem b B V S L W) (a c : Nat) (hac : a < c) (hc : c < V.length) (hb : S.b c = true) (hb2 : S.b a = false) (hk : (S.t c).kind ≠ 5) : Calls Try.prog 80 #[.pointer (some ⟨b.sp, 0, none⟩), iv c, iv a] W (EqM b B V L S ((S.jn a c).bd a (S.t c)) (sndP V ((S.jn a c).bd a (S.t c)) a) W) := by
  have hN := h.n
  have ha : a < V.length := by omega
  have w1 := h.wf.jn hac hc
  have HU := Lib.hid (h.setU hc w1)
  have G1 := Lib.hid (SGr.set (b := b) (.inl rfl) W c (iv a))
  obtain ⟨s0, s1, s2, s3⟩ := h.hd
  rw [h.a1 (by omega)] at s1
  obtain ⟨u0, uf⟩ := h.uc hc
  have hab : ¬ ((a : Int) = (c : Int)) := by omega
  have hba : ¬ ((c : Int) = (a : Int)) := by omega
  have gab : ¬ ((c : Int) < (a : Int)) := by omega
  have gba : ((a : Int) < (c : Int)) := by omega
  obtain ⟨t0, t1, t2, t3⟩ := HU.out.hd
  rw [h.a1 (by omega)] at t1
  obtain ⟨pc, -⟩ := HU.out.ic hc
  obtain ⟨pa, paf⟩ := HU.out.ic ha
  rw [jn_b, hb] at pc
  rw [jn_b, hb2] at pa
  obtain ⟨y', hyL, ye', yr', yi', ⟨y0, y1, y2⟩, -⟩ := HU.out.tc hc
  obtain ⟨z, -, -, -, -, ⟨z0, z1, z2⟩, zf⟩ := HU.out.tc ha
  rw [jn_t] at ye'
  have w2 : WF V ((S.jn a c).bd a (S.t c)) := w1.bd ha hk (h.wf.gv hc hb)
  obtain ⟨n1, n2, n3, n4, n5, n6⟩ := h.ne
  have yt' : TG B V y' _ := ⟨yr', yi', by rw [ye']; exact h.wf.gv hc hb⟩
  have H2 := Lib.hid (HU.out.setT ha yt' (by rw [ye']; exact w2))
  rw [ye'] at H2
  have F2 := Lib.hid (H2.out.tc hc)
  have hL2 : (L.set a y')[c]? = some y' := by rw [List.getElem?_set, if_neg (by omega)]; exact hyL
  have G2 := Lib.hid (((SGr.set (b := b) (.inr (.inl rfl)) (W.setCell ⟨b.ub, c, none⟩ (iv a)) a (.bool true)).trans (SGr.set (.inr (.inr rfl)) _ (a * 3) (iv y'.kind))).trans ((SGr.set (.inr (.inr rfl)) _ (a * 3 + 1) (iv y'.var)).trans (SGr.set (.inr (.inr rfl)) _ (a * 3 + 2) (.slice y'.A y'.sub.length y'.c))))
  have F3 := Lib.hid (show (((((W.setCell ⟨b.ub, c, none⟩ (iv a)).setCell ⟨b.ib, a, none⟩ (.bool true)).setCell ⟨b.tb, a * 3, none⟩ (iv y'.kind)).setCell ⟨b.tb, a * 3 + 1, none⟩ (iv y'.var)).setCell ⟨b.tb, a * 3 + 2, none⟩ (.slice y'.A y'.sub.length y'.c)).drew.cell? ⟨b.sp, 2, none⟩ = some (.slice (some ⟨b.ib, 0, none⟩) V.length V.length) ∧ (((((W.setCell ⟨b.ub, c, none⟩ (iv a)).setCell ⟨b.ib, a, none⟩ (.bool true)).setCell ⟨b.tb, a * 3, none⟩ (iv y'.kind)).setCell ⟨b.tb, a * 3 + 1, none⟩ (iv y'.var)).setCell ⟨b.tb, a * 3 + 2, none⟩ (.slice y'.A y'.sub.length y'.c)).drew.cell? ⟨b.sp, 3, none⟩ = some (.slice (some ⟨b.tb, 0, none⟩) V.length V.length) ∧ (((((W.setCell ⟨b.ub, c, none⟩ (iv a)).setCell ⟨b.ib, a, none⟩ (.bool true)).setCell ⟨b.tb, a * 3, none⟩ (iv y'.kind)).setCell ⟨b.tb, a * 3 + 1, none⟩ (iv y'.var)).setCell ⟨b.tb, a * 3 + 2, none⟩ (.slice y'.A y'.sub.length y'.c)).drew.cell? ⟨b.tb, c * 3, none⟩ = some (iv y'.kind) ∧ (((((W.setCell ⟨b.ub, c, none⟩ (iv a)).setCell ⟨b.ib, a, none⟩ (.bool true)).setCell ⟨b.tb, a * 3, none⟩ (iv y'.kind)).setCell ⟨b.tb, a * 3 + 1, none⟩ (iv y'.var)).setCell ⟨b.tb, a * 3 + 2, none⟩ (.slice y'.A y'.sub.length y'.c)).drew.cell? ⟨b.tb, c * 3 + 1, none⟩ = some (iv y'.var) ∧ (((((W.setCell ⟨b.ub, c, none⟩ (iv a)).setCell ⟨b.ib, a, none⟩ (.bool true)).setCell ⟨b.tb, a * 3, none⟩ (iv y'.kind)).setCell ⟨b.tb, a * 3 + 1, none⟩ (iv y'.var)).setCell ⟨b.tb, a * 3 + 2, none⟩ (.slice y'.A y'.sub.length y'.c)).drew.cell? ⟨b.tb, c * 3 + 2, none⟩ = some (.slice y'.A y'.sub.length y'.c) from by
    obtain ⟨y3, hy3, -, -, -, hc3, -⟩ := F2.out
    rw [hL2] at hy3
    cases hy3
    exact ⟨gr_c (gr_drew _) H2.out.hd.2.2.1, gr_c (gr_drew _) H2.out.hd.2.2.2, gr_c (gr_drew _) hc3.1, gr_c (gr_drew _) hc3.2.1, gr_c (gr_drew _) hc3.2.2⟩)
  have HXT := Lib.hid (fun i (hi : i < V.length) (hbi : S.b i = true) => show ((S.jn a c).bd a (S.t c)).b i = true ∧ (L.set a y')[i]? = L[i]? from by
    have hia : i ≠ a := by rintro rfl; rw [hb2] at hbi; cases hbi
    rw [bd_b w1 ha, if_neg hia]
    exact ⟨hbi, by rw [List.getElem?_set, if_neg (Ne.symm hia)]⟩)
  have CS := Lib.hid (sound_any b B V ((S.jn a c).bd a (S.t c)) (L.set a y') a _ (H2.out.gr (gr_drew _)) ha)
  clear h F2 hL2 yr' yi' hyL yt'
  go_enter Try.func80, Try.ntmps80
  go_upto_region 9 with (fail)
  generalize hW1 : W.setCell _ _ = W1 at *
  clear hW1 s0 s1 s2 s3 u0 uf
  have KS := Lib.hid (fun (U : World) (g : Gr W1 U) => (⟨gr_c g t2, gr_c g t3, gr_c g y0, gr_c g y1, gr_c g y2⟩ : U.cell? ⟨b.sp, 2, none⟩ = some (.slice (some ⟨b.ib, 0, none⟩) V.length V.length) ∧ U.cell? ⟨b.sp, 3, none⟩ = some (.slice (some ⟨b.tb, 0, none⟩) V.length V.length) ∧ U.cell? ⟨b.tb, c * 3, none⟩ = some (iv y'.kind) ∧ U.cell? ⟨b.tb, c * 3 + 1, none⟩ = some (iv y'.var) ∧ U.cell? ⟨b.tb, c * 3 + 2, none⟩ = some (.slice y'.A y'.sub.length y'.c)))
  have m1 := Ne.symm n2
  have m2 := Ne.symm n3
  have m3 := Ne.symm n6
  go_region_held3 (fun U => U.cell? ⟨b.sp, 2, none⟩ = some (.slice (some ⟨b.ib, 0, none⟩) V.length V.length) ∧ U.cell? ⟨b.sp, 3, none⟩ = some (.slice (some ⟨b.tb, 0, none⟩) V.length V.length) ∧ U.cell? ⟨b.tb, c * 3, none⟩ = some (iv y'.kind) ∧ U.cell? ⟨b.tb, c * 3 + 1, none⟩ = some (iv y'.var) ∧ U.cell? ⟨b.tb, c * 3 + 2, none⟩ = some (.slice y'.A y'.sub.length y'.c)) (first | with_reducible exact KS.out _ (gr_drew _) | with_reducible exact KS.out _ (gr_refl _) | with_reducible exact F3.out | go_keep) (fail)
  go_wp2_with ((go_at_call 82; (with_reducible refine CS.out.mono ?_); rintro e w9 ⟨rfl, g⟩; have G9 := Lib.hid ((gr_drew _).trans g); clear g))
  go_ret
  exact ⟨rfl, _, H2.out.gr G9.out, G1.out.trans (G2.out.trans (.gr G9.out)), HXT.out⟩
attribute [local irreducible] Calls in
set_option maxRecDepth 100000 in
set_option maxHeartbeats 4000000 in
theorem join5 (b : SB) (B : Nat) (V : List Int) (S : SS) (L : List Ty) (W : World) (h : SMem b B V S L W) (a c : Nat) (hac : a < c) (hc : c < V.length) (g : SS → PT → PT → Option (Bool × SS)) (EQ : ∀ (S : SS) (L : List Ty) (W : World) (x y : Ty) (r : Bool) (S' : SS), SMem b B V S L W → TG B V x W → TG B V y W → g S x.er y.er = some (r, S') → Calls Try.prog 50 #[.pointer (some ⟨b.sp, 0, none⟩), x.v, y.v] W (EqM b B V L S S' r W)) (hb : S.b c = true) (hb2 : S.b a = true) (hs : sndP V (S.jn a c) a = true) (S3 : SS) (he : g (S.jn a c) (S.t a) (S.t c) = some (true, S3)) : Calls Try.prog 80 #[.pointer (some ⟨b.sp, 0, none⟩), iv a, iv c] W (EqM b B V L S S3 (sndP V S3 a) W) := by
  have hN := h.n
  have ha : a < V.length := by omega
  have w1 := h.wf.jn hac hc
  have HU := Lib.hid (h.setU hc w1)
  have G1 := Lib.hid (SGr.set (b := b) (.inl rfl) W c (iv a))
  obtain ⟨s0, s1, s2, s3⟩ := h.hd
  rw [h.a1 (by omega)] at s1
  obtain ⟨u0, uf⟩ := h.uc hc
  have hab : ¬ ((a : Int) = (c : Int)) := by omega
  have hba : ¬ ((c : Int) = (a : Int)) := by omega
  have gab : ¬ ((c : Int) < (a : Int)) := by omega
  have gba : ((a : Int) < (c : Int)) := by omega
  obtain ⟨t0, t1, t2, t3⟩ := HU.out.hd
  rw [h.a1 (by omega)] at t1
  obtain ⟨pc, -⟩ := HU.out.ic hc
  obtain ⟨pa, paf⟩ := HU.out.ic ha
  rw [jn_b, hb] at pc
  rw [jn_b, hb2] at pa
  obtain ⟨x, hxL, xe, xr, xi, xc, -⟩ := HU.out.tc ha
  obtain ⟨y, hyL, ye, yr, yi, yc, -⟩ := HU.out.tc hc
  rw [jn_t] at xe ye
  have XG : TG B V x _ := ⟨xr, xi, by rw [xe]; exact h.wf.gv ha hb2⟩
  have YG : TG B V y _ := ⟨yr, yi, by rw [ye]; exact h.wf.gv hc hb⟩
  have CS := Lib.hid (fun U (g : Gr _ U) => sound_any b B V (S.jn a c) L a U (HU.out.gr g) ha)
  rw [hs] at CS
  have CE := Lib.hid (fun U (g : Gr _ U) => EQ (S.jn a c) L U x y true S3 (HU.out.gr g) (XG.gr g) (YG.gr g) (by rw [xe, ye]; exact he))
  unfold Ty.v at CE
  have K3 := Lib.hid (fun (L3 : List Ty) (U : World) (h3 : SMem b B V S3 L3 U) (x3 : ∀ i, i < V.length → (S.jn a c).b i = true → S3.b i = true ∧ L3[i]? = L[i]?) => show U.cell? ⟨b.sp, 3, none⟩ = some (.slice (some ⟨b.tb, 0, none⟩) V.length V.length) ∧ (U.cell? ⟨b.tb, a * 3, none⟩ = some (iv x.kind) ∧ U.cell? ⟨b.tb, a * 3 + 1, none⟩ = some (iv x.var) ∧ U.cell? ⟨b.tb, a * 3 + 2, none⟩ = some (.slice x.A x.sub.length x.c)) ∧ (U.cell? ⟨b.tb, c * 3, none⟩ = some (iv y.kind) ∧ U.cell? ⟨b.tb, c * 3 + 1, none⟩ = some (iv y.var) ∧ U.cell? ⟨b.tb, c * 3 + 2, none⟩ = some (.slice y.A y.sub.length y.c)) from by
    obtain ⟨x', hx', -, -, -, xc', -⟩ := h3.tc ha
    obtain ⟨y', hy', -, -, -, yc', -⟩ := h3.tc hc
    rw [(x3 a ha hb2).2, hxL] at hx'
    rw [(x3 c hc hb).2, hyL] at hy'
    cases hx'
    cases hy'
    exact ⟨h3.hd.2.2.2, xc', yc'⟩)
  have CT := Lib.hid (fun (L3 : List Ty) (U : World) (h3 : SMem b B V S3 L3 U) => sound_any b B V S3 L3 a U h3 ha)
  have KW := Lib.hid (fun (U : World) (g : Gr (W.setCell ⟨b.ub, c, none⟩ (iv a)) U) => (⟨gr_c g t3, ⟨gr_c g xc.1, gr_c g xc.2.1, gr_c g xc.2.2⟩, ⟨gr_c g yc.1, gr_c g yc.2.1, gr_c g yc.2.2⟩⟩ : U.cell? ⟨b.sp, 3, none⟩ = some (.slice (some ⟨b.tb, 0, none⟩) V.length V.length) ∧ (U.cell? ⟨b.tb, a * 3, none⟩ = some (iv x.kind) ∧ U.cell? ⟨b.tb, a * 3 + 1, none⟩ = some (iv x.var) ∧ U.cell? ⟨b.tb, a * 3 + 2, none⟩ = some (.slice x.A x.sub.length x.c)) ∧ (U.cell? ⟨b.tb, c * 3, none⟩ = some (iv y.kind) ∧ U.cell? ⟨b.tb, c * 3 + 1, none⟩ = some (iv y.var) ∧ U.cell? ⟨b.tb, c * 3 + 2, none⟩ = some (.slice y.A y.sub.length y.c))))
  clear h EQ XG YG xe ye xr yr xi yi hxL hyL xc yc
  go_enter Try.func80, Try.ntmps80
  go_upto_region 11 with (fail)
  generalize hW1 : W.setCell _ _ = W1 at *
  clear hW1 s0 s1 s2 s3 u0 uf
  clear t0 t1 t2 t3 pc pa paf
  go_region_held3 (fun U => U.cell? ⟨b.sp, 3, none⟩ = some (.slice (some ⟨b.tb, 0, none⟩) V.length V.length) ∧ (U.cell? ⟨b.tb, a * 3, none⟩ = some (iv x.kind) ∧ U.cell? ⟨b.tb, a * 3 + 1, none⟩ = some (iv x.var) ∧ U.cell? ⟨b.tb, a * 3 + 2, none⟩ = some (.slice x.A x.sub.length x.c)) ∧ (U.cell? ⟨b.tb, c * 3, none⟩ = some (iv y.kind) ∧ U.cell? ⟨b.tb, c * 3 + 1, none⟩ = some (iv y.var) ∧ U.cell? ⟨b.tb, c * 3 + 2, none⟩ = some (.slice y.A y.sub.length y.c))) (first | with_reducible exact K3.out _ _ H3.out X3.out | with_reducible exact K3.out _ _ (H3.out.gr Z3.out) X3.out | with_reducible exact KW.out _ Z1.out | with_reducible exact KW.out _ (gr_drew _) | with_reducible exact KW.out _ (gr_refl _) | go_keep) (first | (go_at_call 82; (with_reducible refine (CS.out _ (gr_drew _)).mono ?_); rintro e z1 ⟨rfl, g⟩; have Z1 := Lib.hid ((gr_drew W1).trans g); clear g) | (go_at_call 50; (with_reducible refine (CE.out _ Z1.out).mono ?_); rintro e z2 ⟨rfl, L3, h3, g3, x3⟩; have H3 := Lib.hid h3; have G3 := Lib.hid g3; have X3 := Lib.hid x3; clear h3 g3 x3) | (go_at_call 82; (with_reducible refine (CT.out _ _ H3.out).mono ?_); rintro e z3 ⟨rfl, g⟩; have Z3 := Lib.hid g; clear g))
  go_wp2
  go_ret
  exact ⟨rfl, L3, H3.out.gr Z3.out, G1.out.trans ((SGr.gr Z1.out).trans (G3.out.trans (.gr Z3.out))), X3.out⟩
attribute [local irreducible] Calls in
set_option maxRecDepth 100000 in
set_option maxHeartbeats 4000000 in
theorem join5s (b : SB) (B : Nat) (V : List Int) (S : SS) (L : List Ty) (W : World) (h : SMem b B V S L W) (a c : Nat) (hac : a < c) (hc : c < V.length) (g : SS → PT → PT → Option (Bool × SS)) (EQ : ∀ (S : SS) (L : List Ty) (W : World) (x y : Ty) (r : Bool) (S' : SS), SMem b B V S L W → TG B V x W → TG B V y W → g S x.er y.er = some (r, S') → Calls Try.prog 50 #[.pointer (some ⟨b.sp, 0, none⟩), x.v, y.v] W (EqM b B V L S S' r W)) (hb : S.b c = true) (hb2 : S.b a = true) (hs : sndP V (S.jn a c) a = true) (S3 : SS) (he : g (S.jn a c) (S.t a) (S.t c) = some (true, S3)) : Calls Try.prog 80 #[.pointer (some ⟨b.sp, 0, none⟩), iv c, iv a] W (EqM b B V L S S3 (sndP V S3 a) W) := by
  have hN := h.n
  have ha : a < V.length := by omega
  have w1 := h.wf.jn hac hc
  have HU := Lib.hid (h.setU hc w1)
  have G1 := Lib.hid (SGr.set (b := b) (.inl rfl) W c (iv a))
  obtain ⟨s0, s1, s2, s3⟩ := h.hd
  rw [h.a1 (by omega)] at s1
  obtain ⟨u0, uf⟩ := h.uc hc
  have hab : ¬ ((a : Int) = (c : Int)) := by omega
  have hba : ¬ ((c : Int) = (a : Int)) := by omega
  have gab : ¬ ((c : Int) < (a : Int)) := by omega
  have gba : ((a : Int) < (c : Int)) := by omega
  obtain ⟨t0, t1, t2, t3⟩ := HU.out.hd
  rw [h.a1 (by omega)] at t1
  obtain ⟨pc, -⟩ := HU.out.ic hc
  obtain ⟨pa, paf⟩ := HU.out.ic ha
  rw [jn_b, hb] at pc
  rw [jn_b, hb2] at pa
  obtain ⟨x, hxL, xe, xr, xi, xc, -⟩ := HU.out.tc ha
  obtain ⟨y, hyL, ye, yr, yi, yc, -⟩ := HU.out.tc hc
  rw [jn_t] at xe ye
  have XG : TG B V x _ := ⟨xr, xi, by rw [xe]; exact h.wf.gv ha hb2⟩
  have YG : TG B V y _ := ⟨yr, yi, by rw [ye]; exact h.wf.gv hc hb⟩
  have CS := Lib.hid (fun U (g : Gr _ U) => sound_any b B V (S.jn a c) L a U (HU.out.gr g) ha)
  rw [hs] at CS
  have CE := Lib.hid (fun U (g : Gr _ U) => EQ (S.jn a c) L U x y true S3 (HU.out.gr g) (XG.gr g) (YG.gr g) (by rw [xe, ye]; exact he))
  unfold Ty.v at CE
  have K3 := Lib.hid (fun (L3 : List Ty) (U : World) (h3 : SMem b B V S3 L3 U) (x3 : ∀ i, i < V.length → (S.jn a c).b i = true → S3.b i = true ∧ L3[i]? = L[i]?) => show U.cell? ⟨b.sp, 3, none⟩ = some (.slice (some ⟨b.tb, 0, none⟩) V.length V.length) ∧ (U.cell? ⟨b.tb, a * 3, none⟩ = some (iv x.kind) ∧ U.cell? ⟨b.tb, a * 3 + 1, none⟩ = some (iv x.var) ∧ U.cell? ⟨b.tb, a * 3 + 2, none⟩ = some (.slice x.A x.sub.length x.c)) ∧ (U.cell? ⟨b.tb, c * 3, none⟩ = some (iv y.kind) ∧ U.cell? ⟨b.tb, c * 3 + 1, none⟩ = some (iv y.var) ∧ U.cell? ⟨b.tb, c * 3 + 2, none⟩ = some (.slice y.A y.sub.length y.c)) from by
    obtain ⟨x', hx', -, -, -, xc', -⟩ := h3.tc ha
    obtain ⟨y', hy', -, -, -, yc', -⟩ := h3.tc hc
    rw [(x3 a ha hb2).2, hxL] at hx'
    rw [(x3 c hc hb).2, hyL] at hy'
    cases hx'
    cases hy'
    exact ⟨h3.hd.2.2.2, xc', yc'⟩)
  have CT := Lib.hid (fun (L3 : List Ty) (U : World) (h3 : SMem b B V S3 L3 U) => sound_any b B V S3 L3 a U h3 ha)
  have KW := Lib.hid (fun (U : World) (g : Gr (W.setCell ⟨b.ub, c, none⟩ (iv a)) U) => (⟨gr_c g t3, ⟨gr_c g xc.1, gr_c g xc.2.1, gr_c g xc.2.2⟩, ⟨gr_c g yc.1, gr_c g yc.2.1, gr_c g yc.2.2⟩⟩ : U.cell? ⟨b.sp, 3, none⟩ = some (.slice (some ⟨b.tb, 0, none⟩) V.length V.length) ∧ (U.cell? ⟨b.tb, a * 3, none⟩ = some (iv x.kind) ∧ U.cell? ⟨b.tb, a * 3 + 1, none⟩ = some (iv x.var) ∧ U.cell? ⟨b.tb, a * 3 + 2, none⟩ = some (.slice x.A x.sub.length x.c)) ∧ (U.cell? ⟨b.tb, c * 3, none⟩ = some (iv y.kind) ∧ U.cell? ⟨b.tb, c * 3 + 1, none⟩ = some (iv y.var) ∧ U.cell? ⟨b.tb, c * 3 + 2, none⟩ = some (.slice y.A y.sub.length y.c))))
  clear h EQ XG YG xe ye xr yr xi yi hxL hyL xc yc
  go_enter Try.func80, Try.ntmps80
  go_upto_region 11 with (fail)
  generalize hW1 : W.setCell _ _ = W1 at *
  clear hW1 s0 s1 s2 s3 u0 uf
  clear t0 t1 t2 t3 pc pa paf
  go_region_held3 (fun U => U.cell? ⟨b.sp, 3, none⟩ = some (.slice (some ⟨b.tb, 0, none⟩) V.length V.length) ∧ (U.cell? ⟨b.tb, a * 3, none⟩ = some (iv x.kind) ∧ U.cell? ⟨b.tb, a * 3 + 1, none⟩ = some (iv x.var) ∧ U.cell? ⟨b.tb, a * 3 + 2, none⟩ = some (.slice x.A x.sub.length x.c)) ∧ (U.cell? ⟨b.tb, c * 3, none⟩ = some (iv y.kind) ∧ U.cell? ⟨b.tb, c * 3 + 1, none⟩ = some (iv y.var) ∧ U.cell? ⟨b.tb, c * 3 + 2, none⟩ = some (.slice y.A y.sub.length y.c))) (first | with_reducible exact K3.out _ _ H3.out X3.out | with_reducible exact K3.out _ _ (H3.out.gr Z3.out) X3.out | with_reducible exact KW.out _ Z1.out | with_reducible exact KW.out _ (gr_drew _) | with_reducible exact KW.out _ (gr_refl _) | go_keep) (first | (go_at_call 82; (with_reducible refine (CS.out _ (gr_drew _)).mono ?_); rintro e z1 ⟨rfl, g⟩; have Z1 := Lib.hid ((gr_drew W1).trans g); clear g) | (go_at_call 50; (with_reducible refine (CE.out _ Z1.out).mono ?_); rintro e z2 ⟨rfl, L3, h3, g3, x3⟩; have H3 := Lib.hid h3; have G3 := Lib.hid g3; have X3 := Lib.hid x3; clear h3 g3 x3) | (go_at_call 82; (with_reducible refine (CT.out _ _ H3.out).mono ?_); rintro e z3 ⟨rfl, g⟩; have Z3 := Lib.hid g; clear g))
  go_wp2
  go_ret
  exact ⟨rfl, L3, H3.out.gr Z3.out, G1.out.trans ((SGr.gr Z1.out).trans (G3.out.trans (.gr Z3.out))), X3.out⟩
end Go.Proofs.Ytjlmhfdigoogfaa

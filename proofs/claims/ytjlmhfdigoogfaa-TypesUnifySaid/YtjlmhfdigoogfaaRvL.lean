/- Plain: the variables of two types, by insert; walks: Unify (15) of types that are not valid. -/
import Derived.Test.YtjlmhfdigoogfaaRvK
namespace Go.Proofs.Ytjlmhfdigoogfaa
open Go.RowKit

theorem insD_old {n : Int} : ∀ {L : List Int}, L.Pairwise (· ≤ ·) → n ∈ L → insD n L = L := by
  intro L hs hn
  unfold insD
  rw [if_pos]
  induction L with
  | nil => cases hn
  | cons x L ih =>
    rw [List.pairwise_cons] at hs
    rw [List.dropWhile_cons]
    by_cases h : x < n
    · rw [if_pos (by simpa using h)]
      refine ih hs.2 ?_
      rcases List.mem_cons.1 hn with e | h2
      · omega
      · exact h2
    · rw [if_neg (by simpa using h)]
      rcases List.mem_cons.1 hn with e | h2
      · rw [e]; rfl
      · have := hs.1 n h2
        have e : x = n := by omega
        rw [e]; rfl
theorem fold_ins : ∀ (l o : List Int), o.Pairwise (· ≤ ·) → o.Nodup → (l.foldl insF o).Pairwise (· ≤ ·) ∧ (l.foldl insF o).Nodup ∧ ∀ u, u ∈ l.foldl insF o ↔ u ∈ o ∨ u ∈ l
  | [], o, h1, h2 => ⟨h1, h2, fun u => by simp⟩
  | n :: l, o, h1, h2 => by
    rw [List.foldl_cons]
    by_cases hn : n ∈ o
    · have e : insF o n = o := insD_old h1 hn
      rw [e]
      obtain ⟨a1, a2, a3⟩ := fold_ins l o h1 h2
      refine ⟨a1, a2, fun u => (a3 u).trans ⟨fun h => h.imp id (List.mem_cons_of_mem _), fun h => ?_⟩⟩
      rcases h with h | h
      · exact .inl h
      · rcases List.mem_cons.1 h with rfl | h
        · exact .inl hn
        · exact .inr h
    · obtain ⟨p1, p2⟩ := insD_new h1 hn
      obtain ⟨a1, a2, a3⟩ := fold_ins l (insF o n) p2 (p1.nodup_iff.2 (List.nodup_cons.2 ⟨hn, h2⟩))
      refine ⟨a1, a2, fun u => (a3 u).trans ?_⟩
      rw [show u ∈ insF o n ↔ u ∈ n :: o from p1.mem_iff, List.mem_cons, List.mem_cons]
      exact ⟨fun h => by rcases h with (h | h) | h <;> simp [h], fun h => by rcases h with h | h | h <;> simp [h]⟩
theorem uvs_ins {a b : PT} (ha : ck a = 0) (hb : ck b = 0) : (rvars b).foldl insF (rvars a) = uvs a b := by
  rw [rvars_eq, rvars_eq]
  unfold vrs
  rw [if_pos ha, if_pos hb]
  obtain ⟨h1, h2, h3⟩ := fold_ins (ascd (sn [] b)) (ascd (sn [] a)) (ascd_sorted _) ((ascd_perm _).nodup_iff.2 (sn_nodup a))
  refine asc_unique ((List.perm_ext_iff_of_nodup h2 (uvs_nodup a b)).2 fun u => ?_) h1 (ascd_sorted _)
  rw [h3, uvs_mem, (ascd_perm _).mem_iff, (ascd_perm _).mem_iff, mem_sn, mem_sn]
  simp [Vab]
theorem asr_emp (S : Nat → Prop) (w : World) (a : Addr) : ASR S [] w (.slice (some a) 0 0) := ⟨some a, [], 0, rfl, ⟨RD.nil, by simp⟩, rfl, by simp, by omega, by simp, by simp, by simp⟩
theorem unp_emp {w V : World} {n : Int} {a : Addr} (g : Gr w V) : UnP w ([], n) (.returned (.tuple #[.slice (some a) 0 0, iv n])) V := ⟨⟨_, rfl, asr_emp _ _ _⟩, g⟩
attribute [local irreducible] Calls in
set_option maxRecDepth 100000 in
set_option maxHeartbeats 2000000 in
theorem runify_bad1 (x y : Ty) (W : World) (hx : x.Rd W) (hc : ck x.er ≠ 0) : Calls Try.prog 15 #[x.v, y.v] W (UnP W (uans x.er y.er)) := by
  rw [uans_bad1 hc]
  have BB := Lib.hid (b2_new x.kind x.var (.slice x.A x.sub.length x.c) y.kind y.var (.slice y.A y.sub.length y.c) W)
  obtain ⟨⟨p0, p1, p2⟩, -⟩ := cell3 (gr_h (gr_al _ (.cells #[] 43)) BB.out.h1)
  have CX := Lib.hid (fun U (g : Gr W U) => rCheck_any x U (TRd.gr hx g))
  have GE := Lib.hid (BB.out.gr.trans (gr_al _ (.cells #[] 43)))
  obtain ⟨n, hn⟩ : ∃ n, ck x.er = n := ⟨_, rfl⟩
  simp only [hn] at CX hc ⊢
  have hb : (n != 0) = true := by simpa using hc
  unfold Ty.v at CX ⊢
  clear hx hn
  go_enter Try.func15, Try.ntmps15
  go_wp2_with (first | (go_at_call 18; (with_reducible refine (CX.out _ GE.out).mono ?_); rintro e w1 ⟨rfl, g1⟩; have G1 := Lib.hid g1; clear g1))
  go_ret2
  exact unp_emp (GE.out.trans G1.out)
attribute [local irreducible] Calls in
set_option maxRecDepth 100000 in
set_option maxHeartbeats 2000000 in
theorem runify_bad2 (x y : Ty) (W : World) (hx : x.Rd W) (hy : y.Rd W) (hcx : ck x.er = 0) (hc : ck y.er ≠ 0) : Calls Try.prog 15 #[x.v, y.v] W (UnP W (uans x.er y.er)) := by
  rw [uans_bad2 hcx hc]
  have BB := Lib.hid (b2_new x.kind x.var (.slice x.A x.sub.length x.c) y.kind y.var (.slice y.A y.sub.length y.c) W)
  obtain ⟨⟨p0, p1, p2⟩, -⟩ := cell3 (gr_h (gr_al _ (.cells #[] 43)) BB.out.h1)
  obtain ⟨⟨q0, q1, q2⟩, -⟩ := cell3 (gr_h (gr_al _ (.cells #[] 43)) BB.out.h2)
  have CX := Lib.hid (fun U (g : Gr W U) => rCheck_any x U (TRd.gr hx g))
  have GE := Lib.hid (BB.out.gr.trans (gr_al _ (.cells #[] 43)))
  have CY := Lib.hid (fun U (g : Gr W U) => rCheck_any y U (TRd.gr hy g))
  simp only [hcx] at CX
  obtain ⟨n, hn⟩ : ∃ n, ck y.er = n := ⟨_, rfl⟩
  simp only [hn] at CY hc ⊢
  have hb : (n != 0) = true := by simpa using hc
  unfold Ty.v at CX CY ⊢
  clear hx hy hn
  go_enter Try.func15, Try.ntmps15
  go_wp2_with (first | (go_at_call 18; (with_reducible refine (CX.out _ GE.out).mono ?_); rintro e w1 ⟨rfl, g1⟩; have G1 := Lib.hid (GE.out.trans g1); have q0' := gr_c g1 q0; have q1' := gr_c g1 q1; have q2' := gr_c g1 q2; clear g1) | (go_at_call 18; (with_reducible refine (CY.out _ G1.out).mono ?_); rintro e w2 ⟨rfl, g2⟩; have G2 := Lib.hid g2; clear g2))
  go_ret2
  exact unp_emp (G1.out.trans G2.out)
end Go.Proofs.Ytjlmhfdigoogfaa

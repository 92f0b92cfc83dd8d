/- Walks: join (80). -/
import Derived.Test.YtjlmhfdigoogfaaRvD
namespace Go.Proofs.Ytjlmhfdigoogfaa
open Go.RowKit

section
variable {P : Program} {ops : Array Oper} {Q : Exit → Act → World → Prop} {S : World → Prop}
/-- An operation that yields is taken; it is not written out. -/
theorem takeH {i : Nat} {d : Option Tmp} {v : Value} {fuel : Nat} {listed : Array Bool} {a : Act} {w : World} (hd : (ops[i]?).map (·.dst) = some d)
    (hs : Region.noSelect ops = true) (hf : Region.free .any ops listed i = true) (hr : (Region.ready .any ops listed).contains i = true)
    (hQ : ∀ c a w, Q (.panic c) (a.put d v) w → Q (.panic c) a w) (hy : ∀ oi, ops[i]? = some oi → YieldsIf P ops S oi v a) (hS : S w)
    (h : wpAnyH P .any ops Q S fuel (listed.setIfInBounds i true) (a.put d v) w) : wpAnyH P .any ops Q S (fuel + 1) listed a w := by
  cases ho : ops[i]? with
  | none => rw [ho] at hd; cases hd
  | some oi =>
    rw [ho] at hd
    have e : oi.dst = d := by simpa using hd
    subst e
    exact wpAnyH_take ho hs hf hr hQ (hy oi ho) hS h
/-- An operation that is not wanted is skipped. -/
theorem skipH {i : Nat} {d : Option Tmp} {fuel : Nat} {listed : Array Bool} {a : Act} {w : World} (hd : (ops[i]?).map (·.dst) = some d)
    (hs : Region.noSelect ops = true) (hf : Region.free .any ops listed i = true) (hr : (Region.ready .any ops listed).contains i = true)
    (hQ : ∀ c a w, Q (.panic c) (a.put d undef) w → Q (.panic c) a w) (hn : (ops[i]?).map (fun o => Region.wanted o (yielded ops a.tmps)) = some false) (hS : S w)
    (h : wpAnyH P .any ops Q S fuel (listed.setIfInBounds i true) (a.put d undef) w) : wpAnyH P .any ops Q S (fuel + 1) listed a w :=
  takeH hd hs hf hr hQ (fun oi ho => Or.inr ⟨by rw [ho] at hn; simpa using hn, rfl⟩) hS h
end
attribute [local irreducible] Calls in
set_option maxRecDepth 100000 in
set_option maxHeartbeats 4000000 in
theorem join3 (b : SB) (B : Nat) (V : List Int) (S : SS) (L : List Ty) (W : World) (h : SMem b B V S L W) (a c : Nat) (hac : a < c) (hc : c < V.length) (hb : S.b c = true) (hb2 : S.b a = true) (hs : sndP V (S.jn a c) a = false) : Calls Try.prog 80 #[.pointer (some ⟨b.sp, 0, none⟩), iv a, iv c] W (EqM b B V L S (S.jn a c) false W) := by
  have hN := h.n
  have ha : a < V.length := by omega
  have w1 := h.wf.jn hac hc
  have HU := Lib.hid (h.setU hc w1)
  have G1 := Lib.hid (SGr.set (b := b) (.inl rfl) W c (iv a))
  obtain ⟨s0, s1, s2, s3⟩ := h.hd
  rw [h.a1 (by omega)] at s1
  obtain ⟨u0, uf⟩ := h.uc hc
  have hab : ¬ ((a : Int) = (c : Int)) := by omega
  have hba : ¬ ((c : Int) = (a : Int)) := by omega
  have gab : ¬ ((c : Int) < (a : Int)) := by omega
  have gba : ((a : Int) < (c : Int)) := by omega
  obtain ⟨t0, t1, t2, t3⟩ := HU.out.hd
  rw [h.a1 (by omega)] at t1
  obtain ⟨pc, -⟩ := HU.out.ic hc
  obtain ⟨pa, paf⟩ := HU.out.ic ha
  rw [jn_b, hb] at pc
  rw [jn_b, hb2] at pa
  have CS := Lib.hid (fun U (g : Gr _ U) => sound_any b B V (S.jn a c) L a U (HU.out.gr g) ha)
  rw [hs] at CS
  clear h
  go_enter Try.func80, Try.ntmps80
  go_upto_region 11 with (fail)
  generalize hW1 : W.setCell _ _ = W1 at *
  clear hW1 s0 s1 s2 s3 u0 uf
  refine wp_region_held_drew (S := fun _ => True) (by kernel_rfl) trivial (fun hHeld => ?_)
  refine takeH (i := 0) (d := some 63) (v := .pointer (some ⟨b.sp, 0, none⟩)) (by rfl) (by kernel_rfl) (by kernel_rfl) (by kernel_rfl) (fun _ _ _ h => h) ?_ hHeld ?_
  · intro oi hoi; have ho := Option.some.inj hoi; subst ho; refine Or.inl ⟨by rfl, ?_⟩; intro w hSw; (try dsimp only at hSw); go_split_ands; go_simp
  try simp only [Act.put, List.setIfInBounds_toArray, List.set_cons_zero, List.set_cons_succ]
  refine takeH (i := 1) (d := some 64) (v := iv a) (by rfl) (by kernel_rfl) (by kernel_rfl) (by kernel_rfl) (fun _ _ _ h => h) ?_ hHeld ?_
  · intro oi hoi; have ho := Option.some.inj hoi; subst ho; refine Or.inl ⟨by rfl, ?_⟩; intro w hSw; (try dsimp only at hSw); go_split_ands; go_simp
  try simp only [Act.put, List.setIfInBounds_toArray, List.set_cons_zero, List.set_cons_succ]
  refine wpAnyH_ready (rs := [2]) (by kernel_rfl) (by simp) ?_
  refine AllReadyH.cons rfl (fun K hK => ?_) AllReadyH.nil
  go_simp
  go_wp2_with ((first | (go_at_call 82; (with_reducible refine (CS.out _ (gr_drew _)).mono ?_); rintro e z1 ⟨rfl, g⟩; have Z1 := Lib.hid ((gr_drew W1).trans g); clear g)))
  refine hK.out _ _ ?_ (fun hHeld => ?_)
  · trivial
  clear hK K
  try simp only [Act.put, List.setIfInBounds_toArray, List.set_cons_zero, List.set_cons_succ]
  refine takeH (i := 3) (d := some 66) (v := .bool false) (by rfl) (by kernel_rfl) (by kernel_rfl) (by kernel_rfl) (fun _ _ _ h => h) ?_ hHeld ?_
  · intro oi hoi; have ho := Option.some.inj hoi; subst ho; refine Or.inl ⟨by rfl, ?_⟩; intro w hSw; (try dsimp only at hSw); go_split_ands; go_simp
  try simp only [Act.put, List.setIfInBounds_toArray, List.set_cons_zero, List.set_cons_succ]
  refine skipH (i := 4) (d := some 67) (by rfl) (by kernel_rfl) (by kernel_rfl) (by kernel_rfl) (fun _ _ _ h => h) (by rfl) hHeld ?_
  try simp only [Act.put, List.setIfInBounds_toArray, List.set_cons_zero, List.set_cons_succ]
  refine skipH (i := 5) (d := some 68) (by rfl) (by kernel_rfl) (by kernel_rfl) (by kernel_rfl) (fun _ _ _ h => h) (by rfl) hHeld ?_
  try simp only [Act.put, List.setIfInBounds_toArray, List.set_cons_zero, List.set_cons_succ]
  refine skipH (i := 6) (d := some 69) (by rfl) (by kernel_rfl) (by kernel_rfl) (by kernel_rfl) (fun _ _ _ h => h) (by rfl) hHeld ?_
  try simp only [Act.put, List.setIfInBounds_toArray, List.set_cons_zero, List.set_cons_succ]
  refine skipH (i := 7) (d := some 70) (by rfl) (by kernel_rfl) (by kernel_rfl) (by kernel_rfl) (fun _ _ _ h => h) (by rfl) hHeld ?_
  try simp only [Act.put, List.setIfInBounds_toArray, List.set_cons_zero, List.set_cons_succ]
  refine skipH (i := 8) (d := some 71) (by rfl) (by kernel_rfl) (by kernel_rfl) (by kernel_rfl) (fun _ _ _ h => h) (by rfl) hHeld ?_
  try simp only [Act.put, List.setIfInBounds_toArray, List.set_cons_zero, List.set_cons_succ]
  refine skipH (i := 9) (d := some 72) (by rfl) (by kernel_rfl) (by kernel_rfl) (by kernel_rfl) (fun _ _ _ h => h) (by rfl) hHeld ?_
  try simp only [Act.put, List.setIfInBounds_toArray, List.set_cons_zero, List.set_cons_succ]
  refine skipH (i := 10) (d := some 73) (by rfl) (by kernel_rfl) (by kernel_rfl) (by kernel_rfl) (fun _ _ _ h => h) (by rfl) hHeld ?_
  try simp only [Act.put, List.setIfInBounds_toArray, List.set_cons_zero, List.set_cons_succ]
  refine skipH (i := 11) (d := some 74) (by rfl) (by kernel_rfl) (by kernel_rfl) (by kernel_rfl) (fun _ _ _ h => h) (by rfl) hHeld ?_
  try simp only [Act.put, List.setIfInBounds_toArray, List.set_cons_zero, List.set_cons_succ]
  refine skipH (i := 12) (d := some 75) (by rfl) (by kernel_rfl) (by kernel_rfl) (by kernel_rfl) (fun _ _ _ h => h) (by rfl) hHeld ?_
  try simp only [Act.put, List.setIfInBounds_toArray, List.set_cons_zero, List.set_cons_succ]
  refine skipH (i := 13) (d := some 76) (by rfl) (by kernel_rfl) (by kernel_rfl) (by kernel_rfl) (fun _ _ _ h => h) (by rfl) hHeld ?_
  try simp only [Act.put, List.setIfInBounds_toArray, List.set_cons_zero, List.set_cons_succ]
  refine skipH (i := 14) (d := some 77) (by rfl) (by kernel_rfl) (by kernel_rfl) (by kernel_rfl) (fun _ _ _ h => h) (by rfl) hHeld ?_
  try simp only [Act.put, List.setIfInBounds_toArray, List.set_cons_zero, List.set_cons_succ]
  refine skipH (i := 15) (d := some 78) (by rfl) (by kernel_rfl) (by kernel_rfl) (by kernel_rfl) (fun _ _ _ h => h) (by rfl) hHeld ?_
  try simp only [Act.put, List.setIfInBounds_toArray, List.set_cons_zero, List.set_cons_succ]
  refine skipH (i := 16) (d := some 79) (by rfl) (by kernel_rfl) (by kernel_rfl) (by kernel_rfl) (fun _ _ _ h => h) (by rfl) hHeld ?_
  try simp only [Act.put, List.setIfInBounds_toArray, List.set_cons_zero, List.set_cons_succ]
  refine skipH (i := 17) (d := some 80) (by rfl) (by kernel_rfl) (by kernel_rfl) (by kernel_rfl) (fun _ _ _ h => h) (by rfl) hHeld ?_
  try simp only [Act.put, List.setIfInBounds_toArray, List.set_cons_zero, List.set_cons_succ]
  refine skipH (i := 18) (d := some 81) (by rfl) (by kernel_rfl) (by kernel_rfl) (by kernel_rfl) (fun _ _ _ h => h) (by rfl) hHeld ?_
  try simp only [Act.put, List.setIfInBounds_toArray, List.set_cons_zero, List.set_cons_succ]
  refine skipH (i := 19) (d := some 82) (by rfl) (by kernel_rfl) (by kernel_rfl) (by kernel_rfl) (fun _ _ _ h => h) (by rfl) hHeld ?_
  try simp only [Act.put, List.setIfInBounds_toArray, List.set_cons_zero, List.set_cons_succ]
  refine takeH (i := 20) (d := some 83) (v := .bool false) (by rfl) (by kernel_rfl) (by kernel_rfl) (by kernel_rfl) (fun _ _ _ h => h) ?_ hHeld ?_
  · intro oi hoi; have ho := Option.some.inj hoi; subst ho; refine Or.inl ⟨by rfl, ?_⟩; intro w hSw; (try dsimp only at hSw); go_split_ands; go_simp
  try simp only [Act.put, List.setIfInBounds_toArray, List.set_cons_zero, List.set_cons_succ]
  refine takeH (i := 21) (d := some 84) (v := .bool false) (by rfl) (by kernel_rfl) (by kernel_rfl) (by kernel_rfl) (fun _ _ _ h => h) ?_ hHeld ?_
  · intro oi hoi; have ho := Option.some.inj hoi; subst ho; refine Or.inl ⟨by rfl, ?_⟩; intro w hSw; (try dsimp only at hSw); go_split_ands; go_simp
  try simp only [Act.put, List.setIfInBounds_toArray, List.set_cons_zero, List.set_cons_succ]
  refine skipH (i := 22) (d := some 85) (by rfl) (by kernel_rfl) (by kernel_rfl) (by kernel_rfl) (fun _ _ _ h => h) (by rfl) hHeld ?_
  try simp only [Act.put, List.setIfInBounds_toArray, List.set_cons_zero, List.set_cons_succ]
  refine skipH (i := 23) (d := some 86) (by rfl) (by kernel_rfl) (by kernel_rfl) (by kernel_rfl) (fun _ _ _ h => h) (by rfl) hHeld ?_
  try simp only [Act.put, List.setIfInBounds_toArray, List.set_cons_zero, List.set_cons_succ]
  refine skipH (i := 24) (d := some 87) (by rfl) (by kernel_rfl) (by kernel_rfl) (by kernel_rfl) (fun _ _ _ h => h) (by rfl) hHeld ?_
  try simp only [Act.put, List.setIfInBounds_toArray, List.set_cons_zero, List.set_cons_succ]
  refine takeH (i := 25) (d := some 88) (v := .bool false) (by rfl) (by kernel_rfl) (by kernel_rfl) (by kernel_rfl) (fun _ _ _ h => h) ?_ hHeld ?_
  · intro oi hoi; have ho := Option.some.inj hoi; subst ho; refine Or.inl ⟨by rfl, ?_⟩; intro w hSw; (try dsimp only at hSw); go_split_ands; go_simp
  try simp only [Act.put, List.setIfInBounds_toArray, List.set_cons_zero, List.set_cons_succ]
  refine takeH (i := 26) (d := some 6) (v := .bool false) (by rfl) (by kernel_rfl) (by kernel_rfl) (by kernel_rfl) (fun _ _ _ h => h) ?_ hHeld ?_
  · intro oi hoi; have ho := Option.some.inj hoi; subst ho; refine Or.inl ⟨by rfl, ?_⟩; intro w hSw; (try dsimp only at hSw); go_split_ands; go_simp
  try simp only [Act.put, List.setIfInBounds_toArray, List.set_cons_zero, List.set_cons_succ]
  refine wpAnyH_done (by kernel_rfl) ?_ _
  go_wp2
  go_ret
  exact ⟨rfl, L, HU.out.gr Z1.out, G1.out.trans (.gr Z1.out), fun i _ hb => ⟨hb, rfl⟩⟩
attribute [local irreducible] Calls in
set_option maxRecDepth 100000 in
set_option maxHeartbeats 4000000 in
theorem join3s (b : SB) (B : Nat) (V : List Int) (S : SS) (L : List Ty) (W : World) (h : SMem b B V S L W) (a c : Nat) (hac : a < c) (hc : c < V.length) (hb : S.b c = true) (hb2 : S.b a = true) (hs : sndP V (S.jn a c) a = false) : Calls Try.prog 80 #[.pointer (some ⟨b.sp, 0, none⟩), iv c, iv a] W (EqM b B V L S (S.jn a c) false W) := by
  have hN := h.n
  have ha : a < V.length := by omega
  have w1 := h.wf.jn hac hc
  have HU := Lib.hid (h.setU hc w1)
  have G1 := Lib.hid (SGr.set (b := b) (.inl rfl) W c (iv a))
  obtain ⟨s0, s1, s2, s3⟩ := h.hd
  rw [h.a1 (by omega)] at s1
  obtain ⟨u0, uf⟩ := h.uc hc
  have hab : ¬ ((a : Int) = (c : Int)) := by omega
  have hba : ¬ ((c : Int) = (a : Int)) := by omega
  have gab : ¬ ((c : Int) < (a : Int)) := by omega
  have gba : ((a : Int) < (c : Int)) := by omega
  obtain ⟨t0, t1, t2, t3⟩ := HU.out.hd
  rw [h.a1 (by omega)] at t1
  obtain ⟨pc, -⟩ := HU.out.ic hc
  obtain ⟨pa, paf⟩ := HU.out.ic ha
  rw [jn_b, hb] at pc
  rw [jn_b, hb2] at pa
  have CS := Lib.hid (fun U (g : Gr _ U) => sound_any b B V (S.jn a c) L a U (HU.out.gr g) ha)
  rw [hs] at CS
  clear h
  go_enter Try.func80, Try.ntmps80
  go_upto_region 11 with (fail)
  generalize hW1 : W.setCell _ _ = W1 at *
  clear hW1 s0 s1 s2 s3 u0 uf
  refine wp_region_held_drew (S := fun _ => True) (by kernel_rfl) trivial (fun hHeld => ?_)
  refine takeH (i := 0) (d := some 63) (v := .pointer (some ⟨b.sp, 0, none⟩)) (by rfl) (by kernel_rfl) (by kernel_rfl) (by kernel_rfl) (fun _ _ _ h => h) ?_ hHeld ?_
  · intro oi hoi; have ho := Option.some.inj hoi; subst ho; refine Or.inl ⟨by rfl, ?_⟩; intro w hSw; (try dsimp only at hSw); go_split_ands; go_simp
  try simp only [Act.put, List.setIfInBounds_toArray, List.set_cons_zero, List.set_cons_succ]
  refine takeH (i := 1) (d := some 64) (v := iv a) (by rfl) (by kernel_rfl) (by kernel_rfl) (by kernel_rfl) (fun _ _ _ h => h) ?_ hHeld ?_
  · intro oi hoi; have ho := Option.some.inj hoi; subst ho; refine Or.inl ⟨by rfl, ?_⟩; intro w hSw; (try dsimp only at hSw); go_split_ands; go_simp
  try simp only [Act.put, List.setIfInBounds_toArray, List.set_cons_zero, List.set_cons_succ]
  refine wpAnyH_ready (rs := [2]) (by kernel_rfl) (by simp) ?_
  refine AllReadyH.cons rfl (fun K hK => ?_) AllReadyH.nil
  go_simp
  go_wp2_with ((first | (go_at_call 82; (with_reducible refine (CS.out _ (gr_drew _)).mono ?_); rintro e z1 ⟨rfl, g⟩; have Z1 := Lib.hid ((gr_drew W1).trans g); clear g)))
  refine hK.out _ _ ?_ (fun hHeld => ?_)
  · trivial
  clear hK K
  try simp only [Act.put, List.setIfInBounds_toArray, List.set_cons_zero, List.set_cons_succ]
  refine takeH (i := 3) (d := some 66) (v := .bool false) (by rfl) (by kernel_rfl) (by kernel_rfl) (by kernel_rfl) (fun _ _ _ h => h) ?_ hHeld ?_
  · intro oi hoi; have ho := Option.some.inj hoi; subst ho; refine Or.inl ⟨by rfl, ?_⟩; intro w hSw; (try dsimp only at hSw); go_split_ands; go_simp
  try simp only [Act.put, List.setIfInBounds_toArray, List.set_cons_zero, List.set_cons_succ]
  refine skipH (i := 4) (d := some 67) (by rfl) (by kernel_rfl) (by kernel_rfl) (by kernel_rfl) (fun _ _ _ h => h) (by rfl) hHeld ?_
  try simp only [Act.put, List.setIfInBounds_toArray, List.set_cons_zero, List.set_cons_succ]
  refine skipH (i := 5) (d := some 68) (by rfl) (by kernel_rfl) (by kernel_rfl) (by kernel_rfl) (fun _ _ _ h => h) (by rfl) hHeld ?_
  try simp only [Act.put, List.setIfInBounds_toArray, List.set_cons_zero, List.set_cons_succ]
  refine skipH (i := 6) (d := some 69) (by rfl) (by kernel_rfl) (by kernel_rfl) (by kernel_rfl) (fun _ _ _ h => h) (by rfl) hHeld ?_
  try simp only [Act.put, List.setIfInBounds_toArray, List.set_cons_zero, List.set_cons_succ]
  refine skipH (i := 7) (d := some 70) (by rfl) (by kernel_rfl) (by kernel_rfl) (by kernel_rfl) (fun _ _ _ h => h) (by rfl) hHeld ?_
  try simp only [Act.put, List.setIfInBounds_toArray, List.set_cons_zero, List.set_cons_succ]
  refine skipH (i := 8) (d := some 71) (by rfl) (by kernel_rfl) (by kernel_rfl) (by kernel_rfl) (fun _ _ _ h => h) (by rfl) hHeld ?_
  try simp only [Act.put, List.setIfInBounds_toArray, List.set_cons_zero, List.set_cons_succ]
  refine skipH (i := 9) (d := some 72) (by rfl) (by kernel_rfl) (by kernel_rfl) (by kernel_rfl) (fun _ _ _ h => h) (by rfl) hHeld ?_
  try simp only [Act.put, List.setIfInBounds_toArray, List.set_cons_zero, List.set_cons_succ]
  refine skipH (i := 10) (d := some 73) (by rfl) (by kernel_rfl) (by kernel_rfl) (by kernel_rfl) (fun _ _ _ h => h) (by rfl) hHeld ?_
  try simp only [Act.put, List.setIfInBounds_toArray, List.set_cons_zero, List.set_cons_succ]
  refine skipH (i := 11) (d := some 74) (by rfl) (by kernel_rfl) (by kernel_rfl) (by kernel_rfl) (fun _ _ _ h => h) (by rfl) hHeld ?_
  try simp only [Act.put, List.setIfInBounds_toArray, List.set_cons_zero, List.set_cons_succ]
  refine skipH (i := 12) (d := some 75) (by rfl) (by kernel_rfl) (by kernel_rfl) (by kernel_rfl) (fun _ _ _ h => h) (by rfl) hHeld ?_
  try simp only [Act.put, List.setIfInBounds_toArray, List.set_cons_zero, List.set_cons_succ]
  refine skipH (i := 13) (d := some 76) (by rfl) (by kernel_rfl) (by kernel_rfl) (by kernel_rfl) (fun _ _ _ h => h) (by rfl) hHeld ?_
  try simp only [Act.put, List.setIfInBounds_toArray, List.set_cons_zero, List.set_cons_succ]
  refine skipH (i := 14) (d := some 77) (by rfl) (by kernel_rfl) (by kernel_rfl) (by kernel_rfl) (fun _ _ _ h => h) (by rfl) hHeld ?_
  try simp only [Act.put, List.setIfInBounds_toArray, List.set_cons_zero, List.set_cons_succ]
  refine skipH (i := 15) (d := some 78) (by rfl) (by kernel_rfl) (by kernel_rfl) (by kernel_rfl) (fun _ _ _ h => h) (by rfl) hHeld ?_
  try simp only [Act.put, List.setIfInBounds_toArray, List.set_cons_zero, List.set_cons_succ]
  refine skipH (i := 16) (d := some 79) (by rfl) (by kernel_rfl) (by kernel_rfl) (by kernel_rfl) (fun _ _ _ h => h) (by rfl) hHeld ?_
  try simp only [Act.put, List.setIfInBounds_toArray, List.set_cons_zero, List.set_cons_succ]
  refine skipH (i := 17) (d := some 80) (by rfl) (by kernel_rfl) (by kernel_rfl) (by kernel_rfl) (fun _ _ _ h => h) (by rfl) hHeld ?_
  try simp only [Act.put, List.setIfInBounds_toArray, List.set_cons_zero, List.set_cons_succ]
  refine skipH (i := 18) (d := some 81) (by rfl) (by kernel_rfl) (by kernel_rfl) (by kernel_rfl) (fun _ _ _ h => h) (by rfl) hHeld ?_
  try simp only [Act.put, List.setIfInBounds_toArray, List.set_cons_zero, List.set_cons_succ]
  refine skipH (i := 19) (d := some 82) (by rfl) (by kernel_rfl) (by kernel_rfl) (by kernel_rfl) (fun _ _ _ h => h) (by rfl) hHeld ?_
  try simp only [Act.put, List.setIfInBounds_toArray, List.set_cons_zero, List.set_cons_succ]
  refine takeH (i := 20) (d := some 83) (v := .bool false) (by rfl) (by kernel_rfl) (by kernel_rfl) (by kernel_rfl) (fun _ _ _ h => h) ?_ hHeld ?_
  · intro oi hoi; have ho := Option.some.inj hoi; subst ho; refine Or.inl ⟨by rfl, ?_⟩; intro w hSw; (try dsimp only at hSw); go_split_ands; go_simp
  try simp only [Act.put, List.setIfInBounds_toArray, List.set_cons_zero, List.set_cons_succ]
  refine takeH (i := 21) (d := some 84) (v := .bool false) (by rfl) (by kernel_rfl) (by kernel_rfl) (by kernel_rfl) (fun _ _ _ h => h) ?_ hHeld ?_
  · intro oi hoi; have ho := Option.some.inj hoi; subst ho; refine Or.inl ⟨by rfl, ?_⟩; intro w hSw; (try dsimp only at hSw); go_split_ands; go_simp
  try simp only [Act.put, List.setIfInBounds_toArray, List.set_cons_zero, List.set_cons_succ]
  refine skipH (i := 22) (d := some 85) (by rfl) (by kernel_rfl) (by kernel_rfl) (by kernel_rfl) (fun _ _ _ h => h) (by rfl) hHeld ?_
  try simp only [Act.put, List.setIfInBounds_toArray, List.set_cons_zero, List.set_cons_succ]
  refine skipH (i := 23) (d := some 86) (by rfl) (by kernel_rfl) (by kernel_rfl) (by kernel_rfl) (fun _ _ _ h => h) (by rfl) hHeld ?_
  try simp only [Act.put, List.setIfInBounds_toArray, List.set_cons_zero, List.set_cons_succ]
  refine skipH (i := 24) (d := some 87) (by rfl) (by kernel_rfl) (by kernel_rfl) (by kernel_rfl) (fun _ _ _ h => h) (by rfl) hHeld ?_
  try simp only [Act.put, List.setIfInBounds_toArray, List.set_cons_zero, List.set_cons_succ]
  refine takeH (i := 25) (d := some 88) (v := .bool false) (by rfl) (by kernel_rfl) (by kernel_rfl) (by kernel_rfl) (fun _ _ _ h => h) ?_ hHeld ?_
  · intro oi hoi; have ho := Option.some.inj hoi; subst ho; refine Or.inl ⟨by rfl, ?_⟩; intro w hSw; (try dsimp only at hSw); go_split_ands; go_simp
  try simp only [Act.put, List.setIfInBounds_toArray, List.set_cons_zero, List.set_cons_succ]
  refine takeH (i := 26) (d := some 6) (v := .bool false) (by rfl) (by kernel_rfl) (by kernel_rfl) (by kernel_rfl) (fun _ _ _ h => h) ?_ hHeld ?_
  · intro oi hoi; have ho := Option.some.inj hoi; subst ho; refine Or.inl ⟨by rfl, ?_⟩; intro w hSw; (try dsimp only at hSw); go_split_ands; go_simp
  try simp only [Act.put, List.setIfInBounds_toArray, List.set_cons_zero, List.set_cons_succ]
  refine wpAnyH_done (by kernel_rfl) ?_ _
  go_wp2
  go_ret
  exact ⟨rfl, L, HU.out.gr Z1.out, G1.out.trans (.gr Z1.out), fun i _ hb => ⟨hb, rfl⟩⟩
attribute [local irreducible] Calls in
set_option maxRecDepth 100000 in
set_option maxHeartbeats 4000000 in
theorem join4 (b : SB) (B : Nat) (V : List Int) (S : SS) (L : List Ty) (W : World) (h : SMem b B V S L W) (a c : Nat) (hac : a < c) (hc : c < V.length) (g : SS → PT → PT → Option (Bool × SS)) (EQ : ∀ (S : SS) (L : List Ty) (W : World) (x y : Ty) (r : Bool) (S' : SS), SMem b B V S L W → TG B V x W → TG B V y W → g S x.er y.er = some (r, S') → Calls Try.prog 50 #[.pointer (some ⟨b.sp, 0, none⟩), x.v, y.v] W (EqM b B V L S S' r W)) (hb : S.b c = true) (hb2 : S.b a = true) (hs : sndP V (S.jn a c) a = true) (S3 : SS) (he : g (S.jn a c) (S.t a) (S.t c) = some (false, S3)) : Calls Try.prog 80 #[.pointer (some ⟨b.sp, 0, none⟩), iv a, iv c] W (EqM b B V L S S3 false W) := by
  have hN := h.n
  have ha : a < V.length := by omega
  have w1 := h.wf.jn hac hc
  have HU := Lib.hid (h.setU hc w1)
  have G1 := Lib.hid (SGr.set (b := b) (.inl rfl) W c (iv a))
  obtain ⟨s0, s1, s2, s3⟩ := h.hd
  rw [h.a1 (by omega)] at s1
  obtain ⟨u0, uf⟩ := h.uc hc
  have hab : ¬ ((a : Int) = (c : Int)) := by omega
  have hba : ¬ ((c : Int) = (a : Int)) := by omega
  have gab : ¬ ((c : Int) < (a : Int)) := by omega
  have gba : ((a : Int) < (c : Int)) := by omega
  obtain ⟨t0, t1, t2, t3⟩ := HU.out.hd
  rw [h.a1 (by omega)] at t1
  obtain ⟨pc, -⟩ := HU.out.ic hc
  obtain ⟨pa, paf⟩ := HU.out.ic ha
  rw [jn_b, hb] at pc
  rw [jn_b, hb2] at pa
  obtain ⟨x, hxL, xe, xr, xi, xc, -⟩ := HU.out.tc ha
  obtain ⟨y, hyL, ye, yr, yi, yc, -⟩ := HU.out.tc hc
  rw [jn_t] at xe ye
  have XG : TG B V x _ := ⟨xr, xi, by rw [xe]; exact h.wf.gv ha hb2⟩
  have YG : TG B V y _ := ⟨yr, yi, by rw [ye]; exact h.wf.gv hc hb⟩
  have CS := Lib.hid (fun U (g : Gr _ U) => sound_any b B V (S.jn a c) L a U (HU.out.gr g) ha)
  rw [hs] at CS
  have CE := Lib.hid (fun U (g : Gr _ U) => EQ (S.jn a c) L U x y false S3 (HU.out.gr g) (XG.gr g) (YG.gr g) (by rw [xe, ye]; exact he))
  unfold Ty.v at CE
  have K3 := Lib.hid (fun (L3 : List Ty) (U : World) (h3 : SMem b B V S3 L3 U) (x3 : ∀ i, i < V.length → (S.jn a c).b i = true → S3.b i = true ∧ L3[i]? = L[i]?) => show U.cell? ⟨b.sp, 3, none⟩ = some (.slice (some ⟨b.tb, 0, none⟩) V.length V.length) ∧ (U.cell? ⟨b.tb, a * 3, none⟩ = some (iv x.kind) ∧ U.cell? ⟨b.tb, a * 3 + 1, none⟩ = some (iv x.var) ∧ U.cell? ⟨b.tb, a * 3 + 2, none⟩ = some (.slice x.A x.sub.length x.c)) ∧ (U.cell? ⟨b.tb, c * 3, none⟩ = some (iv y.kind) ∧ U.cell? ⟨b.tb, c * 3 + 1, none⟩ = some (iv y.var) ∧ U.cell? ⟨b.tb, c * 3 + 2, none⟩ = some (.slice y.A y.sub.length y.c)) from by
    obtain ⟨x', hx', -, -, -, xc', -⟩ := h3.tc ha
    obtain ⟨y', hy', -, -, -, yc', -⟩ := h3.tc hc
    rw [(x3 a ha hb2).2, hxL] at hx'
    rw [(x3 c hc hb).2, hyL] at hy'
    cases hx'
    cases hy'
    exact ⟨h3.hd.2.2.2, xc', yc'⟩)
  have CT := Lib.hid (fun (L3 : List Ty) (U : World) (h3 : SMem b B V S3 L3 U) => sound_any b B V S3 L3 a U h3 ha)
  have KW := Lib.hid (fun (U : World) (g : Gr (W.setCell ⟨b.ub, c, none⟩ (iv a)) U) => (⟨gr_c g t3, ⟨gr_c g xc.1, gr_c g xc.2.1, gr_c g xc.2.2⟩, ⟨gr_c g yc.1, gr_c g yc.2.1, gr_c g yc.2.2⟩⟩ : U.cell? ⟨b.sp, 3, none⟩ = some (.slice (some ⟨b.tb, 0, none⟩) V.length V.length) ∧ (U.cell? ⟨b.tb, a * 3, none⟩ = some (iv x.kind) ∧ U.cell? ⟨b.tb, a * 3 + 1, none⟩ = some (iv x.var) ∧ U.cell? ⟨b.tb, a * 3 + 2, none⟩ = some (.slice x.A x.sub.length x.c)) ∧ (U.cell? ⟨b.tb, c * 3, none⟩ = some (iv y.kind) ∧ U.cell? ⟨b.tb, c * 3 + 1, none⟩ = some (iv y.var) ∧ U.cell? ⟨b.tb, c * 3 + 2, none⟩ = some (.slice y.A y.sub.length y.c))))
  clear h EQ XG YG xe ye xr yr xi yi hxL hyL xc yc
  go_enter Try.func80, Try.ntmps80
  go_upto_region 11 with (fail)
  generalize hW1 : W.setCell _ _ = W1 at *
  clear hW1 s0 s1 s2 s3 u0 uf
  clear t0 t1 t2 t3 pc pa paf
  refine wp_region_held_drew (S := fun U => U.cell? ⟨b.sp, 3, none⟩ = some (.slice (some ⟨b.tb, 0, none⟩) V.length V.length) ∧ (U.cell? ⟨b.tb, a * 3, none⟩ = some (iv x.kind) ∧ U.cell? ⟨b.tb, a * 3 + 1, none⟩ = some (iv x.var) ∧ U.cell? ⟨b.tb, a * 3 + 2, none⟩ = some (.slice x.A x.sub.length x.c)) ∧ (U.cell? ⟨b.tb, c * 3, none⟩ = some (iv y.kind) ∧ U.cell? ⟨b.tb, c * 3 + 1, none⟩ = some (iv y.var) ∧ U.cell? ⟨b.tb, c * 3 + 2, none⟩ = some (.slice y.A y.sub.length y.c))) (by kernel_rfl) (KW.out _ (gr_drew _)) (fun hHeld => ?_)
  refine takeH (i := 0) (d := some 63) (v := .pointer (some ⟨b.sp, 0, none⟩)) (by rfl) (by kernel_rfl) (by kernel_rfl) (by kernel_rfl) (fun _ _ _ h => h) ?_ hHeld ?_
  · intro oi hoi; have ho := Option.some.inj hoi; subst ho; refine Or.inl ⟨by rfl, ?_⟩; intro w hSw; (try dsimp only at hSw); go_split_ands; go_simp
  try simp only [Act.put, List.setIfInBounds_toArray, List.set_cons_zero, List.set_cons_succ]
  refine takeH (i := 1) (d := some 64) (v := iv a) (by rfl) (by kernel_rfl) (by kernel_rfl) (by kernel_rfl) (fun _ _ _ h => h) ?_ hHeld ?_
  · intro oi hoi; have ho := Option.some.inj hoi; subst ho; refine Or.inl ⟨by rfl, ?_⟩; intro w hSw; (try dsimp only at hSw); go_split_ands; go_simp
  try simp only [Act.put, List.setIfInBounds_toArray, List.set_cons_zero, List.set_cons_succ]
  refine wpAnyH_ready (rs := [2]) (by kernel_rfl) (by simp) ?_
  refine AllReadyH.cons rfl (fun K hK => ?_) AllReadyH.nil
  go_simp
  go_wp2_with ((first | (go_at_call 82; (with_reducible refine (CS.out _ (gr_drew _)).mono ?_); rintro e z1 ⟨rfl, g⟩; have Z1 := Lib.hid ((gr_drew W1).trans g); clear g)))
  refine hK.out _ _ ?_ (fun hHeld => ?_)
  · exact KW.out _ Z1.out
  clear hK K
  try simp only [Act.put, List.setIfInBounds_toArray, List.set_cons_zero, List.set_cons_succ]
  refine takeH (i := 3) (d := some 66) (v := .bool true) (by rfl) (by kernel_rfl) (by kernel_rfl) (by kernel_rfl) (fun _ _ _ h => h) ?_ hHeld ?_
  · intro oi hoi; have ho := Option.some.inj hoi; subst ho; refine Or.inl ⟨by rfl, ?_⟩; intro w hSw; (try dsimp only at hSw); go_split_ands; go_simp
  try simp only [Act.put, List.setIfInBounds_toArray, List.set_cons_zero, List.set_cons_succ]
  refine takeH (i := 4) (d := some 67) (v := .pointer (some ⟨b.sp, 0, none⟩)) (by rfl) (by kernel_rfl) (by kernel_rfl) (by kernel_rfl) (fun _ _ _ h => h) ?_ hHeld ?_
  · intro oi hoi; have ho := Option.some.inj hoi; subst ho; refine Or.inl ⟨by rfl, ?_⟩; intro w hSw; (try dsimp only at hSw); go_split_ands; go_simp
  try simp only [Act.put, List.setIfInBounds_toArray, List.set_cons_zero, List.set_cons_succ]
  refine takeH (i := 5) (d := some 68) (v := .pointer (some ⟨b.sp, 0, none⟩)) (by rfl) (by kernel_rfl) (by kernel_rfl) (by kernel_rfl) (fun _ _ _ h => h) ?_ hHeld ?_
  · intro oi hoi; have ho := Option.some.inj hoi; subst ho; refine Or.inl ⟨by rfl, ?_⟩; intro w hSw; (try dsimp only at hSw); go_split_ands; go_simp
  try simp only [Act.put, List.setIfInBounds_toArray, List.set_cons_zero, List.set_cons_succ]
  refine takeH (i := 6) (d := some 69) (v := .pointer (some ⟨b.sp, 0, none⟩)) (by rfl) (by kernel_rfl) (by kernel_rfl) (by kernel_rfl) (fun _ _ _ h => h) ?_ hHeld ?_
  · intro oi hoi; have ho := Option.some.inj hoi; subst ho; refine Or.inl ⟨by rfl, ?_⟩; intro w hSw; (try dsimp only at hSw); go_split_ands; go_simp
  try simp only [Act.put, List.setIfInBounds_toArray, List.set_cons_zero, List.set_cons_succ]
  refine takeH (i := 7) (d := some 70) (v := .pointer (some ⟨b.sp, 3, none⟩)) (by rfl) (by kernel_rfl) (by kernel_rfl) (by kernel_rfl) (fun _ _ _ h => h) ?_ hHeld ?_
  · intro oi hoi; have ho := Option.some.inj hoi; subst ho; refine Or.inl ⟨by rfl, ?_⟩; intro w hSw; (try dsimp only at hSw); go_split_ands; go_simp
  try simp only [Act.put, List.setIfInBounds_toArray, List.set_cons_zero, List.set_cons_succ]
  refine takeH (i := 8) (d := some 71) (v := .slice (some ⟨b.tb, 0, none⟩) V.length V.length) (by rfl) (by kernel_rfl) (by kernel_rfl) (by kernel_rfl) (fun _ _ _ h => h) ?_ hHeld ?_
  · intro oi hoi; have ho := Option.some.inj hoi; subst ho; refine Or.inl ⟨by rfl, ?_⟩; intro w hSw; (try dsimp only at hSw); go_split_ands; go_simp
  try simp only [Act.put, List.setIfInBounds_toArray, List.set_cons_zero, List.set_cons_succ]
  refine takeH (i := 9) (d := some 72) (v := iv a) (by rfl) (by kernel_rfl) (by kernel_rfl) (by kernel_rfl) (fun _ _ _ h => h) ?_ hHeld ?_
  · intro oi hoi; have ho := Option.some.inj hoi; subst ho; refine Or.inl ⟨by rfl, ?_⟩; intro w hSw; (try dsimp only at hSw); go_split_ands; go_simp
  try simp only [Act.put, List.setIfInBounds_toArray, List.set_cons_zero, List.set_cons_succ]
  refine takeH (i := 10) (d := some 73) (v := .pointer (some ⟨b.tb, a * 3, none⟩)) (by rfl) (by kernel_rfl) (by kernel_rfl) (by kernel_rfl) (fun _ _ _ h => h) ?_ hHeld ?_
  · intro oi hoi; have ho := Option.some.inj hoi; subst ho; refine Or.inl ⟨by rfl, ?_⟩; intro w hSw; (try dsimp only at hSw); go_split_ands; go_simp
  try simp only [Act.put, List.setIfInBounds_toArray, List.set_cons_zero, List.set_cons_succ]
  refine takeH (i := 11) (d := some 74) (v := .agg #[iv x.kind, iv x.var, .slice x.A x.sub.length x.c]) (by rfl) (by kernel_rfl) (by kernel_rfl) (by kernel_rfl) (fun _ _ _ h => h) ?_ hHeld ?_
  · intro oi hoi; have ho := Option.some.inj hoi; subst ho; refine Or.inl ⟨by rfl, ?_⟩; intro w hSw; (try dsimp only at hSw); go_split_ands; go_simp
  try simp only [Act.put, List.setIfInBounds_toArray, List.set_cons_zero, List.set_cons_succ]
  refine takeH (i := 12) (d := some 75) (v := .pointer (some ⟨b.sp, 0, none⟩)) (by rfl) (by kernel_rfl) (by kernel_rfl) (by kernel_rfl) (fun _ _ _ h => h) ?_ hHeld ?_
  · intro oi hoi; have ho := Option.some.inj hoi; subst ho; refine Or.inl ⟨by rfl, ?_⟩; intro w hSw; (try dsimp only at hSw); go_split_ands; go_simp
  try simp only [Act.put, List.setIfInBounds_toArray, List.set_cons_zero, List.set_cons_succ]
  refine takeH (i := 13) (d := some 76) (v := .pointer (some ⟨b.sp, 0, none⟩)) (by rfl) (by kernel_rfl) (by kernel_rfl) (by kernel_rfl) (fun _ _ _ h => h) ?_ hHeld ?_
  · intro oi hoi; have ho := Option.some.inj hoi; subst ho; refine Or.inl ⟨by rfl, ?_⟩; intro w hSw; (try dsimp only at hSw); go_split_ands; go_simp
  try simp only [Act.put, List.setIfInBounds_toArray, List.set_cons_zero, List.set_cons_succ]
  refine takeH (i := 14) (d := some 77) (v := .pointer (some ⟨b.sp, 3, none⟩)) (by rfl) (by kernel_rfl) (by kernel_rfl) (by kernel_rfl) (fun _ _ _ h => h) ?_ hHeld ?_
  · intro oi hoi; have ho := Option.some.inj hoi; subst ho; refine Or.inl ⟨by rfl, ?_⟩; intro w hSw; (try dsimp only at hSw); go_split_ands; go_simp
  try simp only [Act.put, List.setIfInBounds_toArray, List.set_cons_zero, List.set_cons_succ]
  refine takeH (i := 15) (d := some 78) (v := .slice (some ⟨b.tb, 0, none⟩) V.length V.length) (by rfl) (by kernel_rfl) (by kernel_rfl) (by kernel_rfl) (fun _ _ _ h => h) ?_ hHeld ?_
  · intro oi hoi; have ho := Option.some.inj hoi; subst ho; refine Or.inl ⟨by rfl, ?_⟩; intro w hSw; (try dsimp only at hSw); go_split_ands; go_simp
  try simp only [Act.put, List.setIfInBounds_toArray, List.set_cons_zero, List.set_cons_succ]
  refine takeH (i := 16) (d := some 79) (v := iv c) (by rfl) (by kernel_rfl) (by kernel_rfl) (by kernel_rfl) (fun _ _ _ h => h) ?_ hHeld ?_
  · intro oi hoi; have ho := Option.some.inj hoi; subst ho; refine Or.inl ⟨by rfl, ?_⟩; intro w hSw; (try dsimp only at hSw); go_split_ands; go_simp
  try simp only [Act.put, List.setIfInBounds_toArray, List.set_cons_zero, List.set_cons_succ]
  refine takeH (i := 17) (d := some 80) (v := .pointer (some ⟨b.tb, c * 3, none⟩)) (by rfl) (by kernel_rfl) (by kernel_rfl) (by kernel_rfl) (fun _ _ _ h => h) ?_ hHeld ?_
  · intro oi hoi; have ho := Option.some.inj hoi; subst ho; refine Or.inl ⟨by rfl, ?_⟩; intro w hSw; (try dsimp only at hSw); go_split_ands; go_simp
  try simp only [Act.put, List.setIfInBounds_toArray, List.set_cons_zero, List.set_cons_succ]
  refine takeH (i := 18) (d := some 81) (v := .agg #[iv y.kind, iv y.var, .slice y.A y.sub.length y.c]) (by rfl) (by kernel_rfl) (by kernel_rfl) (by kernel_rfl) (fun _ _ _ h => h) ?_ hHeld ?_
  · intro oi hoi; have ho := Option.some.inj hoi; subst ho; refine Or.inl ⟨by rfl, ?_⟩; intro w hSw; (try dsimp only at hSw); go_split_ands; go_simp
  try simp only [Act.put, List.setIfInBounds_toArray, List.set_cons_zero, List.set_cons_succ]
  refine wpAnyH_ready (rs := [19]) (by kernel_rfl) (by simp) ?_
  refine AllReadyH.cons rfl (fun K hK => ?_) AllReadyH.nil
  go_simp
  go_wp2_with ((first | (go_at_call 50; (with_reducible refine (CE.out _ Z1.out).mono ?_); rintro e z2 ⟨rfl, L3, h3, g3, x3⟩; have H3 := Lib.hid h3; have G3 := Lib.hid g3; have X3 := Lib.hid x3; clear h3 g3 x3)))
  refine hK.out _ _ ?_ (fun hHeld => ?_)
  · exact K3.out _ _ H3.out X3.out
  clear hK K
  try simp only [Act.put, List.setIfInBounds_toArray, List.set_cons_zero, List.set_cons_succ]
  refine takeH (i := 20) (d := some 83) (v := .bool false) (by rfl) (by kernel_rfl) (by kernel_rfl) (by kernel_rfl) (fun _ _ _ h => h) ?_ hHeld ?_
  · intro oi hoi; have ho := Option.some.inj hoi; subst ho; refine Or.inl ⟨by rfl, ?_⟩; intro w hSw; (try dsimp only at hSw); go_split_ands; go_simp
  try simp only [Act.put, List.setIfInBounds_toArray, List.set_cons_zero, List.set_cons_succ]
  refine takeH (i := 21) (d := some 84) (v := .bool false) (by rfl) (by kernel_rfl) (by kernel_rfl) (by kernel_rfl) (fun _ _ _ h => h) ?_ hHeld ?_
  · intro oi hoi; have ho := Option.some.inj hoi; subst ho; refine Or.inl ⟨by rfl, ?_⟩; intro w hSw; (try dsimp only at hSw); go_split_ands; go_simp
  try simp only [Act.put, List.setIfInBounds_toArray, List.set_cons_zero, List.set_cons_succ]
  refine skipH (i := 22) (d := some 85) (by rfl) (by kernel_rfl) (by kernel_rfl) (by kernel_rfl) (fun _ _ _ h => h) (by rfl) hHeld ?_
  try simp only [Act.put, List.setIfInBounds_toArray, List.set_cons_zero, List.set_cons_succ]
  refine skipH (i := 23) (d := some 86) (by rfl) (by kernel_rfl) (by kernel_rfl) (by kernel_rfl) (fun _ _ _ h => h) (by rfl) hHeld ?_
  try simp only [Act.put, List.setIfInBounds_toArray, List.set_cons_zero, List.set_cons_succ]
  refine skipH (i := 24) (d := some 87) (by rfl) (by kernel_rfl) (by kernel_rfl) (by kernel_rfl) (fun _ _ _ h => h) (by rfl) hHeld ?_
  try simp only [Act.put, List.setIfInBounds_toArray, List.set_cons_zero, List.set_cons_succ]
  refine takeH (i := 25) (d := some 88) (v := .bool false) (by rfl) (by kernel_rfl) (by kernel_rfl) (by kernel_rfl) (fun _ _ _ h => h) ?_ hHeld ?_
  · intro oi hoi; have ho := Option.some.inj hoi; subst ho; refine Or.inl ⟨by rfl, ?_⟩; intro w hSw; (try dsimp only at hSw); go_split_ands; go_simp
  try simp only [Act.put, List.setIfInBounds_toArray, List.set_cons_zero, List.set_cons_succ]
  refine takeH (i := 26) (d := some 6) (v := .bool false) (by rfl) (by kernel_rfl) (by kernel_rfl) (by kernel_rfl) (fun _ _ _ h => h) ?_ hHeld ?_
  · intro oi hoi; have ho := Option.some.inj hoi; subst ho; refine Or.inl ⟨by rfl, ?_⟩; intro w hSw; (try dsimp only at hSw); go_split_ands; go_simp
  try simp only [Act.put, List.setIfInBounds_toArray, List.set_cons_zero, List.set_cons_succ]
  refine wpAnyH_done (by kernel_rfl) ?_ _
  go_wp2
  go_ret
  exact ⟨rfl, L3, H3.out, G1.out.trans ((SGr.gr Z1.out).trans G3.out), X3.out⟩
attribute [local irreducible] Calls in
set_option maxRecDepth 100000 in
set_option maxHeartbeats 4000000 in
theorem join4s (b : SB) (B : Nat) (V : List Int) (S : SS) (L : List Ty) (W : World) (h : SMem b B V S L W) (a c : Nat) (hac : a < c) (hc : c < V.length) (g : SS → PT → PT → Option (Bool × SS)) (EQ : ∀ (S : SS) (L : List Ty) (W : World) (x y : Ty) (r : Bool) (S' : SS), SMem b B V S L W → TG B V x W → TG B V y W → g S x.er y.er = some (r, S') → Calls Try.prog 50 #[.pointer (some ⟨b.sp, 0, none⟩), x.v, y.v] W (EqM b B V L S S' r W)) (hb : S.b c = true) (hb2 : S.b a = true) (hs : sndP V (S.jn a c) a = true) (S3 : SS) (he : g (S.jn a c) (S.t a) (S.t c) = some (false, S3)) : Calls Try.prog 80 #[.pointer (some ⟨b.sp, 0, none⟩), iv c, iv a] W (EqM b B V L S S3 false W) := by
  have hN := h.n
  have ha : a < V.length := by omega
  have w1 := h.wf.jn hac hc
  have HU := Lib.hid (h.setU hc w1)
  have G1 := Lib.hid (SGr.set (b := b) (.inl rfl) W c (iv a))
  obtain ⟨s0, s1, s2, s3⟩ := h.hd
  rw [h.a1 (by omega)] at s1
  obtain ⟨u0, uf⟩ := h.uc hc
  have hab : ¬ ((a : Int) = (c : Int)) := by omega
  have hba : ¬ ((c : Int) = (a : Int)) := by omega
  have gab : ¬ ((c : Int) < (a : Int)) := by omega
  have gba : ((a : Int) < (c : Int)) := by omega
  obtain ⟨t0, t1, t2, t3⟩ := HU.out.hd
  rw [h.a1 (by omega)] at t1
  obtain ⟨pc, -⟩ := HU.out.ic hc
  obtain ⟨pa, paf⟩ := HU.out.ic ha
  rw [jn_b, hb] at pc
  rw [jn_b, hb2] at pa
  obtain ⟨x, hxL, xe, xr, xi, xc, -⟩ := HU.out.tc ha
  obtain ⟨y, hyL, ye, yr, yi, yc, -⟩ := HU.out.tc hc
  rw [jn_t] at xe ye
  have XG : TG B V x _ := ⟨xr, xi, by rw [xe]; exact h.wf.gv ha hb2⟩
  have YG : TG B V y _ := ⟨yr, yi, by rw [ye]; exact h.wf.gv hc hb⟩
  have CS := Lib.hid (fun U (g : Gr _ U) => sound_any b B V (S.jn a c) L a U (HU.out.gr g) ha)
  rw [hs] at CS
  have CE := Lib.hid (fun U (g : Gr _ U) => EQ (S.jn a c) L U x y false S3 (HU.out.gr g) (XG.gr g) (YG.gr g) (by rw [xe, ye]; exact he))
  unfold Ty.v at CE
  have K3 := Lib.hid (fun (L3 : List Ty) (U : World) (h3 : SMem b B V S3 L3 U) (x3 : ∀ i, i < V.length → (S.jn a c).b i = true → S3.b i = true ∧ L3[i]? = L[i]?) => show U.cell? ⟨b.sp, 3, none⟩ = some (.slice (some ⟨b.tb, 0, none⟩) V.length V.length) ∧ (U.cell? ⟨b.tb, a * 3, none⟩ = some (iv x.kind) ∧ U.cell? ⟨b.tb, a * 3 + 1, none⟩ = some (iv x.var) ∧ U.cell? ⟨b.tb, a * 3 + 2, none⟩ = some (.slice x.A x.sub.length x.c)) ∧ (U.cell? ⟨b.tb, c * 3, none⟩ = some (iv y.kind) ∧ U.cell? ⟨b.tb, c * 3 + 1, none⟩ = some (iv y.var) ∧ U.cell? ⟨b.tb, c * 3 + 2, none⟩ = some (.slice y.A y.sub.length y.c)) from by
    obtain ⟨x', hx', -, -, -, xc', -⟩ := h3.tc ha
    obtain ⟨y', hy', -, -, -, yc', -⟩ := h3.tc hc
    rw [(x3 a ha hb2).2, hxL] at hx'
    rw [(x3 c hc hb).2, hyL] at hy'
    cases hx'
    cases hy'
    exact ⟨h3.hd.2.2.2, xc', yc'⟩)
  have CT := Lib.hid (fun (L3 : List Ty) (U : World) (h3 : SMem b B V S3 L3 U) => sound_any b B V S3 L3 a U h3 ha)
  have KW := Lib.hid (fun (U : World) (g : Gr (W.setCell ⟨b.ub, c, none⟩ (iv a)) U) => (⟨gr_c g t3, ⟨gr_c g xc.1, gr_c g xc.2.1, gr_c g xc.2.2⟩, ⟨gr_c g yc.1, gr_c g yc.2.1, gr_c g yc.2.2⟩⟩ : U.cell? ⟨b.sp, 3, none⟩ = some (.slice (some ⟨b.tb, 0, none⟩) V.length V.length) ∧ (U.cell? ⟨b.tb, a * 3, none⟩ = some (iv x.kind) ∧ U.cell? ⟨b.tb, a * 3 + 1, none⟩ = some (iv x.var) ∧ U.cell? ⟨b.tb, a * 3 + 2, none⟩ = some (.slice x.A x.sub.length x.c)) ∧ (U.cell? ⟨b.tb, c * 3, none⟩ = some (iv y.kind) ∧ U.cell? ⟨b.tb, c * 3 + 1, none⟩ = some (iv y.var) ∧ U.cell? ⟨b.tb, c * 3 + 2, none⟩ = some (.slice y.A y.sub.length y.c))))
  clear h EQ XG YG xe ye xr yr xi yi hxL hyL xc yc
  go_enter Try.func80, Try.ntmps80
  go_upto_region 11 with (fail)
  generalize hW1 : W.setCell _ _ = W1 at *
  clear hW1 s0 s1 s2 s3 u0 uf
  clear t0 t1 t2 t3 pc pa paf
  refine wp_region_held_drew (S := fun U => U.cell? ⟨b.sp, 3, none⟩ = some (.slice (some ⟨b.tb, 0, none⟩) V.length V.length) ∧ (U.cell? ⟨b.tb, a * 3, none⟩ = some (iv x.kind) ∧ U.cell? ⟨b.tb, a * 3 + 1, none⟩ = some (iv x.var) ∧ U.cell? ⟨b.tb, a * 3 + 2, none⟩ = some (.slice x.A x.sub.length x.c)) ∧ (U.cell? ⟨b.tb, c * 3, none⟩ = some (iv y.kind) ∧ U.cell? ⟨b.tb, c * 3 + 1, none⟩ = some (iv y.var) ∧ U.cell? ⟨b.tb, c * 3 + 2, none⟩ = some (.slice y.A y.sub.length y.c))) (by kernel_rfl) (KW.out _ (gr_drew _)) (fun hHeld => ?_)
  refine takeH (i := 0) (d := some 63) (v := .pointer (some ⟨b.sp, 0, none⟩)) (by rfl) (by kernel_rfl) (by kernel_rfl) (by kernel_rfl) (fun _ _ _ h => h) ?_ hHeld ?_
  · intro oi hoi; have ho := Option.some.inj hoi; subst ho; refine Or.inl ⟨by rfl, ?_⟩; intro w hSw; (try dsimp only at hSw); go_split_ands; go_simp
  try simp only [Act.put, List.setIfInBounds_toArray, List.set_cons_zero, List.set_cons_succ]
  refine takeH (i := 1) (d := some 64) (v := iv a) (by rfl) (by kernel_rfl) (by kernel_rfl) (by kernel_rfl) (fun _ _ _ h => h) ?_ hHeld ?_
  · intro oi hoi; have ho := Option.some.inj hoi; subst ho; refine Or.inl ⟨by rfl, ?_⟩; intro w hSw; (try dsimp only at hSw); go_split_ands; go_simp
  try simp only [Act.put, List.setIfInBounds_toArray, List.set_cons_zero, List.set_cons_succ]
  refine wpAnyH_ready (rs := [2]) (by kernel_rfl) (by simp) ?_
  refine AllReadyH.cons rfl (fun K hK => ?_) AllReadyH.nil
  go_simp
  go_wp2_with ((first | (go_at_call 82; (with_reducible refine (CS.out _ (gr_drew _)).mono ?_); rintro e z1 ⟨rfl, g⟩; have Z1 := Lib.hid ((gr_drew W1).trans g); clear g)))
  refine hK.out _ _ ?_ (fun hHeld => ?_)
  · exact KW.out _ Z1.out
  clear hK K
  try simp only [Act.put, List.setIfInBounds_toArray, List.set_cons_zero, List.set_cons_succ]
  refine takeH (i := 3) (d := some 66) (v := .bool true) (by rfl) (by kernel_rfl) (by kernel_rfl) (by kernel_rfl) (fun _ _ _ h => h) ?_ hHeld ?_
  · intro oi hoi; have ho := Option.some.inj hoi; subst ho; refine Or.inl ⟨by rfl, ?_⟩; intro w hSw; (try dsimp only at hSw); go_split_ands; go_simp
  try simp only [Act.put, List.setIfInBounds_toArray, List.set_cons_zero, List.set_cons_succ]
  refine takeH (i := 4) (d := some 67) (v := .pointer (some ⟨b.sp, 0, none⟩)) (by rfl) (by kernel_rfl) (by kernel_rfl) (by kernel_rfl) (fun _ _ _ h => h) ?_ hHeld ?_
  · intro oi hoi; have ho := Option.some.inj hoi; subst ho; refine Or.inl ⟨by rfl, ?_⟩; intro w hSw; (try dsimp only at hSw); go_split_ands; go_simp
  try simp only [Act.put, List.setIfInBounds_toArray, List.set_cons_zero, List.set_cons_succ]
  refine takeH (i := 5) (d := some 68) (v := .pointer (some ⟨b.sp, 0, none⟩)) (by rfl) (by kernel_rfl) (by kernel_rfl) (by kernel_rfl) (fun _ _ _ h => h) ?_ hHeld ?_
  · intro oi hoi; have ho := Option.some.inj hoi; subst ho; refine Or.inl ⟨by rfl, ?_⟩; intro w hSw; (try dsimp only at hSw); go_split_ands; go_simp
  try simp only [Act.put, List.setIfInBounds_toArray, List.set_cons_zero, List.set_cons_succ]
  refine takeH (i := 6) (d := some 69) (v := .pointer (some ⟨b.sp, 0, none⟩)) (by rfl) (by kernel_rfl) (by kernel_rfl) (by kernel_rfl) (fun _ _ _ h => h) ?_ hHeld ?_
  · intro oi hoi; have ho := Option.some.inj hoi; subst ho; refine Or.inl ⟨by rfl, ?_⟩; intro w hSw; (try dsimp only at hSw); go_split_ands; go_simp
  try simp only [Act.put, List.setIfInBounds_toArray, List.set_cons_zero, List.set_cons_succ]
  refine takeH (i := 7) (d := some 70) (v := .pointer (some ⟨b.sp, 3, none⟩)) (by rfl) (by kernel_rfl) (by kernel_rfl) (by kernel_rfl) (fun _ _ _ h => h) ?_ hHeld ?_
  · intro oi hoi; have ho := Option.some.inj hoi; subst ho; refine Or.inl ⟨by rfl, ?_⟩; intro w hSw; (try dsimp only at hSw); go_split_ands; go_simp
  try simp only [Act.put, List.setIfInBounds_toArray, List.set_cons_zero, List.set_cons_succ]
  refine takeH (i := 8) (d := some 71) (v := .slice (some ⟨b.tb, 0, none⟩) V.length V.length) (by rfl) (by kernel_rfl) (by kernel_rfl) (by kernel_rfl) (fun _ _ _ h => h) ?_ hHeld ?_
  · intro oi hoi; have ho := Option.some.inj hoi; subst ho; refine Or.inl ⟨by rfl, ?_⟩; intro w hSw; (try dsimp only at hSw); go_split_ands; go_simp
  try simp only [Act.put, List.setIfInBounds_toArray, List.set_cons_zero, List.set_cons_succ]
  refine takeH (i := 9) (d := some 72) (v := iv a) (by rfl) (by kernel_rfl) (by kernel_rfl) (by kernel_rfl) (fun _ _ _ h => h) ?_ hHeld ?_
  · intro oi hoi; have ho := Option.some.inj hoi; subst ho; refine Or.inl ⟨by rfl, ?_⟩; intro w hSw; (try dsimp only at hSw); go_split_ands; go_simp
  try simp only [Act.put, List.setIfInBounds_toArray, List.set_cons_zero, List.set_cons_succ]
  refine takeH (i := 10) (d := some 73) (v := .pointer (some ⟨b.tb, a * 3, none⟩)) (by rfl) (by kernel_rfl) (by kernel_rfl) (by kernel_rfl) (fun _ _ _ h => h) ?_ hHeld ?_
  · intro oi hoi; have ho := Option.some.inj hoi; subst ho; refine Or.inl ⟨by rfl, ?_⟩; intro w hSw; (try dsimp only at hSw); go_split_ands; go_simp
  try simp only [Act.put, List.setIfInBounds_toArray, List.set_cons_zero, List.set_cons_succ]
  refine takeH (i := 11) (d := some 74) (v := .agg #[iv x.kind, iv x.var, .slice x.A x.sub.length x.c]) (by rfl) (by kernel_rfl) (by kernel_rfl) (by kernel_rfl) (fun _ _ _ h => h) ?_ hHeld ?_
  · intro oi hoi; have ho := Option.some.inj hoi; subst ho; refine Or.inl ⟨by rfl, ?_⟩; intro w hSw; (try dsimp only at hSw); go_split_ands; go_simp
  try simp only [Act.put, List.setIfInBounds_toArray, List.set_cons_zero, List.set_cons_succ]
  refine takeH (i := 12) (d := some 75) (v := .pointer (some ⟨b.sp, 0, none⟩)) (by rfl) (by kernel_rfl) (by kernel_rfl) (by kernel_rfl) (fun _ _ _ h => h) ?_ hHeld ?_
  · intro oi hoi; have ho := Option.some.inj hoi; subst ho; refine Or.inl ⟨by rfl, ?_⟩; intro w hSw; (try dsimp only at hSw); go_split_ands; go_simp
  try simp only [Act.put, List.setIfInBounds_toArray, List.set_cons_zero, List.set_cons_succ]
  refine takeH (i := 13) (d := some 76) (v := .pointer (some ⟨b.sp, 0, none⟩)) (by rfl) (by kernel_rfl) (by kernel_rfl) (by kernel_rfl) (fun _ _ _ h => h) ?_ hHeld ?_
  · intro oi hoi; have ho := Option.some.inj hoi; subst ho; refine Or.inl ⟨by rfl, ?_⟩; intro w hSw; (try dsimp only at hSw); go_split_ands; go_simp
  try simp only [Act.put, List.setIfInBounds_toArray, List.set_cons_zero, List.set_cons_succ]
  refine takeH (i := 14) (d := some 77) (v := .pointer (some ⟨b.sp, 3, none⟩)) (by rfl) (by kernel_rfl) (by kernel_rfl) (by kernel_rfl) (fun _ _ _ h => h) ?_ hHeld ?_
  · intro oi hoi; have ho := Option.some.inj hoi; subst ho; refine Or.inl ⟨by rfl, ?_⟩; intro w hSw; (try dsimp only at hSw); go_split_ands; go_simp
  try simp only [Act.put, List.setIfInBounds_toArray, List.set_cons_zero, List.set_cons_succ]
  refine takeH (i := 15) (d := some 78) (v := .slice (some ⟨b.tb, 0, none⟩) V.length V.length) (by rfl) (by kernel_rfl) (by kernel_rfl) (by kernel_rfl) (fun _ _ _ h => h) ?_ hHeld ?_
  · intro oi hoi; have ho := Option.some.inj hoi; subst ho; refine Or.inl ⟨by rfl, ?_⟩; intro w hSw; (try dsimp only at hSw); go_split_ands; go_simp
  try simp only [Act.put, List.setIfInBounds_toArray, List.set_cons_zero, List.set_cons_succ]
  refine takeH (i := 16) (d := some 79) (v := iv c) (by rfl) (by kernel_rfl) (by kernel_rfl) (by kernel_rfl) (fun _ _ _ h => h) ?_ hHeld ?_
  · intro oi hoi; have ho := Option.some.inj hoi; subst ho; refine Or.inl ⟨by rfl, ?_⟩; intro w hSw; (try dsimp only at hSw); go_split_ands; go_simp
  try simp only [Act.put, List.setIfInBounds_toArray, List.set_cons_zero, List.set_cons_succ]
  refine takeH (i := 17) (d := some 80) (v := .pointer (some ⟨b.tb, c * 3, none⟩)) (by rfl) (by kernel_rfl) (by kernel_rfl) (by kernel_rfl) (fun _ _ _ h => h) ?_ hHeld ?_
  · intro oi hoi; have ho := Option.some.inj hoi; subst ho; refine Or.inl ⟨by rfl, ?_⟩; intro w hSw; (try dsimp only at hSw); go_split_ands; go_simp
  try simp only [Act.put, List.setIfInBounds_toArray, List.set_cons_zero, List.set_cons_succ]
  refine takeH (i := 18) (d := some 81) (v := .agg #[iv y.kind, iv y.var, .slice y.A y.sub.length y.c]) (by rfl) (by kernel_rfl) (by kernel_rfl) (by kernel_rfl) (fun _ _ _ h => h) ?_ hHeld ?_
  · intro oi hoi; have ho := Option.some.inj hoi; subst ho; refine Or.inl ⟨by rfl, ?_⟩; intro w hSw; (try dsimp only at hSw); go_split_ands; go_simp
  try simp only [Act.put, List.setIfInBounds_toArray, List.set_cons_zero, List.set_cons_succ]
  refine wpAnyH_ready (rs := [19]) (by kernel_rfl) (by simp) ?_
  refine AllReadyH.cons rfl (fun K hK => ?_) AllReadyH.nil
  go_simp
  go_wp2_with ((first | (go_at_call 50; (with_reducible refine (CE.out _ Z1.out).mono ?_); rintro e z2 ⟨rfl, L3, h3, g3, x3⟩; have H3 := Lib.hid h3; have G3 := Lib.hid g3; have X3 := Lib.hid x3; clear h3 g3 x3)))
  refine hK.out _ _ ?_ (fun hHeld => ?_)
  · exact K3.out _ _ H3.out X3.out
  clear hK K
  try simp only [Act.put, List.setIfInBounds_toArray, List.set_cons_zero, List.set_cons_succ]
  refine takeH (i := 20) (d := some 83) (v := .bool false) (by rfl) (by kernel_rfl) (by kernel_rfl) (by kernel_rfl) (fun _ _ _ h => h) ?_ hHeld ?_
  · intro oi hoi; have ho := Option.some.inj hoi; subst ho; refine Or.inl ⟨by rfl, ?_⟩; intro w hSw; (try dsimp only at hSw); go_split_ands; go_simp
  try simp only [Act.put, List.setIfInBounds_toArray, List.set_cons_zero, List.set_cons_succ]
  refine takeH (i := 21) (d := some 84) (v := .bool false) (by rfl) (by kernel_rfl) (by kernel_rfl) (by kernel_rfl) (fun _ _ _ h => h) ?_ hHeld ?_
  · intro oi hoi; have ho := Option.some.inj hoi; subst ho; refine Or.inl ⟨by rfl, ?_⟩; intro w hSw; (try dsimp only at hSw); go_split_ands; go_simp
  try simp only [Act.put, List.setIfInBounds_toArray, List.set_cons_zero, List.set_cons_succ]
  refine skipH (i := 22) (d := some 85) (by rfl) (by kernel_rfl) (by kernel_rfl) (by kernel_rfl) (fun _ _ _ h => h) (by rfl) hHeld ?_
  try simp only [Act.put, List.setIfInBounds_toArray, List.set_cons_zero, List.set_cons_succ]
  refine skipH (i := 23) (d := some 86) (by rfl) (by kernel_rfl) (by kernel_rfl) (by kernel_rfl) (fun _ _ _ h => h) (by rfl) hHeld ?_
  try simp only [Act.put, List.setIfInBounds_toArray, List.set_cons_zero, List.set_cons_succ]
  refine skipH (i := 24) (d := some 87) (by rfl) (by kernel_rfl) (by kernel_rfl) (by kernel_rfl) (fun _ _ _ h => h) (by rfl) hHeld ?_
  try simp only [Act.put, List.setIfInBounds_toArray, List.set_cons_zero, List.set_cons_succ]
  refine takeH (i := 25) (d := some 88) (v := .bool false) (by rfl) (by kernel_rfl) (by kernel_rfl) (by kernel_rfl) (fun _ _ _ h => h) ?_ hHeld ?_
  · intro oi hoi; have ho := Option.some.inj hoi; subst ho; refine Or.inl ⟨by rfl, ?_⟩; intro w hSw; (try dsimp only at hSw); go_split_ands; go_simp
  try simp only [Act.put, List.setIfInBounds_toArray, List.set_cons_zero, List.set_cons_succ]
  refine takeH (i := 26) (d := some 6) (v := .bool false) (by rfl) (by kernel_rfl) (by kernel_rfl) (by kernel_rfl) (fun _ _ _ h => h) ?_ hHeld ?_
  · intro oi hoi; have ho := Option.some.inj hoi; subst ho; refine Or.inl ⟨by rfl, ?_⟩; intro w hSw; (try dsimp only at hSw); go_split_ands; go_simp
  try simp only [Act.put, List.setIfInBounds_toArray, List.set_cons_zero, List.set_cons_succ]
  refine wpAnyH_done (by kernel_rfl) ?_ _
  go_wp2
  go_ret
  exact ⟨rfl, L3, H3.out, G1.out.trans ((SGr.gr Z1.out).trans G3.out), X3.out⟩
end Go.Proofs.Ytjlmhfdigoogfaa

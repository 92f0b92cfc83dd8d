/- Plain: the program does not depend on the order of the codes. -/
import Derived.Test.YtgboboljgcfggaaDoorRl0
namespace Go.Proofs.YtgboboljgcfggaaDoor
open Go.RowKit Go.Maps

theorem errL_iff {L : List Cod} : errL L = 0 ↔ (∀ x ∈ L, errC x = 0) ∧ (L.map Cod.label).Nodup := by
  constructor
  · intro h
    have h1 := errL_zero h
    refine ⟨fun x hx => ?_, (okl_of h).n⟩
    obtain ⟨k, hk⟩ := List.getElem?_of_mem hx
    exact (h1 k x hk).1
  · rintro ⟨h1, h2⟩
    unfold errL
    refine fe8_zero.2 fun y hy => ?_
    obtain ⟨k, hk, rfl⟩ := List.mem_map.1 hy
    rw [List.mem_range] at hk
    unfold errK
    rw [List.getElem?_eq_getElem hk]
    simp only
    rw [if_neg (by simpa using h1 _ (List.getElem_mem hk)), if_neg]
    intro hm
    obtain ⟨c, hc, e⟩ := List.mem_map.1 hm
    obtain ⟨j, hj⟩ := List.getElem?_of_mem hc
    rw [List.getElem?_take] at hj
    split at hj
    · rename_i hjk
      rw [List.Nodup, List.pairwise_map, List.pairwise_iff_getElem] at h2
      obtain ⟨hj1, hj2⟩ := List.getElem?_eq_some_iff.1 hj
      refine h2 j k hj1 hk hjk ?_
      rw [hj2]
      exact e
    · cases hj
theorem pls_labels (L : List Cod) : (pls L).map PC.label = L.map Cod.label := by
  unfold pls
  rw [List.map_map]
  rfl
/-- Codes among others, linked without an error, are linked alike among the others. -/
theorem linkV_emb {L' L : List Cod} {R : List Nam} {σ : Nat → Nat} (h : Emb (pls L') (pls L) σ) (he : errL L = 0) (hok : (linkV L' R).1 = 0) : linkV L R = linkV L' R := by
  obtain ⟨K0, K, he', hr, hb, hq, e⟩ := linkV_ok hok
  have cs' := (okl_of he').cs
  have cs := (okl_of he).cs
  have kn0 : Kn (pls L') K0 := rootsK_kn cs' _ _ _ (nil_kn _) hr
  have F := bfs_fnd cs' _ 0 K0 K kn0 (Nat.zero_le _) hb
  have r2 := rootsK_sg h cs' _ _ _ (nil_kn _) hr
  rw [List.map_nil] at r2
  have kn2 : Kn (pls L) (K0.map (sg σ)) := rootsK_kn cs _ _ _ (nil_kn _) r2
  have b2 := bfs_sg h cs' _ 0 K0 K kn0 hb
  have b3 : bfs (pls L) (fuelL L) 0 (K0.map (sg σ)) = some (some (K.map (sg σ))) := by
    cases hx : bfs (pls L) (fuelL L) 0 (K0.map (sg σ)) with
    | none => exact absurd hx (bfs_ends cs _ 0 _ kn2 (Nat.zero_le _) (by unfold fuelL; omega))
    | some r => rw [bfs_same hx b2]
  have cl : ∀ s ∈ K, ∀ x ∈ (blkAt (pls L') s).ins, ∀ t, tgt (pls L') s x = some t → ∃ u, t = some u ∧ u ∈ K := fun s hs => by
    obtain ⟨j, hj⟩ := List.getElem?_of_mem hs
    exact F.cl j s (Nat.zero_le _) hj
  have p2 := prog_sg h F.kn.ok cl
  obtain ⟨q1, -, -⟩ := rootsK_mem _ _ _ hr
  obtain ⟨e0, hpre⟩ := F.pre
  have s2 : startsOf (rootN L (K.map (sg σ))) (R.map Nam.pr) = startsOf (rootN L' K) (R.map Nam.pr) := by
    refine startsOf_congr fun n hn => ?_
    obtain ⟨s, h1, h2⟩ := q1 n hn
    have hs : s ∈ K := by rw [hpre, List.mem_append]; exact .inl h2
    rw [rootN_of h1, rootN_of (h.fc h1), idx_sg h (F.kn.ok s hs) F.kn.ok]
  rw [linkV_end he r2 b3 rfl, p2, s2, e, if_neg (by simpa using hq)]
theorem linkV_rev {L : List Cod} {R : List Nam} (h : (linkV L R).1 = 0) : linkV L.reverse R = linkV L R := by
  obtain ⟨K0, K, he, -⟩ := linkV_ok h
  obtain ⟨h1, h2⟩ := errL_iff.1 he
  have E : Emb (pls L) (pls L.reverse) (fun i => (pls L).length - 1 - i) := by
    have h3 : pls L.reverse = (pls L).reverse := by unfold pls; rw [List.map_reverse]
    rw [h3]
    exact emb_rev (by rw [pls_labels]; exact h2)
  refine linkV_emb E (errL_iff.2 ⟨fun x hx => h1 x (List.mem_reverse.1 hx), ?_⟩) h
  rw [List.map_reverse]
  exact (List.reverse_perm _).nodup_iff.2 h2
theorem linkV_del {L : List Cod} {R : List Nam} (i : Nat) (h : (linkV L R).1 = 0) (h' : (linkV (L.eraseIdx i) R).1 = 0) : linkV L R = linkV (L.eraseIdx i) R := by
  obtain ⟨K0, K, he, -⟩ := linkV_ok h
  obtain ⟨h1, h2⟩ := errL_iff.1 he
  have E : Emb (pls (L.eraseIdx i)) (pls L) (fun k => if k < i then k else k + 1) := by
    have h3 : pls (L.eraseIdx i) = (pls L).eraseIdx i := by unfold pls; rw [List.eraseIdx_eq_take_drop_succ, List.eraseIdx_eq_take_drop_succ, List.map_append, List.map_take, List.map_drop]
    rw [h3]
    exact emb_erase i (by rw [pls_labels]; exact h2)
  exact linkV_emb E he h'
end Go.Proofs.YtgboboljgcfggaaDoor

/- Walks and words: Lrt, Rrn, ChkF, BegA, BegB, Pvb, Rwk, Rsl, LawQ, Awk, Awl, Gre. -/
import Derived.Test.YtgboboljgcfggaaGreatDoorMa4
import Derived.Test.YtgboboljgcfggaaGreatDoorMb5
import Derived.Deep.CutRange
namespace Go.Proofs.YtgboboljgcfggaaGreatDoor
open Go.RowKit Go.Maps
theorem linkV_ok {L : List Cod} {R : List Nam} (h : (linkV L R).1 = 0) : ∃ K0 K, errL L = 0 ∧ rootsK (pls L) [] (R.map Nam.pr) = some K0 ∧ bfs (pls L) (fuelL L) 0 K0 = some (some K) ∧ errQ (progB (pls L) K) (startsOf (rootN L K) (R.map Nam.pr)) = 0 ∧ linkV L R = (0, progB (pls L) K, startsOf (rootN L K) (R.map Nam.pr)) := by
  by_cases he : errL L = 0
  · cases hr : rootsK (pls L) [] (R.map Nam.pr) with
    | none =>
      have e : linkV L R = (8, [], []) := by unfold linkV; rw [if_neg (by simpa using he), hr]
      rw [e] at h; cases h
    | some K0 =>
      cases hb : bfs (pls L) (fuelL L) 0 K0 with
      | none =>
        have e : linkV L R = (21, [], []) := by unfold linkV; rw [if_neg (by simpa using he), hr]; simp only [hb]
        rw [e] at h; cases h
      | some o =>
        cases o with
        | none =>
          have e : linkV L R = (21, [], []) := by unfold linkV; rw [if_neg (by simpa using he), hr]; simp only [hb]
          rw [e] at h; cases h
        | some K =>
          by_cases hq : errQ (progB (pls L) K) (startsOf (rootN L K) (R.map Nam.pr)) = 0
          · exact ⟨K0, K, he, rfl, hb, hq, by unfold linkV; rw [if_neg (by simpa using he), hr]; simp only [hb]; rw [if_neg (by simpa using hq)]⟩
          · have e : linkV L R = (errQ (progB (pls L) K) (startsOf (rootN L K) (R.map Nam.pr)), [], []) := by unfold linkV; rw [if_neg (by simpa using he), hr]; simp only [hb]; rw [if_pos hq]
            rw [e] at h; exact absurd h hq
  · have e : linkV L R = (errL L, [], []) := by unfold linkV; rw [if_pos he]
    rw [e] at h; exact absurd h he
def Clo (l : List PC) (K : List Sp) : Prop := ∀ s ∈ K, ∀ x ∈ (blkAt l s).ins, ∀ t, tgt l s x = some t → ∃ u, t = some u ∧ u ∈ K
theorem addAll_sub {K : List Sp} : ∀ (r : List (Option Sp)) (k : List Sp), (∀ y ∈ k, y ∈ K) → (∀ t ∈ r, ∃ u, t = some u ∧ u ∈ K) → ∃ k', addAll k r = some k' ∧ ∀ y ∈ k', y ∈ K
  | [], k, h, _ => ⟨k, rfl, h⟩
  | t :: r, k, h, hr => by
    obtain ⟨u, rfl, hu⟩ := hr t (by simp)
    rw [addAll]
    exact addAll_sub r _ (fun y hy => (mem_addS.1 hy).elim (h y) (fun e => e ▸ hu)) fun t ht => hr t (by simp [ht])
theorem bfs_sub {l : List PC} {K : List Sp} (hc : Clo l K) : ∀ (f i : Nat) (k : List Sp), (∀ y ∈ k, y ∈ K) → bfs l f i k = none ∨ ∃ r, bfs l f i k = some (some r) ∧ ∀ y ∈ r, y ∈ K
  | 0, _, _, _ => .inl rfl
  | f + 1, i, k, h => by
    rw [bfs]
    cases hk : k[i]? with
    | none => exact .inr ⟨k, rfl, h⟩
    | some s =>
      obtain ⟨k', e, h'⟩ := addAll_sub (K := K) ((blkAt l s).ins.filterMap (tgt l s)) k h (fun t ht => by
        obtain ⟨x, hx, e⟩ := List.mem_filterMap.1 ht
        exact hc s (h s (List.mem_of_getElem? hk)) x hx t e)
      simp only [e]
      exact bfs_sub hc f (i + 1) k' h'
theorem idx_get {K : List Sp} {s : Sp} (h : s ∈ K) : K[K.idxOf s]? = some s := by
  have hl := List.idxOf_lt_length_iff.2 h
  rw [List.getElem?_eq_getElem hl]
  simp
theorem plain_idx {l : List PC} {K : List Sp} {s : Sp} (h : s ∈ K) : plainB ((progB l K).map blkOf) (K.idxOf s) = ((blkAt l s).cap == 0 && !(blkAt l s).param) := by
  unfold plainB progB
  simp only [Int.toNat_natCast, List.getElem?_map, idx_get h, Option.map_some]
  simp [blkOf, blkP]
theorem clos_idx {l : List PC} {K : List Sp} {s : Sp} (h : s ∈ K) : closB ((progB l K).map blkOf) (K.idxOf s) = (blkAt l s).param := by
  unfold closB progB
  simp only [Int.toNat_natCast, List.getElem?_map, idx_get h, Option.map_some]
  simp [blkOf, blkP]
theorem inR_else {bs bs' : List Blk} {nb : Nat} {op a b : Int} (h4 : op ≠ 4) (h5 : op ≠ 5) : inR bs nb op a b = inR bs' nb op a b := by
  unfold inR
  have e4 : (op == 4) = false := by simpa using h4
  have e5 : (op == 5) = false := by simpa using h5
  simp only [e4, e5, Bool.false_eq_true, if_false]
theorem relab_four {l : List PC} {K : List Sp} (hc : Clo l K) {s : Sp} (hs : s ∈ K) {x : Ins} (hx : x ∈ (blkAt l s).ins) (h : x.op = 4 ∨ x.op = 5) : ∃ u ∈ K, tgt l s x = some (some u) := by
  have : ∃ t, tgt l s x = some t := by
    unfold tgt
    rcases h with h | h
    · exact ⟨_, if_pos h⟩
    · exact ⟨_, by rw [if_neg (by rw [h]; decide), if_pos h]⟩
  obtain ⟨t, ht⟩ := this
  obtain ⟨u, rfl, hu⟩ := hc s hs x hx t ht
  exact ⟨u, hu, ht⟩
theorem relab_none {l : List PC} {K : List Sp} {s : Sp} {x : Ins} (h4 : x.op ≠ 4) (h5 : x.op ≠ 5) : relab l K s x = x := by
  unfold relab tgt
  rw [if_neg h4, if_neg h5]
theorem relab_some {l : List PC} {K : List Sp} {s u : Sp} {x : Ins} (h : tgt l s x = some (some u)) : relab l K s x = ⟨x.op, K.idxOf u, x.b, []⟩ := by
  unfold relab
  rw [h]
section
variable {l : List PC} {K K' : List Sp}
theorem ckI_sub (sub : ∀ s ∈ K', s ∈ K) (hc : Clo l K') {s : Sp} (hs : s ∈ K') {x : Ins} (hx : x ∈ (blkAt l s).ins) (nb : Nat) :
    ckI ((progB l K').map blkOf) nb (relab l K' s x).op (relab l K' s x).a (relab l K' s x).b (relab l K' s x).name = ckI ((progB l K).map blkOf) nb (relab l K s x).op (relab l K s x).a (relab l K s x).b (relab l K s x).name := by
  by_cases h : x.op = 4 ∨ x.op = 5
  · obtain ⟨u, hu, ht⟩ := relab_four hc hs hx h
    rw [relab_some ht, relab_some ht]
    simp only
    rcases h with h | h
    · rw [h]
      have e : inR ((progB l K').map blkOf) nb 4 (K'.idxOf u) x.b = inR ((progB l K).map blkOf) nb 4 (K.idxOf u) x.b := by
        have q : ∀ (bs : List Blk) (a b : Int), inR bs nb 4 a b = plainB bs a := fun _ _ _ => by simp [inR]
        rw [q, q]
        rw [plain_idx hu, plain_idx (sub u hu)]
      unfold ckI ckB
      rw [e]
      simp [fA]
    · rw [h]
      have e : inR ((progB l K').map blkOf) nb 5 (K'.idxOf u) x.b = inR ((progB l K).map blkOf) nb 5 (K.idxOf u) x.b := by
        have q : ∀ (bs : List Blk) (a b : Int), inR bs nb 5 a b = closB bs a := fun _ _ _ => by simp [inR]
        rw [q, q]
        rw [clos_idx hu, clos_idx (sub u hu)]
      unfold ckI ckB
      rw [e]
      simp [fA]
  · have h4 : x.op ≠ 4 := fun e => h (.inl e)
    have h5 : x.op ≠ 5 := fun e => h (.inr e)
    rw [relab_none h4 h5, relab_none h4 h5]
    unfold ckI
    rw [inR_else h4 h5]
theorem errB_sub (sub : ∀ s ∈ K', s ∈ K) (hc : Clo l K') {s : Sp} (hs : s ∈ K') : errB ((progB l K').map blkOf) (blkOf (blkP l K' s)) = errB ((progB l K).map blkOf) (blkOf (blkP l K s)) := by
  unfold errB errI blkOf blkP
  simp only [List.length_map, List.map_map]
  have e : (blkAt l s).ins.map ((fun x : Ins => ckI ((progB l K').map blkOf) (blkAt l s).ins.length x.op x.a x.b x.name) ∘ relab l K' s) = (blkAt l s).ins.map ((fun x : Ins => ckI ((progB l K).map blkOf) (blkAt l s).ins.length x.op x.a x.b x.name) ∘ relab l K s) := List.map_congr_left fun x hx => ckI_sub sub hc hs hx _
  unfold blkOf at e
  rw [e]
end
theorem fe0 : ∀ {l : List Int}, fe l = 0 ↔ ∀ x ∈ l, x = 0
  | [] => by simp [fe]
  | x :: l => by
    rw [fe]
    by_cases h : x = 0
    · rw [if_pos h, fe0]; simp [h]
    · rw [if_neg h]; simp [h]
theorem sum_sub (g : Sp → Nat) : ∀ (k K : List Sp), k.Nodup → (∀ y ∈ k, y ∈ K) → (k.map g).sum ≤ (K.map g).sum
  | [], _, _, _ => by simp
  | x :: k, K, hn, h => by
    rw [List.nodup_cons] at hn
    have hx := h x (by simp)
    have h1 := sum_sub g k (K.erase x) hn.2 (fun y hy => by
      rw [List.mem_erase_of_ne]
      · exact h y (by simp [hy])
      · intro e; exact hn.1 (e ▸ hy))
    have h2 := ((List.perm_cons_erase hx).map g).sum_nat
    rw [h2]
    simp only [List.map_cons, List.sum_cons]
    omega
theorem cntS : ∀ (bs : List Blk) (c : Nat), c + (bs.map fun b => b.ins.length).sum ≤ 9223372036854775807 → bs.foldl (fun c b => Go.RowKit.wrap64 (c + b.ins.length)) (c : Int) = ((c + (bs.map fun b => b.ins.length).sum : Nat) : Int)
  | [], c, _ => by simp
  | b :: bs, c, h => by
    simp only [List.map_cons, List.sum_cons] at h ⊢
    rw [List.foldl_cons]
    have e2 : Go.RowKit.wrap64 ((c : Int) + b.ins.length) = ((c + b.ins.length : Nat) : Int) := by
      unfold Go.RowKit.wrap64
      omega
    rw [e2, cntS bs (c + b.ins.length) (by omega)]
    congr 1
    omega
theorem sum_le {m : Nat} (g : Sp → Nat) : ∀ (k : List Sp), (∀ y ∈ k, g y ≤ m) → (k.map g).sum ≤ k.length * m
  | [], _ => by simp
  | x :: k, h => by
    have h1 := sum_le g k fun y hy => h y (by simp [hy])
    have h2 := h x (by simp)
    simp only [List.map_cons, List.sum_cons, List.length_cons, Nat.succ_mul]
    omega
theorem cnt_prog {l : List PC} {K : List Sp} (h : (K.map fun s => (blkAt l s).ins.length).sum ≤ 9223372036854775807) : cntW ((progB l K).map blkOf) = ((K.map fun s => (blkAt l s).ins.length).sum : Nat) := by
  have e : ((progB l K).map blkOf).map (fun b => b.ins.length) = K.map fun s => (blkAt l s).ins.length := by
    unfold progB
    rw [List.map_map, List.map_map]
    exact List.map_congr_left fun s _ => by simp [blkOf, blkP]
  have h1 := cntS ((progB l K).map blkOf) 0 (by rw [e]; omega)
  rw [e] at h1
  unfold cntW
  simpa using h1
theorem errQ_sub {l : List PC} {K K' : List Sp} {st : List Stt} {y : Stt} (h : errQ (progB l K) st = 0) (nd : K'.Nodup) (sub : ∀ s ∈ K', s ∈ K) (hc : Clo l K') (hI : ∀ s ∈ K, (blkAt l s).ins.length ≤ 100000)
    (hy : ∃ z ∈ st, z.pack = y.pack ∧ z.id = y.id ∧ plainB ((progB l K).map blkOf) z.block = plainB ((progB l K').map blkOf) y.block) : errQ (progB l K') [y] = 0 := by
  unfold errQ errP at h ⊢
  simp only at h ⊢
  split at h
  · cases h
  rename_i h1
  split at h
  · rename_i h2; exact absurd h h2
  rename_i h2
  have h2 : fe (((progB l K).map blkOf).map (errB ((progB l K).map blkOf))) = 0 := Decidable.of_not_not h2
  have lK : ((progB l K).map blkOf).length = K.length := by unfold progB; simp
  have lK' : ((progB l K').map blkOf).length = K'.length := by unfold progB; simp
  have hl : K'.length ≤ K.length := len_le_of_sub nd sub
  have hs := sum_sub (fun s => (blkAt l s).ins.length) K' K nd sub
  have hS := sum_le (m := 100000) (fun s => (blkAt l s).ins.length) K hI
  rw [lK] at h1
  have hK : K.length ≤ 2000 := by omega
  have hS2 : (K.map fun s => (blkAt l s).ins.length).sum ≤ 200000000 := by
    have := Nat.mul_le_mul_right 100000 hK
    omega
  rw [cnt_prog (by omega)] at h1
  rw [if_neg (by rw [lK', cnt_prog (by omega)]; omega)]
  have e1 : fe (((progB l K').map blkOf).map (errB ((progB l K').map blkOf))) = 0 := by
    rw [fe0]
    intro z hz
    unfold progB at hz
    rw [List.map_map, List.map_map] at hz
    obtain ⟨s, hs1, rfl⟩ := List.mem_map.1 hz
    show errB ((progB l K').map blkOf) (blkOf (blkP l K' s)) = 0
    rw [errB_sub sub hc hs1]
    refine fe0.1 h2 _ ?_
    unfold progB
    rw [List.map_map, List.map_map]
    exact List.mem_map.2 ⟨s, sub s hs1, rfl⟩
  rw [if_neg (by rw [e1]; simp)]
  obtain ⟨z, hz, p1, p2, p3⟩ := hy
  obtain ⟨i, hi⟩ := List.getElem?_of_mem hz
  have h3 := fe0.1 h _ (List.mem_map.2 ⟨i, List.mem_range.2 (List.getElem?_eq_some_iff.1 hi).1, rfl⟩)
  rw [fe0]
  intro u hu
  simp only [List.length_cons, List.length_nil, List.mem_map, List.mem_range] at hu
  obtain ⟨j, hj, rfl⟩ := hu
  obtain rfl : j = 0 := by omega
  unfold errS at h3 ⊢
  rw [hi] at h3
  simp only [List.getElem?_cons_zero] at h3 ⊢
  rw [p1, p2, p3] at h3
  split at h3
  · cases h3
  rename_i q1
  split at h3
  · cases h3
  rename_i q2
  rw [if_neg q1, if_neg q2]
  rfl
def idF (K K' : List Sp) (a : Int) : Int := match K'[a.toNat]? with | some s => (K.idxOf s : Int) | none => a
theorem idF_idx {K K' : List Sp} {s : Sp} (h : s ∈ K') : idF K K' (K'.idxOf s) = K.idxOf s := by
  unfold idF
  rw [Int.toNat_natCast, idx_get h]
theorem sub_of {l : List PC} {K K' : List Sp} {X Y : List Blk} (hX : X.map Blk.pb = progB l K) (hY : Y.map Blk.pb = progB l K') (sub : ∀ s ∈ K', s ∈ K) (hc : Clo l K') : Sub X Y (idF K K') := by
  refine ⟨fun a h0 h1 => ?_⟩
  have lY : Y.length = K'.length := by have h := congrArg List.length hY; unfold progB at h; simpa using h
  have ha : a.toNat < K'.length := by omega
  have hs : K'[a.toNat]? = some K'[a.toNat] := List.getElem?_eq_getElem ha
  generalize K'[a.toNat] = s at hs
  have hm := List.mem_of_getElem? hs
  have e1 := congrArg (fun q => q[a.toNat]?) hY
  have e2 := congrArg (fun q => q[K.idxOf s]?) hX
  unfold progB at e1 e2
  simp only [List.getElem?_map, hs, idx_get (sub s hm), Option.map_some] at e1 e2
  obtain ⟨B', hB', p'⟩ := Option.map_eq_some_iff.1 e1
  obtain ⟨B, hB, p⟩ := Option.map_eq_some_iff.1 e2
  obtain ⟨c1, -, i1⟩ := PB.mk.inj p
  obtain ⟨c2, -, i2⟩ := PB.mk.inj p'
  refine ⟨B, B', hB', ?_, c1.trans c2.symm, ?_⟩
  · unfold idF
    rw [hs]
    simpa using hB
  · rw [i1, i2, List.map_map]
    refine List.map_congr_left fun x hx => ?_
    show relab l K s x = renI (idF K K') (relab l K' s x)
    by_cases h : x.op = 4 ∨ x.op = 5
    · obtain ⟨u, hu, ht⟩ := relab_four hc hm hx h
      rw [relab_some ht, relab_some ht]
      show _ = if x.op = 4 ∨ x.op = 5 then _ else _
      rw [if_pos h]
      simp only [idF_idx hu]
    · have h4 : x.op ≠ 4 := fun e => h (.inl e)
      have h5 : x.op ≠ 5 := fun e => h (.inr e)
      rw [relab_none h4 h5, relab_none h4 h5]
      exact (if_neg h).symm
theorem find_start {b : T × Int → Int} {r : List (T × Int)} {n : T × Int} (h : n ∈ r) : ((startsOf b r).find? fun s => decide (s.pack = n.1) && (s.id == n.2)).map Stt.block = some (b n) := by
  have hm : stOf b n ∈ startsOf b r := (startsOf_mem b r _).2 ⟨n, h, rfl⟩
  cases hf : (startsOf b r).find? fun s => decide (s.pack = n.1) && (s.id == n.2) with
  | none =>
    have := List.find?_eq_none.1 hf _ hm
    simp [stOf] at this
  | some y =>
    have h1 := List.find?_some hf
    have h2 := List.mem_of_find?_eq_some hf
    obtain ⟨m, hm2, rfl⟩ := (startsOf_mem b r y).1 h2
    simp only [stOf, Bool.and_eq_true, beq_iff_eq] at h1
    have e : m = n := Prod.ext (of_decide_eq_true h1.1) h1.2
    rw [e]
    rfl
theorem root_alone {L : List Cod} {R : List Nam} {n : Nam} (hn : n ∈ R) (h : (linkV L R).1 = 0) (hI : ∀ c ∈ L, ∀ b ∈ c.bs, b.ins.length ≤ 100000) : ∃ K K', linkV L R = (0, progB (pls L) K, startsOf (rootN L K) (R.map Nam.pr)) ∧ linkV L [n] = (0, progB (pls L) K', startsOf (rootN L K') [n.pr]) ∧
    (∀ X Y : List Blk, X.map Blk.pb = progB (pls L) K → Y.map Blk.pb = progB (pls L) K' → Sub X Y (idF K K')) ∧ idF K K' (rootN L K' n.pr) = rootN L K n.pr := by
  obtain ⟨K0, K, he, hr, hb, hq, e⟩ := linkV_ok h
  have cs := (okl_of he).cs
  have kn0 : Kn (pls L) K0 := rootsK_kn cs _ _ _ ⟨List.nodup_nil, fun _ h => by cases h⟩ hr
  have F := bfs_fnd cs _ 0 K0 K kn0 (Nat.zero_le _) hb
  have clo : Clo (pls L) K := fun s hs => by
    obtain ⟨j, hj⟩ := List.getElem?_of_mem hs
    exact F.cl j s (Nat.zero_le _) hj
  have hnp : n.pr ∈ R.map Nam.pr := List.mem_map.2 ⟨n, hn, rfl⟩
  obtain ⟨s, hs, hsK0⟩ := (rootsK_mem _ _ _ hr).1 n.pr hnp
  obtain ⟨e0, hpre⟩ := F.pre
  have hsK : s ∈ K := by rw [hpre, List.mem_append]; exact .inl hsK0
  have r1 : rootsK (pls L) [] [n.pr] = some [s] := by
    rw [rootsK, hs]
    rfl
  have kn1 : Kn (pls L) [s] := rootsK_kn cs _ _ _ ⟨List.nodup_nil, fun _ h => by cases h⟩ r1
  have hne : bfs (pls L) (fuelL L) 0 [s] ≠ none := bfs_ends cs _ _ _ kn1 (Nat.zero_le _) (by unfold fuelL; omega)
  rcases bfs_sub clo (fuelL L) 0 [s] (by simpa using hsK) with h1 | ⟨K', h1, sub⟩
  · exact absurd h1 hne
  have F' := bfs_fnd cs _ 0 [s] K' kn1 (Nat.zero_le _) h1
  have clo' : Clo (pls L) K' := fun s hs => by
    obtain ⟨j, hj⟩ := List.getElem?_of_mem hs
    exact F'.cl j s (Nat.zero_le _) hj
  obtain ⟨e1, hpre'⟩ := F'.pre
  have hsK' : s ∈ K' := by rw [hpre']; simp
  have rK : rootN L K n.pr = K.idxOf s := by unfold rootN; rw [hs]
  have rK' : rootN L K' n.pr = K'.idxOf s := by unfold rootN; rw [hs]
  have st1 : startsOf (rootN L K') [n.pr] = [stOf (rootN L K') n.pr] := rfl
  have hq' : errQ (progB (pls L) K') (startsOf (rootN L K') [n.pr]) = 0 := by
    rw [st1]
    refine errQ_sub hq F'.kn.nd sub clo' (fun t ht => ?_) ⟨stOf (rootN L K) n.pr, (startsOf_mem _ _ _).2 ⟨n.pr, hnp, rfl⟩, rfl, rfl, ?_⟩
    · obtain ⟨c, hc, hcb⟩ := blkAt_ok (F.kn.ok t ht)
      have hcm := List.mem_of_getElem? hc
      unfold pls at hcm
      obtain ⟨d, hd, rfl⟩ := List.mem_map.1 hcm
      obtain ⟨b, hb1, hb2⟩ := List.mem_map.1 hcb
      rw [← hb2]
      exact hI d hd b hb1
    · show plainB _ (rootN L K n.pr) = plainB _ (rootN L K' n.pr)
      rw [rK, rK', plain_idx hsK, plain_idx hsK']
  refine ⟨K, K', e, ?_, fun X Y hX hY => sub_of hX hY sub clo', by rw [rK, rK', idF_idx hsK']⟩
  unfold linkV
  rw [if_neg (by simpa using he)]
  show (match rootsK (pls L) [] [n.pr] with | none => _ | some K0 => _) = _
  rw [r1]
  simp only [h1]
  rw [if_neg (by simpa using hq')]
  rfl
end Go.Proofs.YtgboboljgcfggaaGreatDoor
namespace Go.Proofs.YtgboboljgcfggaaGreatDoor
theorem run_ren {f : Int → Int} {bs : List Blk} : ∀ (n k : Nat) (m : MM), Sub bs m.bs f → MI k m → ended m = false → runE n (renM f bs m) = (renM f bs (runE n m).1, (runE n m).2)
  | 0, _, _, _, _, _ => rfl
  | n + 1, k, m, h, hI, he => by
    have h1 := step_ren h hI.ok hI.vb
    obtain ⟨k1, k2, -⟩ := stepM_keep hI he
    rw [runE, h1, runE, ended_ren]
    by_cases hs : ended (stepM m) = true
    · rw [if_pos hs, if_pos hs]
    · rw [if_neg hs, if_neg hs]
      exact run_ren n (k + 2) (stepM m) (by rw [k2]; exact h) k1 (by simpa using hs)
theorem exec_err {bs : List Blk} {x : Ins} {S : List MV} {G : List MF} {f : MF} {s e : Int} (h : exec bs x S G f s = .error e) : e = 26 ∨ e = 5 := by
  obtain ⟨op, a, b, nm⟩ := x
  rcases op_split op with rfl | rfl | rfl | rfl | rfl | rfl | rfl | rfl | rfl | rfl | rfl | rfl | rfl | rfl | rfl | rfl | ⟨h1, h2, h3, h4, h5, h6, h7, h8, h9, h10, h11, h12, h13, h14, h15, -⟩
  case inr.inr.inr.inr.inr.inr.inr.inr.inr.inr.inr.inr.inr.inr.inr.inr =>
    simp only [beq_eq_false_iff_ne, ne_eq] at h1 h2 h3 h4 h5 h6 h7 h8 h9 h10 h11 h12 h13 h14 h15
    simp [exec, h1, h2, h3, h4, h5, h6, h7, h8, h9, h10, h11, h12, h13, h14, h15] at h
  all_goals
    simp only [exec, Int.reduceEq, if_true, if_false] at h
    repeat' split at h
    all_goals first | (cases h; exact .inl rfl) | (cases h; exact .inr rfl) | cases h
theorem stepM_err (m : MM) (he : ended m = false) : (stepM m).err = 0 ∨ (((stepM m).err = 26 ∨ (stepM m).err = 5) ∧ (stepM m).done = false) := by
  obtain ⟨hd, h0⟩ := ended_no he
  unfold stepM
  split
  · exact .inr ⟨.inl rfl, hd⟩
  · split
    · exact .inr ⟨.inl rfl, hd⟩
    · split
      · exact .inr ⟨.inl rfl, hd⟩
      · split
        · rename_i h
          exact .inr ⟨exec_err h, hd⟩
        · exact .inl h0
def EndF (k : Nat) (m : MM) (r : MM × Int) : Prop := MI k r.1 ∧ r.1.bs = m.bs ∧ ((r.2 = 27 ∧ r.1.done = false ∧ r.1.err = 0) ∨ (r.2 = 0 ∧ r.1.done = true ∧ r.1.err = 0) ∨ (r.2 = 0 ∧ r.1.done = false ∧ (r.1.err = 26 ∨ r.1.err = 5)))
theorem run_endF : ∀ (n k : Nat) (m : MM), MI k m → ended m = false → ∃ k', k' ≤ k + 2 * n ∧ EndF k' m (runE n m)
  | 0, k, m, hI, he => ⟨k, by omega, hI, rfl, .inl ⟨rfl, (ended_no he).1, (ended_no he).2⟩⟩
  | n + 1, k, m, hI, he => by
    obtain ⟨h1, h2, h3⟩ := stepM_keep hI he
    rw [runE]
    by_cases hs : ended (stepM m) = true
    · rw [if_pos hs]
      refine ⟨k + 2, by omega, h1, h2, ?_⟩
      rcases stepM_err m he with h4 | ⟨h4, h5⟩
      · refine .inr (.inl ⟨rfl, ?_, h4⟩)
        unfold ended at hs
        simpa [h4] using hs
      · exact .inr (.inr ⟨rfl, h5, h4⟩)
    · rw [if_neg hs]
      obtain ⟨k', k1, e1, e2, e3⟩ := run_endF n (k + 2) (stepM m) h1 (by simpa using hs)
      exact ⟨k', by omega, e1, e2.trans h2, e3⟩
def begM (bs : List Blk) (blk seed : Int) : MM := ⟨bs, [], [⟨blk, 0, []⟩], 0, seed, false, 0⟩
theorem begM_ren (f : Int → Int) (bs bs' : List Blk) (blk seed : Int) : renM f bs (begM bs' blk seed) = begM bs (f blk) seed := rfl
end Go.Proofs.YtgboboljgcfggaaGreatDoor
namespace Go.Proofs.YtgboboljgcfggaaGreatDoor
open Go.RowKit
end Go.Proofs.YtgboboljgcfggaaGreatDoor
namespace Go.Proofs.YtgboboljgcfggaaGreatDoor
open Go.RowKit
def begB (ss : List Stt) (pk : T) (id : Int) : Option Int := (ss.find? fun s => decide (s.pack = pk) && (s.id == id)).map Stt.block
def zAM : AM := ⟨⟨none, 0, [], none, 0, []⟩, [], none, 0, [], none, 0, 0, 0, false, 0⟩
def bAM (p : Prg) (b seed : Int) (B : Nat) : AM := ⟨p, [], none, 0, [⟨b, 0, none, 0, []⟩], some ⟨B, 0, none⟩, 1, 0, seed, false, 0⟩
def BegP (p : Prg) (pk : T) (id seed : Int) (w : World) (e : Ending) (w' : World) : Prop :=
  w.grownBy w' none ∧ ((errP p ≠ 0 ∧ e = .returned (.tuple #[zAM.v, iv 1])) ∨ (errP p = 0 ∧ begB p.ss pk id = none ∧ e = .returned (.tuple #[zAM.v, iv 8])) ∨
    ∃ b B, errP p = 0 ∧ begB p.ss pk id = some b ∧ e = .returned (.tuple #[(bAM p b seed B).v, iv 0]) ∧ w.heap.size ≤ B ∧ w'.heap[B]? = some (.cells #[iv b, iv 0, nilS] 158 (0, 0)))
structure BG (p : Prg) (pk : T) (id : Int) (w : World) (V : World) : Prop where
  gr : w.grownBy V none
  p0 : V.cell? ⟨w.heap.size, 0, none⟩ = some (.slice p.bA p.bs.length p.bc)
  p1 : V.cell? ⟨w.heap.size, 1, none⟩ = some (.slice p.sA p.ss.length p.sc)
  n0 : V.cell? ⟨w.heap.size + 1, 0, none⟩ = some (.string ⟨pk.toArray⟩)
  n1 : V.cell? ⟨w.heap.size + 1, 1, none⟩ = some (.int .i64 id)
  m : V.heap[w.heap.size + 2]? = some zM
theorem BG.of (p : Prg) (pk : T) (id : Int) (w : World) : BG p pk id w (((w.alloc (.cells #[.slice p.bA p.bs.length p.bc, .slice p.sA p.ss.length p.sc] 26)).alloc (.cells #[.string ⟨pk.toArray⟩, .int .i64 id] 33)).alloc zM) := by
  have h0 := al_newM w (.cells #[.slice p.bA p.bs.length p.bc, .slice p.sA p.ss.length p.sc] 26)
  have h1 := al_newM (w.alloc (.cells #[.slice p.bA p.bs.length p.bc, .slice p.sA p.ss.length p.sc] 26)) (.cells #[.string ⟨pk.toArray⟩, .int .i64 id] 33)
  have h2 := al_newM ((w.alloc (.cells #[.slice p.bA p.bs.length p.bc, .slice p.sA p.ss.length p.sc] 26)).alloc (.cells #[.string ⟨pk.toArray⟩, .int .i64 id] 33)) zM
  have g0 := (Below.heap_alloc (w.alloc (.cells #[.slice p.bA p.bs.length p.bc, .slice p.sA p.ss.length p.sc] 26)) (.cells #[.string ⟨pk.toArray⟩, .int .i64 id] 33) _ (heap_ltM h0)).trans h0
  have g1 := (Below.heap_alloc ((w.alloc (.cells #[.slice p.bA p.bs.length p.bc, .slice p.sA p.ss.length p.sc] 26)).alloc (.cells #[.string ⟨pk.toArray⟩, .int .i64 id] 33)) zM _ (heap_ltM g0)).trans g0
  have g2 := (Below.heap_alloc ((w.alloc (.cells #[.slice p.bA p.bs.length p.bc, .slice p.sA p.ss.length p.sc] 26)).alloc (.cells #[.string ⟨pk.toArray⟩, .int .i64 id] 33)) zM _ (heap_ltM h1)).trans h1
  have s1 : (w.alloc (.cells #[.slice p.bA p.bs.length p.bc, .slice p.sA p.ss.length p.sc] 26)).heap.size = w.heap.size + 1 := by simp
  have s2 : ((w.alloc (.cells #[.slice p.bA p.bs.length p.bc, .slice p.sA p.ss.length p.sc] 26)).alloc (.cells #[.string ⟨pk.toArray⟩, .int .i64 id] 33)).heap.size = w.heap.size + 2 := by simp
  rw [s1] at g2
  rw [s2] at h2
  refine ⟨((World.grownBy_alloc w _ none).trans (World.grownBy_alloc _ _ none)).trans (World.grownBy_alloc _ _ none), ?_, ?_, ?_, ?_, h2⟩
  · rw [Lib.cell_of_heap g1]; rfl
  · rw [Lib.cell_of_heap g1]; rfl
  · rw [Lib.cell_of_heap g2]; rfl
  · rw [Lib.cell_of_heap g2]; rfl
theorem BG.grow {p : Prg} {pk : T} {id : Int} {w V V' : World} (h : BG p pk id w V) (g : V.grownBy V' none) : BG p pk id w V' := by
  have l := heap_ltM h.m
  have c : ∀ a : Addr, a.block < V.heap.size → V'.cell? a = V.cell? a := fun a ha => World.cell?_of_block (g.block _ ha (by simp))
  exact ⟨h.gr.trans g, (c _ (show w.heap.size < _ by omega)).trans h.p0, (c _ (show w.heap.size < _ by omega)).trans h.p1, (c _ (show w.heap.size + 1 < _ by omega)).trans h.n0, (c _ (show w.heap.size + 1 < _ by omega)).trans h.n1, (g.block _ l (by simp)).trans h.m⟩
theorem zmc : zM = .cells #[nilS, nilS, nilS, nilS, iv 0, .int .u64 0, .bool false, iv 0] 50 (0, 0) := rfl
theorem begB_none {ss : List Stt} {pk : T} {id : Int} (h : ∀ s ∈ ss, ¬ (s.pack = pk ∧ s.id = id)) : begB ss pk id = none := by
  unfold begB
  rw [Option.map_eq_none_iff, List.find?_eq_none]
  intro s hs
  have := h s hs
  simpa using this
theorem begB_at {ss : List Stt} {pk : T} {id : Int} {k : Nat} (hk : k < ss.length) (h : ∀ s ∈ ss.take k, ¬ (s.pack = pk ∧ s.id = id)) (he : ss[k].pack = pk ∧ ss[k].id = id) : begB ss pk id = some ss[k].block := by
  unfold begB
  have h1 : ss = ss.take k ++ ss[k] :: ss.drop (k + 1) := by rw [← List.drop_eq_getElem_cons hk, List.take_append_drop]
  have h2 : (ss.take k).find? (fun s => decide (s.pack = pk) && (s.id == id)) = none := by
    rw [List.find?_eq_none]
    intro s hs
    have := h s hs
    simpa using this
  obtain ⟨x, hx⟩ : ∃ x, x = ss[k] := ⟨_, rfl⟩
  rw [← hx] at h1 he ⊢
  rw [h1, List.find?_append, h2]
  simp only [Option.none_or]
  rw [List.find?_cons_of_pos]
  · simp
  · simp [he.1, he.2]
theorem not_succ {ss : List Stt} {pk : T} {id : Int} {k : Nat} (hk : k < ss.length) (h : ∀ s ∈ ss.take k, ¬ (s.pack = pk ∧ s.id = id)) (he : ¬ (ss[k].pack = pk ∧ ss[k].id = id)) : ∀ s ∈ ss.take (k + 1), ¬ (s.pack = pk ∧ s.id = id) := fun q hq => by
  rw [List.take_succ_eq_append_getElem hk] at hq
  rcases List.mem_append.1 hq with h' | h'
  · exact h q h'
  · rw [List.mem_singleton.1 h']; exact he
def tgB (B k : Nat) : Tag := if k = B then .all else .no
theorem bAM_rdX {p : Prg} {w0 w1 : World} {b seed : Int} {B : Nat} (hp : p.Rd w0) (hg : w0.grownBy w1 none) (hB0 : w0.heap.size ≤ B) (hB : w1.heap[B]? = some (.cells #[iv b, iv 0, nilS] 158 (0, 0))) : (bAM p b seed B).RdX w0 (tgB B) w1 := by
  have l := heap_ltM hB
  have tB : tgB B B = .all := if_pos rfl
  refine ⟨hg, fun k => ?_, hp, LRd.nil _ _ _, .inr ⟨⟨B, 0, none⟩, rfl, l, ?_⟩, fun a e _ => ?_, by simp [bAM], by simp [bAM], by simp [bAM], fun f hf => ?_⟩
  · by_cases hk : k = B
    · subst hk; exact .inr ⟨hB0, l, tB⟩
    · exact .inl (if_neg hk)
  · intro j x hx i v hv
    simp only [bAM] at hx
    have hj : j = 0 := by
      rcases j with _ | j
      · rfl
      · simp at hx
    subst hj
    simp at hx
    subst hx
    simp only [Fr.cs] at hv
    rcases i with _ | _ | _ | i
    · simp at hv; subst hv; rw [show (⟨B, 0, none⟩ : Addr).add (0 * 3 + 0) = ⟨B, 0, none⟩ from rfl, Lib.cell_of_heap hB]; rfl
    · simp at hv; subst hv; rw [show (⟨B, 0, none⟩ : Addr).add (0 * 3 + 1) = ⟨B, 1, none⟩ from rfl, Lib.cell_of_heap hB]; rfl
    · simp at hv; subst hv; rw [show (⟨B, 0, none⟩ : Addr).add (0 * 3 + 2) = ⟨B, 2, none⟩ from rfl, Lib.cell_of_heap hB]; rfl
    · simp at hv
  · simp only [bAM] at e
    cases e
    exact .inr tB
  · simp only [bAM, List.mem_singleton] at hf
    subst hf
    exact LRd.nil _ _ _
theorem beg_fin {p : Prg} {pk : T} {id seed blk : Int} {w wr : World} (HB : BG p pk id w wr) (he : errP p = 0) (hb : begB p.ss pk id = some blk) (o : Obj) (x : Option Addr) (hx : p.sA = x) :
    BegP p pk id seed w (.returned (.tuple #[(bAM p blk seed (wr.heap.size + 1)).v, iv 0])) (set36 ((wr.alloc o).alloc (.cells #[iv blk, iv 0, nilS] 158)) (w.heap.size + 2) (.slice p.bA p.bs.length p.bc) (.slice x p.ss.length p.sc) nilS (.slice (some ⟨wr.heap.size + 1, 0, none⟩) 1 1) (iv 0) (.int .u64 seed) (.bool false) (iv 0)) := by
  subst hx
  have l := heap_ltM HB.m
  have g := (HB.gr.trans (World.grownBy_alloc wr o none)).trans (World.grownBy_alloc _ (.cells #[iv blk, iv 0, nilS] 158) none)
  have k := al_newM (wr.alloc o) (.cells #[iv blk, iv 0, nilS] 158)
  rw [show (wr.alloc o).heap.size = wr.heap.size + 1 by simp] at k
  obtain ⟨h1, h2, h3, h4, h5⟩ := set36_ok ((wr.alloc o).alloc (.cells #[iv blk, iv 0, nilS] 158)) (w.heap.size + 2) (.slice p.bA p.bs.length p.bc) (.slice p.sA p.ss.length p.sc) nilS (.slice (some ⟨wr.heap.size + 1, 0, none⟩) 1 1) (iv 0) (.int .u64 seed) (.bool false) (iv 0)
  have g' := grown_setMM (m := w.heap.size + 2) g (by omega) (bAM p blk seed (wr.heap.size + 1))
  exact ⟨g', .inr (.inr ⟨blk, wr.heap.size + 1, he, hb, rfl, by omega, (h5 _ (by omega)).trans k⟩)⟩
end Go.Proofs.YtgboboljgcfggaaGreatDoor
namespace Go.Proofs.YtgboboljgcfggaaGreatDoor
open Go.RowKit
set_option maxRecDepth 100000 in
set_option maxHeartbeats 8000000 in
theorem begin_any (p : Prg) (pk : T) (id seed : Int) (w : World) (hp : p.Rd w) (hb : p.bs.length ≤ 9223372036854775807) (hs : p.ss.length ≤ 9223372036854775807) (hi : ∀ b ∈ p.bs, b.ins.length ≤ 9223372036854775807) (hnl : ∀ b ∈ p.bs, ∀ x ∈ b.ins, x.name.length ≤ 9223372036854775807) (hnp : ∀ s ∈ p.ss, s.pack.length ≤ 9223372036854775807) :
    Calls Tryz.prog 45 #[p.v, .agg #[tv pk, iv id], .int .u64 seed] w (BegP p pk id seed w) := by
  have CK := Lib.hid (fun V (h : w.grownBy V none) => check_any p V (hp.below ⟨h.os, h.tape, h.output, h.size, fun k hk => h.block k hk (by simp)⟩) hb hs hi hnl hnp)
  have HP := Lib.hid (fun V (h : w.grownBy V none) => hp.below (⟨h.os, h.tape, h.output, h.size, fun k hk => h.block k hk (by simp)⟩ : Below w.heap.size w V))
  have BG0 := Lib.hid (BG.of p pk id w)
  unfold Prg.v at *
  clear hp hi hnl hnp
  go_enter Tryz.func45, Tryz.ntmps45
  by_cases he : errP p = 0
  · rw [he] at CK
    have HE := Lib.hid he
    clear he
    go_wp2_with (go_at_call 26; refine (CK.out _ BG0.out.gr).mono ?_; rintro e w1 ⟨rfl, b1⟩; have bg := BG0.out.grow (grown_below b1 none); have BG1 := Lib.hid bg; obtain ⟨-, p0, p1, n0, n1, -⟩ := bg; clear b1)
    clear CK BG0
    have FB := Lib.hid (Nat.le_refl 0)
    go_loopw [9, 17] (fun _ i V => ∃ k : Nat, k ≤ p.ss.length ∧ i = .int .i64 k ∧ Hid (BG p pk id w V) ∧ Hid (∀ s ∈ p.ss.take k, ¬ (s.pack = pk ∧ s.id = id))) (fun _ i _ => p.ss.length - (intOf i).toNat)
    case atStart => exact ⟨0, Nat.zero_le _, rfl, BG1, Lib.hid (by simp)⟩
    case round =>
      clear BG1 p0 p1 n0 n1
      obtain ⟨k, hk, rfl, HB, HN⟩ := hrel
      by_cases hlt : k < p.ss.length
      · obtain ⟨a, a1, hA, ha, hab, c0, c1, c2⟩ := (HP.out _ HB.out.gr).s.stt hlt
        obtain ⟨s, hs'⟩ : ∃ s, s = p.ss[k] := ⟨_, rfl⟩
        rw [← hs'] at c0 c1 c2
        have HS := Lib.hid hs'
        have G1 := Lib.hid (fun o => HB.out.grow (World.grownBy_alloc wr o none))
        have G2 := Lib.hid (fun o o' => (HB.out.grow (World.grownBy_alloc wr o none)).grow (World.grownBy_alloc _ o' none))
        have a0 := fun o => (G1.out o).n0
        have a1' := fun o => (G1.out o).n1
        have a2 := fun o => (G1.out o).p0
        have a3 := fun o => (G1.out o).p1
        have m0 := fun o o' => (cells36 ((G2.out o o').m.trans (congrArg some zmc))).1.1
        have m1 := fun o o' => (cells36 ((G2.out o o').m.trans (congrArg some zmc))).1.2.1
        have m2 := fun o o' => (cells36 ((G2.out o o').m.trans (congrArg some zmc))).1.2.2.1
        have m3 := fun o o' => (cells36 ((G2.out o o').m.trans (congrArg some zmc))).1.2.2.2.1
        have m4 := fun o o' => (cells36 ((G2.out o o').m.trans (congrArg some zmc))).1.2.2.2.2.1
        have m5 := fun o o' => (cells36 ((G2.out o o').m.trans (congrArg some zmc))).1.2.2.2.2.2.1
        have m6 := fun o o' => (cells36 ((G2.out o o').m.trans (congrArg some zmc))).1.2.2.2.2.2.2.1
        have m7 := fun o o' => (cells36 ((G2.out o o').m.trans (congrArg some zmc))).1.2.2.2.2.2.2.2
        have mf := fun o o' => (cells36 ((G2.out o o').m.trans (congrArg some zmc))).2
        rw [hA] at a3 ⊢
        have HA := Lib.hid hA
        clear hs' hA
        go_wp2
        · rename_i z1 z2
          have hq := begB_at hlt HN.out (by rw [← HS.out]; exact ⟨z1, z2⟩)
          rw [← HS.out] at hq
          have W9 := Lib.hid (beg_fin (seed := seed) HB.out HE.out hq (.cells #[.string ⟨pk.toArray⟩, .int .i64 id, .int .i64 s.block] 79) _ HA.out)
          refine bodyPost_ret (v := .tuple #[(bAM p s.block seed (wr.heap.size + 1)).v, iv 0]) ?_ rfl W9.out
          simp [results, Tryz.results45, go_sem, AM.v, bAM, HA.out, m0, m1, m2, m3, m4, m5, m6, m7]
        · rename_i z1 z2
          exact ⟨⟨k + 1, by omega, by simp, Lib.hid (G1.out _), Lib.hid (not_succ hlt HN.out (by rw [← HS.out]; exact fun h => z2 h.2))⟩, by simp [intOf]; omega⟩
        · rename_i z1
          exact ⟨⟨k + 1, by omega, by simp, Lib.hid (G1.out _), Lib.hid (not_succ hlt HN.out (by rw [← HS.out]; exact fun h => z1 h.1))⟩, by simp [intOf]; omega⟩
      · obtain rfl : k = p.ss.length := by omega
        have hn := HN.out
        rw [List.take_length] at hn
        have h8 := begB_none hn
        obtain ⟨hg, -, -, -, -, km⟩ := HB.out
        rw [zmc] at km
        obtain ⟨⟨q0, q1, q2, q3, q4, q5, q6, q7⟩, qf⟩ := cells36 km
        have W9 : ∀ V, V = setMM wr (w.heap.size + 2) zAM → Hid (BegP p pk id seed w (.returned (.tuple #[zAM.v, iv 8])) V) := fun V e => Lib.hid ⟨by rw [e]; exact grown_setMM hg (by omega) zAM, .inr (.inl ⟨HE.out, h8, rfl⟩)⟩
        have W9 := Lib.hid W9
        clear hn h8 hg km HN HB
        go_wp2
        refine bodyPost_ret (v := .tuple #[zAM.v, iv 8]) ?_ rfl (W9.out _ rfl).out
        simp [results, Tryz.results45, go_sem, AM.v, zAM, q0, q1, q2, q3, q4, q5, q6, q7]
  · have HE := Lib.hid he
    have h1 : (errP p != 0) = true := by simpa using he
    obtain ⟨E, hE⟩ : ∃ E, E = errP p := ⟨_, rfl⟩
    rw [← hE] at CK h1
    clear he hE
    go_wp2_with (go_at_call 26; refine (CK.out _ BG0.out.gr).mono ?_; rintro e w1 ⟨rfl, b1⟩; have bg := BG0.out.grow (grown_below b1 none); have BG1 := Lib.hid bg; have km := bg.m; rw [zmc] at km; obtain ⟨⟨q0, q1, q2, q3, q4, q5, q6, q7⟩, qf⟩ := cells36 km; clear b1 bg km)
    have W9 : Hid (BegP p pk id seed w (.returned (.tuple #[zAM.v, iv 1])) (setMM w1 (w.heap.size + 2) zAM)) := Lib.hid ⟨grown_setMM BG1.out.gr (by omega) zAM, .inl ⟨HE.out, rfl⟩⟩
    refine bodyPost_ret (v := .tuple #[zAM.v, iv 1]) ?_ rfl W9.out
    simp [results, Tryz.results45, go_sem, AM.v, zAM, q0, q1, q2, q3, q4, q5, q6, q7]
end Go.Proofs.YtgboboljgcfggaaGreatDoor
namespace Go.Proofs.YtgboboljgcfggaaGreatDoor
theorem fe_zeroM : ∀ {l : List Int}, fe l = 0 → ∀ x ∈ l, x = 0
  | [], _, x, h => by simp at h
  | y :: l, e, x, h => by
    by_cases hy : y = 0
    · simp only [fe, if_pos hy] at e
      rcases List.mem_cons.1 h with rfl | h
      · exact hy
      · exact fe_zeroM e x h
    · simp only [fe, if_neg hy] at e
      exact absurd e hy
theorem ckI_okM {bs : List Blk} {nb : Nat} {x : Ins} (h : ckI bs nb x.op x.a x.b x.name = 0) : vIns bs nb x := by
  unfold ckI ckB at h
  split at h
  · cases h
  · split at h
    · cases h
    · split at h
      · cases h
      · split at h
        · cases h
        · rename_i h1 _ _ h2
          exact ⟨by simpa using h1, by simpa using h2⟩
theorem errP_parts {p : Prg} (h : errP p = 0) : p.bs.length ≤ 2000 ∧ cntW p.bs ≤ 20000 ∧ (∀ b ∈ p.bs, errB p.bs b = 0) ∧ ∀ i, i < p.ss.length → errS p.bs p.ss i = 0 := by
  unfold errP at h
  split at h
  · cases h
  · rename_i h1
    split at h
    · rename_i h2; exact absurd h h2
    · rename_i h2
      refine ⟨by omega, by omega, fun b hb => ?_, fun i hi => ?_⟩
      · exact fe_zeroM (Decidable.not_not.1 h2) _ (List.mem_map.2 ⟨b, hb, rfl⟩)
      · exact fe_zeroM h _ (List.mem_map.2 ⟨i, by simpa using hi, rfl⟩)
theorem errP_vBs {p : Prg} (h : errP p = 0) : vBs p.bs := by
  intro b hb x hx
  have h1 := (errP_parts h).2.2.1 b hb
  unfold errB at h1
  split at h1
  · cases h1
  · exact ckI_okM (fe_zeroM h1 _ (List.mem_map.2 ⟨x, hx, rfl⟩))
end Go.Proofs.YtgboboljgcfggaaGreatDoor
namespace Go.Proofs.YtgboboljgcfggaaGreatDoor
open Go.RowKit
theorem beg_plain {p : Prg} {pk : T} {id blk : Int} (h : errP p = 0) (hb : begB p.ss pk id = some blk) : plainB p.bs blk = true := by
  obtain ⟨-, -, -, h4⟩ := errP_parts h
  unfold begB at hb
  obtain ⟨s, hs, rfl⟩ := Option.map_eq_some_iff.1 hb
  obtain ⟨i, hi⟩ := List.getElem?_of_mem (List.mem_of_find?_eq_some hs)
  have h5 := h4 i (List.getElem?_eq_some_iff.1 hi).1
  unfold errS at h5
  rw [hi] at h5
  simp only at h5
  split at h5
  · cases h5
  · split at h5
    · cases h5
    · rename_i h2
      simp only [not_or] at h2
      simpa using h2.2.2
theorem beg_MI {p : Prg} {pk : T} {id blk : Int} (h : errP p = 0) (hb : begB p.ss pk id = some blk) (hl : ∀ b ∈ p.bs, b.ins.length ≤ 9223372036854775807) (seed : Int) : MI 1 (begM p.bs blk seed) := by
  have h1 := beg_plain h hb
  unfold plainB at h1
  simp only [Bool.and_eq_true, decide_eq_true_eq] at h1
  obtain ⟨h1, h2⟩ := h1
  refine ⟨⟨by simp [begM], by simp [begM], by simp [begM], fun f hf => ?_⟩, errP_vBs h, hl, by simp [begM], rfl, fun h => by simp [begM] at h⟩
  simp only [begM, List.mem_singleton] at hf
  subst hf
  refine ⟨h1, ?_, by simp, by simp⟩
  show ∃ b, p.bs[blk.toNat]? = some b ∧ _
  cases hq : p.bs[blk.toNat]? with
  | none => rw [hq] at h2; simp at h2
  | some b => exact ⟨b, rfl, Int.le_refl _, by show (0 : Int) ≤ _; omega⟩
def RnP (p : Prg) (blk seed : Int) (w : World) (e : Ending) (w' : World) : Prop := w.grownBy w' none ∧ ∃ M : AM, e = .returned (.tuple #[M.v, iv (runE 500 (begM p.bs blk seed)).2]) ∧ M.er = (runE 500 (begM p.bs blk seed)).1 ∧ M.Rd w'
abbrev zC : Obj := .cells #[.slice none 0 0, .slice none 0 0, .slice none 0 0, .slice none 0 0, .int .i64 0, .int .u64 0, .bool false, .int .i64 0] 50
set_option maxRecDepth 100000 in
set_option maxHeartbeats 4000000 in
theorem run17_any (p : Prg) (n : Nam) (blk seed : Int) (w : World) (hp : p.Rd w) (hl : p.Len) (he : errP p = 0) (hb : begB p.ss n.pack n.id = some blk) :
    Calls Tryz.prog 17 #[p.v, .agg #[.string ⟨n.pack.toArray⟩, .int .i64 n.id], .int .u64 seed] w (RnP p blk seed w) := by
  have HB := Lib.hid (fun V (g : w.grownBy V none) => show Calls Tryz.prog 45 #[p.v, .agg #[.string ⟨n.pack.toArray⟩, .int .i64 n.id], .int .u64 seed] V (fun e w' => ∃ B : Nat, e = .returned (.tuple #[(bAM p blk seed B).v, iv 0]) ∧ V.grownBy w' none ∧ V.heap.size ≤ B ∧ (bAM p blk seed B).RdX w (tgB B) w') from
    (begin_any p n.pack n.id seed V (hp.below (below_of g)) hl.b hl.s hl.i hl.n hl.k).mono fun e w' h => by
      obtain ⟨g1, ⟨h2, -⟩ | ⟨-, h2, -⟩ | ⟨b, B, -, h3, rfl, h4, h5⟩⟩ := h
      · exact absurd he h2
      · rw [hb] at h2; cases h2
      · rw [hb] at h3
        cases h3
        exact ⟨B, rfl, g1, h4, bAM_rdX hp (g.trans g1) (Nat.le_trans g.size h4) h5⟩)
  have HR := Lib.hid (fun (B : Nat) V (hx : (bAM p blk seed B).RdX w (tgB B) V) => show Calls Tryz.prog 46 #[(bAM p blk seed B).v, iv 500] V (RunP w (tgB B) (bAM p blk seed B) V (runE 500 (begM p.bs blk seed))) from run_go w (tgB B) (bAM p blk seed B) V 500 1 hx rfl (beg_MI he hb hl.i seed) (by omega) (by omega) (by simp [bAM]))
  unfold RnP
  generalize runE 500 (begM p.bs blk seed) = rr at *
  obtain ⟨rm, rc⟩ := rr
  obtain ⟨nb, hnb⟩ : ∃ m, p.bs.length = m := ⟨_, rfl⟩
  obtain ⟨ns, hns⟩ : ∃ m, p.ss.length = m := ⟨_, rfl⟩
  have GX := Lib.hid (((World.grownBy_alloc w (.cells #[.slice p.bA nb p.bc, .slice p.sA ns p.sc] 26) none).trans (World.grownBy_alloc _ (.cells #[.string ⟨n.pack.toArray⟩, .int .i64 n.id] 33) none)).trans (World.grownBy_alloc _ zC none))
  have X0 := Lib.hid (gr_h ((gr_al _ (.cells #[.string ⟨n.pack.toArray⟩, .int .i64 n.id] 33)).trans (gr_al _ zC)) (al_new w (.cells #[.slice p.bA nb p.bc, .slice p.sA ns p.sc] 26)))
  have X1 := Lib.hid (gr_h (gr_al _ zC) (al_at (w.alloc (.cells #[.slice p.bA nb p.bc, .slice p.sA ns p.sc] 26)) (.cells #[.string ⟨n.pack.toArray⟩, .int .i64 n.id] 33) (A := w.heap.size + 1) (by simp)))
  have X2 := Lib.hid (al_at ((w.alloc (.cells #[.slice p.bA nb p.bc, .slice p.sA ns p.sc] 26)).alloc (.cells #[.string ⟨n.pack.toArray⟩, .int .i64 n.id] 33)) zC (A := w.heap.size + 1 + 1) (by simp))
  unfold Prg.v at HB ⊢
  rw [hnb, hns] at HB ⊢
  clear hp hl he hb hnb hns
  obtain ⟨k0, hk0⟩ : ∃ k, w.heap.size = k := ⟨_, rfl⟩
  have HK := Lib.hid hk0
  rw [hk0] at X0 X1 X2
  go_enter Tryz.func17, Tryz.ntmps17
  go_upto_region 1 with fail
  (try rw [hk0])
  clear hk0
  generalize ((w.alloc (.cells #[.slice p.bA nb p.bc, .slice p.sA ns p.sc] 26)).alloc (.cells #[.string ⟨n.pack.toArray⟩, .int .i64 n.id] 33)).alloc _ = W0 at *
  have BX := Lib.hid (fun V (g : Gr W0 V) => (show V.cell? ⟨k0, 0, none⟩ = some (.slice p.bA nb p.bc) ∧ V.cell? ⟨k0, 1, none⟩ = some (.slice p.sA ns p.sc) ∧ V.cell? ⟨k0 + 1, 0, none⟩ = some (.string ⟨n.pack.toArray⟩) ∧ V.cell? ⟨k0 + 1, 1, none⟩ = some (.int .i64 n.id) from by
    have h0 := gr_h g X0.out
    have h1 := gr_h g X1.out
    exact ⟨by rw [Lib.cell_of_heap h0]; rfl, by rw [Lib.cell_of_heap h0]; rfl, by rw [Lib.cell_of_heap h1]; rfl, by rw [Lib.cell_of_heap h1]; rfl⟩))
  obtain ⟨p0, p1, n0, n1⟩ := BX.out _ (gr_refl _)
  have MK : ∀ B : Nat, ∃ M1 : AM, M1 = bAM p blk seed B := fun B => ⟨_, rfl⟩
  go_upto_region 2 with (go_at_call 45; refine (HB.out _ GX.out).mono ?_; rintro e w1 ⟨B, rfl, g1, hBB, hx⟩; have HBB := Lib.hid hBB; clear hBB; have x1 := HR.out B; obtain ⟨M1, hM1⟩ := MK B; rw [← hM1] at hx x1 ⊢; have HX := Lib.hid hx; have Y1 := Lib.hid x1; have G1 := Lib.hid g1; clear hM1 hx x1 g1; unfold AM.v)
  have HX2 := Lib.hid (HX.out.grow (World.grownBy_alloc w1 (.cells #[.slice M1.p.bA M1.p.bs.length M1.p.bc, .slice M1.p.sA M1.p.ss.length M1.p.sc, .slice M1.sA M1.S.length M1.sc, .slice M1.fA M1.F.length M1.fc, .int .i64 M1.steps, .int .u64 M1.seed, .bool M1.done, .int .i64 M1.err] 50) none))
  have G2 := Lib.hid (G1.out.trans (World.grownBy_alloc w1 (.cells #[.slice M1.p.bA M1.p.bs.length M1.p.bc, .slice M1.p.sA M1.p.ss.length M1.p.sc, .slice M1.sA M1.S.length M1.sc, .slice M1.fA M1.F.length M1.fc, .int .i64 M1.steps, .int .u64 M1.seed, .bool M1.done, .int .i64 M1.err] 50) none))
  have XM := Lib.hid (al_newM w1 (.cells #[.slice M1.p.bA M1.p.bs.length M1.p.bc, .slice M1.p.sA M1.p.ss.length M1.p.sc, .slice M1.sA M1.S.length M1.sc, .slice M1.fA M1.F.length M1.fc, .int .i64 M1.steps, .int .u64 M1.seed, .bool M1.done, .int .i64 M1.err] 50))
  obtain ⟨km, hkm⟩ : ∃ k, w1.heap.size = k := ⟨_, rfl⟩
  rw [hkm] at XM ⊢
  clear hkm p0 p1 n0 n1 HX
  have Y2 := Lib.hid (Y1.out _ HX2.out)
  unfold AM.v at Y2
  generalize w1.alloc (.cells #[.slice M1.p.bA M1.p.bs.length M1.p.bc, .slice M1.p.sA M1.p.ss.length M1.p.sc, .slice M1.sA M1.S.length M1.sc, .slice M1.fA M1.F.length M1.fc, .int .i64 M1.steps, .int .u64 M1.seed, .bool M1.done, .int .i64 M1.err] 50) = W2 at *
  obtain ⟨⟨m0, m1, m2, m3, m4, m5, m6, m7⟩, mf⟩ := cells36 XM.out
  clear Y1 HR HB
  have HZ := Lib.hid (fun V (g : Gr W2 V) => cells36 (gr_h (G2.out.trans g) X2.out))
  clear X0 X1 BX MK XM
  go_upto_region 5 with (go_at_call 46; refine Y2.out.mono ?_; rintro e w3 ⟨g3, M2, tg2, rfl, -, her, hx2, htg⟩; have HER := Lib.hid her; have HTG := Lib.hid htg; clear htg; have HX3 := Lib.hid hx2; have G3 := Lib.hid g3; obtain ⟨⟨z0, z1, z2, z3, z4, z5, z6, z7⟩, zf⟩ := HZ.out _ g3; clear her hx2 g3; unfold AM.v)
  obtain ⟨kz, hkz⟩ : ∃ k, k0 + 1 + 1 = k := ⟨_, rfl⟩
  rw [hkz] at X2
  rw [hkz]
  have K3 := Lib.hid (gr_h (G2.out.trans G3.out) X2.out)
  have kl : kz < W0.heap.size := heap_ltM X2.out
  have K9 := Lib.hid (show (setMM w3 kz M2).heap[kz]? = some (.cells #[.slice M2.p.bA M2.p.bs.length M2.p.bc, .slice M2.p.sA M2.p.ss.length M2.p.sc, .slice M2.sA M2.S.length M2.sc, .slice M2.fA M2.F.length M2.fc, .int .i64 M2.steps, .int .u64 M2.seed, .bool M2.done, .int .i64 M2.err] 50 (0, 0)) from by
    have h := K3.out
    unfold setMM set36
    simp [World.setCell, Array.getElem?_modify, h])
  have G9 := Lib.hid (show w.grownBy (setMM w3 kz M2) none from grown_setMM (GX.out.trans (G2.out.trans G3.out)) (by have := HK.out; omega) M2)
  have R9 := Lib.hid (show M2.Rd (setMM w3 kz M2) from (HX3.out.keep G9.out (by rw [show (setMM w3 kz M2).heap.size = w3.heap.size from (set36_ok w3 kz (.slice M2.p.bA M2.p.bs.length M2.p.bc) (.slice M2.p.sA M2.p.ss.length M2.p.sc) (.slice M2.sA M2.S.length M2.sc) (.slice M2.fA M2.F.length M2.fc) (iv M2.steps) (.int .u64 M2.seed) (.bool M2.done) (iv M2.err)).2.2.2.1]; exact Nat.le_refl _) (fun k _ hk => by
      refine (set36_ok w3 kz (.slice M2.p.bA M2.p.bs.length M2.p.bc) (.slice M2.p.sA M2.p.ss.length M2.p.sc) (.slice M2.sA M2.S.length M2.sc) (.slice M2.fA M2.F.length M2.fc) (iv M2.steps) (.int .u64 M2.seed) (.bool M2.done) (iv M2.err)).2.2.2.2 k (fun e => hk ?_)
      have h2 := HBB.out
      have h3 := G2.out.size
      rw [HTG.out k (by omega)]
      exact if_neg (by omega))).rd)
  obtain ⟨⟨c0, c1, c2, c3, c4, c5, c6, c7⟩, -⟩ := cells36 K9.out
  obtain ⟨V9, hV⟩ : ∃ V, V = setMM w3 kz M2 := ⟨_, rfl⟩
  rw [← hV] at c0 c1 c2 c3 c4 c5 c6 c7 G9 R9
  unfold setMM set36 at hV
  rw [← hV]
  refine bodyPost_ret (v := .tuple #[M2.v, iv rc]) ?_ rfl ⟨G9.out, M2, rfl, HER.out, R9.out⟩
  simp [results, Tryz.results17, go_sem, AM.v, c0, c1, c2, c3, c4, c5, c6, c7]
end Go.Proofs.YtgboboljgcfggaaGreatDoor
namespace Go.Proofs.YtgboboljgcfggaaGreatDoor
open Go.RowKit
def vR (m : MM) : MV := if m.done then (match unsn m.S with | some (_, v) => v | none => .mk 0 0 0 []) else .mk 0 0 0 []
def iR (m : MM) : Int := if m.done then 0 else if m.err = 0 then 18 else m.err
theorem vR_ren (f : Int → Int) (bs : List Blk) (m : MM) : vR (renM f bs m) = ren f (vR m) := by
  have z : ren f (.mk 0 0 0 []) = .mk 0 0 0 [] := ren_num f 0 0 (by decide)
  unfold vR
  show (if m.done then (match unsn (m.S.map (ren f)) with | some (_, v) => v | none => .mk 0 0 0 []) else .mk 0 0 0 []) = _
  rw [unsn_map]
  split
  · cases unsn m.S with
    | none => exact z.symm
    | some q => rfl
  · exact z.symm
theorem iR_ren (f : Int → Int) (bs : List Blk) (m : MM) : iR (renM f bs m) = iR m := rfl
theorem result_any (M : AM) (w : World) (hM : M.Rd w) (hd : M.done = true → M.S ≠ []) (hn : M.S.length ≤ 1000000) : ∃ x : AV, LRd w.heap.size noT w x.A x.c x.list ∧ x.er = vR M.er ∧
    ∀ V, w.grownBy V none → Calls Tryz.prog 18 #[M.v] V fun e w' => e = .returned (.tuple #[x.v, iv (iR M.er)]) ∧ V.grownBy w' none := by
  have d1 : M.er.done = M.done := rfl
  have d2 : M.er.err = M.err := rfl
  have d3 : M.er.S = ers M.S := rfl
  have z : (AV.mk 0 0 none 0 0 []).er = .mk 0 0 0 [] := by rw [AV.er, ers]
  have zr : LRd w.heap.size noT w (AV.mk 0 0 none 0 0 []).A (AV.mk 0 0 none 0 0 []).c (AV.mk 0 0 none 0 0 []).list := LRd.nil _ _ _
  by_cases h : M.done = true
  · rcases snoc_cases M.S with h0 | ⟨S, x, hS⟩
    · exact absurd h0 (hd h)
    · refine ⟨x, hM.s.hr x (by rw [hS]; simp), ?_, fun V g => ?_⟩
      · unfold vR
        rw [d1, d3, if_pos h, hS, ers_append, ers_cons, ers_nil, unsn_snoc]
      · have e : iR M.er = 0 := by unfold iR; rw [d1, if_pos h]
        rw [e]
        exact result_done M V S x (hM.grow g) h hS hn
  · have h' : M.done = false := by simpa using h
    have e1 : vR M.er = .mk 0 0 0 [] := by unfold vR; rw [d1, if_neg h]
    refine ⟨AV.mk 0 0 none 0 0 [], zr, by rw [z, e1], fun V _ => ?_⟩
    by_cases h2 : M.err = 0
    · have e : iR M.er = 18 := by unfold iR; rw [d1, d2, if_neg h, if_pos h2]
      rw [e]
      exact result_no M V h' h2
    · have e : iR M.er = M.err := by unfold iR; rw [d1, d2, if_neg h, if_neg h2]
      rw [e]
      exact result_err M V h' (by simpa using h2)
theorem runs_alike {X Y : Prg} {f : Int → Int} {pk : T} {id b b' seed : Int} (hs : Sub X.bs Y.bs f) (heY : errP Y = 0) (hbY : begB Y.ss pk id = some b') (hf : f b' = b) (hl : ∀ b ∈ Y.bs, b.ins.length ≤ 9223372036854775807) :
    runE 500 (begM X.bs b seed) = (renM f X.bs (runE 500 (begM Y.bs b' seed)).1, (runE 500 (begM Y.bs b' seed)).2) := by
  have hI := beg_MI heY hbY hl seed
  have h := run_ren (f := f) (bs := X.bs) 500 1 (begM Y.bs b' seed) hs hI rfl
  rw [begM_ren, hf] at h
  exact h
theorem run_ok {Y : Prg} {pk : T} {id b seed : Int} (he : errP Y = 0) (hb : begB Y.ss pk id = some b) (hl : ∀ b ∈ Y.bs, b.ins.length ≤ 9223372036854775807) : ∀ m, m = (runE 500 (begM Y.bs b seed)).1 → (m.done = true → m.S ≠ []) ∧ m.S.length ≤ 1000000 := by
  rintro m rfl
  obtain ⟨k', h1, hE⟩ := run_endF 500 1 (begM Y.bs b seed) (beg_MI he hb hl seed) rfl
  have hI := hE.1
  refine ⟨fun hd => hI.ds ?_, by have := hI.ok.1; omega⟩
  have h2 := hI.fd
  rw [hd] at h2
  simpa using h2.symm
end Go.Proofs.YtgboboljgcfggaaGreatDoor
namespace Go.Proofs.YtgboboljgcfggaaGreatDoor
open Go.RowKit Go.Maps
theorem insS_lenR : ∀ (l : List Stt) (s : Stt), (insS l s).length ≤ l.length + 1 := by
  intro l
  induction l with
  | nil => intro s; simp [insS]
  | cons x l ih =>
    intro s
    rw [insS]
    split
    · have := ih s
      simp only [List.length_cons]
      omega
    · split <;> simp
theorem starts_lenR (b : T × Int → Int) : ∀ (r : List (T × Int)) (l : List Stt), (r.foldl (fun l n => insS l (stOf b n)) l).length ≤ l.length + r.length
  | [], l => by simp
  | n :: r, l => by
    rw [List.foldl_cons]
    have h1 := starts_lenR b r (insS l (stOf b n))
    have h2 := insS_lenR l (stOf b n)
    simp only [List.length_cons]
    omega
theorem ckI_name {bs : List Blk} {nb : Nat} {op a b : Int} {name : T} (h : ckI bs nb op a b name = 0) : name.length ≤ 1 := by
  unfold ckI ckB at h
  split at h
  · cases h
  · split at h
    · cases h
    · rename_i h2
      split at h
      · cases h
      · rename_i h3
        cases e : fN op with
        | false => rw [e] at h2; simp at h2; rw [h2.2]; simp
        | true =>
          rw [e] at h3
          simp at h3
          by_cases h1 : name.length = 1
          · omega
          · rw [nmOk_len h1] at h3; cases h3
theorem linked_len {X : Prg} {L : List Cod} {R : List Nam} {K : List Sp} (he : errP X = 0) (hs : X.ss = startsOf (rootN L K) (R.map Nam.pr)) (hr : R.length ≤ 8) (hok : ∀ n ∈ R, n.Ok) (hi : ∀ b ∈ X.bs, b.ins.length ≤ 100000) : X.Len := by
  obtain ⟨h1, -, h3, -⟩ := errP_parts he
  have h2 : X.ss.length ≤ 8 := by
    have h := starts_lenR (rootN L K) (R.map Nam.pr) []
    rw [hs]
    simp only [List.length_nil, Nat.zero_add, List.length_map] at h
    exact Nat.le_trans h hr
  refine ⟨by omega, by omega, fun b hb => by have := hi b hb; omega, fun b hb x hx => ?_, fun s h => ?_⟩
  · have h4 := h3 b hb
    unfold errB at h4
    split at h4
    · cases h4
    · have := ckI_name (fe0.1 h4 _ (List.mem_map.2 ⟨x, hx, rfl⟩))
      omega
  · rw [hs] at h
    obtain ⟨n, hn, rfl⟩ := (startsOf_mem _ _ _).1 h
    obtain ⟨m, hm, rfl⟩ := List.mem_map.1 hn
    have h5 := (hok m hm).1
    have e : maxLen = 9223372036854775807 := rfl
    simp only [e] at h5
    exact h5
theorem errQ_linked {L : List Cod} {R : List Nam} (h : (linkV L R).1 = 0) : errQ (linkV L R).2.1 (linkV L R).2.2 = 0 := by
  obtain ⟨K0, K, -, -, -, hq, e⟩ := linkV_ok h
  rw [e]
  exact hq
theorem roots_runs {L : List Cod} {R : List Nam} {n : Nam} {X Y : Prg} (hn : n ∈ R) (h : (linkV L R).1 = 0) (hX : X.bs.map Blk.pb = (linkV L R).2.1) (hXs : X.ss = (linkV L R).2.2) (hY : Y.bs.map Blk.pb = (linkV L [n]).2.1) (hYs : Y.ss = (linkV L [n]).2.2)
    (hI : ∀ c ∈ L, ∀ b ∈ c.bs, b.ins.length ≤ 100000) (hr : R.length ≤ 8) (hok : ∀ n ∈ R, n.Ok) (hiX : ∀ b ∈ X.bs, b.ins.length ≤ 100000) (hiY : ∀ b ∈ Y.bs, b.ins.length ≤ 100000) (seed : Int) :
    (linkV L [n]).1 = 0 ∧ ∃ (f : Int → Int) (m : MM) (c : Int), (m.done = true → m.S ≠ []) ∧ m.S.length ≤ 1000000 ∧
      (∀ V, X.Rd V → Calls Tryz.prog 17 #[X.v, .agg #[.string ⟨n.pack.toArray⟩, .int .i64 n.id], .int .u64 seed] V fun e w' => V.grownBy w' none ∧ ∃ M : AM, e = .returned (.tuple #[M.v, iv c]) ∧ M.er = renM f X.bs m ∧ M.Rd w') ∧
      (∀ V, Y.Rd V → Calls Tryz.prog 17 #[Y.v, .agg #[.string ⟨n.pack.toArray⟩, .int .i64 n.id], .int .u64 seed] V fun e w' => V.grownBy w' none ∧ ∃ M : AM, e = .returned (.tuple #[M.v, iv c]) ∧ M.er = m ∧ M.Rd w') := by
  obtain ⟨K, K', e1, e2, sub, idf⟩ := root_alone hn h hI
  have h2 : (linkV L [n]).1 = 0 := by rw [e2]
  have eX : errP X = 0 := by rw [errP_pl, hX, hXs]; exact errQ_linked h
  have eY : errP Y = 0 := by rw [errP_pl, hY, hYs]; exact errQ_linked h2
  have sX : X.ss = startsOf (rootN L K) (R.map Nam.pr) := by rw [hXs, e1]
  have sY : Y.ss = startsOf (rootN L K') ([n].map Nam.pr) := by rw [hYs, e2]; rfl
  have lX := linked_len eX sX hr hok hiX
  have lY := linked_len eY sY (by simp) (fun m hm => by rw [List.mem_singleton] at hm; subst hm; exact hok m hn) hiY
  have bX : begB X.ss n.pack n.id = some (rootN L K n.pr) := by
    rw [sX]
    exact find_start (n := n.pr) (List.mem_map.2 ⟨n, hn, rfl⟩)
  have bY : begB Y.ss n.pack n.id = some (rootN L K' n.pr) := by
    rw [sY]
    exact find_start (n := n.pr) (List.mem_map.2 ⟨n, by simp, rfl⟩)
  have al := runs_alike (seed := seed) (sub X.bs Y.bs (by rw [hX, e1]) (by rw [hY, e2])) eY bY idf lY.i
  obtain ⟨k1, k2⟩ := run_ok (seed := seed) eY bY lY.i _ rfl
  refine ⟨h2, idF K K', (runE 500 (begM Y.bs (rootN L K' n.pr) seed)).1, (runE 500 (begM Y.bs (rootN L K' n.pr) seed)).2, k1, k2, fun V hV => ?_, fun V hV => ?_⟩
  · have h := run17_any X n _ seed V hV lX eX bX
    unfold RnP at h
    rw [al] at h
    exact h
  · exact run17_any Y n _ seed V hV lY eY bY
end Go.Proofs.YtgboboljgcfggaaGreatDoor
namespace Go.Proofs.YtgboboljgcfggaaGreatDoor
open Go.RowKit Go.Maps
def exR : Ins := ⟨7, 0, 0, []⟩
def exCod (bA A1 A2 dA : Option Addr) : Cod := ⟨[109], bA, 3, [⟨0, false, A1, 2, [⟨4, 2, 0, [109]⟩, exR]⟩, ⟨0, false, A2, 2, [⟨1, 1, 0, []⟩, exR]⟩, ⟨0, false, A2, 2, [⟨1, 1, 0, []⟩, exR]⟩], dA, 3, [⟨1, 1, 0⟩, ⟨2, 1, 2⟩, ⟨3, 1, 1⟩]⟩
def exN : Nam := ⟨[109], 1⟩
theorem exV (bA A1 A2 dA : Option Addr) : linkV [exCod bA A1 A2 dA] [exN] = (0, [⟨0, false, [⟨4, 1, 0, []⟩, exR]⟩, ⟨0, false, [⟨1, 1, 0, []⟩, exR]⟩], [⟨[109], 1, 0⟩]) := by kernel_rfl
theorem results_cell3 {fn : Func} {p : Tmp} (h : fn.results = #[.cell p 65]) (tmps : Array Value) (w : World) (a : Addr) (x y z : Value) (hp : tmps.getD p undef = .pointer (some a)) (h0 : w.cell? a = some x) (h1 : w.cell? ⟨a.block, a.off + 1, none⟩ = some y) (h2 : w.cell? ⟨a.block, a.off + 2, none⟩ = some z) : (results fn tmps).run Tryz.prog w = .ok (.agg #[x, y, z]) w := by
  have ha := Tryz.isAgg65
  have hz := Tryz.sizeOf65
  rw [results_cell1 h, hp]
  simp [go_sem, ha, hz, loadVar, h0, h1, h2]
theorem al8 (w : World) (o0 o1 o2 o3 o4 o5 o6 o7 : Obj) : ((((((((w.alloc o0).alloc o1).alloc o2).alloc o3).alloc o4).alloc o5).alloc o6).alloc o7).heap[w.heap.size]? = some o0 ∧ ((((((((w.alloc o0).alloc o1).alloc o2).alloc o3).alloc o4).alloc o5).alloc o6).alloc o7).heap[w.heap.size + 2]? = some o2 ∧ ((((((((w.alloc o0).alloc o1).alloc o2).alloc o3).alloc o4).alloc o5).alloc o6).alloc o7).heap[w.heap.size + 4]? = some o4 ∧ ((((((((w.alloc o0).alloc o1).alloc o2).alloc o3).alloc o4).alloc o5).alloc o6).alloc o7).heap[w.heap.size + 6]? = some o6 ∧ ((((((((w.alloc o0).alloc o1).alloc o2).alloc o3).alloc o4).alloc o5).alloc o6).alloc o7).heap[w.heap.size + 7]? = some o7 ∧ Gr w ((((((((w.alloc o0).alloc o1).alloc o2).alloc o3).alloc o4).alloc o5).alloc o6).alloc o7) :=
  ⟨gr_h (((((((gr_al _ _).trans (gr_al _ _)).trans (gr_al _ _)).trans (gr_al _ _)).trans (gr_al _ _)).trans (gr_al _ _)).trans (gr_al _ _)) (al_at _ _ (by simp)), gr_h (((((gr_al _ _).trans (gr_al _ _)).trans (gr_al _ _)).trans (gr_al _ _)).trans (gr_al _ _)) (al_at _ _ (by simp)), gr_h (((gr_al _ _).trans (gr_al _ _)).trans (gr_al _ _)) (al_at _ _ (by simp)), gr_h (gr_al _ _) (al_at _ _ (by simp)), al_at _ _ (by simp), (((((((gr_al _ _).trans (gr_al _ _)).trans (gr_al _ _)).trans (gr_al _ _)).trans (gr_al _ _)).trans (gr_al _ _)).trans (gr_al _ _)).trans (gr_al _ _)⟩
set_option maxRecDepth 100000 in
set_option maxHeartbeats 4000000 in
theorem code_any (w : World) : Calls Tryz.prog 22 #[] w fun e w' => ∃ bA A1 A2 dA, e = .returned (exCod bA A1 A2 dA).v ∧ (exCod bA A1 A2 dA).Rd w' ∧ Gr w w' := by
  go_enter Tryz.func22, Tryz.ntmps22
  go_wp2
  have key : ∀ (W : World) (m : Nat), W.heap[m]? = some (.cells #[.string ⟨#[109]⟩, .slice (some ⟨m + 6, 0, none⟩) 3 3, .slice (some ⟨m + 7, 0, none⟩) 3 3] 65 (0, 0)) →
      W.heap[m + 2]? = some (.cells #[.int .i64 1, .int .i64 1, .int .i64 0, .string ⟨#[]⟩, .int .i64 7, .int .i64 0, .int .i64 0, .string ⟨#[]⟩] 71 (0, 0)) →
      W.heap[m + 4]? = some (.cells #[.int .i64 4, .int .i64 2, .int .i64 0, .string ⟨#[109]⟩, .int .i64 7, .int .i64 0, .int .i64 0, .string ⟨#[]⟩] 71 (0, 0)) →
      W.heap[m + 6]? = some (.cells #[.int .i64 0, .bool false, .slice (some ⟨m + 4, 0, none⟩) 2 2, .int .i64 0, .bool false, .slice (some ⟨m + 2, 0, none⟩) 2 2, .int .i64 0, .bool false, .slice (some ⟨m + 2, 0, none⟩) 2 2] 69 (0, 0)) →
      W.heap[m + 7]? = some (.cells #[.int .i64 1, .int .i64 1, .int .i64 0, .int .i64 2, .int .i64 1, .int .i64 2, .int .i64 3, .int .i64 1, .int .i64 1] 126 (0, 0)) →
      (exCod (some ⟨m + 6, 0, none⟩) (some ⟨m + 4, 0, none⟩) (some ⟨m + 2, 0, none⟩) (some ⟨m + 7, 0, none⟩)).Rd W := fun W m h0 h2 h4 h6 h7 => by
    refine ⟨rd_cells (t := 69) (fun _ => rfl) h6, fun x hx => ?_, rd_cells (t := 126) (fun _ => rfl) h7⟩
    have e2 : RD 4 Ins.cs W (some ⟨m + 2, 0, none⟩) [⟨1, 1, 0, []⟩, exR] := rd_cells (t := 71) (fun _ => rfl) h2
    have e4 : RD 4 Ins.cs W (some ⟨m + 4, 0, none⟩) [⟨4, 2, 0, [109]⟩, exR] := rd_cells (t := 71) (fun _ => rfl) h4
    change x ∈ [_, _, _] at hx
    simp only [List.mem_cons, List.not_mem_nil, or_false] at hx
    rcases hx with rfl | rfl | rfl
    · exact e4
    · exact e2
    · exact e2
  refine bodyPost_ret (results_cell3 rfl _ _ ⟨w.heap.size, 0, none⟩ (.string ⟨#[109]⟩) (.slice (some ⟨w.heap.size + 6, 0, none⟩) 3 3) (.slice (some ⟨w.heap.size + 7, 0, none⟩) 3 3) rfl (by rw [Lib.cell_of_heap (al8 w _ _ _ _ _ _ _ _).1]; rfl) (by rw [Lib.cell_of_heap (al8 w _ _ _ _ _ _ _ _).1]; rfl) (by rw [Lib.cell_of_heap (al8 w _ _ _ _ _ _ _ _).1]; rfl)) rfl ⟨_, _, _, _, rfl, key _ w.heap.size (al8 w _ _ _ _ _ _ _ _).1 (al8 w _ _ _ _ _ _ _ _).2.1 (al8 w _ _ _ _ _ _ _ _).2.2.1 (al8 w _ _ _ _ _ _ _ _).2.2.2.1 (al8 w _ _ _ _ _ _ _ _).2.2.2.2.1, (al8 w _ _ _ _ _ _ _ _).2.2.2.2.2⟩
end Go.Proofs.YtgboboljgcfggaaGreatDoor
namespace Go.Proofs.YtgboboljgcfggaaGreatDoor
open Go.RowKit Go.Maps
theorem ex_len (X : Prg) (h : X.bs.map Blk.pb = [⟨0, false, [⟨4, 1, 0, []⟩, exR]⟩, ⟨0, false, [⟨1, 1, 0, []⟩, exR]⟩]) (hs : X.ss = [⟨[109], 1, 0⟩]) : X.Len := by
  have hb : ∀ b ∈ X.bs, b.ins = [⟨4, 1, 0, []⟩, exR] ∨ b.ins = [⟨1, 1, 0, []⟩, exR] := fun b hb => by
    have h1 : b.pb ∈ X.bs.map Blk.pb := List.mem_map.2 ⟨b, hb, rfl⟩
    rw [h] at h1
    simp only [List.mem_cons, List.not_mem_nil, or_false] at h1
    rcases h1 with e | e
    · exact .inl (congrArg PB.ins e)
    · exact .inr (congrArg PB.ins e)
  have hl := congrArg List.length h
  simp at hl
  refine ⟨by omega, by rw [hs]; simp, fun b hb' => ?_, fun b hb' x hx => ?_, fun s hs' => ?_⟩
  · rcases hb b hb' with e | e <;> rw [e] <;> simp
  · rcases hb b hb' with e | e
    · rw [e] at hx
      simp only [List.mem_cons, List.not_mem_nil, or_false] at hx
      rcases hx with rfl | rfl <;> simp [exR]
    · rw [e] at hx
      simp only [List.mem_cons, List.not_mem_nil, or_false] at hx
      rcases hx with rfl | rfl <;> simp [exR]
  · rw [hs] at hs'
    simp only [List.mem_cons, List.not_mem_nil, or_false] at hs'
    subst hs'
    simp
theorem ex_st (X : Prg) (h : X.bs.map Blk.pb = [⟨0, false, [⟨4, 1, 0, []⟩, exR]⟩, ⟨0, false, [⟨1, 1, 0, []⟩, exR]⟩]) (hs : X.ss = [⟨[109], 1, 0⟩]) : stR X exN = (0, 0) := by
  have he : errP X = 0 := by rw [errP_pl, h, hs]; kernel_rfl
  unfold stR
  rw [if_neg (fun h => h he), hs]
  rfl
theorem ex_sp (bA A1 A2 dA : Option Addr) : (spots (pls [exCod bA A1 A2 dA])).length ≤ 100000 := by
  have h : (spots (pls [exCod bA A1 A2 dA])).length = 3 := by rfl
  omega
theorem ex_lim (bA A1 A2 dA : Option Addr) : (exCod bA A1 A2 dA).Lim ∧ (∀ b ∈ (exCod bA A1 A2 dA).bs, b.ins.length ≤ 100000) := by
  have hb : ∀ b ∈ (exCod bA A1 A2 dA).bs, b.ins = [⟨4, 2, 0, [109]⟩, exR] ∨ b.ins = [⟨1, 1, 0, []⟩, exR] := fun b hb => by
    change b ∈ [_, _, _] at hb
    simp only [List.mem_cons, List.not_mem_nil, or_false] at hb
    rcases hb with rfl | rfl | rfl
    · exact .inl rfl
    · exact .inr rfl
    · exact .inr rfl
  refine ⟨⟨by simp [exCod], by simp [exCod], by simp [exCod], fun b hb' => ?_, fun b hb' x hx => ?_⟩, fun b hb' => ?_⟩
  · rcases hb b hb' with e | e <;> rw [e] <;> simp
  · rcases hb b hb' with e | e
    · rw [e] at hx
      simp only [List.mem_cons, List.not_mem_nil, or_false] at hx
      rcases hx with rfl | rfl <;> simp [exR]
    · rw [e] at hx
      simp only [List.mem_cons, List.not_mem_nil, or_false] at hx
      rcases hx with rfl | rfl <;> simp [exR]
  · rcases hb b hb' with e | e <;> rw [e] <;> simp
attribute [local irreducible] Calls in
set_option maxRecDepth 100000 in
set_option maxHeartbeats 4000000 in
theorem awake_any (w : World) : Calls Tryz.prog 6 #[] w fun e w' => e = .returned (.bool true) ∧ Gr w w' := by
  have CC := Lib.hid (code_any w)
  have LK := Lib.hid (fun (V : World) (b1 b2 : Nat) (bA A1 A2 dA : Option Addr) (hc : CRd V (some ⟨b1, 0, none⟩) [exCod bA A1 A2 dA]) (hn : RD 2 Nam.cs V (some ⟨b2, 0, none⟩) [exN]) => show Calls Tryz.prog 16 #[.slice (some ⟨b1, 0, none⟩) 1 1, .slice (some ⟨b2, 0, none⟩) 1 1] V (fun e w' => ∃ X : Prg, e = .returned (.tuple #[X.v, iv 0]) ∧ X.Rd w' ∧ X.bs.map Blk.pb = [⟨0, false, [⟨4, 1, 0, []⟩, exR]⟩, ⟨0, false, [⟨1, 1, 0, []⟩, exR]⟩] ∧ X.ss = [⟨[109], 1, 0⟩] ∧ Gr V w') from by
    refine (link_any V _ _ 1 1 1 1 [exCod bA A1 A2 dA] [exN] hc rfl (by omega) (fun x hx => ?_) (fun x hx => ?_) (ex_sp bA A1 A2 dA) hn rfl (by omega) (fun n hn => ?_)).mono ?_
    · simp only [List.mem_cons, List.not_mem_nil, or_false] at hx; subst hx; exact (ex_lim _ _ _ _).1
    · simp only [List.mem_cons, List.not_mem_nil, or_false] at hx; subst hx; exact (ex_lim _ _ _ _).2
    · simp only [List.mem_cons, List.not_mem_nil, or_false] at hn; subst hn; exact ⟨by decide, by decide⟩
    · rintro e w' ⟨X, rfl, h1, h2, h3, h4, -⟩
      rw [exV] at h2 h3 ⊢
      exact ⟨X, rfl, h1, h2, h3, h4⟩)
  go_enter Tryz.func6, Tryz.ntmps6
  go_upto_region 1 with (fail)
  unfold Cod.v at CC
  have ST := Lib.hid (fun (V : World) (X : Prg) (hX : X.Rd V) (h : X.bs.map Blk.pb = [⟨0, false, [⟨4, 1, 0, []⟩, exR]⟩, ⟨0, false, [⟨1, 1, 0, []⟩, exR]⟩]) (hs : X.ss = [⟨[109], 1, 0⟩]) => show Calls Tryz.prog 11 #[X.v, .agg #[.string ⟨#[109]⟩, .int .i64 1]] V (fun e w' => e = .returned (.tuple #[iv 0, iv 0]) ∧ Gr V w') from by
    have h2 := start_any X exN V hX (ex_len X h hs)
    rw [ex_st X h hs] at h2
    exact h2)
  unfold Prg.v at LK ST
  go_upto_region 2 with (first
    | (go_at_call 22; refine CC.out.mono ?_; rintro e w1 ⟨bA, A1, A2, dA, rfl, c1, g1⟩; have C1 := Lib.hid c1; have G1 := Lib.hid g1; clear c1 g1)
    | (go_at_call 16; refine (LK.out _ _ _ bA A1 A2 dA ⟨rd_cells (t := 65) (fun _ => rfl) (gr_h (gr_al _ _) (al_new w1 _)), fun c hc => by simp only [List.mem_cons, List.not_mem_nil, or_false] at hc; subst hc; exact C1.out.gr ((gr_al _ _).trans (gr_al _ _))⟩ (rd_cells (t := 33) (fun _ => rfl) (al_at _ _ (by simp)))).mono ?_; rintro e w2 ⟨⟨bA2, bc2, bs2, sA2, sc2, ss2⟩, rfl, x1, x2, x3, g2⟩; have XR := Lib.hid x1; have XB := Lib.hid x2; have XS := Lib.hid x3; have G2 := Lib.hid g2; clear x1 x2 x3 g2))
  obtain ⟨nb, hnb⟩ : ∃ n, bs2.length = n := ⟨_, rfl⟩
  obtain ⟨ns, hns⟩ : ∃ n, ss2.length = n := ⟨_, rfl⟩
  have hnb2 : nb = 2 := by have h := congrArg List.length XB.out; simp at h; rw [← hnb]; exact h
  subst hnb2
  simp only [hnb, hns]
  have GX := Lib.hid (G1.out.trans (((gr_al _ _).trans (gr_al _ _)).trans (G2.out.trans (gr_al w2 (.cells #[.slice bA2 2 bc2, .slice sA2 ns sc2] 26)))))
  have XR3 := Lib.hid (XR.out.below (below_of (gr_al w2 (.cells #[.slice bA2 2 bc2, .slice sA2 ns sc2] 26))))
  have X3 := Lib.hid (al_new w2 (.cells #[.slice bA2 2 bc2, .slice sA2 ns sc2] 26))
  obtain ⟨b1, hb1⟩ : ∃ m, w2.heap.size = m := ⟨_, rfl⟩
  rw [hb1] at X3 ⊢
  generalize w2.alloc (.cells #[.slice bA2 2 bc2, .slice sA2 ns sc2] 26) = W3 at *
  have SC := Lib.hid (by have h := ST.out W3 _ XR3.out XB.out XS.out; simp only [hnb, hns] at h; exact h)
  have p0 : W3.cell? ⟨b1, 0, none⟩ = some (.slice bA2 2 bc2) := by rw [Lib.cell_of_heap X3.out]; rfl
  have p1 : W3.cell? ⟨b1, 1, none⟩ = some (.slice sA2 ns sc2) := by rw [Lib.cell_of_heap X3.out]; rfl
  have HNB := Lib.hid hnb
  clear ST LK CC hnb hns hb1 XR G1 G2 C1
  go_upto_region 3 with (go_at_call 11; refine SC.out.mono ?_; rintro e W4 ⟨rfl, g4⟩; have G4 := Lib.hid g4; clear g4)
  have p0 := gr_c G4.out p0
  obtain ⟨x0, x1, hbs⟩ : ∃ x0 x1, bs2 = [x0, x1] := by
    match bs2, HNB.out with
    | [x0, x1], _ => exact ⟨x0, x1, rfl⟩
  subst hbs
  have hx0 : x0.ins = [⟨4, 1, 0, []⟩, exR] := by have h := XB.out; simp only [List.map_cons, List.map_nil, List.cons.injEq] at h; exact congrArg PB.ins h.1
  obtain ⟨a, a1, eA, ha, -, -, -, y2⟩ := (XR3.out.b.gr G4.out).blk (k := 0) (by simp)
  have hir : RD 4 Ins.cs W4 x0.A x0.ins := (XR3.out.i x0 (by simp)).gr G4.out
  obtain ⟨d, d1, eD, hd, -, z0, z1, z2, z3⟩ := hir.ins (k := 0) (by rw [hx0]; simp)
  simp only [hx0] at z0 z1 z2 z3
  simp only [List.getElem_cons_zero] at y2 z0 z1 z2 z3
  rw [hx0, eD] at y2
  have eA' : bA2 = some a := eA
  rw [eA'] at p0
  go_wp2
  go_ret
  exact ⟨rfl, GX.out.trans G4.out⟩
end Go.Proofs.YtgboboljgcfggaaGreatDoor
namespace Go.Proofs.YtgboboljgcfggaaGreatDoor
open Go.RowKit Go.Maps
def SmB (b : Blk) : Prop := b.ins.length ≤ 100 ∧ ∀ x ∈ b.ins, x.name.length ≤ 120
structure SmC (c : Cod) : Prop where
  l : c.label.length ≤ 120
  d : c.ds.length ≤ 20
  b : c.bs.length ≤ 60
  i : ∀ b ∈ c.bs, SmB b
def GtP (P : Prop) (w : World) (e : Ending) (w' : World) : Prop := Gr w w' ∧ ∃ g : Bool, e = .returned (.bool g) ∧ (g = false → P)
theorem gt_yes {P : Prop} {w w' : World} (g : Gr w w') : GtP P w (.returned (.bool true)) w' := ⟨g, true, rfl, fun h => by cases h⟩
theorem gt_no {P : Prop} {w w' : World} (g : Gr w w') (h : P) : GtP P w (.returned (.bool false)) w' := ⟨g, false, rfl, fun _ => h⟩
theorem gt_any {P : Prop} {w w' : World} {b : Bool} (g : Gr w w') (h : b = false → P) : GtP P w (.returned (.bool b)) w' := ⟨g, b, rfl, h⟩
theorem SmC.lim {c : Cod} (h : SmC c) : c.Lim := ⟨by have := h.l; omega, by have := h.b; omega, by have := h.d; omega, fun b hb => by have := (h.i b hb).1; omega, fun b hb x hx => by have := (h.i b hb).2 x hx; omega⟩
set_option maxRecDepth 100000 in
set_option maxHeartbeats 4000000 in
theorem greatB_any (Ad : Option Addr) (cp : Nat) (bs : List Blk) (w : World) (hb : RD 3 Blk.cs w Ad bs) (hi : ∀ b ∈ bs, RD 4 Ins.cs w b.A b.ins) : Calls Tryz.prog 68 #[.slice Ad bs.length cp] w (GtP (bs.length ≤ 60 ∧ ∀ b ∈ bs, SmB b) w) := by
  obtain ⟨n, hn⟩ : ∃ n, bs.length = n := ⟨_, rfl⟩
  have HN := Lib.hid hn
  have HB := Lib.hid hb
  have HI := Lib.hid hi
  rw [hn]
  clear hb hi hn
  by_cases h60 : 60 < n
  · go_enter Tryz.func68, Tryz.ntmps68
    go_wp2
    go_ret
    exact gt_yes (gr_refl _)
  · go_enter Tryz.func68, Tryz.ntmps68
    go_wp2
    go_loop [3] (fun u => ∃ k : Nat, k ≤ n ∧ u = .int .i64 k ∧ Hid (∀ b ∈ bs.take k, SmB b)) (fun u => n - (intOf u).toNat)
    case atStart => exact ⟨0, Nat.zero_le _, rfl, Lib.hid (by simp)⟩
    case round =>
      obtain ⟨k, hk, rfl, HG⟩ := hrel
      by_cases hlt : k < n
      · obtain ⟨b, hbk⟩ : ∃ b, bs[k]? = some b := ⟨_, List.getElem?_eq_getElem (by rw [HN.out]; exact hlt)⟩
        obtain ⟨a, a1, rfl, ha, hab, y0, y1, y2⟩ := HB.out.blk (k := k) (by rw [HN.out]; exact hlt)
        have hbi : bs[k]'(by rw [HN.out]; exact hlt) = b := by rw [List.getElem?_eq_getElem (by rw [HN.out]; exact hlt)] at hbk; exact Option.some.inj hbk
        rw [hbi] at y0 y1 y2
        have HBK := Lib.hid hbk
        obtain ⟨m, hm⟩ : ∃ m, b.ins.length = m := ⟨_, rfl⟩
        have HM := Lib.hid hm
        have HR := Lib.hid (HI.out b (List.mem_of_getElem? hbk))
        rw [hm] at y2
        obtain ⟨bA, hbA⟩ : ∃ x, b.A = x := ⟨_, rfl⟩
        rw [hbA] at y2 HR
        clear hbi hbk hm hbA
        by_cases h100 : 100 < m
        · go_wp2
          go_ret
          exact gt_yes (gr_refl _)
        · go_wp2
          go_loop [4] (fun u => ∃ j : Nat, j ≤ m ∧ u = .int .i64 j ∧ Hid (∀ x ∈ b.ins.take j, x.name.length ≤ 120)) (fun u => m - (intOf u).toNat)
          case atStart => exact ⟨0, Nat.zero_le _, rfl, Lib.hid (by simp)⟩
          case round =>
            obtain ⟨j, hj, rfl, HJ⟩ := hrel
            by_cases hjt : j < m
            · obtain ⟨x, hx⟩ : ∃ x, b.ins[j]? = some x := ⟨_, List.getElem?_eq_getElem (by rw [HM.out]; exact hjt)⟩
              obtain ⟨d, d1, eD, hd, -, z0, z1, z2, z3⟩ := HR.out.ins (k := j) (by rw [HM.out]; exact hjt)
              have hxi : b.ins[j]'(by rw [HM.out]; exact hjt) = x := by rw [List.getElem?_eq_getElem (by rw [HM.out]; exact hjt)] at hx; exact Option.some.inj hx
              rw [hxi] at z0 z1 z2 z3
              rw [eD] at y2
              have NX := Lib.hid (show x.name.length ≤ 120 → ∀ y ∈ b.ins.take (j + 1), y.name.length ≤ 120 from fun h y hy => by
                rw [List.take_add_one, hx, List.mem_append] at hy
                rcases hy with hy | hy
                · exact HJ.out y hy
                · simp at hy; subst hy; exact h)
              clear hxi hx
              by_cases h120 : 120 < x.name.length
              · have h120' : (120 : Int) < (x.name.length : Int) := by omega
                go_wp2
                go_ret
                exact gt_yes (gr_refl _)
              · have h120' : ¬ (120 : Int) < (x.name.length : Int) := by omega
                have N2 := Lib.hid (NX.out (by omega))
                go_wp2
                exact ⟨⟨j + 1, by omega, by simp, N2⟩, by simp [intOf]; omega⟩
            · obtain rfl : m = j := by omega
              have NB := Lib.hid (show ∀ y ∈ bs.take (k + 1), SmB y from fun y hy => by
                rw [List.take_add_one, HBK.out, List.mem_append] at hy
                rcases hy with hy | hy
                · exact HG.out y hy
                · simp at hy
                  subst hy
                  have h := HJ.out
                  rw [List.take_of_length_le (Nat.le_of_eq HM.out)] at h
                  exact ⟨by rw [HM.out]; omega, h⟩)
              go_wp2
              exact ⟨⟨k + 1, by omega, by simp, NB⟩, by simp [intOf]; omega⟩
      · obtain rfl : n = k := by omega
        go_wp2
        go_ret
        refine gt_no (gr_refl _) ⟨by omega, ?_⟩
        have h := HG.out
        rwa [List.take_of_length_le (Nat.le_of_eq HN.out)] at h
set_option maxRecDepth 100000 in
set_option maxHeartbeats 4000000 in
theorem greatC_any (c : Cod) (w : World) (hc : c.Rd w) : Calls Tryz.prog 39 #[.agg #[.string ⟨c.label.toArray⟩, .slice c.bA c.bs.length c.bc, .slice c.dA c.ds.length c.dc]] w (GtP (SmC c) w) := by
  have hb := al_new w (.cells #[.string ⟨c.label.toArray⟩, .slice c.bA c.bs.length c.bc, .slice c.dA c.ds.length c.dc] 65)
  have G0 := Lib.hid (gr_al w (.cells #[.string ⟨c.label.toArray⟩, .slice c.bA c.bs.length c.bc, .slice c.dA c.ds.length c.dc] 65))
  have GB := Lib.hid (greatB_any c.bA c.bc c.bs (w.alloc (.cells #[.string ⟨c.label.toArray⟩, .slice c.bA c.bs.length c.bc, .slice c.dA c.ds.length c.dc] 65)) (hc.b.gr G0.out) (fun b hb => (hc.i b hb).gr G0.out))
  have c0 : (w.alloc (.cells #[.string ⟨c.label.toArray⟩, .slice c.bA c.bs.length c.bc, .slice c.dA c.ds.length c.dc] 65)).cell? ⟨w.heap.size, 0, none⟩ = some (.string ⟨c.label.toArray⟩) := by rw [Lib.cell_of_heap hb]; rfl
  have c1 : (w.alloc (.cells #[.string ⟨c.label.toArray⟩, .slice c.bA c.bs.length c.bc, .slice c.dA c.ds.length c.dc] 65)).cell? ⟨w.heap.size, 1, none⟩ = some (.slice c.bA c.bs.length c.bc) := by rw [Lib.cell_of_heap hb]; rfl
  have c2 : (w.alloc (.cells #[.string ⟨c.label.toArray⟩, .slice c.bA c.bs.length c.bc, .slice c.dA c.ds.length c.dc] 65)).cell? ⟨w.heap.size, 2, none⟩ = some (.slice c.dA c.ds.length c.dc) := by rw [Lib.cell_of_heap hb]; rfl
  clear hb hc
  by_cases h1 : 120 < c.label.length
  · have h1' : (120 : Int) < (c.label.length : Int) := by omega
    go_enter Tryz.func39, Tryz.ntmps39
    go_wp2
    go_ret
    exact gt_yes G0.out
  · have h1' : ¬ (120 : Int) < (c.label.length : Int) := by omega
    by_cases h2 : 20 < c.ds.length
    · have h2' : (20 : Int) < (c.ds.length : Int) := by omega
      go_enter Tryz.func39, Tryz.ntmps39
      go_wp2
      go_ret
      exact gt_yes G0.out
    · have h2' : ¬ (20 : Int) < (c.ds.length : Int) := by omega
      go_enter Tryz.func39, Tryz.ntmps39
      go_wp2_with (go_at_call 68; refine GB.out.mono ?_; rintro e w1 ⟨g1, g, rfl, hg⟩; have G1 := Lib.hid g1; have HG := Lib.hid hg; clear hg g1)
      go_ret
      exact gt_any (G0.out.trans G1.out) fun h => ⟨by omega, by omega, (HG.out h).1, (HG.out h).2⟩
set_option maxRecDepth 100000 in
set_option maxHeartbeats 4000000 in
theorem great_any (Ad : Option Addr) (cp : Nat) (L : List Cod) (w : World) (hL : CRd w Ad L) (hl : L.length ≤ 9223372036854775807) : Calls Tryz.prog 15 #[.slice Ad L.length cp] w (GtP (L.length ≤ 4 ∧ ∀ c ∈ L, SmC c) w) := by
  obtain ⟨n, hn⟩ : ∃ n, L.length = n := ⟨_, rfl⟩
  have HN := Lib.hid hn
  have HL := Lib.hid (fun V (g : Gr w V) => hL.gr g)
  rw [hn] at hl ⊢
  clear hL hn
  go_enter Tryz.func15, Tryz.ntmps15
  go_wp2
  go_loopw [3] (fun u V => ∃ k : Nat, k ≤ n ∧ u = .int .i64 k ∧ Hid (Gr w V ∧ ∀ c ∈ L.take k, SmC c)) (fun u _ => n - (intOf u).toNat)
  case atStart => exact ⟨0, Nat.zero_le _, rfl, Lib.hid ⟨gr_refl _, by simp⟩⟩
  case round =>
    obtain ⟨k, hk, rfl, HG⟩ := hrel
    by_cases hlt : k < n
    · obtain ⟨c, hc⟩ : ∃ c, L[k]? = some c := ⟨_, List.getElem?_eq_getElem (by rw [HN.out]; exact hlt)⟩
      obtain ⟨a, a1, rfl, ha, hab, y0, y1, y2⟩ := (HL.out _ HG.out.1).rd.cod (k := k) (by rw [HN.out]; exact hlt)
      have hci : L[k]'(by rw [HN.out]; exact hlt) = c := by rw [List.getElem?_eq_getElem (by rw [HN.out]; exact hlt)] at hc; exact Option.some.inj hc
      rw [hci] at y0 y1 y2
      have GC := Lib.hid (greatC_any c wr ((HL.out _ HG.out.1).c c (List.mem_of_getElem? hc)))
      have NX := Lib.hid (show SmC c → ∀ y ∈ L.take (k + 1), SmC y from fun h y hy => by
        rw [List.take_add_one, hc, List.mem_append] at hy
        rcases hy with hy | hy
        · exact HG.out.2 y hy
        · simp at hy; subst hy; exact h)
      clear hci hc
      go_wp2_with (go_at_call 39; refine GC.out.mono ?_; rintro e w1 ⟨g1, g, rfl, hg⟩; have G1 := Lib.hid g1; have HH := Lib.hid hg; clear g1 hg; cases g)
      · exact ⟨⟨k + 1, by omega, by simp, Lib.hid ⟨HG.out.1.trans G1.out, NX.out (HH.out (by simp))⟩⟩, by simp [intOf]; omega⟩
      · go_ret
        exact gt_yes (HG.out.1.trans G1.out)
    · obtain rfl : n = k := by omega
      have FIN := Lib.hid (show ∀ c ∈ L, SmC c from by have h := HG.out.2; rwa [List.take_of_length_le (Nat.le_of_eq HN.out)] at h)
      go_wp2
      go_ret
      refine gt_any HG.out.1 fun h => ⟨?_, FIN.out⟩
      simp at h
      omega
end Go.Proofs.YtgboboljgcfggaaGreatDoor
